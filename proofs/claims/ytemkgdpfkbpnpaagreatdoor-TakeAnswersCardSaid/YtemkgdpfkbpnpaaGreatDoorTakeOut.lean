/- A talk with one who pushes: Done, Out, New. -/
import Derived.Test.YtemkgdpfkbpnpaaGreatDoorTakeSay
import Derived.Test.YtemkgdpfkbpnpaaGreatDoorTakeFn
namespace Go.Proofs.YtemkgdpfkbpnpaaGreatDoor.Take
open Go.RowKit Go.Proofs.YtemkgdpfkbpnpaaGreatDoorW.PrintWords Go.Proofs.YtemkgdpfkbpnpaaGreatDoorW.PrintLast Go.Proofs.YtemkgdpfkbpnpaaGreatDoorW.PrintMore Go.Proofs.YtemkgdpfkbpnpaaGreatDoor.Conv Go.Proofs.YtemkgdpfkbpnpaaGreatDoor.Print Go.Proofs.YtemkgdpfkbpnpaaGreatDoor.Line Go.Proofs.YtemkgdpfkbpnpaaGreatDoor.Hello
set_option linter.unusedVariables false
set_option linter.unusedSimpArgs false
attribute [local go_sem] run_store_nilFunc run_store_func
def doneS (s : St) : Bool := !s.waits && decide (s.nx = -2)
set_option maxRecDepth 100000 in
theorem done_calls {W : World} {own : Nat -> Prop} {g : Nat} {s : St} (hs : IsT W own g s) (hn : s.waits = false ∨ s.waits = true) :
  Calls Tryz.prog 11 #[.pointer (some ⟨g, 0, none⟩)] W fun e w' => e = .returned (.bool (doneS s)) /\ w' = W := by
 obtain ⟨⟨k5, f5⟩, vn, k4, f4, hx⟩ := hs.cells
 clear hs
 have q1 := nil_eql W
 have q2 := nil_neq W
 have q3 := fun f x y => func_eql f x y W
 have q4 := fun f x y => func_neq f x y W
 rcases hn with hw | hw
 ·rw [hw] at k5
  rcases hx with ⟨h1, rfl⟩ | ⟨h1, rfl⟩ | ⟨h1, b1, b2, rfl, _⟩
  ·have e : doneS s = true := by unfold doneS; rw [hw, h1]; rfl
   rw [e]
   go_enter Tryz.func11, Tryz.ntmps11
   go_wp2
   go_ret
   exact ⟨rfl, rfl⟩
  ·have e : doneS s = false := by unfold doneS; rw [hw, h1]; rfl
   rw [e]
   go_enter Tryz.func11, Tryz.ntmps11
   go_wp2
   go_ret
   exact ⟨rfl, rfl⟩
  ·have e : doneS s = false := by unfold doneS; rw [hw, decide_eq_false (by omega)]; rfl
   rw [e]
   clear h1
   go_enter Tryz.func11, Tryz.ntmps11
   go_wp2
   go_ret
   exact ⟨rfl, rfl⟩
 ·rw [hw] at k5
  have e : doneS s = false := by unfold doneS; rw [hw]; rfl
  rw [e]
  clear hx
  go_enter Tryz.func11, Tryz.ntmps11
  go_wp2
  go_ret
  exact ⟨rfl, rfl⟩
theorem IsT.outed {W : World} {own : Nat -> Prop} {g : Nat} {s : St} (h : IsT W own g s) : ∃ A c, W.cell? ⟨g, 1, none⟩ = some (.slice A s.send.length c) /\ W.frozen? ⟨g, 1, none⟩ = false /\ s.send.length <= c /\
  Kd.F (Kd.int .u8) (W.setCell ⟨g, 1, none⟩ (.slice none 0 0)) (fun k => (Value.slice A s.send.length c).ownBlock = some k /\ own k /\ k < W.heap.size) A s.send.length s.send /\
  IsT (W.setCell ⟨g, 1, none⟩ (.slice none 0 0)) (fun k => own k /\ (Value.slice A s.send.length c).ownBlock ≠ some k) g { s with send := [] } := by
 obtain ⟨vc, vs, au, cu, ap, cp, vn, hb, ⟨hc, hs⟩, ⟨h1, h2, h3, h4⟩, h5⟩ := h
 obtain ⟨A, c, rfl⟩ := Kd.R_slice hs
 have hfar : ∀ k, k ≠ g -> (W.setCell ⟨g, 1, none⟩ (.slice none 0 0)).heap[k]? = W.heap[k]? := fun k hk => Below.heap_setCell W ⟨g, 1, none⟩ _ k hk
 obtain ⟨e1, e2⟩ := box_cell hb 1 rfl
 have hF := Kd.R_F (Kd.R_bound (Kd.R_tight rfl (R_keep hs (fun k e => hfar k (h2 k e).1))))
 refine ⟨A, c, e1, e2, (Kd.R_reads' hs).2.1, Kd.F_mono hF (fun k e => ⟨e.1.symm, (h2 k e.1.symm).2.1, h4 k (h2 k e.1.symm).2.1⟩), vc, .slice none 0 0, au, cu, ap, cp, vn, (heap_setCell_same W g 1 _ _ _ hb).trans rfl, ⟨R_keep hc (fun k e => hfar k (h1 k e).1), Kd.R_nil _ _ _ _ _⟩, ⟨fun k e => ⟨(h1 k e).1, ⟨(h1 k e).2.1, (h1 k e).2.2⟩, by simp [Value.ownBlock]⟩, fun k e => by simp [Value.ownBlock] at e, ⟨h3, fun e => (h2 g e).1 rfl⟩, fun k e => by rw [set_size]; exact h4 k e.1⟩, ?_⟩
 exact Rest.step (s := { s with send := [] }) ⟨h5.ups, h5.cu, h5.pack, h5.cp, h5.nx⟩ (fun k e _ => hfar k e.2.1) (fun k e _ => ⟨⟨e.1, e.2.2.2⟩, e.2.1, e.2.2.1, by simp [Value.ownBlock]⟩)
set_option maxRecDepth 100000 in
theorem out_calls {W : World} {own : Nat -> Prop} {g : Nat} {s : St} (hs : IsT W own g s) :
  Calls Tryz.prog 12 #[.pointer (some ⟨g, 0, none⟩)] W fun e w' => ∃ A c own', e = .returned (.slice A s.send.length c) /\ s.send.length <= c /\ IsT w' own' g { s with send := [] } /\ Goes W w' own own' /\ (∀ k, own' k -> own k) /\
   Kd.F (Kd.int .u8) w' (fun k => ¬ own' k /\ own k /\ k < w'.heap.size) A s.send.length s.send := by
 obtain ⟨A, c, k1, f1, hc, h1, h2⟩ := hs.outed
 have HC := Asd.mk hc
 have H1 := Asd.mk h1
 have H2 := Asd.mk h2
 have HG := Asd.mk hs.own_g
 clear hs h1 h2 hc
 go_enter Tryz.func12, Tryz.ntmps12
 go_wp2
 go_ret
 exact ⟨A, c, _, rfl, HC.out, H2.out, ⟨Keeps.set HG.out, fun k e => Or.inl e.1⟩, fun k e => e.1, Kd.F_mono H1.out (fun k e => ⟨fun e2 => e2.2 e.1, e.2.1, by rw [set_size]; exact e.2.2⟩)⟩
theorem IsT.init {W : World} {g : Nat} (hb : W.heap[g]? = some (.cells #[.slice none 0 0, .slice none 0 0, .slice none 0 0, .slice none 0 0, .nilFunc, .bool false] 56 (0, 0))) : IsT W (fun k => k = g) g ⟨[], [], [], [], -2, false⟩ :=
 ⟨.slice none 0 0, .slice none 0 0, none, 0, none, 0, .nilFunc, hb, ⟨Kd.R_nil _ _ _ _ _, Kd.R_nil _ _ _ _ _⟩, ⟨fun k e => by simp [Value.ownBlock] at e, fun k e => by simp [Value.ownBlock] at e, rfl, fun k e => by rw [e]; exact lt_box hb⟩, ⟨Kd.F_nil _ _ _, Nat.le_refl _, Kd.F_nil _ _ _, Nat.le_refl _, Or.inl ⟨rfl, rfl⟩⟩⟩
set_option maxRecDepth 100000 in
set_option maxHeartbeats 4000000 in
theorem new_calls {W : World} (a0 : ByteArray) (A1 : Option Addr) (c1 : Nat) (l1 : List Rf) (hr1 : Kd.C k73 W A1 l1.length l1) (hc1 : l1.length <= c1) (h0 : a0.size <= 100000) (hs : ∀ y ∈ l1, y.f0.size <= 100000 /\ y.f1.size <= 100000) :
  Calls Tryz.prog 8 #[.string a0, .slice A1 l1.length c1] W fun e w' => Below W.heap.size W w' /\ (((toldF a0 l1).2 = false /\ e = .returned (.pointer none)) ∨ ((toldF a0 l1).2 = true /\ ∃ g own, e = .returned (.pointer (some ⟨g, 0, none⟩)) /\ IsT w' own g ⟨[], (putF (toldF a0 l1).1).1, [], [], -1, false⟩ /\ (∀ k, own k -> W.heap.size <= k))) := by
 obtain ⟨tb, is, hT⟩ : ∃ tb is, toldF a0 l1 = (tb, is) := ⟨_, _, rfl⟩
 have hlen : tb.length <= 66 := by have h := told_len a0 l1; rw [hT] at h; exact h
 rw [hT]
 have HCT := Asd.mk (hello_Told.calls 4000000 a0 A1 c1 l1 tb is W hr1 hc1 ((told_eq a0 l1 h0 hs (by omega)).trans (congrArg some hT)))
 have HN := Asd.mk (show tb.length <= 1000000 by omega)
 clear hr1 hc1 h0 hs hT hlen
 go_enter Tryz.func8, Tryz.ntmps8
 go_upto_if 15 with (go_at_call 19; with_reducible refine HCT.out.mono ?_; rintro e W1 ⟨v1, rfl, ho, hb⟩; obtain ⟨At, ct, rfl⟩ := Kd.R_slice ho; have HAt := Asd.mk (Kd.F_mono (Kd.R_F (Kd.R_bound ho)) (ok' := fun k => k < W1.heap.size) (fun k e => e.2.2.1)); have HAtc := Asd.mk (Kd.R_reads' ho).2.1; have HB := Asd.mk hb; clear ho hb HCT)
 cases is with
 | false =>
  go_wp2
  go_ret
  exact ⟨HB.out, rfl⟩
 | true =>
  go_upto_region 5 with (fail)
  generalize hW2 : World.alloc _ _ = W2
  have hb2 : W2.heap[W1.heap.size]? = some (.cells #[.slice none 0 0, .slice none 0 0, .slice none 0 0, .slice none 0 0, .nilFunc, .bool false] 56 (0, 0)) := by rw [<- hW2]; exact heap_alloc_new _ _
  have hB2 : Below W1.heap.size W1 W2 := by rw [<- hW2]; exact bal (Below.refl _ _) _
  have HI := Asd.mk (IsT.init hb2)
  have HA2 := Asd.mk (Kd.F_step HAt.out (fun k ho hl => hB2.block k hl))
  have HB2 := Asd.mk (below_step HB.out hB2)
  have HG := Asd.mk HB.out.size
  have f4 := HI.out.frozen 4
  obtain ⟨k4, _⟩ := box_cell hb2 4 rfl
  clear hW2 hb2 hB2 HAt
  generalize W1.heap.size = g at HI HG HA2 k4 f4 ⊢
  go_upto_region 6 with (fail)
  have h3 := HI.out.set_nx (fr := fun _ => False) (.func (.func 23) #[.pointer (some ⟨g, 0, none⟩)] #[]) (-1) (fun k e => e.elim) (Or.inr (Or.inl ⟨rfl, rfl⟩))
  have H3 := Asd.mk (h3.1.widen (own' := fun k => k = g) (fun k e => e.elim id (fun e => e.elim)) (fun k e => by rw [set_size]; exact HI.out.own_lt k e))
  have HG3 : Asd (Goes W2 (W2.setCell ⟨g, 4, none⟩ (.func (.func 23) #[.pointer (some ⟨g, 0, none⟩)] #[])) (fun k => k = g) (fun k => k = g)) := ⟨h3.2, fun k e => Or.inl e⟩
  have HA3 := Asd.mk (Kd.F_now (Kd.F_step HA2.out (fun k ho hl => Below.heap_setCell W2 ⟨g, 4, none⟩ (.func (.func 23) #[.pointer (some ⟨g, 0, none⟩)] #[]) k (fun e => Nat.lt_irrefl g (by rw [e] at ho; exact ho)))))
  clear h3 k4 f4 HA2
  generalize W2.setCell ⟨g, 4, none⟩ (.func (.func 23) #[.pointer (some ⟨g, 0, none⟩)] #[]) = W3 at H3 HG3 HA3 ⊢
  go_wp2_with (go_at_call 24; with_reducible refine (say_calls H3.out At tb.length ct tb rfl HA3.out HAtc.out HN.out (by simp)).mono ?_; rintro e W4 ⟨rfl, own4, hs4, hg4⟩; have HS4 := Asd.mk hs4; have HG4 := Asd.mk hg4; clear hs4 hg4)
  go_ret
  have hg := HG3.out.trans HG4.out
  exact ⟨below_goes HB2.out hg (fun k e => by rw [e]; exact HG.out), g, rfl, own4, HS4.out, fun k e => (hg.own k e).elim (fun e => by rw [e]; exact HG.out) (fun e => Nat.le_trans HB2.out.size e)⟩
end Go.Proofs.YtemkgdpfkbpnpaaGreatDoor.Take
