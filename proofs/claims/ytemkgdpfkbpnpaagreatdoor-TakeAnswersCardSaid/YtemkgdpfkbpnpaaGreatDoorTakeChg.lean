/- A talk with one who pushes: it listens for the updates. -/
import Derived.Test.YtemkgdpfkbpnpaaGreatDoorTakeClose
namespace Go.Proofs.YtemkgdpfkbpnpaaGreatDoor.Take
open Go.RowKit Go.Proofs.YtemkgdpfkbpnpaaGreatDoorW.PrintWords Go.Proofs.YtemkgdpfkbpnpaaGreatDoorW.PrintLast Go.Proofs.YtemkgdpfkbpnpaaGreatDoorW.PrintMore Go.Proofs.YtemkgdpfkbpnpaaGreatDoor.Conv Go.Proofs.YtemkgdpfkbpnpaaGreatDoor.Print Go.Proofs.YtemkgdpfkbpnpaaGreatDoor.Line
open Go.Proofs.YtemkgdpfkbpnpaaGreatDoor.Hello hiding Ln
set_option linter.unusedVariables false
set_option linter.unusedSimpArgs false
attribute [local go_sem] run_store_nilFunc run_store_func
def pushR (x : List Ln) : List S42 × Bool := (hello_Pushed.f 6000000 x).getD ([], false)
theorem pushR_eq (x : List Ln) (hl : x.length <= 1000000) (hs : ∀ y ∈ x, y.f1.size <= 100000) : hello_Pushed.f 6000000 x = some ((pushR x).1, (pushR x).2) := by
 obtain ⟨r, hr, _⟩ := Hello.pushed_eq x hl hs (k := 6000000) (by omega)
 unfold pushR
 rw [hr]
 rfl
def changesS (s : St) (us : List Ln) (ps : List Int) : St :=
 match flushF us with
 | none => s
 | some i => if (pushR (us.take (i + 1))).2 = true then packS errT { s with ups := (pushR (us.take (i + 1))).1, nx := i } (us.drop (i + 1)) ps else endS errT s
theorem Goes.adds {W W1 W2 : World} {own own1 fr : Nat -> Prop} (h : Goes W W1 own own1) (hk : Keeps W1 W2 own1) (hf : ∀ k, fr k -> W.heap.size <= k) : Goes W W2 own (fun k => own1 k ∨ fr k) :=
 ⟨(h.trans ⟨hk, fun k e => Or.inl e⟩).keeps, fun k e => e.elim (h.own k) (fun e => Or.inr (hf k e))⟩
theorem IsT.nx_cell {W : World} {own : Nat -> Prop} {g : Nat} {s : St} (h : IsT W own g s) (v : Value) : (W.setCell ⟨g, 4, none⟩ v).cell? ⟨g, 4, none⟩ = some v := by
 obtain ⟨vc, vs, au, cu, ap, cp, vn, hb, _⟩ := h
 exact (box_cell (heap_setCell_same W g 4 _ _ v hb) 4 rfl).1
set_option maxRecDepth 100000 in
set_option maxHeartbeats 4000000 in
theorem changes_calls {W : World} {own : Nat -> Prop} {g : Nat} {s : St} (hs : IsT W own g s) (A : Option Addr) (c : Nat) (us : List Ln) (hrf : Kd.F k65 W (fun k => ¬ own k /\ k < W.heap.size) A us.length us) (hc : us.length <= c) (Ap : Option Addr) (cp : Nat) (ps : List Int) (hcp : ps.length <= cp) (hpl : ps.length <= 1000000000) (hl : us.length <= 900000) (hsz : ∀ y ∈ us, y.f1.size <= 4000) (hz : s.send.length <= 100000000) :
  Calls Tryz.prog 23 #[.pointer (some ⟨g, 0, none⟩), .slice A us.length c, .slice Ap ps.length cp] W fun e w' => e = .returned (.tuple #[]) /\ ∃ own', IsT w' own' g (changesS s us ps) /\ Goes W w' own own' := by
 have HS := Asd.mk hs
 have hr := Kd.F_now hrf
 have HR := Asd.mk hr
 have HRF := Asd.mk hrf
 clear hrf
 have HC := Asd.mk hc
 have HFI := Asd.mk (fun W' (h : Below W.heap.size W W') => take_first.calls A c us _ W' (Kd.C_below hr h) hc rfl)
 have HZ := Asd.mk (And.intro hz (And.intro hcp (And.intro hpl (And.intro hl hsz))))
 cases hf : flushF us with
 | none =>
  have hix : take_first.ix us = -1 := by unfold take_first.ix; rw [pos_eq, hf]
  have hp : changesS s us ps = s := by unfold changesS; rw [hf]
  rw [hp]
  rw [hix] at HFI
  clear hf hix hp hs hr hc hz hsz hcp hpl hl
  go_enter Tryz.func23, Tryz.ntmps23
  go_upto_region 1 with (fail)
  generalize hW1 : World.alloc _ _ = W1
  have hB1 : Below W.heap.size W W1 := by rw [<- hW1]; exact bal (Below.refl _ _) _
  have HB1 := Asd.mk hB1
  clear hW1 hB1
  go_upto_region 2 with (go_at_call 30; with_reducible refine (HFI.out _ HB1.out).mono ?_; rintro e W2 ⟨rfl, hb⟩; have HB2 := Asd.mk (below_step HB1.out hb); clear hb)
  generalize hW3 : World.alloc _ _ = W3
  have hB3 : Below W.heap.size W W3 := by rw [<- hW3]; exact bal HB2.out _
  have hx := show W3.heap[W2.heap.size]? = some (.cells #[.int .i64 (-1)] 3 (0, 0)) by rw [<- hW3]; exact heap_alloc_new _ _
  have HB3 := Asd.mk hB3
  obtain ⟨m0, _⟩ := box_cell hx 0 rfl
  clear hW3 hB3 hx
  go_wp2
  first | go_end0 | ((try simp only [Exit.inBlock, Exit.then]); refine bodyPost_ret (results_none rfl _ _ _) rfl ?_)
  exact ⟨rfl, own, HS.out.below HB3.out, Goes.below HB3.out⟩
 | some i =>
  have hlt := flushF_lt us hf
  have hix : take_first.ix us = (i : Int) := by unfold take_first.ix; rw [pos_eq, hf]
  have hp : changesS s us ps = if (pushR (us.take (i + 1))).2 = true then packS errT { s with ups := (pushR (us.take (i + 1))).1, nx := i } (us.drop (i + 1)) ps else endS errT s := by unfold changesS; rw [hf]
  rw [hix] at HFI
  obtain ⟨up, ub, hxe⟩ : ∃ up ub, pushR (us.take (i + 1)) = (up, ub) := ⟨_, _, rfl⟩
  have hpush := pushR_eq (us.take (i + 1)) (by rw [List.length_take]; omega) (fun y hy => by have := hsz y (List.mem_of_mem_take hy); omega)
  rw [hxe] at hpush hp
  have HPP := Asd.mk hp
  clear hp
  have HPU := Asd.mk hpush
  have HTL := Asd.mk (show (us.take (i + 1)).length = i + 1 by rw [List.length_take]; omega)
  have b1 : (0 : Int) <= (i : Int) + 1 := by omega
  have b2 : (i : Int) + 1 <= (us.length : Int) := by omega
  have b3 : (us.length : Int) <= 900000 := by omega
  have b4 : ¬ (i : Int) < 0 := by omega
  have HLT := Asd.mk hlt
  clear hf hix hs hr hc hz hsz hcp hpl hl hpush hlt hxe
  go_enter Tryz.func23, Tryz.ntmps23
  go_upto_region 1 with (fail)
  generalize hW1 : World.alloc _ _ = W1
  have hB1 : Below W.heap.size W W1 := by rw [<- hW1]; exact bal (Below.refl _ _) _
  have hx1 := show W1.heap[W.heap.size]? = some (.cells #[.pointer (some ⟨g, 0, none⟩)] 24 (0, 0)) by rw [<- hW1]; exact heap_alloc_new _ _
  have HB1 := Asd.mk hB1
  have HX1 := Asd.mk hx1
  clear hW1 hB1 hx1
  go_upto_region 2 with (go_at_call 30; with_reducible refine (HFI.out _ HB1.out).mono ?_; rintro e W2 ⟨rfl, hb⟩; have HB12 := Asd.mk hb; have HB2 := Asd.mk (below_step HB1.out hb); clear hb)
  generalize hW3 : World.alloc _ _ = W3
  have hB23 : Below W2.heap.size W2 W3 := by rw [<- hW3]; exact bal (Below.refl _ _) _
  have hx2 := show W3.heap[W2.heap.size]? = some (.cells #[.int .i64 i] 3 (0, 0)) by rw [<- hW3]; exact heap_alloc_new _ _
  have hx1 := below_box hB23 (below_box HB12.out HX1.out)
  have HB3 := Asd.mk (below_step HB2.out hB23)
  have hzs := And.intro HB1.out.size (And.intro HB12.out.size (And.intro hB23.size (And.intro (lt_box HX1.out) (lt_box hx2))))
  have hol := HS.out.own_lt
  generalize hbw : W.heap.size = b_1 at hx1 hzs HX1 hol ⊢
  have HOL := Asd.mk hol
  have HBW := Asd.mk hbw
  clear hol hbw
  obtain ⟨m2, n2⟩ := box_cell hx2 0 rfl
  obtain ⟨m1, n1⟩ := box_cell hx1 0 rfl
  have HX := Asd.mk (And.intro hx1 hx2)
  have ec := HC.out
  clear hW3 hB23 hx2 hx1 HX1
  generalize W2.heap.size = b_2 at hzs HX m2 n2 ⊢
  have HZS := Asd.mk hzs
  clear hzs
  cases ub with
  | false =>
   rw [if_neg (by decide)] at HPP
   go_wp2_with (first
    | (go_at_call 41; have hz := hello_Pushed.calls 6000000 A c (us.take (i + 1)) _ _ W3 (Kd.C_take (Kd.C_below HR.out HB3.out) (by omega)) (by rw [HTL.out]; omega) HPU.out; rw [HTL.out] at hz; with_reducible refine hz.mono ?_; clear hz; rintro e W4 ⟨v1, rfl, ho, hb⟩; obtain ⟨Au, cu, rfl⟩ := Kd.R_slice ho; have HU := Asd.mk ho; have HB34 := Asd.mk hb; have HB4 := Asd.mk (below_step HB3.out hb); have hx1 := below_box hb HX.out.1; have HX4 := Asd.mk (And.intro hx1 (below_box hb HX.out.2)); clear m1 n1 m2 n2; obtain ⟨m1, n1⟩ := box_cell hx1 0 rfl; clear ho hb hx1)
    | (go_at_call 25; with_reducible refine (end3_calls (HS.out.below HB4.out) (Nat.le_trans HZ.out.1 (by decide))).mono ?_; rintro e W5 ⟨rfl, own5, hs5, hg5⟩; have HS5 := Asd.mk hs5; have HG5 := Asd.mk hg5; clear hs5 hg5))
   first | go_end0 | ((try simp only [Exit.inBlock, Exit.then]); refine bodyPost_ret (results_none rfl _ _ _) rfl ?_)
   rw [HPP.out]
   exact ⟨rfl, own5, HS5.out, (Goes.below HB4.out).trans HG5.out⟩
  | true =>
   rw [if_pos rfl] at HPP
   go_upto_region 6 with (go_at_call 41; have hz := hello_Pushed.calls 6000000 A c (us.take (i + 1)) _ _ W3 (Kd.C_take (Kd.C_below HR.out HB3.out) (by omega)) (by rw [HTL.out]; omega) HPU.out; rw [HTL.out] at hz; with_reducible refine hz.mono ?_; clear hz; rintro e W4 ⟨v1, rfl, ho, hb⟩; obtain ⟨Au, cu, rfl⟩ := Kd.R_slice ho; have HU := Asd.mk ho; have HB34 := Asd.mk hb; have HB4 := Asd.mk (below_step HB3.out hb); have hx1 := below_box hb HX.out.1; have HX4 := Asd.mk (And.intro hx1 (below_box hb HX.out.2)); clear m1 n1 m2 n2; obtain ⟨m1, n1⟩ := box_cell hx1 0 rfl; clear ho hb hx1)
   have hS4 := HS.out.below HB4.out
   have f2 := hS4.frozen 2
   obtain ⟨_, _, _, _, ⟨k2, _⟩, _⟩ := hS4.rows
   have HS4 := Asd.mk hS4
   clear hS4
   go_upto_region 7 with (fail)
   have hfr : ∀ k, (W3.heap.size <= k /\ k < W4.heap.size) -> ¬ own k /\ k < W4.heap.size := fun k e => ⟨fun e2 => by have := HOL.out k e2; have := HZS.out; omega, e.2⟩
   have hF := Kd.F_mono (Kd.R_F (Kd.R_bound HU.out)) (ok' := fun k => W3.heap.size <= k /\ k < W4.heap.size) (fun k e => ⟨e.2.1, e.2.2.1⟩)
   have h5 := HS4.out.set_ups (fr := fun k => W3.heap.size <= k /\ k < W4.heap.size) Au cu up hfr hF (Kd.R_reads' HU.out).2.1
   have HS5 := Asd.mk h5.1
   have HG5 := Asd.mk (Goes.wide (fr := fun k => W3.heap.size <= k /\ k < W4.heap.size) HB4.out h5.2 (fun k e => by have := e.1; have := HZS.out; have := HBW.out; omega))
   have hgb : g < b_1 := HOL.out g HS.out.own_g
   have hx1 : (W4.setCell ⟨g, 2, none⟩ (.slice Au up.length cu)).heap[b_1]? = _ := (Below.heap_setCell W4 ⟨g, 2, none⟩ _ b_1 (by show b_1 ≠ g; omega)).trans HX4.out.1
   have hx2 : (W4.setCell ⟨g, 2, none⟩ (.slice Au up.length cu)).heap[b_2]? = _ := (Below.heap_setCell W4 ⟨g, 2, none⟩ _ b_2 (by show b_2 ≠ g; have := HZS.out; omega)).trans HX4.out.2
   have f4 := h5.1.frozen 4
   obtain ⟨_, vn, k4, _, _⟩ := h5.1.cells
   have HSZ5 := Asd.mk (show (W4.setCell ⟨g, 2, none⟩ (.slice Au up.length cu)).heap.size = W4.heap.size from set_size W4 _ _)
   have HR5 : Asd (Kd.F k65 (W4.setCell ⟨g, 2, none⟩ (.slice Au up.length cu)) (fun k => ¬ own k /\ k < W.heap.size) A us.length us) := Asd.mk (Kd.F_step HRF.out (fun k ho hl => (Below.heap_setCell W4 ⟨g, 2, none⟩ _ k (fun e => ho.1 (by rw [show k = g from e]; exact HS.out.own_g))).trans (HB4.out.block k hl)))
   clear h5 m1 n1 k2 f2
   generalize W4.setCell ⟨g, 2, none⟩ (.slice Au up.length cu) = W5 at HS5 HG5 hx1 hx2 k4 f4 HSZ5 HR5 ⊢
   obtain ⟨m1, n1⟩ := box_cell hx1 0 rfl
   have HX5 := Asd.mk (And.intro hx1 hx2)
   clear hx1 hx2
   go_upto_region 8 with (fail)
   have hfr6 : ∀ k, (k = b_1 ∨ k = b_2) -> ¬ (own k ∨ (W3.heap.size <= k /\ k < W4.heap.size)) /\ k < W5.heap.size := by
    have h1 := HZS.out
    have h2 := HSZ5.out
    have h3 := HB34.out.size
    rintro k (rfl | rfl)
    ·exact ⟨fun e => e.elim (fun e => by have := HOL.out _ e; omega) (fun e => by omega), by omega⟩
    ·exact ⟨fun e => e.elim (fun e => by have := HOL.out _ e; omega) (fun e => by omega), by omega⟩
   have h6 := HS5.out.set_nx (fr := fun k => k = b_1 ∨ k = b_2) (.func (.func 42) #[] #[.pointer (some ⟨b_1, 0, none⟩), .pointer (some ⟨b_2, 0, none⟩)]) (i : Int) hfr6 (Or.inr (Or.inr ⟨by omega, b_1, b_2, rfl, Or.inl rfl, Or.inr rfl, HX5.out.1, HX5.out.2⟩))
   have HS6 := Asd.mk h6.1
   have hgb : g < b_1 := HOL.out g HS.out.own_g
   have HG6 := Asd.mk (HG5.out.adds (fr := fun k => k = b_1 ∨ k = b_2) h6.2 (fun k e => by have h1 := HZS.out; have h2 := HBW.out; rcases e with rfl | rfl <;> omega))
   have hx1 := (Below.heap_setCell W5 ⟨g, 4, none⟩ (.func (.func 42) #[] #[.pointer (some ⟨b_1, 0, none⟩), .pointer (some ⟨b_2, 0, none⟩)]) b_1 (by show b_1 ≠ g; omega)).trans HX5.out.1
   have hx2 := (Below.heap_setCell W5 ⟨g, 4, none⟩ (.func (.func 42) #[] #[.pointer (some ⟨b_1, 0, none⟩), .pointer (some ⟨b_2, 0, none⟩)]) b_2 (by show b_2 ≠ g; have := HZS.out; omega)).trans HX5.out.2
   have HR6 : Asd (Kd.C k65 (W5.setCell ⟨g, 4, none⟩ (.func (.func 42) #[] #[.pointer (some ⟨b_1, 0, none⟩), .pointer (some ⟨b_2, 0, none⟩)])) A us.length us) := Asd.mk (Kd.F_now (Kd.F_step HR5.out (fun k ho hl => Below.heap_setCell W5 ⟨g, 4, none⟩ (.func (.func 42) #[] #[.pointer (some ⟨b_1, 0, none⟩), .pointer (some ⟨b_2, 0, none⟩)]) k (fun e => ho.1 (by rw [show k = g from e]; exact HS.out.own_g)))))
   have k6 := HS5.out.nx_cell (.func (.func 42) #[] #[.pointer (some ⟨b_1, 0, none⟩), .pointer (some ⟨b_2, 0, none⟩)])
   clear h6 k4 f4 m1 n1 hfr hfr6 hF
   generalize W5.setCell ⟨g, 4, none⟩ (.func (.func 42) #[] #[.pointer (some ⟨b_1, 0, none⟩), .pointer (some ⟨b_2, 0, none⟩)]) = W6 at HS6 HG6 hx1 hx2 HR6 k6 ⊢
   obtain ⟨m1, n1⟩ := box_cell hx1 0 rfl
   have HX6 := Asd.mk (And.intro hx1 hx2)
   clear hx1 hx2
   go_wp2_with (go_at_call 42; with_reducible refine (close_calls HS6.out i b_1 b_2 HX6.out.1 HX6.out.2 A c us HR6.out HC.out HLT.out Ap cp ps HZ.out.2.1 HZ.out.2.2.1 (Nat.le_trans HZ.out.2.2.2.1 (by decide)) HZ.out.2.2.2.2 HZ.out.1).mono ?_; rintro e W7 ⟨rfl, own7, hs7, hg7⟩; have HS7 := Asd.mk hs7; have HG7 := Asd.mk hg7; clear hs7 hg7)
   first | go_end0 | ((try simp only [Exit.inBlock, Exit.then]); refine bodyPost_ret (results_none rfl _ _ _) rfl ?_)
   rw [HPP.out]
   exact ⟨rfl, own7, HS7.out, HG6.out.trans HG7.out⟩
end Go.Proofs.YtemkgdpfkbpnpaaGreatDoor.Take
