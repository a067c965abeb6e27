/- A reader of lines: its parts. -/
import Derived.Test.YtlfenakgphmepaaGreatDoorRootNum
import Derived.Test.YtlfenakgphmepaaGreatDoorPrint0
import Derived.Deep.CutRange
import Derived.Deep.DeepCutAuto
import Derived.Deep.MidRow
namespace Go.Proofs.YtlfenakgphmepaaGreatDoor.Root
open Go.RowKit Go.Proofs.YtlfenakgphmepaaGreatDoorW.PrintWords Go.Proofs.YtlfenakgphmepaaGreatDoorW.PrintLast Go.Proofs.YtlfenakgphmepaaGreatDoorW.PrintMore Go.Proofs.YtlfenakgphmepaaGreatDoor.Conv Go.Proofs.YtlfenakgphmepaaGreatDoor.Print Go.Proofs.YtlfenakgphmepaaGreatDoor.Build
set_option linter.unusedVariables false
set_option linter.unusedSimpArgs false
theorem box_cell {W : World} {g : Nat} {cs : Array Value} {t : TypeId} (h : W.heap[g]? = some (.cells cs t (0, 0))) (j : Nat) {v : Value} (hv : cs[j]? = some v) : W.cell? ⟨g, j, none⟩ = some v /\ W.frozen? ⟨g, j, none⟩ = false := ⟨(cell_of_row W g j cs t (0, 0) h).trans hv, frozen_of_row W g j cs t h⟩
theorem lt_box {W : World} {b : Nat} {o : Obj} (hb : W.heap[b]? = some o) : b < W.heap.size := (Array.getElem?_eq_some_iff.1 hb).1
theorem below_box {B W : World} {b : Nat} {o : Obj} (h : Below B.heap.size B W) (hb : B.heap[b]? = some o) : W.heap[b]? = some o := (h.block b (Array.getElem?_eq_some_iff.1 hb).1).trans hb
def IsErr (v : Value) (e : Bool) : Prop := (e = false /\ v = .nilIface) ∨ (e = true /\ ∃ b, v = .iface 87 (.pointer (some ⟨b, 0, none⟩)))
def Rd (W : World) (S : Nat -> Prop) (g : Nat) (l : List ByteArray) (e : Bool) : Prop := ∃ A c v, W.heap[g]? = some (.cells #[.slice A l.length c, v] 61 (0, 0)) /\ Kd.F Kd.string W S A l.length l /\ l.length <= c /\ IsErr v e /\ (∀ k, S k -> k ≠ g /\ k < W.heap.size)
def At (g : Nat) : Nat -> Prop := fun k => k = g
theorem Rd.lt {W : World} {S : Nat -> Prop} {g : Nat} {l : List ByteArray} {e : Bool} (h : Rd W S g l e) : g < W.heap.size := by
 obtain ⟨A, c, v, hb, _⟩ := h
 exact lt_box hb
theorem Rd.keeps {W W' : World} {S own2 : Nat -> Prop} {g : Nat} {l : List ByteArray} {e : Bool} (h : Rd W S g l e) (hk : Keeps W W' own2) (hg : ¬ own2 g) (hS : ∀ k, S k -> ¬ own2 k) : Rd W' S g l e := by
 obtain ⟨A, c, v, hb, hf, hc, he, hs⟩ := h
 exact ⟨A, c, v, (hk.block g (lt_box hb) hg).trans hb, Kd.F_mono (Kd.F_step (Kd.F_bound hf) (fun k e hl => hk.block k hl (hS k e.1))) (fun k e => e.1), hc, he, fun k e => ⟨(hs k e).1, Nat.lt_of_lt_of_le (hs k e).2 hk.size⟩⟩
theorem Rd.below {W W' : World} {S : Nat -> Prop} {g : Nat} {l : List ByteArray} {e : Bool} (h : Rd W S g l e) (hb : Below W.heap.size W W') : Rd W' S g l e := h.keeps (own2 := fun _ => False) (Keeps.of_below hb) (fun e => e) (fun _ _ e => e)
theorem Rd.fail {W : World} {S : Nat -> Prop} {g : Nat} {l : List ByteArray} {e : Bool} (h : Rd W S g l e) (b : Nat) : Rd (W.setCell ⟨g, 1, none⟩ (.iface 87 (.pointer (some ⟨b, 0, none⟩)))) S g l true /\ Keeps W (W.setCell ⟨g, 1, none⟩ (.iface 87 (.pointer (some ⟨b, 0, none⟩)))) (At g) := by
 obtain ⟨A, c, v, hb, hf, hc, he, hs⟩ := h
 refine ⟨⟨A, c, _, (heap_set_same W g 1 _ _ _ hb).trans rfl, Kd.F_mono (Kd.F_step (Kd.F_bound hf) (fun k e hl => Below.heap_setCell W ⟨g, 1, none⟩ _ k (hs k e.1).1)) (fun k e => e.1), hc, Or.inr ⟨rfl, b, rfl⟩, fun k e => ⟨(hs k e).1, by simpa [World.setCell] using (hs k e).2⟩⟩, Keeps.set rfl⟩
theorem Rd.cells {W : World} {S : Nat -> Prop} {g : Nat} {l : List ByteArray} {e : Bool} (h : Rd W S g l e) : ∃ A c v, W.cell? ⟨g, 0, none⟩ = some (.slice A l.length c) /\ W.cell? ⟨g, 1, none⟩ = some v /\ W.frozen? ⟨g, 0, none⟩ = false /\ W.frozen? ⟨g, 1, none⟩ = false /\ IsErr v e /\ Kd.F Kd.string W S A l.length l /\ l.length <= c := by
 obtain ⟨A, c, v, hb, hf, hc, he, hs⟩ := h
 exact ⟨A, c, v, (box_cell hb 0 rfl).1, (box_cell hb 1 rfl).1, (box_cell hb 0 rfl).2, (box_cell hb 1 rfl).2, he, hf, hc⟩
set_option maxHeartbeats 4000000 in
set_option maxRecDepth 100000 in
theorem number_calls {W : World} {S : Nat -> Prop} {g : Nat} {l : List ByteArray} {e : Bool} (h : Rd W S g l e) (s : ByteArray) (hs : s.size <= 1000000000) (hT : Tb W) :
  Calls Tryz.prog 31 #[.pointer (some ⟨g, 0, none⟩), .string s] W fun r w' => r = .returned (.int .i64 (decF s).1) /\ Rd w' S g l (e || !(decF s).2) /\ Keeps W w' (At g) := by
 have H := Asd.mk h
 have HD := Asd.mk (decimal_calls s (by omega) hT)
 clear hs hT h
 obtain ⟨r1, r2, hr⟩ : ∃ r1 r2, decF s = (r1, r2) := ⟨_, _, rfl⟩
 rw [hr] at HD ⊢
 clear hr
 cases r2 with
 | true =>
  go_enter Tryz.func31, Tryz.ntmps31
  go_wp2_with (go_at_call 56; with_reducible refine HD.out.mono ?_; rintro r w1 ⟨rfl, hb⟩; have HB := Asd.mk hb; clear hb)
  go_ret
  exact ⟨rfl, by simpa using H.out.below HB.out, Keeps.of_below HB.out⟩
 | false =>
  go_enter Tryz.func31, Tryz.ntmps31
  go_wp2_with (go_at_call 56; with_reducible refine HD.out.mono ?_; rintro r w1 ⟨rfl, hb⟩; have HB := Asd.mk (below_step hb (bal (Below.refl _ _) (.cells #[.string s] 89))); have HS1 := Asd.mk hb; clear hb; obtain ⟨A, c, v, k0, k1, f0, f1, he, hf, hc⟩ := (H.out.below HB.out).cells; clear k0 f0 he hf hc)
  go_ret
  have h2 := (H.out.below HB.out).fail w1.heap.size
  exact ⟨rfl, by simpa using h2.1, (Keeps.of_below HB.out).trans h2.2⟩
set_option maxHeartbeats 8000000 in
set_option maxRecDepth 100000 in
theorem clone_calls (A0 : Option Addr) (c0 : Nat) (l0 : List ByteArray) (w : World) (hr0 : Kd.C Kd.string w A0 l0.length l0) (hc0 : l0.length <= c0) (hlim : l0.length * 16 <= 140737488355328) :
  Calls Tryz.prog 57 #[.slice A0 l0.length c0] w fun e w' => ∃ v0_ : Value, e = .returned (v0_) /\ Kd.R Kd.string 9 w' w.heap.size (fun _ => True) v0_ l0 /\ Below w.heap.size w w' := by
 have HR0 := Asd.mk hr0
 have HL := Asd.mk hlim
 have HCc := Asd.mk hc0
 have hnil := fun (W : World) (a : Option Addr) (n c : Nat) => Lib.run_eql_slice_nil (P := Tryz.prog) W 22 9 a n c 0 0 Tryz.underlying22
 rcases A0 with _ | ad
 ·have h0 : l0 = [] := by
   rcases Nat.eq_zero_or_pos l0.length with h0 | h0
   ·exact List.eq_nil_of_length_eq_zero h0
   ·obtain ⟨ad, h', _⟩ := hr0.2.2 h0
    cases h'
  subst h0
  clear hlim hr0 hc0
  go_enter Tryz.func57, Tryz.ntmps57
  go_wp2
  go_ret
  exact ⟨_, rfl, Kd.R_nil _ _ _ _ _, Below.refl _ _⟩
 ·clear hlim hr0 hc0
  have HB := Asd.mk (Below.refl w.heap.size w)
  go_enter Tryz.func57, Tryz.ntmps57
  go_wp2_with (first | ((with_reducible refine gate_dst (N := 5) rfl ?_); refine Kd.R_lit Kd.string _ 9 ?hg (N := 5) ?hd (xs := ([] : List ByteArray)) (inner := []) (ok := fun _ => True) (okp := fun _ => True) ?hr ?hp (fun _ hk => hk) trivial (Below.refl _ _) (Nat.le_refl _) (by simp) ?_; (case hd => rfl); (case hg => rfl); (case hr => first | (go_simp; done) | (go_simp; rfl)); (case hp => exact (Reps.none _ _)); intro v1 w1 ho1 hb hg_ hnew_; clear hg_ hnew_; have HO1 := Asd.mk ho1; have HB1 := Asd.mk hb; clear ho1 hb) | ((with_reducible refine gate_builtin (b := .append) (xs := #[.tmp 5, .tmp 6]) rfl ?_); at_builtin; refine Kd.R_append_row Value.string ByteArray.empty (w0 := w) w.heap.size rfl (.tmp 5) (.tmp 6) 22 9 (.string ⟨#[]⟩) 16 rfl Tryz.underlying22 info9 rfl (by decide) v1 [] l0 (some ad) l0.length c0 (fun _ => True) rfl rfl (fun _ _ => trivial) HO1.out ?aR HB1.out ?aS ?aL ?_; (case aR => exact Kd.C_below HR0.out HB1.out); (case aS => exact HB1.out.size); (case aL => have := HL.out; simp; omega); intro v2 w2 ho2 hb hg hat; have HO2 := Asd.mk ho2; have HB2 := Asd.mk hb; clear hb hg hat ho2))
  go_ret
  exact ⟨_, rfl, HO2.out, HB2.out⟩
theorem Rd.cut {W : World} {S : Nat -> Prop} {g : Nat} {l : List ByteArray} {e : Bool} (h : Rd W S g l e) {A A2 : Option Addr} {c c2 : Nat} (k0 : W.cell? ⟨g, 0, none⟩ = some (.slice A l.length c)) (l2 : List ByteArray) (hf2 : ∀ W S, Kd.F Kd.string W S A l.length l -> Kd.F Kd.string W S A2 l2.length l2) (hc2 : l2.length <= c2) :
  Rd (W.setCell ⟨g, 0, none⟩ (.slice A2 l2.length c2)) S g l2 e /\ Keeps W (W.setCell ⟨g, 0, none⟩ (.slice A2 l2.length c2)) (At g) /\ Kd.F Kd.string (W.setCell ⟨g, 0, none⟩ (.slice A2 l2.length c2)) S A l.length l := by
 obtain ⟨A', c', v, hb, hf, hc, he, hs⟩ := h
 have hk := (box_cell hb 0 rfl).1
 rw [k0] at hk
 injection hk with hk
 injection hk with e1 e2 e3
 subst e1
 have hf' : Kd.F Kd.string (W.setCell ⟨g, 0, none⟩ (.slice A2 l2.length c2)) S A l.length l := Kd.F_mono (Kd.F_step (Kd.F_bound hf) (fun k e hl => Below.heap_setCell W ⟨g, 0, none⟩ _ k (hs k e.1).1)) (fun k e => e.1)
 exact ⟨⟨A2, c2, v, (heap_set_same W g 0 _ _ _ hb).trans rfl, hf2 _ _ hf', hc2, he, fun k e => ⟨(hs k e).1, by simpa [World.setCell] using (hs k e).2⟩⟩, Keeps.set rfl, hf'⟩
def someF (n : Nat) (l : List ByteArray) (e : Bool) : List ByteArray × List ByteArray × Bool := if l.length < n ∨ e = true then ([], l, true) else (l.take n, l.drop n, false)
theorem some_bad {n : Nat} {l : List ByteArray} {e : Bool} (h : l.length < n ∨ e = true) : someF n l e = ([], l, true) := if_pos h
theorem some_ok {n : Nat} {l : List ByteArray} (h : n <= l.length) : someF n l false = (l.take n, l.drop n, false) := if_neg (fun e => e.elim (fun e => by omega) (fun e => by cases e))
set_option maxRecDepth 100000 in
theorem cut_two (A : Option Addr) (c : Nat) (xs : List ByteArray) (hc : xs.length <= c) (j : Nat) (hj : j <= xs.length) :
  ∃ A2, (∀ W : World, (Instr.slice 22 (.slice A xs.length c) none (some (.int .i64 (j : Int))) none).run Tryz.prog W = .ok (.slice A j c) W) /\ (∀ W : World, (Instr.slice 22 (.slice A xs.length c) (some (.int .i64 (j : Int))) none none).run Tryz.prog W = .ok (.slice A2 (xs.length - j) (c - j)) W) /\
   (∀ W S, Kd.F Kd.string W S A xs.length xs -> Kd.F Kd.string W S A2 (xs.drop j).length (xs.drop j)) := by
 have hinf := info9
 obtain ⟨i, hi, hi2⟩ := Option.map_eq_some_iff.1 hinf
 have hsz : i.size = 1 := congrArg (fun x => x.2.1) hi2
 refine ⟨_, ?_, cut_from (P := Tryz.prog) 22 9 .i64 Tryz.underlying22 hi 1 hsz A xs.length c (j : Int) (by omega) (by omega), fun W S h => ?_⟩
 ·intro W
  have := cut_to (P := Tryz.prog) 22 9 .i64 Tryz.underlying22 hi A xs.length c (j : Int) (by omega) (by omega) hc W
  rw [Int.toNat_natCast] at this
  exact this
 ·rw [Int.toNat_natCast]
  exact Kd.F_cut h hj hc
set_option maxHeartbeats 8000000 in
set_option maxRecDepth 100000 in
theorem some_calls {W : World} {S : Nat -> Prop} {g : Nat} {l : List ByteArray} {e : Bool} (h : Rd W S g l e) (n : Nat) (hn : n <= 4611686018427387904) (hl : l.length <= 1000000000) :
  Calls Tryz.prog 33 #[.pointer (some ⟨g, 0, none⟩), .int .i64 n] W fun r w' => ∃ v, r = .returned v /\ Kd.R Kd.string 9 w' W.heap.size (fun _ => True) v (someF n l e).1 /\ Rd w' S g (someF n l e).2.1 (someF n l e).2.2 /\ Keeps W w' (At g) := by
 obtain ⟨A, c, v, k0, k1, f0, f1, he, hf, hc⟩ := h.cells
 have H := Asd.mk h
 have HL := Asd.mk hl
 by_cases hs : l.length < n
 ·rw [some_bad (Or.inl hs)]
  have hz : (l.length : Int) < (n : Int) := by omega
  have hx := (Rd.below h (bal (Below.refl _ _) (.cells #[.string ⟨#[116, 111, 111, 32, 102, 101, 119]⟩] 89))).cells
  obtain ⟨A2, c2, v2, k02, k12, f02, f12, _, _, _⟩ := hx
  clear h hn hl he hf hc k02 f02
  go_enter Tryz.func33, Tryz.ntmps33
  go_wp2
  go_ret
  have h2 := (Rd.below H.out (bal (Below.refl _ _) (.cells #[.string ⟨#[116, 111, 111, 32, 102, 101, 119]⟩] 89))).fail W.heap.size
  exact ⟨_, rfl, Kd.R_nil _ _ _ _ _, h2.1, (Keeps.of_below (bal (Below.refl _ _) _)).trans h2.2⟩
 ·have hz : ¬ (l.length : Int) < (n : Int) := by omega
  rcases he with ⟨rfl, rfl⟩ | ⟨rfl, b, rfl⟩
  ·rw [some_ok (by omega)]
   obtain ⟨A2, hc1, hc2, hF2⟩ := cut_two A c l hc n (by omega)
   have HF2 := Asd.mk hF2
   have HF := Asd.mk hf
   have HC := Asd.mk hc
   have HN : Asd (n <= l.length) := ⟨by omega⟩
   have hlt : (l.take n).length = n := by rw [List.length_take]; omega
   have hd : (l.drop n).length = l.length - n := List.length_drop
   have hcut := h.cut (A2 := A2) (c2 := c - n) k0 (l.drop n) hF2 (by rw [hd]; omega)
   rw [hd] at hcut
   have HCUT := Asd.mk hcut
   have hcl := clone_calls A c (l.take n) _ (Kd.C_take (Kd.F_now hcut.2.2) (m := n) (by omega)) (by rw [hlt]; omega) (by rw [hlt]; omega)
   rw [hlt] at hcl
   have HCL := Asd.mk hcl
   clear h hn hl hf hc f1 hF2 hd hcut hcl hlt
   go_enter Tryz.func33, Tryz.ntmps33
   go_wp2_with (go_at_call 57; with_reducible refine HCL.out.mono ?_; rintro r w2 ⟨v, rfl, hr, hb⟩; have HRR := Asd.mk hr; have HB := Asd.mk hb; clear hr hb)
   go_ret
   exact ⟨_, rfl, Kd.R_lower HRR.out (by simp [World.setCell]), HCUT.out.1.below HB.out, HCUT.out.2.1.trans (Keeps.of_below HB.out)⟩
  ·rw [some_bad (Or.inr rfl)]
   have hx := (Rd.below h (bal (Below.refl _ _) (.cells #[.string ⟨#[116, 111, 111, 32, 102, 101, 119]⟩] 89))).cells
   obtain ⟨A2, c2, v2, k02, k12, f02, f12, _, _, _⟩ := hx
   clear h hn hl hf hc k02 f02
   go_enter Tryz.func33, Tryz.ntmps33
   go_wp2
   go_ret
   have h2 := (Rd.below H.out (bal (Below.refl _ _) (.cells #[.string ⟨#[116, 111, 111, 32, 102, 101, 119]⟩] 89))).fail W.heap.size
   exact ⟨_, rfl, Kd.R_nil _ _ _ _ _, h2.1, (Keeps.of_below (bal (Below.refl _ _) _)).trans h2.2⟩
end Go.Proofs.YtlfenakgphmepaaGreatDoor.Root
