/- The calls of HelloWhole answer true, whatever they are handed. -/
import Derived.Test.YtmmionafcmnfoaaDoorHead
import Derived.Test.YtmmionafcmnfoaaDoorGreat
import Derived.Test.YtmmionafcmnfoaaDoorHelloG
import Derived.Deep.CutRange
import Derived.Deep.DeepCutAuto
import Derived.Deep.MidRow
namespace Go.Proofs.YtmmionafcmnfoaaDoor.Hello
open Go.RowKit Go.Proofs.YtmmionafcmnfoaaDoorW.PrintWords Go.Proofs.YtmmionafcmnfoaaDoorW.PrintLast Go.Proofs.YtmmionafcmnfoaaDoorW.PrintMore Go.Proofs.YtmmionafcmnfoaaDoor.Conv Go.Proofs.YtmmionafcmnfoaaDoor.Print
set_option linter.unusedVariables false
set_option linter.unusedSimpArgs false
def whole.T9 : Bool × List (List Nat × List Nat) := (true, [([], []), ([], []), ([0, 1], [0, 1]), ([], []), ([3], [3]), ([2, 4, 2], [2, 4]), ([5, 5], [5]), ([6], [6]), ([7], [7]), ([7], [7]), ([7], [7]), ([8, 6, 0, 1, 2, 3, 4, 5, 6, 7, 8], [8]), ([9, 11, 0, 1, 2, 3, 4, 5, 6, 7, 8, 9, 11], [9]), ([10, 12, 0, 1, 2, 3, 4, 5, 6, 7, 8, 9, 10, 11, 12], [10])])
def whole.B9 : List Nat := [0, 0, 3, 0, 8, 31, 63, 127, 255, 255, 255, 511, 3071, 8191]
theorem whole.tab9 : rtab .any (opsOf Tryd.f5 9) = whole.T9 := by kernel_rfl
theorem whole.bits9 : waitsOk whole.T9.2 whole.B9 = true := by kernel_rfl
def whole.T14 : Bool × List (List Nat × List Nat) := (true, [([], []), ([], []), ([0, 1], [0, 1]), ([], []), ([3], [3]), ([2, 4, 2], [2, 4]), ([5, 5], [5]), ([6], [6]), ([7], [7]), ([7], [7]), ([], []), ([10, 8, 6, 0, 1, 2, 3, 4, 5, 6, 7, 8, 10], [8, 10]), ([9, 11, 0, 1, 2, 3, 4, 5, 6, 7, 8, 9, 10, 11], [9])])
def whole.B14 : List Nat := [0, 0, 3, 0, 8, 31, 63, 127, 255, 255, 0, 1535, 4095]
theorem whole.tab14 : rtab .any (opsOf Tryd.f5 14) = whole.T14 := by kernel_rfl
theorem whole.bits14 : waitsOk whole.T14.2 whole.B14 = true := by kernel_rfl
def whole.T19 : Bool × List (List Nat × List Nat) := (true, [([], []), ([], []), ([0, 1], [0, 1]), ([], []), ([3], [3]), ([2, 4, 2], [2, 4]), ([5, 5], [5]), ([6], [6]), ([7], [7]), ([7], [7]), ([8, 6, 0, 1, 2, 3, 4, 5, 6, 7, 8], [8]), ([9, 10, 0, 1, 2, 3, 4, 5, 6, 7, 8, 9, 10], [9])])
def whole.B19 : List Nat := [0, 0, 3, 0, 8, 31, 63, 127, 255, 255, 511, 2047]
theorem whole.tab19 : rtab .any (opsOf Tryd.f5 19) = whole.T19 := by kernel_rfl
theorem whole.bits19 : waitsOk whole.T19.2 whole.B19 = true := by kernel_rfl
theorem cellB {B W : World} {b : Nat} {x y : Value} {t : TypeId} (h : Below B.heap.size B W) (hb : B.heap[b]? = some (.cells #[x, y] t (0, 0))) : W.cell? ⟨b, 0, none⟩ = some x ∧ W.cell? ⟨b, 1, none⟩ = some y := by
  have hl : b < B.heap.size := (Array.getElem?_eq_some_iff.1 hb).1
  have := (h.block b hl).trans hb
  exact ⟨by rw [cell_of_row _ b 0 _ _ _ this]; rfl, by rw [cell_of_row _ b 1 _ _ _ this]; rfl⟩
theorem below_box {B W : World} {b : Nat} {o : Obj} (h : Below B.heap.size B W) (hb : B.heap[b]? = some o) : W.heap[b]? = some o := (h.block b (Array.getElem?_eq_some_iff.1 hb).1).trans hb
theorem grown_box {W W1 : World} {row : Option Nat} (h : W.grownBy W1 row) {b : Nat} {o : Obj} (hb : W.heap[b]? = some o) (hn : some b ≠ row) : W1.heap[b]? = some o := (h.block b (Array.getElem?_eq_some_iff.1 hb).1 hn).trans hb
theorem there_box {W : World} {b : Nat} {x y : Value} {t : TypeId} (h : W.heap[b]? = some (.cells #[x, y] t (0, 0))) : W.there b 0 2 := by
  intro j hj
  refine ⟨?_, frozen_of_row _ b _ _ _ h⟩
  rw [cell_of_row _ b (0 + j) _ _ _ h]
  have : j = 0 ∨ j = 1 := by omega
  rcases this with rfl | rfl <;> rfl
theorem lt_box {W : World} {b : Nat} {o : Obj} (hb : W.heap[b]? = some o) : b < W.heap.size := (Array.getElem?_eq_some_iff.1 hb).1
set_option maxRecDepth 100000 in
set_option maxHeartbeats 8000000 in
theorem HelloWhole_core {w : World} (a0 : ByteArray) (hz : a0.size ≤ maxLen) (A1 : Option Addr) (c1 : Nat) (l1 : List Rf) (hr1 : Kd.C k63 w A1 l1.length l1) (hc1 : l1.length ≤ c1) (hm1 : l1.length ≤ maxLen)
    (Aw : Option Addr) (cw : Nat) (lw : List ByteArray) (hrw : Kd.C Kd.string w Aw lw.length lw) (hcw : lw.length ≤ cw) (hmw : lw.length ≤ maxLen)
    (Ah : Option Addr) (ch : Nat) (lh : List ByteArray) (hrh : Kd.C Kd.string w Ah lh.length lh) (hch : lh.length ≤ ch) (hmh : lh.length ≤ maxLen)
    (A3 : Option Addr) (c3 : Nat) (l3 : List Up) (hr3 : Kd.C k65 w A3 l3.length l3) (hc3 : l3.length ≤ c3) (hm3 : l3.length ≤ maxLen) (y4 : Ln) :
    Calls Tryd.prog 5 #[.string a0, .slice A1 l1.length c1, .agg #[.slice Aw lw.length cw, .slice Ah lh.length ch], .slice A3 l3.length c3, .agg #[.bool y4.f0, .string y4.f1]] w fun e w' => e = .returned (.bool true) ∧ Below w.heap.size w w' := by
  obtain ⟨g1, hg1, hs1⟩ := greatR_eq l1 (by simp only [maxLen] at hm1; omega) (k := 100000) (by omega)
  obtain ⟨g2, hg2, hs2⟩ := greatT_eq lw (by simp only [maxLen] at hmw; omega) (k := 100000) (by omega)
  obtain ⟨g3, hg3, hs3⟩ := greatT_eq lh (by simp only [maxLen] at hmh; omega) (k := 100000) (by omega)
  obtain ⟨g4, hg4, hs4⟩ := greatU_eq l3 (by simp only [maxLen] at hm3; omega) (k := 100000) (by omega)
  have HL1 := Aside0.mk hr1
  have HLw := Aside0.mk hrw
  have HLh := Aside0.mk hrh
  have HL3 := Aside0.mk hr3
  have HS := Aside0.mk (And.intro hs1 (And.intro hs2 (And.intro hs3 hs4)))
  have HG1 := Aside0.mk (fun W (h : Below w.heap.size w W) => sacristylaw09_Great.calls 100000 A1 c1 l1 g1 W (Kd.C_below HL1.out h) hc1 hg1)
  have HG2 := Aside0.mk (fun W (h : Below w.heap.size w W) => sacristylaw05_GreatTexts.calls 100000 Aw cw lw g2 W (Kd.C_below HLw.out h) hcw hg2)
  have HG3 := Aside0.mk (fun W (h : Below w.heap.size w W) => sacristylaw05_GreatTexts.calls 100000 Ah ch lh g3 W (Kd.C_below HLh.out h) hch hg3)
  have HG4 := Aside0.mk (fun W (h : Below w.heap.size w W) => sacristylaw09_GreatUpdates.calls 100000 A3 c3 l3 g4 W (Kd.C_below HL3.out h) hc3 hg4)
  have HC1 := Aside0.mk hc1
  have HCw := Aside0.mk hcw
  have HCh := Aside0.mk hch
  have HC3 := Aside0.mk hc3
  clear hs1 hs2 hs3 hs4 hg1 hg2 hg3 hg4 hr1 hrw hrh hr3 hc1 hcw hch hc3 hm1 hmw hmh hm3 hz
  go_enter Tryd.func5, Tryd.ntmps5
  go_upto_region 1 with (fail)
  generalize hW1 : World.alloc w _ = W1
  have q7 : W1.heap[w.heap.size]? = some (.cells #[.slice Aw lw.length cw, .slice Ah lh.length ch] 25 (0, 0)) := by rw [← hW1]; exact heap_alloc_new _ _
  have qs : W1.heap.size = w.heap.size + 1 := by rw [← hW1]; exact Array.size_push ..
  have qb : Below w.heap.size w W1 := by rw [← hW1]; exact below_alloc (Below.refl _ _) _
  rw [← qs]
  clear hW1
  generalize hW0 : World.alloc W1 _ = W0
  have H9 := Aside0.mk (show W0.heap[W1.heap.size]? = some (.cells #[.bool y4.f0, .string y4.f1] 49 (0, 0)) from by rw [← hW0]; exact heap_alloc_new _ _)
  have H7 := Aside0.mk (show W0.heap[w.heap.size]? = some (.cells #[.slice Aw lw.length cw, .slice Ah lh.length ch] 25 (0, 0)) from by rw [← hW0]; exact below_box (below_alloc (Below.refl _ _) _) q7)
  have HBw := Aside0.mk (show Below w.heap.size w W0 from by rw [← hW0]; exact below_alloc qb _)
  clear hW0 q7 qs qb
  generalize w.heap.size = b7 at H7 ⊢
  generalize W1.heap.size = b9 at H9 ⊢
  clear W1
  have HB := Aside0.mk (Below.refl W0.heap.size W0)
  go_upto_region 2 with (go_at_call 8; refine (head_calls _).mono ?_; rintro e X0 ⟨rfl, hb⟩; replace HB := Aside0.mk (below_step HB.out hb); clear hb)
  obtain ⟨gg, hgg⟩ : ∃ gg, gg = (g1 || (g2 || (g3 || (g4 || (decide ((a0.size : Int) > 1000) || decide ((y4.f1.size : Int) > 3000)))))) := ⟨_, rfl⟩
  have HGG := Aside0.mk hgg
  clear hgg
  go_cut [59] (fun v59 wc => v59 = .bool gg ∧ Aside0 (Below W0.heap.size W0 wc))
  case first =>
    as_aux_lemma =>
    obtain ⟨k0, k1⟩ := cellB HB.out H7.out
    obtain ⟨n0, n1⟩ := cellB HB.out H9.out
    cases g1 with
    | true =>
      as_aux_lemma =>
      go_wp2_with (first | (go_at_call 9; with_reducible refine (HG1.out _ (below_step HBw.out HB.out)).mono ?_; rintro e X1 ⟨rfl, hb⟩; replace HB := Aside0.mk (below_step HB.out hb); clear hb; clear k0 k1 n0 n1; obtain ⟨k0, k1⟩ := cellB HB.out H7.out; obtain ⟨n0, n1⟩ := cellB HB.out H9.out; clear HG1))
      go_meet
      exact ⟨by rw [HGG.out]; simp, HB⟩
    | false =>
    cases g2 with
    | true =>
      as_aux_lemma =>
      go_wp2_with (first | (go_at_call 9; with_reducible refine (HG1.out _ (below_step HBw.out HB.out)).mono ?_; rintro e X1 ⟨rfl, hb⟩; replace HB := Aside0.mk (below_step HB.out hb); clear hb; clear k0 k1 n0 n1; obtain ⟨k0, k1⟩ := cellB HB.out H7.out; obtain ⟨n0, n1⟩ := cellB HB.out H9.out; clear HG1) | (go_at_call 10; with_reducible refine (HG2.out _ (below_step HBw.out HB.out)).mono ?_; rintro e X2 ⟨rfl, hb⟩; replace HB := Aside0.mk (below_step HB.out hb); clear hb; clear k0 k1 n0 n1; obtain ⟨k0, k1⟩ := cellB HB.out H7.out; obtain ⟨n0, n1⟩ := cellB HB.out H9.out; clear HG2))
      go_meet
      exact ⟨by rw [HGG.out]; simp, HB⟩
    | false =>
    cases g3 with
    | true =>
      as_aux_lemma =>
      go_wp2_with (first | (go_at_call 9; with_reducible refine (HG1.out _ (below_step HBw.out HB.out)).mono ?_; rintro e X1 ⟨rfl, hb⟩; replace HB := Aside0.mk (below_step HB.out hb); clear hb; clear k0 k1 n0 n1; obtain ⟨k0, k1⟩ := cellB HB.out H7.out; obtain ⟨n0, n1⟩ := cellB HB.out H9.out; clear HG1) | (go_at_call 10; with_reducible refine (HG2.out _ (below_step HBw.out HB.out)).mono ?_; rintro e X2 ⟨rfl, hb⟩; replace HB := Aside0.mk (below_step HB.out hb); clear hb; clear k0 k1 n0 n1; obtain ⟨k0, k1⟩ := cellB HB.out H7.out; obtain ⟨n0, n1⟩ := cellB HB.out H9.out; clear HG2) | (go_at_call 10; with_reducible refine (HG3.out _ (below_step HBw.out HB.out)).mono ?_; rintro e X3 ⟨rfl, hb⟩; replace HB := Aside0.mk (below_step HB.out hb); clear hb; clear k0 k1 n0 n1; obtain ⟨k0, k1⟩ := cellB HB.out H7.out; obtain ⟨n0, n1⟩ := cellB HB.out H9.out; clear HG3))
      go_meet
      exact ⟨by rw [HGG.out]; simp, HB⟩
    | false =>
    cases g4 with
    | true =>
      as_aux_lemma =>
      go_wp2_with (first | (go_at_call 9; with_reducible refine (HG1.out _ (below_step HBw.out HB.out)).mono ?_; rintro e X1 ⟨rfl, hb⟩; replace HB := Aside0.mk (below_step HB.out hb); clear hb; clear k0 k1 n0 n1; obtain ⟨k0, k1⟩ := cellB HB.out H7.out; obtain ⟨n0, n1⟩ := cellB HB.out H9.out; clear HG1) | (go_at_call 10; with_reducible refine (HG2.out _ (below_step HBw.out HB.out)).mono ?_; rintro e X2 ⟨rfl, hb⟩; replace HB := Aside0.mk (below_step HB.out hb); clear hb; clear k0 k1 n0 n1; obtain ⟨k0, k1⟩ := cellB HB.out H7.out; obtain ⟨n0, n1⟩ := cellB HB.out H9.out; clear HG2) | (go_at_call 10; with_reducible refine (HG3.out _ (below_step HBw.out HB.out)).mono ?_; rintro e X3 ⟨rfl, hb⟩; replace HB := Aside0.mk (below_step HB.out hb); clear hb; clear k0 k1 n0 n1; obtain ⟨k0, k1⟩ := cellB HB.out H7.out; obtain ⟨n0, n1⟩ := cellB HB.out H9.out; clear HG3) | (go_at_call 11; with_reducible refine (HG4.out _ (below_step HBw.out HB.out)).mono ?_; rintro e X4 ⟨rfl, hb⟩; replace HB := Aside0.mk (below_step HB.out hb); clear hb; clear k0 k1 n0 n1; obtain ⟨k0, k1⟩ := cellB HB.out H7.out; obtain ⟨n0, n1⟩ := cellB HB.out H9.out; clear HG4))
      go_meet
      exact ⟨by rw [HGG.out]; simp, HB⟩
    | false =>
    by_cases tbig : (a0.size : Int) > 1000
    · have t1 : decide ((a0.size : Int) > 1000) = true := decide_eq_true tbig
      have t2 : decide ((1000 : Int) < (a0.size : Int)) = true := decide_eq_true tbig
      have t3 : decide (1000 < a0.size) = true := decide_eq_true (by omega)
      go_wp2_with (first | (go_at_call 9; with_reducible refine (HG1.out _ (below_step HBw.out HB.out)).mono ?_; rintro e X1 ⟨rfl, hb⟩; replace HB := Aside0.mk (below_step HB.out hb); clear hb; clear k0 k1 n0 n1; obtain ⟨k0, k1⟩ := cellB HB.out H7.out; obtain ⟨n0, n1⟩ := cellB HB.out H9.out; clear HG1) | (go_at_call 10; with_reducible refine (HG2.out _ (below_step HBw.out HB.out)).mono ?_; rintro e X2 ⟨rfl, hb⟩; replace HB := Aside0.mk (below_step HB.out hb); clear hb; clear k0 k1 n0 n1; obtain ⟨k0, k1⟩ := cellB HB.out H7.out; obtain ⟨n0, n1⟩ := cellB HB.out H9.out; clear HG2) | (go_at_call 10; with_reducible refine (HG3.out _ (below_step HBw.out HB.out)).mono ?_; rintro e X3 ⟨rfl, hb⟩; replace HB := Aside0.mk (below_step HB.out hb); clear hb; clear k0 k1 n0 n1; obtain ⟨k0, k1⟩ := cellB HB.out H7.out; obtain ⟨n0, n1⟩ := cellB HB.out H9.out; clear HG3) | (go_at_call 11; with_reducible refine (HG4.out _ (below_step HBw.out HB.out)).mono ?_; rintro e X4 ⟨rfl, hb⟩; replace HB := Aside0.mk (below_step HB.out hb); clear hb; clear k0 k1 n0 n1; obtain ⟨k0, k1⟩ := cellB HB.out H7.out; obtain ⟨n0, n1⟩ := cellB HB.out H9.out; clear HG4))
      go_meet
      exact ⟨by rw [HGG.out, t1]; simp, HB⟩
    · have t1 : decide ((a0.size : Int) > 1000) = false := decide_eq_false tbig
      have t2 : decide ((1000 : Int) < (a0.size : Int)) = false := decide_eq_false tbig
      have t3 : decide (1000 < a0.size) = false := decide_eq_false (by omega)
      by_cases sbig : (y4.f1.size : Int) > 3000
      · have s1 : decide ((y4.f1.size : Int) > 3000) = true := decide_eq_true sbig
        have s2 : decide ((3000 : Int) < (y4.f1.size : Int)) = true := decide_eq_true sbig
        have s3 : decide (3000 < y4.f1.size) = true := decide_eq_true (by omega)
        go_wp2_with (first | (go_at_call 9; with_reducible refine (HG1.out _ (below_step HBw.out HB.out)).mono ?_; rintro e X1 ⟨rfl, hb⟩; replace HB := Aside0.mk (below_step HB.out hb); clear hb; clear k0 k1 n0 n1; obtain ⟨k0, k1⟩ := cellB HB.out H7.out; obtain ⟨n0, n1⟩ := cellB HB.out H9.out; clear HG1) | (go_at_call 10; with_reducible refine (HG2.out _ (below_step HBw.out HB.out)).mono ?_; rintro e X2 ⟨rfl, hb⟩; replace HB := Aside0.mk (below_step HB.out hb); clear hb; clear k0 k1 n0 n1; obtain ⟨k0, k1⟩ := cellB HB.out H7.out; obtain ⟨n0, n1⟩ := cellB HB.out H9.out; clear HG2) | (go_at_call 10; with_reducible refine (HG3.out _ (below_step HBw.out HB.out)).mono ?_; rintro e X3 ⟨rfl, hb⟩; replace HB := Aside0.mk (below_step HB.out hb); clear hb; clear k0 k1 n0 n1; obtain ⟨k0, k1⟩ := cellB HB.out H7.out; obtain ⟨n0, n1⟩ := cellB HB.out H9.out; clear HG3) | (go_at_call 11; with_reducible refine (HG4.out _ (below_step HBw.out HB.out)).mono ?_; rintro e X4 ⟨rfl, hb⟩; replace HB := Aside0.mk (below_step HB.out hb); clear hb; clear k0 k1 n0 n1; obtain ⟨k0, k1⟩ := cellB HB.out H7.out; obtain ⟨n0, n1⟩ := cellB HB.out H9.out; clear HG4))
        go_meet
        exact ⟨by rw [HGG.out, t1, s1]; simp, HB⟩
      · have s1 : decide ((y4.f1.size : Int) > 3000) = false := decide_eq_false sbig
        have s2 : decide ((3000 : Int) < (y4.f1.size : Int)) = false := decide_eq_false sbig
        have s3 : decide (3000 < y4.f1.size) = false := decide_eq_false (by omega)
        go_wp2_with (first | (go_at_call 9; with_reducible refine (HG1.out _ (below_step HBw.out HB.out)).mono ?_; rintro e X1 ⟨rfl, hb⟩; replace HB := Aside0.mk (below_step HB.out hb); clear hb; clear k0 k1 n0 n1; obtain ⟨k0, k1⟩ := cellB HB.out H7.out; obtain ⟨n0, n1⟩ := cellB HB.out H9.out; clear HG1) | (go_at_call 10; with_reducible refine (HG2.out _ (below_step HBw.out HB.out)).mono ?_; rintro e X2 ⟨rfl, hb⟩; replace HB := Aside0.mk (below_step HB.out hb); clear hb; clear k0 k1 n0 n1; obtain ⟨k0, k1⟩ := cellB HB.out H7.out; obtain ⟨n0, n1⟩ := cellB HB.out H9.out; clear HG2) | (go_at_call 10; with_reducible refine (HG3.out _ (below_step HBw.out HB.out)).mono ?_; rintro e X3 ⟨rfl, hb⟩; replace HB := Aside0.mk (below_step HB.out hb); clear hb; clear k0 k1 n0 n1; obtain ⟨k0, k1⟩ := cellB HB.out H7.out; obtain ⟨n0, n1⟩ := cellB HB.out H9.out; clear HG3) | (go_at_call 11; with_reducible refine (HG4.out _ (below_step HBw.out HB.out)).mono ?_; rintro e X4 ⟨rfl, hb⟩; replace HB := Aside0.mk (below_step HB.out hb); clear hb; clear k0 k1 n0 n1; obtain ⟨k0, k1⟩ := cellB HB.out H7.out; obtain ⟨n0, n1⟩ := cellB HB.out H9.out; clear HG4))
        go_meet
        exact ⟨by rw [HGG.out, t1, s1]; simp, HB⟩
  case rest =>
  as_aux_lemma =>
    clear HG1 HG2 HG3 HG4 HB
    obtain ⟨rfl, HB⟩ := hcut
    cases gg with
    | true =>
      as_aux_lemma =>
      go_wp2
      go_ret
      exact ⟨rfl, HBw.out.trans (HB.out.mono HBw.out.size)⟩
    | false =>
    obtain ⟨b1, b2, b3, b4, b6, b8⟩ : g1 = false ∧ g2 = false ∧ g3 = false ∧ g4 = false ∧ a0.size ≤ 1000 ∧ y4.f1.size ≤ 3000 := by
      have h := HGG.out.symm
      simp only [Bool.or_eq_false_iff] at h
      refine ⟨h.1, h.2.1, h.2.2.1, h.2.2.2.1, ?_, ?_⟩
      · have := of_decide_eq_false h.2.2.2.2.1
        omega
      · have := of_decide_eq_false h.2.2.2.2.2
        omega
    have s1 := HS.out.1 b1
    have s2 := HS.out.2.1 b2
    have s3 := HS.out.2.2.1 b3
    have s4 := HS.out.2.2.2 b4
    clear b1 b2 b3 b4 HGG HS
    obtain ⟨tb, is, hT⟩ : ∃ tb is, toldF a0 l1 = (tb, is) := ⟨_, _, rfl⟩
    obtain ⟨ab, in', hA⟩ : ∃ ab i, askF lw lh = (ab, i) := ⟨_, _, rfl⟩
    obtain ⟨pb, on, hP⟩ : ∃ pb i, pushF l3 = (pb, i) := ⟨_, _, rfl⟩
    have HCT := Aside0.mk (fun W (h : Below W0.heap.size W0 W) => hello_Told.calls 4000000 a0 A1 c1 l1 _ _ W (Kd.C_below HL1.out (below_step HBw.out h)) HC1.out ((told_eq a0 l1 (by omega) (fun y hy => by have := s1.2 y hy; omega) (by omega)).trans (congrArg some hT)))
    have HCA := Aside0.mk (fun W (h : Below W0.heap.size W0 W) => hello_Ask.calls 4000000 Aw cw lw Ah ch lh _ _ W (Kd.C_below HLw.out (below_step HBw.out h)) HCw.out (Kd.C_below HLh.out (below_step HBw.out h)) HCh.out ((ask_eq lw lh (by omega) (fun y hy => by have := s2.2 y hy; omega) (fun y hy => by have := s3.2 y hy; omega) (fun y hy => by have := s2.2 y hy; omega) (fun y hy => by have := s3.2 y hy; omega)).trans (congrArg some hA)))
    have HCP := Aside0.mk (fun W (h : Below W0.heap.size W0 W) => hello_Push.calls 4000000 A3 c3 l3 _ _ W (Kd.C_below HL3.out (below_step HBw.out h)) HC3.out ((push_eq l3 (by omega) (fun y hy => by have := s4.2 y hy; exact ⟨by omega, by omega, by omega⟩) (by omega)).trans (congrArg some hP)))
    have u1 : is = true → ∃ m ts, tb.length = m + 1 ∧ tb = endsF ts ∧ tb.length ≤ 66 ∧ (∀ x ∈ tb, x.f1.size ≤ 3000) ∧ tb.length = l1.length + 2 := by
      rintro rfl
      have h1 := told_first hT
      have h2 := told_len a0 l1
      rw [hT] at h2
      have h4 : tb.length = l1.length + 2 := by rw [h1.1, ends_len]; simp [toldT]
      exact ⟨l1.length + 1, _, h4, h1.1, h2, fun x hx => by rw [h1.1] at hx; have := ends_small (told_small h1.2.1 h1.2.2) x hx; omega, h4⟩
    have u2 : in' = true → ∃ m ts, ab.length = m + 1 ∧ ab = endsF ts ∧ ab.length ≤ 1000 ∧ (∀ x ∈ ab, x.f1.size ≤ 3000) ∧ ab.length = lw.length + lh.length + 2 := by
      rintro rfl
      have h1 := ask_first hA
      have h2 := ask_len lw lh
      rw [hA] at h2
      have h4 : ab.length = lw.length + lh.length + 2 := by rw [h1.1, ends_len]; simp only [asks, List.length_append, List.length_map, List.length_cons, List.length_nil]
      exact ⟨lw.length + lh.length + 1, _, h4, h1.1, h2, fun x hx => by rw [h1.1] at hx; have := ends_small (asks_small h1.2.2.1 h1.2.2.2) x hx; omega, h4⟩
    have u3 : on = true → ∃ m ts, pb.length = m + 1 ∧ pb = endsF ts ∧ pb.length ≤ 17 ∧ (∀ x ∈ pb, x.f1.size ≤ 3000) ∧ pb.length = l3.length + 1 := by
      rintro rfl
      have h1 := push_first hP
      have h2 := push_len l3
      rw [hP] at h2
      have h4 : pb.length = l3.length + 1 := by rw [h1.1, ends_len]; simp
      exact ⟨l3.length, _, h4, h1.1, h2, fun x hx => by rw [h1.1] at hx; have := ends_small (push_small h1.2.1) x hx; omega, h4⟩
    have U1 := Aside0.mk u1
    have U2 := Aside0.mk u2
    have U3 := Aside0.mk u3
    have HY := Aside0.mk b8
    clear s1 s2 s3 s4 hT hA hP b6 b8 u1 u2 u3
    go_upto_region 5 with (go_at_call 13; with_reducible refine (HCT.out _ HB.out).mono ?_; rintro e X1 ⟨v1, rfl, ho, hb⟩; obtain ⟨At, cAt, rfl⟩ := Kd.R_slice ho; have HAt := Aside0.mk (Kd.R_reads' ho).2.2; have HAtc := Aside0.mk (Kd.R_reads' ho).2.1; replace HB := Aside0.mk (below_step HB.out hb); clear ho hb HCT)
    obtain ⟨k0, k1⟩ := cellB HB.out H7.out
    go_upto_region 6 with (go_at_call 15; with_reducible refine (HCA.out _ HB.out).mono ?_; rintro e X2 ⟨v1, rfl, ho, hb⟩; obtain ⟨Aa, cAa, rfl⟩ := Kd.R_slice ho; have HAa := Aside0.mk (Kd.R_reads' ho).2.2; have HAac := Aside0.mk (Kd.R_reads' ho).2.1; replace HB := Aside0.mk (below_step HB.out hb); replace HAt := Aside0.mk (Kd.C_below HAt.out hb); clear ho hb k0 k1 HCA)
    go_upto_region 7 with (go_at_call 17; with_reducible refine (HCP.out _ HB.out).mono ?_; rintro e X3 ⟨v1, rfl, ho, hb⟩; obtain ⟨Ap, cAp, rfl⟩ := Kd.R_slice ho; have HAp := Aside0.mk (Kd.R_reads' ho).2.2; have HApc := Aside0.mk (Kd.R_reads' ho).2.1; replace HB := Aside0.mk (below_step HB.out hb); replace HAt := Aside0.mk (Kd.C_below HAt.out hb); replace HAa := Aside0.mk (Kd.C_below HAa.out hb); clear ho hb HCP)
    have HX := Aside0.mk (show Below W0.heap.size W0 X3 from HB.out)
    replace HB := Aside0.mk (Below.refl X3.heap.size X3)
    replace H9 := Aside0.mk (below_box HX.out H9.out)
    replace H7 := Aside0.mk (below_box HX.out H7.out)
    go_upto_if 77 with fail
    go_cut [] (fun wc => Aside0 (Below X3.heap.size X3 wc))
    case first =>
      cases is with
      | false =>
        as_aux_lemma =>
        go_wp2_with fail
        go_meet
        exact HB
      | true =>
        as_aux_lemma =>
        obtain ⟨m, ts, e1, e2, e3, e4, e5⟩ := U1.out rfl
        have hy := HY.out
        have e6 : tb.length ≤ 1000 := by omega
        have HQ := Aside0.mk e6
        have em : ((tb.length : Nat) : Int) - 1 = (m : Int) := by omega
        have ec := HAtc.out
        obtain ⟨tt, htt⟩ : ∃ tt, tt = tb.take m := ⟨_, rfl⟩
        have HTL := Aside0.mk (show tt.length = tb.length - 1 from by rw [htt, List.length_take]; omega)
        have HCt := Aside0.mk (fun W (h : Below X3.heap.size X3 W) => show Kd.C k49 W At tt.length tt from by rw [htt]; exact Kd.C_take (Kd.C_below HAt.out h) (by omega))
        have ht : tt.length ≤ cAt := by rw [htt, List.length_take]; omega
        have hn1 : textsF tt = [] := by rw [htt]; have := texts_cut ts; rw [← e2, e1, Nat.add_sub_cancel] at this; exact this
        have hn2 : textsF ([] ++ tb ++ [y4]) = [] := by rw [List.nil_append, e2]; exact texts_more ts y4
        have f1 := heard_none tt hn1 (by rw [htt, List.length_take]; omega) (fun x hx => by rw [htt] at hx; have := e4 x (List.mem_of_mem_take hx); omega) (k := 4000000) (by omega)
        have f2 := heard_none ([] ++ tb ++ [y4]) hn2 (by simp only [List.length_append, List.length_nil, List.length_cons]; omega) (fun x hx => (List.mem_append.1 hx).elim (fun hx => by have := e4 x (by simpa using hx); omega) (fun hx => by rw [List.mem_singleton.1 hx]; omega)) (k := 4000000) (by omega)
        have F1 := Aside0.mk f1
        have F2 := Aside0.mk f2
        have HT := Aside0.mk ht
        have HM := Aside0.mk e1
        have z1 : (1 : Int) ≤ (tb.length : Int) := by omega
        have z2 : (tb.length : Int) ≤ 1000 := by omega
        clear em e1 e2 e3 e4 e5 e6 hn1 hn2 f1 f2 ht hy htt
        go_upto_region 9 with (go_at_call 20; have hz := hello_Heard.calls 4000000 At cAt tt _ _ _ _ (HCt.out _ HB.out) HT.out F1.out; rw [HTL.out] at hz; with_reducible refine hz.mono ?_; clear hz; rintro e X4 ⟨v1, rfl, ho, hb⟩; replace HB := Aside0.mk (below_step HB.out hb); clear ho hb F1)
        refine start_ (n := 14) (S := fun w' => Below X4.heap.size X4 w') (ds := []) #[false, false, false, false, false, false, false, false, false, false, false, false, false, false] (by kernel_rfl) rfl rfl (below_drew1 (Below.refl _ _)) (fun hHeld => ?_)
        refine with_tabW whole.tab9 whole.bits9 (fun HT_ HW_ => ?_)
        generalize X4.drew = W at hHeld ⊢
        refine pure_ (i := 1) (N := some 90) (v := ?_) (a' := ?_) #[false, true, false, false, false, false, false, false, false, false, false, false, false, false] rfl rfl (any_of HT_.out (by kernel_rfl)) (fun _ _ _ h => h) (Or.inl ⟨by rfl, ?_⟩) ?_ ?_
        rotate_left
        · intro w'
          go_simp
          with_reducible rfl
        rotate_left
        · simp only [Act.put, List.setIfInBounds_toArray, List.set_cons_zero, List.set_cons_succ, i64_w, i32_w]
          rfl
        refine take_ (i := 3) (N := some 92) (v := .agg #[.bool y4.f0, .string y4.f1]) (a' := ?_) #[false, true, false, true, false, false, false, false, false, false, false, false, false, false] rfl rfl (take_ofW HT_.out HW_.out (by kernel_rfl)) (fun _ _ _ h => h) (Or.inl ⟨by rfl, fun w' hS' => ?_⟩) hHeld ?_ ?_
        · obtain ⟨n0, n1⟩ := cellB (below_step HB.out hS') H9.out
          go_simp
        rotate_left
        · simp only [Act.put, List.setIfInBounds_toArray, List.set_cons_zero, List.set_cons_succ, i64_w, i32_w]
          rfl
        refine join_ (σ := Value × Value × Value) 9 #[true, true, true, true, true, false, false, false, false, false, false, false, false, false] (fun s => [(89, s.1), (91, s.2.1), (93, s.2.2)]) (fun s w' => Below X4.heap.size X4 w' ∧ Kd.R k49 49 w' X4.heap.size (fun _ => True) s.2.1 ([] ++ tb) ∧ Kd.R k49 49 w' X4.heap.size (fun _ => True) s.2.2 [y4] ∧ ∃ b2, s.2.1.ownBlock = some b2) ?_ ?_
        rotate_left
        · intro hJA
          refine two_ (i := 0) (j := 4) (Ni := some 89) (Nj := some 93) #[true, true, false, true, false, false, false, false, false, false, false, false, false, false] #[false, true, false, true, true, false, false, false, false, false, false, false, false, false] rfl rfl rfl rfl (two_of HT_.out (by kernel_rfl)) (by decide) (by decide) (fun K hK => ?_) (fun K hK => ?_)
          · refine Kd.R_lit_step k49 (w0 := X4) X4.heap.size 49 (by rfl) (N := 89) ?hd (xs := ([] : List Ln)) (inner := []) (ok := fun _ => True) (okp := fun _ => True) ?hr ?hp (fun _ hk => hk) trivial hHeld hHeld.size (by simp) ?_
            case hd => rfl
            case hr => first | (go_simp; done) | (go_simp; rfl)
            case hp => exact (Reps.none _ _)
            rintro v0 w0 ho0 hb hg_ ⟨b0, e0, l0⟩
            clear hg_ l0
            refine hK.out _ _ hb (fun hHeld => ?_)
            clear hK K
            refine norm_ (a' := ?_) ?_ ?_
            rotate_left
            · show Act.put _ (some 89) _ = _
              simp only [Act.put, List.setIfInBounds_toArray, List.set_cons_zero, List.set_cons_succ, i64_w, i32_w]
              rfl
            clear hb
            refine two_ (i := 2) (j := 4) (Ni := some 91) (Nj := some 93) #[true, true, true, true, false, false, false, false, false, false, false, false, false, false] #[true, true, false, true, true, false, false, false, false, false, false, false, false, false] rfl rfl rfl rfl (two_of HT_.out (by kernel_rfl)) (by decide) (by decide) (fun K hK => ?_) (fun K hK => ?_)
            · refine Kd.R_append_rows_step k49 (w0 := X4) X4.heap.size (by rfl) (.tmp 89) (.tmp 90) 27 49 (.agg #[(.bool false), (.string ⟨#[]⟩)]) 24 rfl Tryd.underlying27 info49 rfl (by decide) (by omega) v0 [] tb At tb.length cAt (fun _ => True) (fun k => some k ≠ v0.ownBlock) rfl rfl ho0 (Kd.C_below HAt.out (below_step HB.out hHeld)) (fun x cs h => by rw [k49_open h]; exact k49_mkM _ _ _ x) (fun _ h => ⟨trivial, h⟩) (fun _ _ => trivial) hHeld hHeld.size (by have := HQ.out; simp only [List.length_nil]; omega) ?_
              intro v2 w2 ho2 hb hg_ hat
              obtain ⟨b2, e2⟩ : ∃ b2, v2.ownBlock = some b2 := by
                rcases hat with h | ⟨b, h, hl⟩
                · exact ⟨b0, h.trans e0⟩
                · exact ⟨b, h⟩
              clear hg_ hat
              refine hK.out _ _ hb (fun hHeld => ?_)
              clear hK K
              refine norm_ (a' := ?_) ?_ ?_
              rotate_left
              · show Act.put _ (some 91) _ = _
                simp only [Act.put, List.setIfInBounds_toArray, List.set_cons_zero, List.set_cons_succ, i64_w, i32_w]
                rfl
              clear hb
              refine one_ (i := 4) (N := some 93) #[true, true, true, true, true, false, false, false, false, false, false, false, false, false] rfl rfl (one_of HT_.out (by kernel_rfl)) (by decide) (fun K hK => ?_)
              refine Kd.R_lit_step k49 (w0 := X4) X4.heap.size 49 (by rfl) (N := 93) ?hd (xs := [y4]) (inner := [.bool y4.f0, .string y4.f1]) (ok := fun _ => True) (okp := fun _ => True) ?hr ?hp (fun _ hk => hk) trivial hHeld hHeld.size (by simp) ?_
              case hd => rfl
              case hr => first | (go_simp; done) | (go_simp; rfl)
              case hp => exact Reps.c2 (k49_mkM _ _ _ y4) (Reps.none _ _)
              rintro v4 w4 ho4 hb hg_ ⟨b4, e4, l4⟩
              replace ho2 := Kd.R_grown1 ho2 rfl hg_ (by rw [e2]; simp)
              clear hg_ l4
              refine hK.out _ _ hb (fun hHeld => ?_)
              clear hK K
              refine norm_ (a' := ?_) ?_ ?_
              rotate_left
              · show Act.put _ (some 93) _ = _
                simp only [Act.put, List.setIfInBounds_toArray, List.set_cons_zero, List.set_cons_succ, i64_w, i32_w]
                rfl
              clear hb
              exact norm_ (by first | (simp only [putAll, Act.put, List.setIfInBounds_toArray, List.set_cons_zero, List.set_cons_succ]; done) | (simp only [putAll, Act.put, List.setIfInBounds_toArray, List.set_cons_zero, List.set_cons_succ]; rfl)) (hJA ⟨v0, v2, v4⟩ _ ⟨hHeld, ho2, ho4, b2, e2⟩)
            · refine Kd.R_lit_step k49 (w0 := X4) X4.heap.size 49 (by rfl) (N := 93) ?hd (xs := [y4]) (inner := [.bool y4.f0, .string y4.f1]) (ok := fun _ => True) (okp := fun _ => True) ?hr ?hp (fun _ hk => hk) trivial hHeld hHeld.size (by simp) ?_
              case hd => rfl
              case hr => first | (go_simp; done) | (go_simp; rfl)
              case hp => exact Reps.c2 (k49_mkM _ _ _ y4) (Reps.none _ _)
              rintro v4 w4 ho4 hb hg_ ⟨b4, e4, l4⟩
              have ne04 : b0 ≠ b4 := fun e => by have := Kd.R_lt ho0 b0 e0; omega
              replace ho0 := Kd.R_grown1 ho0 rfl hg_ (by rw [e0]; simp)
              clear hg_ l4
              refine hK.out _ _ hb (fun hHeld => ?_)
              clear hK K
              refine norm_ (a' := ?_) ?_ ?_
              rotate_left
              · show Act.put _ (some 93) _ = _
                simp only [Act.put, List.setIfInBounds_toArray, List.set_cons_zero, List.set_cons_succ, i64_w, i32_w]
                rfl
              clear hb
              refine one_ (i := 2) (N := some 91) #[true, true, true, true, true, false, false, false, false, false, false, false, false, false] rfl rfl (one_of HT_.out (by kernel_rfl)) (by decide) (fun K hK => ?_)
              refine Kd.R_append_rows_step k49 (w0 := X4) X4.heap.size (by rfl) (.tmp 89) (.tmp 90) 27 49 (.agg #[(.bool false), (.string ⟨#[]⟩)]) 24 rfl Tryd.underlying27 info49 rfl (by decide) (by omega) v0 [] tb At tb.length cAt (fun _ => True) (fun k => some k ≠ v0.ownBlock) rfl rfl ho0 (Kd.C_below HAt.out (below_step HB.out hHeld)) (fun x cs h => by rw [k49_open h]; exact k49_mkM _ _ _ x) (fun _ h => ⟨trivial, h⟩) (fun _ _ => trivial) hHeld hHeld.size (by have := HQ.out; simp only [List.length_nil]; omega) ?_
              intro v2 w2 ho2 hb hg_ hat
              obtain ⟨b2, e2⟩ : ∃ b2, v2.ownBlock = some b2 := by
                rcases hat with h | ⟨b, h, hl⟩
                · exact ⟨b0, h.trans e0⟩
                · exact ⟨b, h⟩
              replace ho4 := Kd.R_grown1 ho4 rfl hg_ (by rw [e0, e4]; exact fun e => ne04 (Option.some.inj e))
              clear hg_ hat
              refine hK.out _ _ hb (fun hHeld => ?_)
              clear hK K
              refine norm_ (a' := ?_) ?_ ?_
              rotate_left
              · show Act.put _ (some 91) _ = _
                simp only [Act.put, List.setIfInBounds_toArray, List.set_cons_zero, List.set_cons_succ, i64_w, i32_w]
                rfl
              clear hb
              exact norm_ (by first | (simp only [putAll, Act.put, List.setIfInBounds_toArray, List.set_cons_zero, List.set_cons_succ]; done) | (simp only [putAll, Act.put, List.setIfInBounds_toArray, List.set_cons_zero, List.set_cons_succ]; rfl)) (hJA ⟨v0, v2, v4⟩ _ ⟨hHeld, ho2, ho4, b2, e2⟩)
          · refine Kd.R_lit_step k49 (w0 := X4) X4.heap.size 49 (by rfl) (N := 93) ?hd (xs := [y4]) (inner := [.bool y4.f0, .string y4.f1]) (ok := fun _ => True) (okp := fun _ => True) ?hr ?hp (fun _ hk => hk) trivial hHeld hHeld.size (by simp) ?_
            case hd => rfl
            case hr => first | (go_simp; done) | (go_simp; rfl)
            case hp => exact Reps.c2 (k49_mkM _ _ _ y4) (Reps.none _ _)
            rintro v4 w4 ho4 hb hg_ ⟨b4, e4, l4⟩
            clear hg_ l4
            refine hK.out _ _ hb (fun hHeld => ?_)
            clear hK K
            refine norm_ (a' := ?_) ?_ ?_
            rotate_left
            · show Act.put _ (some 93) _ = _
              simp only [Act.put, List.setIfInBounds_toArray, List.set_cons_zero, List.set_cons_succ, i64_w, i32_w]
              rfl
            clear hb
            refine one_ (i := 0) (N := some 89) #[true, true, false, true, true, false, false, false, false, false, false, false, false, false] rfl rfl (one_of HT_.out (by kernel_rfl)) (by decide) (fun K hK => ?_)
            refine Kd.R_lit_step k49 (w0 := X4) X4.heap.size 49 (by rfl) (N := 89) ?hd (xs := ([] : List Ln)) (inner := []) (ok := fun _ => True) (okp := fun _ => True) ?hr ?hp (fun _ hk => hk) trivial hHeld hHeld.size (by simp) ?_
            case hd => rfl
            case hr => first | (go_simp; done) | (go_simp; rfl)
            case hp => exact (Reps.none _ _)
            rintro v0 w0 ho0 hb hg_ ⟨b0, e0, l0⟩
            have ne04 : b0 ≠ b4 := fun e => by have := Kd.R_lt ho4 b4 e4; omega
            replace ho4 := Kd.R_grown1 ho4 rfl hg_ (by rw [e4]; simp)
            clear hg_ l0
            refine hK.out _ _ hb (fun hHeld => ?_)
            clear hK K
            refine norm_ (a' := ?_) ?_ ?_
            rotate_left
            · show Act.put _ (some 89) _ = _
              simp only [Act.put, List.setIfInBounds_toArray, List.set_cons_zero, List.set_cons_succ, i64_w, i32_w]
              rfl
            clear hb
            refine one_ (i := 2) (N := some 91) #[true, true, true, true, true, false, false, false, false, false, false, false, false, false] rfl rfl (one_of HT_.out (by kernel_rfl)) (by decide) (fun K hK => ?_)
            refine Kd.R_append_rows_step k49 (w0 := X4) X4.heap.size (by rfl) (.tmp 89) (.tmp 90) 27 49 (.agg #[(.bool false), (.string ⟨#[]⟩)]) 24 rfl Tryd.underlying27 info49 rfl (by decide) (by omega) v0 [] tb At tb.length cAt (fun _ => True) (fun k => some k ≠ v0.ownBlock) rfl rfl ho0 (Kd.C_below HAt.out (below_step HB.out hHeld)) (fun x cs h => by rw [k49_open h]; exact k49_mkM _ _ _ x) (fun _ h => ⟨trivial, h⟩) (fun _ _ => trivial) hHeld hHeld.size (by have := HQ.out; simp only [List.length_nil]; omega) ?_
            intro v2 w2 ho2 hb hg_ hat
            obtain ⟨b2, e2⟩ : ∃ b2, v2.ownBlock = some b2 := by
              rcases hat with h | ⟨b, h, hl⟩
              · exact ⟨b0, h.trans e0⟩
              · exact ⟨b, h⟩
            replace ho4 := Kd.R_grown1 ho4 rfl hg_ (by rw [e0, e4]; exact fun e => ne04 (Option.some.inj e))
            clear hg_ hat
            refine hK.out _ _ hb (fun hHeld => ?_)
            clear hK K
            refine norm_ (a' := ?_) ?_ ?_
            rotate_left
            · show Act.put _ (some 91) _ = _
              simp only [Act.put, List.setIfInBounds_toArray, List.set_cons_zero, List.set_cons_succ, i64_w, i32_w]
              rfl
            clear hb
            exact norm_ (by first | (simp only [putAll, Act.put, List.setIfInBounds_toArray, List.set_cons_zero, List.set_cons_succ]; done) | (simp only [putAll, Act.put, List.setIfInBounds_toArray, List.set_cons_zero, List.set_cons_succ]; rfl)) (hJA ⟨v0, v2, v4⟩ _ ⟨hHeld, ho2, ho4, b2, e2⟩)
        rintro ⟨v0, v2, v4⟩ w_ ⟨hHeld, ho2, ho4, b2, e2⟩
        refine norm_ (a' := ?_) ?_ ?_
        rotate_left
        · simp only [putAll, Act.put, List.setIfInBounds_toArray, List.set_cons_zero, List.set_cons_succ]
          rfl
        refine one_ (i := 5) (N := some 94) #[true, true, true, true, true, true, false, false, false, false, false, false, false, false] rfl rfl (one_of HT_.out (by kernel_rfl)) (by decide) (fun K hK => ?_)
        obtain ⟨A4, c4, q4⟩ := Kd.R_slice ho4
        subst q4
        refine Kd.R_append_rows_step k49 (w0 := X4) X4.heap.size (by rfl) (.tmp 91) (.tmp 93) 27 49 (.agg #[(.bool false), (.string ⟨#[]⟩)]) 24 rfl Tryd.underlying27 info49 rfl (by decide) (by omega) v2 ([] ++ tb) [y4] A4 1 c4 (fun _ => True) (fun k => some k ≠ v2.ownBlock) rfl rfl ho2 (Kd.R_reads' ho4).2.2 (fun x cs h => by rw [k49_open h]; exact k49_mkM _ _ _ x) (fun _ h => ⟨trivial, h⟩) (fun _ _ => trivial) hHeld hHeld.size (by have := HQ.out; simp only [List.length_append, List.length_nil]; omega) ?_
        intro v5 w5 ho5 hb hg_ hat
        clear hg_ hat ho2 ho4 e2
        refine hK.out _ _ hb (fun hHeld => ?_)
        clear hK K
        refine norm_ (a' := ?_) ?_ ?_
        rotate_left
        · show Act.put _ (some 94) _ = _
          simp only [Act.put, List.setIfInBounds_toArray, List.set_cons_zero, List.set_cons_succ, i64_w, i32_w]
          rfl
        clear hb
        refine one_ (i := 6) (N := some 95) #[true, true, true, true, true, true, true, false, false, false, false, false, false, false] rfl rfl (one_of HT_.out (by kernel_rfl)) (by decide) (fun K hK => ?_)
        obtain ⟨A5, c5, q5⟩ := Kd.R_slice ho5
        subst q5
        have hc5 := (Kd.R_reads' ho5).2.1
        refine goes_ Tryd.func20 (by kernel_rfl) rfl #[.slice A5 ([] ++ tb ++ [y4]).length c5] (by rfl) rfl rfl (by (try simp only [List.map_toArray, List.map_cons, List.map_nil]); first | done | rfl) ?_
        refine (hello_Heard.calls 4000000 A5 c5 ([] ++ tb ++ [y4]) _ _ _ _ (Kd.R_reads' ho5).2.2 hc5 F2.out).mono ?_
        rintro e w6 ⟨u1, rfl, ho, hb⟩
        refine ⟨_, rfl, ?_⟩
        clear ho
        refine hK.out _ _ (below_step hHeld hb) (fun hHeld => ?_)
        clear hK K
        refine norm_ (a' := ?_) ?_ ?_
        rotate_left
        · show Act.put _ (some 95) _ = _
          simp only [Act.put, List.setIfInBounds_toArray, List.set_cons_zero, List.set_cons_succ, i64_w, i32_w]
          rfl
        clear ho5 hc5 hb
        refine pure_ (i := 7) (N := some 88) (v := ?_) (a' := ?_) #[true, true, true, true, true, true, true, true, false, false, false, false, false, false] rfl rfl (any_of HT_.out (by kernel_rfl)) (fun _ _ _ h => h) (Or.inl ⟨by rfl, ?_⟩) ?_ ?_
        rotate_left
        · intro w'
          go_simp
          with_reducible rfl
        rotate_left
        · simp only [Act.put, List.setIfInBounds_toArray, List.set_cons_zero, List.set_cons_succ, i64_w, i32_w]
          rfl
        refine pure_ (i := 8) (N := some 96) (v := ?_) (a' := ?_) #[true, true, true, true, true, true, true, true, true, false, false, false, false, false] rfl rfl (any_of HT_.out (by kernel_rfl)) (fun _ _ _ h => h) (Or.inl ⟨by rfl, ?_⟩) ?_ ?_
        rotate_left
        · intro w'
          go_simp
          with_reducible rfl
        rotate_left
        · simp only [Act.put, List.setIfInBounds_toArray, List.set_cons_zero, List.set_cons_succ, i64_w, i32_w]
          rfl
        refine pure_ (i := 9) (N := some 97) (v := ?_) (a' := ?_) #[true, true, true, true, true, true, true, true, true, true, false, false, false, false] rfl rfl (any_of HT_.out (by kernel_rfl)) (fun _ _ _ h => h) (Or.inl ⟨by rfl, ?_⟩) ?_ ?_
        rotate_left
        · intro w'
          go_simp
          with_reducible rfl
        rotate_left
        · simp only [Act.put, List.setIfInBounds_toArray, List.set_cons_zero, List.set_cons_succ, i64_w, i32_w]
          rfl
        refine pure_ (i := 10) (N := some 98) (v := ?_) (a' := ?_) #[true, true, true, true, true, true, true, true, true, true, true, false, false, false] rfl rfl (any_of HT_.out (by kernel_rfl)) (fun _ _ _ h => h) (Or.inl ⟨by rfl, ?_⟩) ?_ ?_
        rotate_left
        · intro w'
          go_simp
          with_reducible rfl
        rotate_left
        · simp only [Act.put, List.setIfInBounds_toArray, List.set_cons_zero, List.set_cons_succ, i64_w, i32_w]
          rfl
        refine pure_ (i := 11) (N := some 21) (v := ?_) (a' := ?_) #[true, true, true, true, true, true, true, true, true, true, true, true, false, false] rfl rfl (any_of HT_.out (by kernel_rfl)) (fun _ _ _ h => h) (Or.inl ⟨by rfl, ?_⟩) ?_ ?_
        rotate_left
        · intro w'
          go_simp
          with_reducible rfl
        rotate_left
        · simp only [Act.put, List.setIfInBounds_toArray, List.set_cons_zero, List.set_cons_succ, i64_w, i32_w]
          rfl
        refine pure_ (i := 12) (N := some 22) (v := ?_) (a' := ?_) #[true, true, true, true, true, true, true, true, true, true, true, true, true, false] rfl rfl (any_of HT_.out (by kernel_rfl)) (fun _ _ _ h => h) (Or.inl ⟨by rfl, ?_⟩) ?_ ?_
        rotate_left
        · intro w'
          go_simp
          with_reducible rfl
        rotate_left
        · simp only [Act.put, List.setIfInBounds_toArray, List.set_cons_zero, List.set_cons_succ, i64_w, i32_w]
          rfl
        refine pure_ (i := 13) (N := some 23) (v := ?_) (a' := ?_) #[true, true, true, true, true, true, true, true, true, true, true, true, true, true] rfl rfl (any_of HT_.out (by kernel_rfl)) (fun _ _ _ h => h) (Or.inl ⟨by rfl, ?_⟩) ?_ ?_
        rotate_left
        · intro w'
          go_simp
          with_reducible rfl
        rotate_left
        · simp only [Act.put, List.setIfInBounds_toArray, List.set_cons_zero, List.set_cons_succ, i64_w, i32_w]
          rfl
        refine done_ (done_of HT_.out (by kernel_rfl)) ?_
        replace HB := Aside0.mk (below_step HB.out hHeld)
        clear hHeld
        go_wp2_with fail
        go_meet
        exact HB
    case rest =>
    as_aux_lemma =>
    clear HB
    have HB := hcut
    clear hcut
    go_upto_if 103 with fail
    go_cut [] (fun wc => Aside0 (Below X3.heap.size X3 wc))
    case first =>
      cases in' with
      | false =>
        as_aux_lemma =>
        go_wp2_with fail
        go_meet
        exact HB
      | true =>
        as_aux_lemma =>
        obtain ⟨m, ts, e1, e2, e3, e4, e5⟩ := U2.out rfl
        have hy := HY.out
        have e6 : ab.length ≤ 1000 := by omega
        have HQ := Aside0.mk e6
        have em : ((ab.length : Nat) : Int) - 1 = (m : Int) := by omega
        have ec := HAac.out
        obtain ⟨tt, htt⟩ : ∃ tt, tt = ab.take m := ⟨_, rfl⟩
        have HTL := Aside0.mk (show tt.length = ab.length - 1 from by rw [htt, List.length_take]; omega)
        have HCt := Aside0.mk (fun W (h : Below X3.heap.size X3 W) => show Kd.C k49 W Aa tt.length tt from by rw [htt]; exact Kd.C_take (Kd.C_below HAa.out h) (by omega))
        have ht : tt.length ≤ cAa := by rw [htt, List.length_take]; omega
        have hn1 : textsF tt = [] := by rw [htt]; have := texts_cut ts; rw [← e2, e1, Nat.add_sub_cancel] at this; exact this
        have hn2 : textsF ([] ++ ab ++ [y4]) = [] := by rw [List.nil_append, e2]; exact texts_more ts y4
        have f1 := asked_none tt hn1 (by rw [htt, List.length_take]; omega) (fun x hx => by rw [htt] at hx; have := e4 x (List.mem_of_mem_take hx); omega) (k := 4000000) (by omega)
        have f2 := asked_none ([] ++ ab ++ [y4]) hn2 (by simp only [List.length_append, List.length_nil, List.length_cons]; omega) (fun x hx => (List.mem_append.1 hx).elim (fun hx => by have := e4 x (by simpa using hx); omega) (fun hx => by rw [List.mem_singleton.1 hx]; omega)) (k := 4000000) (by omega)
        have F1 := Aside0.mk f1
        have F2 := Aside0.mk f2
        have HT := Aside0.mk ht
        have HM := Aside0.mk e1
        have z1 : (1 : Int) ≤ (ab.length : Int) := by omega
        have z2 : (ab.length : Int) ≤ 1000 := by omega
        clear em e1 e2 e3 e4 e5 e6 hn1 hn2 f1 f2 ht hy htt
        go_upto_region 14 with (go_at_call 22; have hz := hello_Asked.calls 4000000 Aa cAa tt _ _ _ _ (HCt.out _ HB.out) HT.out F1.out; rw [HTL.out] at hz; with_reducible refine hz.mono ?_; clear hz; rintro e X9 ⟨v1, v2, rfl, ho, ho', hb⟩; obtain ⟨Ax, cx, rfl⟩ := Kd.R_slice ho; obtain ⟨Ay, cy, rfl⟩ := Kd.R_slice ho'; replace HB := Aside0.mk (below_step HB.out hb); clear ho ho' hb F1)
        generalize hX : World.alloc X9 _ = X4
        replace HB := Aside0.mk (show Below X3.heap.size X3 X4 from by rw [← hX]; exact below_alloc HB.out _)
        clear hX
        refine start_ (n := 13) (S := fun w' => Below X4.heap.size X4 w') (ds := []) #[false, false, false, false, false, false, false, false, false, false, false, false, false] (by kernel_rfl) rfl rfl (below_drew1 (Below.refl _ _)) (fun hHeld => ?_)
        refine with_tabW whole.tab14 whole.bits14 (fun HT_ HW_ => ?_)
        generalize X4.drew = W at hHeld ⊢
        refine pure_ (i := 1) (N := some 115) (v := ?_) (a' := ?_) #[false, true, false, false, false, false, false, false, false, false, false, false, false] rfl rfl (any_of HT_.out (by kernel_rfl)) (fun _ _ _ h => h) (Or.inl ⟨by rfl, ?_⟩) ?_ ?_
        rotate_left
        · intro w'
          go_simp
          with_reducible rfl
        rotate_left
        · simp only [Act.put, List.setIfInBounds_toArray, List.set_cons_zero, List.set_cons_succ, i64_w, i32_w]
          rfl
        refine take_ (i := 3) (N := some 117) (v := .agg #[.bool y4.f0, .string y4.f1]) (a' := ?_) #[false, true, false, true, false, false, false, false, false, false, false, false, false] rfl rfl (take_ofW HT_.out HW_.out (by kernel_rfl)) (fun _ _ _ h => h) (Or.inl ⟨by rfl, fun w' hS' => ?_⟩) hHeld ?_ ?_
        · obtain ⟨n0, n1⟩ := cellB (below_step HB.out hS') H9.out
          go_simp
        rotate_left
        · simp only [Act.put, List.setIfInBounds_toArray, List.set_cons_zero, List.set_cons_succ, i64_w, i32_w]
          rfl
        refine join_ (σ := Value × Value × Value × Nat) 7 #[true, true, true, true, true, false, false, false, false, false, true, false, false] (fun s => [(114, s.1), (116, s.2.1), (118, s.2.2.1), (26, .pointer (some ⟨s.2.2.2, 0, none⟩))]) (fun s w' => Below X4.heap.size X4 w' ∧ Kd.R k49 49 w' X4.heap.size (fun _ => True) s.2.1 ([] ++ ab) ∧ Kd.R k49 49 w' X4.heap.size (fun _ => True) s.2.2.1 [y4] ∧ ∃ b2, s.2.1.ownBlock = some b2 ∧ b2 ≠ s.2.2.2 ∧ w'.heap[s.2.2.2]? = some (.cells #[.slice none 0 0, .slice none 0 0] 25 (0, 0)) ∧ X4.heap.size ≤ s.2.2.2) ?_ ?_
        rotate_left
        · intro hJB
          refine join_ (σ := Value × Value × Value) 8 #[true, true, true, true, true, false, false, false, false, false, false, false, false] (fun s => [(114, s.1), (116, s.2.1), (118, s.2.2)]) (fun s w' => Below X4.heap.size X4 w' ∧ Kd.R k49 49 w' X4.heap.size (fun _ => True) s.2.1 ([] ++ ab) ∧ Kd.R k49 49 w' X4.heap.size (fun _ => True) s.2.2 [y4] ∧ ∃ b2, s.2.1.ownBlock = some b2) ?_ ?_
          rotate_left
          · intro hJA
            refine three_ (i := 0) (j := 4) (k := 10) (Ni := some 114) (Nj := some 118) (Nk := some 26) #[true, true, false, true, false, false, false, false, false, false, false, false, false] #[false, true, false, true, true, false, false, false, false, false, false, false, false] #[false, true, false, true, false, false, false, false, false, false, true, false, false] rfl rfl rfl rfl rfl rfl (three_of HT_.out (by kernel_rfl)) (by decide) (by decide) (by decide) (fun K hK => ?_) (fun K hK => ?_) (fun K hK => ?_)
            · refine Kd.R_lit_step k49 (w0 := X4) X4.heap.size 49 (by rfl) (N := 114) ?hd (xs := ([] : List Ln)) (inner := []) (ok := fun _ => True) (okp := fun _ => True) ?hr ?hp (fun _ hk => hk) trivial hHeld hHeld.size (by simp) ?_
              case hd => rfl
              case hr => first | (go_simp; done) | (go_simp; rfl)
              case hp => exact (Reps.none _ _)
              rintro v0 w0 ho0 hb hg_ ⟨b0, e0, l0⟩
              clear hg_ l0
              refine hK.out _ _ hb (fun hHeld => ?_)
              clear hK K
              refine norm_ (a' := ?_) ?_ ?_
              rotate_left
              · show Act.put _ (some 114) _ = _
                simp only [Act.put, List.setIfInBounds_toArray, List.set_cons_zero, List.set_cons_succ, i64_w, i32_w]
                rfl
              clear hb
              refine three_ (i := 2) (j := 4) (k := 10) (Ni := some 116) (Nj := some 118) (Nk := some 26) #[true, true, true, true, false, false, false, false, false, false, false, false, false] #[true, true, false, true, true, false, false, false, false, false, false, false, false] #[true, true, false, true, false, false, false, false, false, false, true, false, false] rfl rfl rfl rfl rfl rfl (three_of HT_.out (by kernel_rfl)) (by decide) (by decide) (by decide) (fun K hK => ?_) (fun K hK => ?_) (fun K hK => ?_)
              · refine Kd.R_append_rows_step k49 (w0 := X4) X4.heap.size (by rfl) (.tmp 114) (.tmp 115) 27 49 (.agg #[(.bool false), (.string ⟨#[]⟩)]) 24 rfl Tryd.underlying27 info49 rfl (by decide) (by omega) v0 [] ab Aa ab.length cAa (fun _ => True) (fun k => some k ≠ v0.ownBlock) rfl rfl ho0 (Kd.C_below HAa.out (below_step HB.out hHeld)) (fun x cs h => by rw [k49_open h]; exact k49_mkM _ _ _ x) (fun _ h => ⟨trivial, h⟩) (fun _ _ => trivial) hHeld hHeld.size (by have := HQ.out; simp only [List.length_nil]; omega) ?_
                intro v2 w2 ho2 hb hg_ hat
                obtain ⟨b2, e2⟩ : ∃ b2, v2.ownBlock = some b2 := by
                  rcases hat with h | ⟨b, h, hl⟩
                  · exact ⟨b0, h.trans e0⟩
                  · exact ⟨b, h⟩
                clear hg_ hat
                refine hK.out _ _ hb (fun hHeld => ?_)
                clear hK K
                refine norm_ (a' := ?_) ?_ ?_
                rotate_left
                · show Act.put _ (some 116) _ = _
                  simp only [Act.put, List.setIfInBounds_toArray, List.set_cons_zero, List.set_cons_succ, i64_w, i32_w]
                  rfl
                clear hb
                refine two_ (i := 4) (j := 10) (Ni := some 118) (Nj := some 26) #[true, true, true, true, true, false, false, false, false, false, false, false, false] #[true, true, true, true, false, false, false, false, false, false, true, false, false] rfl rfl rfl rfl (two_of HT_.out (by kernel_rfl)) (by decide) (by decide) (fun K hK => ?_) (fun K hK => ?_)
                · refine Kd.R_lit_step k49 (w0 := X4) X4.heap.size 49 (by rfl) (N := 118) ?hd (xs := [y4]) (inner := [.bool y4.f0, .string y4.f1]) (ok := fun _ => True) (okp := fun _ => True) ?hr ?hp (fun _ hk => hk) trivial hHeld hHeld.size (by simp) ?_
                  case hd => rfl
                  case hr => first | (go_simp; done) | (go_simp; rfl)
                  case hp => exact Reps.c2 (k49_mkM _ _ _ y4) (Reps.none _ _)
                  rintro v4 w4 ho4 hb hg_ ⟨b4, e4, l4⟩
                  replace ho2 := Kd.R_grown1 ho2 rfl hg_ (by rw [e2]; simp)
                  clear hg_ l4
                  refine hK.out _ _ hb (fun hHeld => ?_)
                  clear hK K
                  refine norm_ (a' := ?_) ?_ ?_
                  rotate_left
                  · show Act.put _ (some 118) _ = _
                    simp only [Act.put, List.setIfInBounds_toArray, List.set_cons_zero, List.set_cons_succ, i64_w, i32_w]
                    rfl
                  clear hb
                  exact norm_ (by first | (simp only [putAll, Act.put, List.setIfInBounds_toArray, List.set_cons_zero, List.set_cons_succ]; done) | (simp only [putAll, Act.put, List.setIfInBounds_toArray, List.set_cons_zero, List.set_cons_succ]; rfl)) (hJA ⟨v0, v2, v4⟩ _ ⟨hHeld, ho2, ho4, b2, e2⟩)
                · refine value_ (w1 := ?_) (v := ?_) (by rfl) rfl ?_ ?_
                  rotate_left 2
                  · go_simp
                    constructor
                    · rfl
                    · rfl
                  generalize hwx : World.alloc _ _ = wx
                  have hbx : Below w2.heap.size w2 wx := by rw [← hwx]; exact below_alloc (Below.refl _ _) _
                  have hx : wx.heap[w2.heap.size]? = some (.cells #[.slice none 0 0, .slice none 0 0] 25 (0, 0)) := by rw [← hwx]; exact heap_alloc_new _ _
                  have n2x : b2 ≠ w2.heap.size := fun e => by have := Kd.R_lt ho2 b2 e2; omega
                  replace ho2 := Kd.R_below ho2 hbx
                  have lx : X4.heap.size ≤ w2.heap.size := hHeld.size
                  have hb := hHeld.trans (hbx.mono hHeld.size)
                  clear hwx hbx
                  generalize w2.heap.size = bx at hx lx n2x ⊢
                  refine hK.out _ _ hb (fun hHeld => ?_)
                  clear hK K
                  refine norm_ (a' := ?_) ?_ ?_
                  rotate_left
                  · show Act.put _ (some 26) _ = _
                    simp only [Act.put, List.setIfInBounds_toArray, List.set_cons_zero, List.set_cons_succ, i64_w, i32_w]
                    rfl
                  clear hb
                  refine one_ (i := 4) (N := some 118) #[true, true, true, true, true, false, false, false, false, false, true, false, false] rfl rfl (one_of HT_.out (by kernel_rfl)) (by decide) (fun K hK => ?_)
                  refine Kd.R_lit_step k49 (w0 := X4) X4.heap.size 49 (by rfl) (N := 118) ?hd (xs := [y4]) (inner := [.bool y4.f0, .string y4.f1]) (ok := fun _ => True) (okp := fun _ => True) ?hr ?hp (fun _ hk => hk) trivial hHeld hHeld.size (by simp) ?_
                  case hd => rfl
                  case hr => first | (go_simp; done) | (go_simp; rfl)
                  case hp => exact Reps.c2 (k49_mkM _ _ _ y4) (Reps.none _ _)
                  rintro v4 w4 ho4 hb hg_ ⟨b4, e4, l4⟩
                  replace ho2 := Kd.R_grown1 ho2 rfl hg_ (by rw [e2]; simp)
                  replace hx := grown_box hg_ hx (by simp)
                  clear hg_ l4
                  refine hK.out _ _ hb (fun hHeld => ?_)
                  clear hK K
                  refine norm_ (a' := ?_) ?_ ?_
                  rotate_left
                  · show Act.put _ (some 118) _ = _
                    simp only [Act.put, List.setIfInBounds_toArray, List.set_cons_zero, List.set_cons_succ, i64_w, i32_w]
                    rfl
                  clear hb
                  exact norm_ (by first | (simp only [putAll, Act.put, List.setIfInBounds_toArray, List.set_cons_zero, List.set_cons_succ]; done) | (simp only [putAll, Act.put, List.setIfInBounds_toArray, List.set_cons_zero, List.set_cons_succ]; rfl)) (hJB ⟨v0, v2, v4, bx⟩ _ ⟨hHeld, ho2, ho4, b2, e2, n2x, hx, lx⟩)
              · refine Kd.R_lit_step k49 (w0 := X4) X4.heap.size 49 (by rfl) (N := 118) ?hd (xs := [y4]) (inner := [.bool y4.f0, .string y4.f1]) (ok := fun _ => True) (okp := fun _ => True) ?hr ?hp (fun _ hk => hk) trivial hHeld hHeld.size (by simp) ?_
                case hd => rfl
                case hr => first | (go_simp; done) | (go_simp; rfl)
                case hp => exact Reps.c2 (k49_mkM _ _ _ y4) (Reps.none _ _)
                rintro v4 w4 ho4 hb hg_ ⟨b4, e4, l4⟩
                have ne04 : b0 ≠ b4 := fun e => by have := Kd.R_lt ho0 b0 e0; omega
                replace ho0 := Kd.R_grown1 ho0 rfl hg_ (by rw [e0]; simp)
                clear hg_ l4
                refine hK.out _ _ hb (fun hHeld => ?_)
                clear hK K
                refine norm_ (a' := ?_) ?_ ?_
                rotate_left
                · show Act.put _ (some 118) _ = _
                  simp only [Act.put, List.setIfInBounds_toArray, List.set_cons_zero, List.set_cons_succ, i64_w, i32_w]
                  rfl
                clear hb
                refine two_ (i := 2) (j := 10) (Ni := some 116) (Nj := some 26) #[true, true, true, true, true, false, false, false, false, false, false, false, false] #[true, true, false, true, true, false, false, false, false, false, true, false, false] rfl rfl rfl rfl (two_of HT_.out (by kernel_rfl)) (by decide) (by decide) (fun K hK => ?_) (fun K hK => ?_)
                · refine Kd.R_append_rows_step k49 (w0 := X4) X4.heap.size (by rfl) (.tmp 114) (.tmp 115) 27 49 (.agg #[(.bool false), (.string ⟨#[]⟩)]) 24 rfl Tryd.underlying27 info49 rfl (by decide) (by omega) v0 [] ab Aa ab.length cAa (fun _ => True) (fun k => some k ≠ v0.ownBlock) rfl rfl ho0 (Kd.C_below HAa.out (below_step HB.out hHeld)) (fun x cs h => by rw [k49_open h]; exact k49_mkM _ _ _ x) (fun _ h => ⟨trivial, h⟩) (fun _ _ => trivial) hHeld hHeld.size (by have := HQ.out; simp only [List.length_nil]; omega) ?_
                  intro v2 w2 ho2 hb hg_ hat
                  obtain ⟨b2, e2⟩ : ∃ b2, v2.ownBlock = some b2 := by
                    rcases hat with h | ⟨b, h, hl⟩
                    · exact ⟨b0, h.trans e0⟩
                    · exact ⟨b, h⟩
                  replace ho4 := Kd.R_grown1 ho4 rfl hg_ (by rw [e0, e4]; exact fun e => ne04 (Option.some.inj e))
                  clear hg_ hat
                  refine hK.out _ _ hb (fun hHeld => ?_)
                  clear hK K
                  refine norm_ (a' := ?_) ?_ ?_
                  rotate_left
                  · show Act.put _ (some 116) _ = _
                    simp only [Act.put, List.setIfInBounds_toArray, List.set_cons_zero, List.set_cons_succ, i64_w, i32_w]
                    rfl
                  clear hb
                  exact norm_ (by first | (simp only [putAll, Act.put, List.setIfInBounds_toArray, List.set_cons_zero, List.set_cons_succ]; done) | (simp only [putAll, Act.put, List.setIfInBounds_toArray, List.set_cons_zero, List.set_cons_succ]; rfl)) (hJA ⟨v0, v2, v4⟩ _ ⟨hHeld, ho2, ho4, b2, e2⟩)
                · refine value_ (w1 := ?_) (v := ?_) (by rfl) rfl ?_ ?_
                  rotate_left 2
                  · go_simp
                    constructor
                    · rfl
                    · rfl
                  generalize hwx : World.alloc _ _ = wx
                  have hbx : Below w4.heap.size w4 wx := by rw [← hwx]; exact below_alloc (Below.refl _ _) _
                  have hx : wx.heap[w4.heap.size]? = some (.cells #[.slice none 0 0, .slice none 0 0] 25 (0, 0)) := by rw [← hwx]; exact heap_alloc_new _ _
                  have ne0x : b0 ≠ w4.heap.size := fun e => by have := Kd.R_lt ho0 b0 e0; omega
                  replace ho0 := Kd.R_below ho0 hbx
                  replace ho4 := Kd.R_below ho4 hbx
                  have lx : X4.heap.size ≤ w4.heap.size := hHeld.size
                  have hb := hHeld.trans (hbx.mono hHeld.size)
                  clear hwx hbx
                  generalize w4.heap.size = bx at hx lx ne0x ⊢
                  refine hK.out _ _ hb (fun hHeld => ?_)
                  clear hK K
                  refine norm_ (a' := ?_) ?_ ?_
                  rotate_left
                  · show Act.put _ (some 26) _ = _
                    simp only [Act.put, List.setIfInBounds_toArray, List.set_cons_zero, List.set_cons_succ, i64_w, i32_w]
                    rfl
                  clear hb
                  refine one_ (i := 2) (N := some 116) #[true, true, true, true, true, false, false, false, false, false, true, false, false] rfl rfl (one_of HT_.out (by kernel_rfl)) (by decide) (fun K hK => ?_)
                  refine Kd.R_append_rows_step k49 (w0 := X4) X4.heap.size (by rfl) (.tmp 114) (.tmp 115) 27 49 (.agg #[(.bool false), (.string ⟨#[]⟩)]) 24 rfl Tryd.underlying27 info49 rfl (by decide) (by omega) v0 [] ab Aa ab.length cAa (fun _ => True) (fun k => some k ≠ v0.ownBlock) rfl rfl ho0 (Kd.C_below HAa.out (below_step HB.out hHeld)) (fun x cs h => by rw [k49_open h]; exact k49_mkM _ _ _ x) (fun _ h => ⟨trivial, h⟩) (fun _ _ => trivial) hHeld hHeld.size (by have := HQ.out; simp only [List.length_nil]; omega) ?_
                  intro v2 w2 ho2 hb hg_ hat
                  obtain ⟨b2, e2, n2x⟩ : ∃ b2, v2.ownBlock = some b2 ∧ b2 ≠ bx := by
                    rcases hat with h | ⟨b, h, hl⟩
                    · exact ⟨b0, h.trans e0, ne0x⟩
                    · exact ⟨b, h, fun e => by have := lt_box hx; omega⟩
                  replace ho4 := Kd.R_grown1 ho4 rfl hg_ (by rw [e0, e4]; exact fun e => ne04 (Option.some.inj e))
                  replace hx := grown_box hg_ hx (by rw [e0]; exact fun e => ne0x (Option.some.inj e).symm)
                  clear hg_ hat
                  refine hK.out _ _ hb (fun hHeld => ?_)
                  clear hK K
                  refine norm_ (a' := ?_) ?_ ?_
                  rotate_left
                  · show Act.put _ (some 116) _ = _
                    simp only [Act.put, List.setIfInBounds_toArray, List.set_cons_zero, List.set_cons_succ, i64_w, i32_w]
                    rfl
                  clear hb
                  exact norm_ (by first | (simp only [putAll, Act.put, List.setIfInBounds_toArray, List.set_cons_zero, List.set_cons_succ]; done) | (simp only [putAll, Act.put, List.setIfInBounds_toArray, List.set_cons_zero, List.set_cons_succ]; rfl)) (hJB ⟨v0, v2, v4, bx⟩ _ ⟨hHeld, ho2, ho4, b2, e2, n2x, hx, lx⟩)
              · refine value_ (w1 := ?_) (v := ?_) (by rfl) rfl ?_ ?_
                rotate_left 2
                · go_simp
                  constructor
                  · rfl
                  · rfl
                generalize hwx : World.alloc _ _ = wx
                have hbx : Below w0.heap.size w0 wx := by rw [← hwx]; exact below_alloc (Below.refl _ _) _
                have hx : wx.heap[w0.heap.size]? = some (.cells #[.slice none 0 0, .slice none 0 0] 25 (0, 0)) := by rw [← hwx]; exact heap_alloc_new _ _
                have ne0x : b0 ≠ w0.heap.size := fun e => by have := Kd.R_lt ho0 b0 e0; omega
                replace ho0 := Kd.R_below ho0 hbx
                have lx : X4.heap.size ≤ w0.heap.size := hHeld.size
                have hb := hHeld.trans (hbx.mono hHeld.size)
                clear hwx hbx
                generalize w0.heap.size = bx at hx lx ne0x ⊢
                refine hK.out _ _ hb (fun hHeld => ?_)
                clear hK K
                refine norm_ (a' := ?_) ?_ ?_
                rotate_left
                · show Act.put _ (some 26) _ = _
                  simp only [Act.put, List.setIfInBounds_toArray, List.set_cons_zero, List.set_cons_succ, i64_w, i32_w]
                  rfl
                clear hb
                refine two_ (i := 2) (j := 4) (Ni := some 116) (Nj := some 118) #[true, true, true, true, false, false, false, false, false, false, true, false, false] #[true, true, false, true, true, false, false, false, false, false, true, false, false] rfl rfl rfl rfl (two_of HT_.out (by kernel_rfl)) (by decide) (by decide) (fun K hK => ?_) (fun K hK => ?_)
                · refine Kd.R_append_rows_step k49 (w0 := X4) X4.heap.size (by rfl) (.tmp 114) (.tmp 115) 27 49 (.agg #[(.bool false), (.string ⟨#[]⟩)]) 24 rfl Tryd.underlying27 info49 rfl (by decide) (by omega) v0 [] ab Aa ab.length cAa (fun _ => True) (fun k => some k ≠ v0.ownBlock) rfl rfl ho0 (Kd.C_below HAa.out (below_step HB.out hHeld)) (fun x cs h => by rw [k49_open h]; exact k49_mkM _ _ _ x) (fun _ h => ⟨trivial, h⟩) (fun _ _ => trivial) hHeld hHeld.size (by have := HQ.out; simp only [List.length_nil]; omega) ?_
                  intro v2 w2 ho2 hb hg_ hat
                  obtain ⟨b2, e2, n2x⟩ : ∃ b2, v2.ownBlock = some b2 ∧ b2 ≠ bx := by
                    rcases hat with h | ⟨b, h, hl⟩
                    · exact ⟨b0, h.trans e0, ne0x⟩
                    · exact ⟨b, h, fun e => by have := lt_box hx; omega⟩
                  replace hx := grown_box hg_ hx (by rw [e0]; exact fun e => ne0x (Option.some.inj e).symm)
                  clear hg_ hat
                  refine hK.out _ _ hb (fun hHeld => ?_)
                  clear hK K
                  refine norm_ (a' := ?_) ?_ ?_
                  rotate_left
                  · show Act.put _ (some 116) _ = _
                    simp only [Act.put, List.setIfInBounds_toArray, List.set_cons_zero, List.set_cons_succ, i64_w, i32_w]
                    rfl
                  clear hb
                  refine one_ (i := 4) (N := some 118) #[true, true, true, true, true, false, false, false, false, false, true, false, false] rfl rfl (one_of HT_.out (by kernel_rfl)) (by decide) (fun K hK => ?_)
                  refine Kd.R_lit_step k49 (w0 := X4) X4.heap.size 49 (by rfl) (N := 118) ?hd (xs := [y4]) (inner := [.bool y4.f0, .string y4.f1]) (ok := fun _ => True) (okp := fun _ => True) ?hr ?hp (fun _ hk => hk) trivial hHeld hHeld.size (by simp) ?_
                  case hd => rfl
                  case hr => first | (go_simp; done) | (go_simp; rfl)
                  case hp => exact Reps.c2 (k49_mkM _ _ _ y4) (Reps.none _ _)
                  rintro v4 w4 ho4 hb hg_ ⟨b4, e4, l4⟩
                  replace ho2 := Kd.R_grown1 ho2 rfl hg_ (by rw [e2]; simp)
                  replace hx := grown_box hg_ hx (by simp)
                  clear hg_ l4
                  refine hK.out _ _ hb (fun hHeld => ?_)
                  clear hK K
                  refine norm_ (a' := ?_) ?_ ?_
                  rotate_left
                  · show Act.put _ (some 118) _ = _
                    simp only [Act.put, List.setIfInBounds_toArray, List.set_cons_zero, List.set_cons_succ, i64_w, i32_w]
                    rfl
                  clear hb
                  exact norm_ (by first | (simp only [putAll, Act.put, List.setIfInBounds_toArray, List.set_cons_zero, List.set_cons_succ]; done) | (simp only [putAll, Act.put, List.setIfInBounds_toArray, List.set_cons_zero, List.set_cons_succ]; rfl)) (hJB ⟨v0, v2, v4, bx⟩ _ ⟨hHeld, ho2, ho4, b2, e2, n2x, hx, lx⟩)
                · refine Kd.R_lit_step k49 (w0 := X4) X4.heap.size 49 (by rfl) (N := 118) ?hd (xs := [y4]) (inner := [.bool y4.f0, .string y4.f1]) (ok := fun _ => True) (okp := fun _ => True) ?hr ?hp (fun _ hk => hk) trivial hHeld hHeld.size (by simp) ?_
                  case hd => rfl
                  case hr => first | (go_simp; done) | (go_simp; rfl)
                  case hp => exact Reps.c2 (k49_mkM _ _ _ y4) (Reps.none _ _)
                  rintro v4 w4 ho4 hb hg_ ⟨b4, e4, l4⟩
                  have ne04 : b0 ≠ b4 := fun e => by have := Kd.R_lt ho0 b0 e0; omega
                  replace ho0 := Kd.R_grown1 ho0 rfl hg_ (by rw [e0]; simp)
                  replace hx := grown_box hg_ hx (by simp)
                  clear hg_ l4
                  refine hK.out _ _ hb (fun hHeld => ?_)
                  clear hK K
                  refine norm_ (a' := ?_) ?_ ?_
                  rotate_left
                  · show Act.put _ (some 118) _ = _
                    simp only [Act.put, List.setIfInBounds_toArray, List.set_cons_zero, List.set_cons_succ, i64_w, i32_w]
                    rfl
                  clear hb
                  refine one_ (i := 2) (N := some 116) #[true, true, true, true, true, false, false, false, false, false, true, false, false] rfl rfl (one_of HT_.out (by kernel_rfl)) (by decide) (fun K hK => ?_)
                  refine Kd.R_append_rows_step k49 (w0 := X4) X4.heap.size (by rfl) (.tmp 114) (.tmp 115) 27 49 (.agg #[(.bool false), (.string ⟨#[]⟩)]) 24 rfl Tryd.underlying27 info49 rfl (by decide) (by omega) v0 [] ab Aa ab.length cAa (fun _ => True) (fun k => some k ≠ v0.ownBlock) rfl rfl ho0 (Kd.C_below HAa.out (below_step HB.out hHeld)) (fun x cs h => by rw [k49_open h]; exact k49_mkM _ _ _ x) (fun _ h => ⟨trivial, h⟩) (fun _ _ => trivial) hHeld hHeld.size (by have := HQ.out; simp only [List.length_nil]; omega) ?_
                  intro v2 w2 ho2 hb hg_ hat
                  obtain ⟨b2, e2, n2x⟩ : ∃ b2, v2.ownBlock = some b2 ∧ b2 ≠ bx := by
                    rcases hat with h | ⟨b, h, hl⟩
                    · exact ⟨b0, h.trans e0, ne0x⟩
                    · exact ⟨b, h, fun e => by have := lt_box hx; omega⟩
                  replace ho4 := Kd.R_grown1 ho4 rfl hg_ (by rw [e0, e4]; exact fun e => ne04 (Option.some.inj e))
                  replace hx := grown_box hg_ hx (by rw [e0]; exact fun e => ne0x (Option.some.inj e).symm)
                  clear hg_ hat
                  refine hK.out _ _ hb (fun hHeld => ?_)
                  clear hK K
                  refine norm_ (a' := ?_) ?_ ?_
                  rotate_left
                  · show Act.put _ (some 116) _ = _
                    simp only [Act.put, List.setIfInBounds_toArray, List.set_cons_zero, List.set_cons_succ, i64_w, i32_w]
                    rfl
                  clear hb
                  exact norm_ (by first | (simp only [putAll, Act.put, List.setIfInBounds_toArray, List.set_cons_zero, List.set_cons_succ]; done) | (simp only [putAll, Act.put, List.setIfInBounds_toArray, List.set_cons_zero, List.set_cons_succ]; rfl)) (hJB ⟨v0, v2, v4, bx⟩ _ ⟨hHeld, ho2, ho4, b2, e2, n2x, hx, lx⟩)
            · refine Kd.R_lit_step k49 (w0 := X4) X4.heap.size 49 (by rfl) (N := 118) ?hd (xs := [y4]) (inner := [.bool y4.f0, .string y4.f1]) (ok := fun _ => True) (okp := fun _ => True) ?hr ?hp (fun _ hk => hk) trivial hHeld hHeld.size (by simp) ?_
              case hd => rfl
              case hr => first | (go_simp; done) | (go_simp; rfl)
              case hp => exact Reps.c2 (k49_mkM _ _ _ y4) (Reps.none _ _)
              rintro v4 w4 ho4 hb hg_ ⟨b4, e4, l4⟩
              clear hg_ l4
              refine hK.out _ _ hb (fun hHeld => ?_)
              clear hK K
              refine norm_ (a' := ?_) ?_ ?_
              rotate_left
              · show Act.put _ (some 118) _ = _
                simp only [Act.put, List.setIfInBounds_toArray, List.set_cons_zero, List.set_cons_succ, i64_w, i32_w]
                rfl
              clear hb
              refine two_ (i := 0) (j := 10) (Ni := some 114) (Nj := some 26) #[true, true, false, true, true, false, false, false, false, false, false, false, false] #[false, true, false, true, true, false, false, false, false, false, true, false, false] rfl rfl rfl rfl (two_of HT_.out (by kernel_rfl)) (by decide) (by decide) (fun K hK => ?_) (fun K hK => ?_)
              · refine Kd.R_lit_step k49 (w0 := X4) X4.heap.size 49 (by rfl) (N := 114) ?hd (xs := ([] : List Ln)) (inner := []) (ok := fun _ => True) (okp := fun _ => True) ?hr ?hp (fun _ hk => hk) trivial hHeld hHeld.size (by simp) ?_
                case hd => rfl
                case hr => first | (go_simp; done) | (go_simp; rfl)
                case hp => exact (Reps.none _ _)
                rintro v0 w0 ho0 hb hg_ ⟨b0, e0, l0⟩
                have ne04 : b0 ≠ b4 := fun e => by have := Kd.R_lt ho4 b4 e4; omega
                replace ho4 := Kd.R_grown1 ho4 rfl hg_ (by rw [e4]; simp)
                clear hg_ l0
                refine hK.out _ _ hb (fun hHeld => ?_)
                clear hK K
                refine norm_ (a' := ?_) ?_ ?_
                rotate_left
                · show Act.put _ (some 114) _ = _
                  simp only [Act.put, List.setIfInBounds_toArray, List.set_cons_zero, List.set_cons_succ, i64_w, i32_w]
                  rfl
                clear hb
                refine two_ (i := 2) (j := 10) (Ni := some 116) (Nj := some 26) #[true, true, true, true, true, false, false, false, false, false, false, false, false] #[true, true, false, true, true, false, false, false, false, false, true, false, false] rfl rfl rfl rfl (two_of HT_.out (by kernel_rfl)) (by decide) (by decide) (fun K hK => ?_) (fun K hK => ?_)
                · refine Kd.R_append_rows_step k49 (w0 := X4) X4.heap.size (by rfl) (.tmp 114) (.tmp 115) 27 49 (.agg #[(.bool false), (.string ⟨#[]⟩)]) 24 rfl Tryd.underlying27 info49 rfl (by decide) (by omega) v0 [] ab Aa ab.length cAa (fun _ => True) (fun k => some k ≠ v0.ownBlock) rfl rfl ho0 (Kd.C_below HAa.out (below_step HB.out hHeld)) (fun x cs h => by rw [k49_open h]; exact k49_mkM _ _ _ x) (fun _ h => ⟨trivial, h⟩) (fun _ _ => trivial) hHeld hHeld.size (by have := HQ.out; simp only [List.length_nil]; omega) ?_
                  intro v2 w2 ho2 hb hg_ hat
                  obtain ⟨b2, e2⟩ : ∃ b2, v2.ownBlock = some b2 := by
                    rcases hat with h | ⟨b, h, hl⟩
                    · exact ⟨b0, h.trans e0⟩
                    · exact ⟨b, h⟩
                  replace ho4 := Kd.R_grown1 ho4 rfl hg_ (by rw [e0, e4]; exact fun e => ne04 (Option.some.inj e))
                  clear hg_ hat
                  refine hK.out _ _ hb (fun hHeld => ?_)
                  clear hK K
                  refine norm_ (a' := ?_) ?_ ?_
                  rotate_left
                  · show Act.put _ (some 116) _ = _
                    simp only [Act.put, List.setIfInBounds_toArray, List.set_cons_zero, List.set_cons_succ, i64_w, i32_w]
                    rfl
                  clear hb
                  exact norm_ (by first | (simp only [putAll, Act.put, List.setIfInBounds_toArray, List.set_cons_zero, List.set_cons_succ]; done) | (simp only [putAll, Act.put, List.setIfInBounds_toArray, List.set_cons_zero, List.set_cons_succ]; rfl)) (hJA ⟨v0, v2, v4⟩ _ ⟨hHeld, ho2, ho4, b2, e2⟩)
                · refine value_ (w1 := ?_) (v := ?_) (by rfl) rfl ?_ ?_
                  rotate_left 2
                  · go_simp
                    constructor
                    · rfl
                    · rfl
                  generalize hwx : World.alloc _ _ = wx
                  have hbx : Below w0.heap.size w0 wx := by rw [← hwx]; exact below_alloc (Below.refl _ _) _
                  have hx : wx.heap[w0.heap.size]? = some (.cells #[.slice none 0 0, .slice none 0 0] 25 (0, 0)) := by rw [← hwx]; exact heap_alloc_new _ _
                  have ne0x : b0 ≠ w0.heap.size := fun e => by have := Kd.R_lt ho0 b0 e0; omega
                  replace ho0 := Kd.R_below ho0 hbx
                  replace ho4 := Kd.R_below ho4 hbx
                  have lx : X4.heap.size ≤ w0.heap.size := hHeld.size
                  have hb := hHeld.trans (hbx.mono hHeld.size)
                  clear hwx hbx
                  generalize w0.heap.size = bx at hx lx ne0x ⊢
                  refine hK.out _ _ hb (fun hHeld => ?_)
                  clear hK K
                  refine norm_ (a' := ?_) ?_ ?_
                  rotate_left
                  · show Act.put _ (some 26) _ = _
                    simp only [Act.put, List.setIfInBounds_toArray, List.set_cons_zero, List.set_cons_succ, i64_w, i32_w]
                    rfl
                  clear hb
                  refine one_ (i := 2) (N := some 116) #[true, true, true, true, true, false, false, false, false, false, true, false, false] rfl rfl (one_of HT_.out (by kernel_rfl)) (by decide) (fun K hK => ?_)
                  refine Kd.R_append_rows_step k49 (w0 := X4) X4.heap.size (by rfl) (.tmp 114) (.tmp 115) 27 49 (.agg #[(.bool false), (.string ⟨#[]⟩)]) 24 rfl Tryd.underlying27 info49 rfl (by decide) (by omega) v0 [] ab Aa ab.length cAa (fun _ => True) (fun k => some k ≠ v0.ownBlock) rfl rfl ho0 (Kd.C_below HAa.out (below_step HB.out hHeld)) (fun x cs h => by rw [k49_open h]; exact k49_mkM _ _ _ x) (fun _ h => ⟨trivial, h⟩) (fun _ _ => trivial) hHeld hHeld.size (by have := HQ.out; simp only [List.length_nil]; omega) ?_
                  intro v2 w2 ho2 hb hg_ hat
                  obtain ⟨b2, e2, n2x⟩ : ∃ b2, v2.ownBlock = some b2 ∧ b2 ≠ bx := by
                    rcases hat with h | ⟨b, h, hl⟩
                    · exact ⟨b0, h.trans e0, ne0x⟩
                    · exact ⟨b, h, fun e => by have := lt_box hx; omega⟩
                  replace ho4 := Kd.R_grown1 ho4 rfl hg_ (by rw [e0, e4]; exact fun e => ne04 (Option.some.inj e))
                  replace hx := grown_box hg_ hx (by rw [e0]; exact fun e => ne0x (Option.some.inj e).symm)
                  clear hg_ hat
                  refine hK.out _ _ hb (fun hHeld => ?_)
                  clear hK K
                  refine norm_ (a' := ?_) ?_ ?_
                  rotate_left
                  · show Act.put _ (some 116) _ = _
                    simp only [Act.put, List.setIfInBounds_toArray, List.set_cons_zero, List.set_cons_succ, i64_w, i32_w]
                    rfl
                  clear hb
                  exact norm_ (by first | (simp only [putAll, Act.put, List.setIfInBounds_toArray, List.set_cons_zero, List.set_cons_succ]; done) | (simp only [putAll, Act.put, List.setIfInBounds_toArray, List.set_cons_zero, List.set_cons_succ]; rfl)) (hJB ⟨v0, v2, v4, bx⟩ _ ⟨hHeld, ho2, ho4, b2, e2, n2x, hx, lx⟩)
              · refine value_ (w1 := ?_) (v := ?_) (by rfl) rfl ?_ ?_
                rotate_left 2
                · go_simp
                  constructor
                  · rfl
                  · rfl
                generalize hwx : World.alloc _ _ = wx
                have hbx : Below w4.heap.size w4 wx := by rw [← hwx]; exact below_alloc (Below.refl _ _) _
                have hx : wx.heap[w4.heap.size]? = some (.cells #[.slice none 0 0, .slice none 0 0] 25 (0, 0)) := by rw [← hwx]; exact heap_alloc_new _ _
                replace ho4 := Kd.R_below ho4 hbx
                have lx : X4.heap.size ≤ w4.heap.size := hHeld.size
                have hb := hHeld.trans (hbx.mono hHeld.size)
                clear hwx hbx
                generalize w4.heap.size = bx at hx lx ⊢
                refine hK.out _ _ hb (fun hHeld => ?_)
                clear hK K
                refine norm_ (a' := ?_) ?_ ?_
                rotate_left
                · show Act.put _ (some 26) _ = _
                  simp only [Act.put, List.setIfInBounds_toArray, List.set_cons_zero, List.set_cons_succ, i64_w, i32_w]
                  rfl
                clear hb
                refine one_ (i := 0) (N := some 114) #[true, true, false, true, true, false, false, false, false, false, true, false, false] rfl rfl (one_of HT_.out (by kernel_rfl)) (by decide) (fun K hK => ?_)
                refine Kd.R_lit_step k49 (w0 := X4) X4.heap.size 49 (by rfl) (N := 114) ?hd (xs := ([] : List Ln)) (inner := []) (ok := fun _ => True) (okp := fun _ => True) ?hr ?hp (fun _ hk => hk) trivial hHeld hHeld.size (by simp) ?_
                case hd => rfl
                case hr => first | (go_simp; done) | (go_simp; rfl)
                case hp => exact (Reps.none _ _)
                rintro v0 w0 ho0 hb hg_ ⟨b0, e0, l0⟩
                have ne04 : b0 ≠ b4 := fun e => by have := Kd.R_lt ho4 b4 e4; omega
                replace ho4 := Kd.R_grown1 ho4 rfl hg_ (by rw [e4]; simp)
                have ne0x : b0 ≠ bx := fun e => by have := lt_box hx; omega
                replace hx := grown_box hg_ hx (by simp)
                clear hg_ l0
                refine hK.out _ _ hb (fun hHeld => ?_)
                clear hK K
                refine norm_ (a' := ?_) ?_ ?_
                rotate_left
                · show Act.put _ (some 114) _ = _
                  simp only [Act.put, List.setIfInBounds_toArray, List.set_cons_zero, List.set_cons_succ, i64_w, i32_w]
                  rfl
                clear hb
                refine one_ (i := 2) (N := some 116) #[true, true, true, true, true, false, false, false, false, false, true, false, false] rfl rfl (one_of HT_.out (by kernel_rfl)) (by decide) (fun K hK => ?_)
                refine Kd.R_append_rows_step k49 (w0 := X4) X4.heap.size (by rfl) (.tmp 114) (.tmp 115) 27 49 (.agg #[(.bool false), (.string ⟨#[]⟩)]) 24 rfl Tryd.underlying27 info49 rfl (by decide) (by omega) v0 [] ab Aa ab.length cAa (fun _ => True) (fun k => some k ≠ v0.ownBlock) rfl rfl ho0 (Kd.C_below HAa.out (below_step HB.out hHeld)) (fun x cs h => by rw [k49_open h]; exact k49_mkM _ _ _ x) (fun _ h => ⟨trivial, h⟩) (fun _ _ => trivial) hHeld hHeld.size (by have := HQ.out; simp only [List.length_nil]; omega) ?_
                intro v2 w2 ho2 hb hg_ hat
                obtain ⟨b2, e2, n2x⟩ : ∃ b2, v2.ownBlock = some b2 ∧ b2 ≠ bx := by
                  rcases hat with h | ⟨b, h, hl⟩
                  · exact ⟨b0, h.trans e0, ne0x⟩
                  · exact ⟨b, h, fun e => by have := lt_box hx; omega⟩
                replace ho4 := Kd.R_grown1 ho4 rfl hg_ (by rw [e0, e4]; exact fun e => ne04 (Option.some.inj e))
                replace hx := grown_box hg_ hx (by rw [e0]; exact fun e => ne0x (Option.some.inj e).symm)
                clear hg_ hat
                refine hK.out _ _ hb (fun hHeld => ?_)
                clear hK K
                refine norm_ (a' := ?_) ?_ ?_
                rotate_left
                · show Act.put _ (some 116) _ = _
                  simp only [Act.put, List.setIfInBounds_toArray, List.set_cons_zero, List.set_cons_succ, i64_w, i32_w]
                  rfl
                clear hb
                exact norm_ (by first | (simp only [putAll, Act.put, List.setIfInBounds_toArray, List.set_cons_zero, List.set_cons_succ]; done) | (simp only [putAll, Act.put, List.setIfInBounds_toArray, List.set_cons_zero, List.set_cons_succ]; rfl)) (hJB ⟨v0, v2, v4, bx⟩ _ ⟨hHeld, ho2, ho4, b2, e2, n2x, hx, lx⟩)
            · refine value_ (w1 := ?_) (v := ?_) (by rfl) rfl ?_ ?_
              rotate_left 2
              · go_simp
                constructor
                · rfl
                · rfl
              generalize hwx : World.alloc _ _ = wx
              have hbx : Below W.heap.size W wx := by rw [← hwx]; exact below_alloc (Below.refl _ _) _
              have hx : wx.heap[W.heap.size]? = some (.cells #[.slice none 0 0, .slice none 0 0] 25 (0, 0)) := by rw [← hwx]; exact heap_alloc_new _ _
              have lx : X4.heap.size ≤ W.heap.size := hHeld.size
              have hb := hHeld.trans (hbx.mono hHeld.size)
              clear hwx hbx
              generalize W.heap.size = bx at hx lx ⊢
              refine hK.out _ _ hb (fun hHeld => ?_)
              clear hK K
              refine norm_ (a' := ?_) ?_ ?_
              rotate_left
              · show Act.put _ (some 26) _ = _
                simp only [Act.put, List.setIfInBounds_toArray, List.set_cons_zero, List.set_cons_succ, i64_w, i32_w]
                rfl
              clear hb
              refine two_ (i := 0) (j := 4) (Ni := some 114) (Nj := some 118) #[true, true, false, true, false, false, false, false, false, false, true, false, false] #[false, true, false, true, true, false, false, false, false, false, true, false, false] rfl rfl rfl rfl (two_of HT_.out (by kernel_rfl)) (by decide) (by decide) (fun K hK => ?_) (fun K hK => ?_)
              · refine Kd.R_lit_step k49 (w0 := X4) X4.heap.size 49 (by rfl) (N := 114) ?hd (xs := ([] : List Ln)) (inner := []) (ok := fun _ => True) (okp := fun _ => True) ?hr ?hp (fun _ hk => hk) trivial hHeld hHeld.size (by simp) ?_
                case hd => rfl
                case hr => first | (go_simp; done) | (go_simp; rfl)
                case hp => exact (Reps.none _ _)
                rintro v0 w0 ho0 hb hg_ ⟨b0, e0, l0⟩
                have ne0x : b0 ≠ bx := fun e => by have := lt_box hx; omega
                replace hx := grown_box hg_ hx (by simp)
                clear hg_ l0
                refine hK.out _ _ hb (fun hHeld => ?_)
                clear hK K
                refine norm_ (a' := ?_) ?_ ?_
                rotate_left
                · show Act.put _ (some 114) _ = _
                  simp only [Act.put, List.setIfInBounds_toArray, List.set_cons_zero, List.set_cons_succ, i64_w, i32_w]
                  rfl
                clear hb
                refine two_ (i := 2) (j := 4) (Ni := some 116) (Nj := some 118) #[true, true, true, true, false, false, false, false, false, false, true, false, false] #[true, true, false, true, true, false, false, false, false, false, true, false, false] rfl rfl rfl rfl (two_of HT_.out (by kernel_rfl)) (by decide) (by decide) (fun K hK => ?_) (fun K hK => ?_)
                · refine Kd.R_append_rows_step k49 (w0 := X4) X4.heap.size (by rfl) (.tmp 114) (.tmp 115) 27 49 (.agg #[(.bool false), (.string ⟨#[]⟩)]) 24 rfl Tryd.underlying27 info49 rfl (by decide) (by omega) v0 [] ab Aa ab.length cAa (fun _ => True) (fun k => some k ≠ v0.ownBlock) rfl rfl ho0 (Kd.C_below HAa.out (below_step HB.out hHeld)) (fun x cs h => by rw [k49_open h]; exact k49_mkM _ _ _ x) (fun _ h => ⟨trivial, h⟩) (fun _ _ => trivial) hHeld hHeld.size (by have := HQ.out; simp only [List.length_nil]; omega) ?_
                  intro v2 w2 ho2 hb hg_ hat
                  obtain ⟨b2, e2, n2x⟩ : ∃ b2, v2.ownBlock = some b2 ∧ b2 ≠ bx := by
                    rcases hat with h | ⟨b, h, hl⟩
                    · exact ⟨b0, h.trans e0, ne0x⟩
                    · exact ⟨b, h, fun e => by have := lt_box hx; omega⟩
                  replace hx := grown_box hg_ hx (by rw [e0]; exact fun e => ne0x (Option.some.inj e).symm)
                  clear hg_ hat
                  refine hK.out _ _ hb (fun hHeld => ?_)
                  clear hK K
                  refine norm_ (a' := ?_) ?_ ?_
                  rotate_left
                  · show Act.put _ (some 116) _ = _
                    simp only [Act.put, List.setIfInBounds_toArray, List.set_cons_zero, List.set_cons_succ, i64_w, i32_w]
                    rfl
                  clear hb
                  refine one_ (i := 4) (N := some 118) #[true, true, true, true, true, false, false, false, false, false, true, false, false] rfl rfl (one_of HT_.out (by kernel_rfl)) (by decide) (fun K hK => ?_)
                  refine Kd.R_lit_step k49 (w0 := X4) X4.heap.size 49 (by rfl) (N := 118) ?hd (xs := [y4]) (inner := [.bool y4.f0, .string y4.f1]) (ok := fun _ => True) (okp := fun _ => True) ?hr ?hp (fun _ hk => hk) trivial hHeld hHeld.size (by simp) ?_
                  case hd => rfl
                  case hr => first | (go_simp; done) | (go_simp; rfl)
                  case hp => exact Reps.c2 (k49_mkM _ _ _ y4) (Reps.none _ _)
                  rintro v4 w4 ho4 hb hg_ ⟨b4, e4, l4⟩
                  replace ho2 := Kd.R_grown1 ho2 rfl hg_ (by rw [e2]; simp)
                  replace hx := grown_box hg_ hx (by simp)
                  clear hg_ l4
                  refine hK.out _ _ hb (fun hHeld => ?_)
                  clear hK K
                  refine norm_ (a' := ?_) ?_ ?_
                  rotate_left
                  · show Act.put _ (some 118) _ = _
                    simp only [Act.put, List.setIfInBounds_toArray, List.set_cons_zero, List.set_cons_succ, i64_w, i32_w]
                    rfl
                  clear hb
                  exact norm_ (by first | (simp only [putAll, Act.put, List.setIfInBounds_toArray, List.set_cons_zero, List.set_cons_succ]; done) | (simp only [putAll, Act.put, List.setIfInBounds_toArray, List.set_cons_zero, List.set_cons_succ]; rfl)) (hJB ⟨v0, v2, v4, bx⟩ _ ⟨hHeld, ho2, ho4, b2, e2, n2x, hx, lx⟩)
                · refine Kd.R_lit_step k49 (w0 := X4) X4.heap.size 49 (by rfl) (N := 118) ?hd (xs := [y4]) (inner := [.bool y4.f0, .string y4.f1]) (ok := fun _ => True) (okp := fun _ => True) ?hr ?hp (fun _ hk => hk) trivial hHeld hHeld.size (by simp) ?_
                  case hd => rfl
                  case hr => first | (go_simp; done) | (go_simp; rfl)
                  case hp => exact Reps.c2 (k49_mkM _ _ _ y4) (Reps.none _ _)
                  rintro v4 w4 ho4 hb hg_ ⟨b4, e4, l4⟩
                  have ne04 : b0 ≠ b4 := fun e => by have := Kd.R_lt ho0 b0 e0; omega
                  replace ho0 := Kd.R_grown1 ho0 rfl hg_ (by rw [e0]; simp)
                  replace hx := grown_box hg_ hx (by simp)
                  clear hg_ l4
                  refine hK.out _ _ hb (fun hHeld => ?_)
                  clear hK K
                  refine norm_ (a' := ?_) ?_ ?_
                  rotate_left
                  · show Act.put _ (some 118) _ = _
                    simp only [Act.put, List.setIfInBounds_toArray, List.set_cons_zero, List.set_cons_succ, i64_w, i32_w]
                    rfl
                  clear hb
                  refine one_ (i := 2) (N := some 116) #[true, true, true, true, true, false, false, false, false, false, true, false, false] rfl rfl (one_of HT_.out (by kernel_rfl)) (by decide) (fun K hK => ?_)
                  refine Kd.R_append_rows_step k49 (w0 := X4) X4.heap.size (by rfl) (.tmp 114) (.tmp 115) 27 49 (.agg #[(.bool false), (.string ⟨#[]⟩)]) 24 rfl Tryd.underlying27 info49 rfl (by decide) (by omega) v0 [] ab Aa ab.length cAa (fun _ => True) (fun k => some k ≠ v0.ownBlock) rfl rfl ho0 (Kd.C_below HAa.out (below_step HB.out hHeld)) (fun x cs h => by rw [k49_open h]; exact k49_mkM _ _ _ x) (fun _ h => ⟨trivial, h⟩) (fun _ _ => trivial) hHeld hHeld.size (by have := HQ.out; simp only [List.length_nil]; omega) ?_
                  intro v2 w2 ho2 hb hg_ hat
                  obtain ⟨b2, e2, n2x⟩ : ∃ b2, v2.ownBlock = some b2 ∧ b2 ≠ bx := by
                    rcases hat with h | ⟨b, h, hl⟩
                    · exact ⟨b0, h.trans e0, ne0x⟩
                    · exact ⟨b, h, fun e => by have := lt_box hx; omega⟩
                  replace ho4 := Kd.R_grown1 ho4 rfl hg_ (by rw [e0, e4]; exact fun e => ne04 (Option.some.inj e))
                  replace hx := grown_box hg_ hx (by rw [e0]; exact fun e => ne0x (Option.some.inj e).symm)
                  clear hg_ hat
                  refine hK.out _ _ hb (fun hHeld => ?_)
                  clear hK K
                  refine norm_ (a' := ?_) ?_ ?_
                  rotate_left
                  · show Act.put _ (some 116) _ = _
                    simp only [Act.put, List.setIfInBounds_toArray, List.set_cons_zero, List.set_cons_succ, i64_w, i32_w]
                    rfl
                  clear hb
                  exact norm_ (by first | (simp only [putAll, Act.put, List.setIfInBounds_toArray, List.set_cons_zero, List.set_cons_succ]; done) | (simp only [putAll, Act.put, List.setIfInBounds_toArray, List.set_cons_zero, List.set_cons_succ]; rfl)) (hJB ⟨v0, v2, v4, bx⟩ _ ⟨hHeld, ho2, ho4, b2, e2, n2x, hx, lx⟩)
              · refine Kd.R_lit_step k49 (w0 := X4) X4.heap.size 49 (by rfl) (N := 118) ?hd (xs := [y4]) (inner := [.bool y4.f0, .string y4.f1]) (ok := fun _ => True) (okp := fun _ => True) ?hr ?hp (fun _ hk => hk) trivial hHeld hHeld.size (by simp) ?_
                case hd => rfl
                case hr => first | (go_simp; done) | (go_simp; rfl)
                case hp => exact Reps.c2 (k49_mkM _ _ _ y4) (Reps.none _ _)
                rintro v4 w4 ho4 hb hg_ ⟨b4, e4, l4⟩
                replace hx := grown_box hg_ hx (by simp)
                clear hg_ l4
                refine hK.out _ _ hb (fun hHeld => ?_)
                clear hK K
                refine norm_ (a' := ?_) ?_ ?_
                rotate_left
                · show Act.put _ (some 118) _ = _
                  simp only [Act.put, List.setIfInBounds_toArray, List.set_cons_zero, List.set_cons_succ, i64_w, i32_w]
                  rfl
                clear hb
                refine one_ (i := 0) (N := some 114) #[true, true, false, true, true, false, false, false, false, false, true, false, false] rfl rfl (one_of HT_.out (by kernel_rfl)) (by decide) (fun K hK => ?_)
                refine Kd.R_lit_step k49 (w0 := X4) X4.heap.size 49 (by rfl) (N := 114) ?hd (xs := ([] : List Ln)) (inner := []) (ok := fun _ => True) (okp := fun _ => True) ?hr ?hp (fun _ hk => hk) trivial hHeld hHeld.size (by simp) ?_
                case hd => rfl
                case hr => first | (go_simp; done) | (go_simp; rfl)
                case hp => exact (Reps.none _ _)
                rintro v0 w0 ho0 hb hg_ ⟨b0, e0, l0⟩
                have ne04 : b0 ≠ b4 := fun e => by have := Kd.R_lt ho4 b4 e4; omega
                replace ho4 := Kd.R_grown1 ho4 rfl hg_ (by rw [e4]; simp)
                have ne0x : b0 ≠ bx := fun e => by have := lt_box hx; omega
                replace hx := grown_box hg_ hx (by simp)
                clear hg_ l0
                refine hK.out _ _ hb (fun hHeld => ?_)
                clear hK K
                refine norm_ (a' := ?_) ?_ ?_
                rotate_left
                · show Act.put _ (some 114) _ = _
                  simp only [Act.put, List.setIfInBounds_toArray, List.set_cons_zero, List.set_cons_succ, i64_w, i32_w]
                  rfl
                clear hb
                refine one_ (i := 2) (N := some 116) #[true, true, true, true, true, false, false, false, false, false, true, false, false] rfl rfl (one_of HT_.out (by kernel_rfl)) (by decide) (fun K hK => ?_)
                refine Kd.R_append_rows_step k49 (w0 := X4) X4.heap.size (by rfl) (.tmp 114) (.tmp 115) 27 49 (.agg #[(.bool false), (.string ⟨#[]⟩)]) 24 rfl Tryd.underlying27 info49 rfl (by decide) (by omega) v0 [] ab Aa ab.length cAa (fun _ => True) (fun k => some k ≠ v0.ownBlock) rfl rfl ho0 (Kd.C_below HAa.out (below_step HB.out hHeld)) (fun x cs h => by rw [k49_open h]; exact k49_mkM _ _ _ x) (fun _ h => ⟨trivial, h⟩) (fun _ _ => trivial) hHeld hHeld.size (by have := HQ.out; simp only [List.length_nil]; omega) ?_
                intro v2 w2 ho2 hb hg_ hat
                obtain ⟨b2, e2, n2x⟩ : ∃ b2, v2.ownBlock = some b2 ∧ b2 ≠ bx := by
                  rcases hat with h | ⟨b, h, hl⟩
                  · exact ⟨b0, h.trans e0, ne0x⟩
                  · exact ⟨b, h, fun e => by have := lt_box hx; omega⟩
                replace ho4 := Kd.R_grown1 ho4 rfl hg_ (by rw [e0, e4]; exact fun e => ne04 (Option.some.inj e))
                replace hx := grown_box hg_ hx (by rw [e0]; exact fun e => ne0x (Option.some.inj e).symm)
                clear hg_ hat
                refine hK.out _ _ hb (fun hHeld => ?_)
                clear hK K
                refine norm_ (a' := ?_) ?_ ?_
                rotate_left
                · show Act.put _ (some 116) _ = _
                  simp only [Act.put, List.setIfInBounds_toArray, List.set_cons_zero, List.set_cons_succ, i64_w, i32_w]
                  rfl
                clear hb
                exact norm_ (by first | (simp only [putAll, Act.put, List.setIfInBounds_toArray, List.set_cons_zero, List.set_cons_succ]; done) | (simp only [putAll, Act.put, List.setIfInBounds_toArray, List.set_cons_zero, List.set_cons_succ]; rfl)) (hJB ⟨v0, v2, v4, bx⟩ _ ⟨hHeld, ho2, ho4, b2, e2, n2x, hx, lx⟩)
          rintro ⟨v0, v2, v4⟩ w_ ⟨hHeld, ho2, ho4, b2, e2⟩
          refine norm_ (a' := ?_) ?_ ?_
          rotate_left
          · simp only [putAll, Act.put, List.setIfInBounds_toArray, List.set_cons_zero, List.set_cons_succ]
            rfl
          refine two_ (i := 5) (j := 10) (Ni := some 119) (Nj := some 26) #[true, true, true, true, true, true, false, false, false, false, false, false, false] #[true, true, true, true, true, false, false, false, false, false, true, false, false] rfl rfl rfl rfl (two_of HT_.out (by kernel_rfl)) (by decide) (by decide) (fun K hK => ?_) (fun K hK => ?_)
          · obtain ⟨A4, c4, q4⟩ := Kd.R_slice ho4
            subst q4
            refine Kd.R_append_rows_step k49 (w0 := X4) X4.heap.size (by rfl) (.tmp 116) (.tmp 118) 27 49 (.agg #[(.bool false), (.string ⟨#[]⟩)]) 24 rfl Tryd.underlying27 info49 rfl (by decide) (by omega) v2 ([] ++ ab) [y4] A4 1 c4 (fun _ => True) (fun k => some k ≠ v2.ownBlock) rfl rfl ho2 (Kd.R_reads' ho4).2.2 (fun x cs h => by rw [k49_open h]; exact k49_mkM _ _ _ x) (fun _ h => ⟨trivial, h⟩) (fun _ _ => trivial) hHeld hHeld.size (by have := HQ.out; simp only [List.length_append, List.length_nil]; omega) ?_
            intro v5 w5 ho5 hb hg_ hat
            clear hg_ hat ho2 ho4 e2
            refine hK.out _ _ hb (fun hHeld => ?_)
            clear hK K
            refine norm_ (a' := ?_) ?_ ?_
            rotate_left
            · show Act.put _ (some 119) _ = _
              simp only [Act.put, List.setIfInBounds_toArray, List.set_cons_zero, List.set_cons_succ, i64_w, i32_w]
              rfl
            clear hb
            refine two_ (i := 6) (j := 10) (Ni := some 120) (Nj := some 26) #[true, true, true, true, true, true, true, false, false, false, false, false, false] #[true, true, true, true, true, true, false, false, false, false, true, false, false] rfl rfl rfl rfl (two_of HT_.out (by kernel_rfl)) (by decide) (by decide) (fun K hK => ?_) (fun K hK => ?_)
            · obtain ⟨A5, c5, q5⟩ := Kd.R_slice ho5
              subst q5
              have hc5 := (Kd.R_reads' ho5).2.1
              refine goes_ Tryd.func22 (by kernel_rfl) rfl #[.slice A5 ([] ++ ab ++ [y4]).length c5] (by rfl) rfl rfl (by (try simp only [List.map_toArray, List.map_cons, List.map_nil]); first | done | rfl) ?_
              refine (hello_Asked.calls 4000000 A5 c5 ([] ++ ab ++ [y4]) _ _ _ _ (Kd.R_reads' ho5).2.2 hc5 F2.out).mono ?_
              rintro e w6 ⟨u1, u2, rfl, ho, ho', hb⟩
              refine ⟨_, rfl, ?_⟩
              obtain ⟨Au, cu, rfl⟩ := Kd.R_slice ho
              obtain ⟨Av, cv, rfl⟩ := Kd.R_slice ho'
              clear ho ho'
              refine hK.out _ _ (below_step hHeld hb) (fun hHeld => ?_)
              clear hK K
              refine norm_ (a' := ?_) ?_ ?_
              rotate_left
              · show Act.put _ (some 120) _ = _
                simp only [Act.put, List.setIfInBounds_toArray, List.set_cons_zero, List.set_cons_succ, i64_w, i32_w]
                rfl
              clear ho5 hc5 hb
              refine pure_ (i := 7) (N := some 113) (v := ?_) (a' := ?_) #[true, true, true, true, true, true, true, true, false, false, false, false, false] rfl rfl (any_of HT_.out (by kernel_rfl)) (fun _ _ _ h => h) (Or.inl ⟨by rfl, ?_⟩) ?_ ?_
              rotate_left
              · intro w'
                go_simp
                with_reducible rfl
              rotate_left
              · simp only [Act.put, List.setIfInBounds_toArray, List.set_cons_zero, List.set_cons_succ, i64_w, i32_w]
                rfl
              refine pure_ (i := 8) (N := some 121) (v := ?_) (a' := ?_) #[true, true, true, true, true, true, true, true, true, false, false, false, false] rfl rfl (any_of HT_.out (by kernel_rfl)) (fun _ _ _ h => h) (Or.inl ⟨by rfl, ?_⟩) ?_ ?_
              rotate_left
              · intro w'
                go_simp
                with_reducible rfl
              rotate_left
              · simp only [Act.put, List.setIfInBounds_toArray, List.set_cons_zero, List.set_cons_succ, i64_w, i32_w]
                rfl
              refine pure_ (i := 9) (N := some 122) (v := ?_) (a' := ?_) #[true, true, true, true, true, true, true, true, true, true, false, false, false] rfl rfl (any_of HT_.out (by kernel_rfl)) (fun _ _ _ h => h) (Or.inl ⟨by rfl, ?_⟩) ?_ ?_
              rotate_left
              · intro w'
                go_simp
                with_reducible rfl
              rotate_left
              · simp only [Act.put, List.setIfInBounds_toArray, List.set_cons_zero, List.set_cons_succ, i64_w, i32_w]
                rfl
              refine one_ (i := 10) (N := some 26) #[true, true, true, true, true, true, true, true, true, true, true, false, false] rfl rfl (one_of HT_.out (by kernel_rfl)) (by decide) (fun K hK => ?_)
              refine value_ (w1 := ?_) (v := ?_) (by rfl) rfl ?_ ?_
              rotate_left 2
              · go_simp
                constructor
                · rfl
                · rfl
              generalize hwx : World.alloc _ _ = wx
              have hbx : Below w6.heap.size w6 wx := by rw [← hwx]; exact below_alloc (Below.refl _ _) _
              have hx : wx.heap[w6.heap.size]? = some (.cells #[.slice none 0 0, .slice none 0 0] 25 (0, 0)) := by rw [← hwx]; exact heap_alloc_new _ _
              have lx : X4.heap.size ≤ w6.heap.size := hHeld.size
              have hb := hHeld.trans (hbx.mono hHeld.size)
              clear hwx hbx
              generalize w6.heap.size = bx at hx lx ⊢
              refine hK.out _ _ hb (fun hHeld => ?_)
              clear hK K
              refine norm_ (a' := ?_) ?_ ?_
              rotate_left
              · show Act.put _ (some 26) _ = _
                simp only [Act.put, List.setIfInBounds_toArray, List.set_cons_zero, List.set_cons_succ, i64_w, i32_w]
                rfl
              clear hb
              refine one_ (i := 11) (N := none) #[true, true, true, true, true, true, true, true, true, true, true, true, false] rfl rfl (one_of HT_.out (by kernel_rfl)) (by decide) (fun K hK => ?_)
              rw [if_pos (by rfl)]
              refine wp_store_mid 25 (.tmp 26) (.tmp 121) (by rfl) bx 0 #[.slice Au 0 cu, .slice Av 0 cv] (by rfl) (by rfl) (there_box hx) (by kernel_rfl) (by simp [Value.oneCell']) ?_
              refine hK.out _ _ ((hHeld.setCell lx _).setCell lx _) (fun hHeld => ?_)
              clear hK K
              refine norm_ (a' := ?_) ?_ ?_
              rotate_left
              · show Act.put _ (none) _ = _
                simp only [Act.put, List.setIfInBounds_toArray, List.set_cons_zero, List.set_cons_succ, i64_w, i32_w]
                rfl
              refine pure_ (i := 12) (N := some 27) (v := ?_) (a' := ?_) #[true, true, true, true, true, true, true, true, true, true, true, true, true] rfl rfl (any_of HT_.out (by kernel_rfl)) (fun _ _ _ h => h) (Or.inl ⟨by rfl, ?_⟩) ?_ ?_
              rotate_left
              · intro w'
                go_simp
                with_reducible rfl
              rotate_left
              · simp only [Act.put, List.setIfInBounds_toArray, List.set_cons_zero, List.set_cons_succ, i64_w, i32_w]
                rfl
              refine done_ (done_of HT_.out (by kernel_rfl)) ?_
              replace HB := Aside0.mk (below_step HB.out hHeld)
              clear hHeld
              go_wp2_with fail
              go_meet
              exact HB
            · refine value_ (w1 := ?_) (v := ?_) (by rfl) rfl ?_ ?_
              rotate_left 2
              · go_simp
                constructor
                · rfl
                · rfl
              generalize hwx : World.alloc _ _ = wx
              have hbx : Below w5.heap.size w5 wx := by rw [← hwx]; exact below_alloc (Below.refl _ _) _
              have hx : wx.heap[w5.heap.size]? = some (.cells #[.slice none 0 0, .slice none 0 0] 25 (0, 0)) := by rw [← hwx]; exact heap_alloc_new _ _
              replace ho5 := Kd.R_below ho5 hbx
              have lx : X4.heap.size ≤ w5.heap.size := hHeld.size
              have hb := hHeld.trans (hbx.mono hHeld.size)
              clear hwx hbx
              generalize w5.heap.size = bx at hx lx ⊢
              refine hK.out _ _ hb (fun hHeld => ?_)
              clear hK K
              refine norm_ (a' := ?_) ?_ ?_
              rotate_left
              · show Act.put _ (some 26) _ = _
                simp only [Act.put, List.setIfInBounds_toArray, List.set_cons_zero, List.set_cons_succ, i64_w, i32_w]
                rfl
              clear hb
              refine one_ (i := 6) (N := some 120) #[true, true, true, true, true, true, true, false, false, false, true, false, false] rfl rfl (one_of HT_.out (by kernel_rfl)) (by decide) (fun K hK => ?_)
              obtain ⟨A5, c5, q5⟩ := Kd.R_slice ho5
              subst q5
              have hc5 := (Kd.R_reads' ho5).2.1
              refine goes_ Tryd.func22 (by kernel_rfl) rfl #[.slice A5 ([] ++ ab ++ [y4]).length c5] (by rfl) rfl rfl (by (try simp only [List.map_toArray, List.map_cons, List.map_nil]); first | done | rfl) ?_
              refine (hello_Asked.calls 4000000 A5 c5 ([] ++ ab ++ [y4]) _ _ _ _ (Kd.R_reads' ho5).2.2 hc5 F2.out).mono ?_
              rintro e w6 ⟨u1, u2, rfl, ho, ho', hb⟩
              refine ⟨_, rfl, ?_⟩
              obtain ⟨Au, cu, rfl⟩ := Kd.R_slice ho
              obtain ⟨Av, cv, rfl⟩ := Kd.R_slice ho'
              clear ho ho'
              replace hx := below_box hb hx
              refine hK.out _ _ (below_step hHeld hb) (fun hHeld => ?_)
              clear hK K
              refine norm_ (a' := ?_) ?_ ?_
              rotate_left
              · show Act.put _ (some 120) _ = _
                simp only [Act.put, List.setIfInBounds_toArray, List.set_cons_zero, List.set_cons_succ, i64_w, i32_w]
                rfl
              clear ho5 hc5 hb
              refine pure_ (i := 7) (N := some 113) (v := ?_) (a' := ?_) #[true, true, true, true, true, true, true, true, false, false, true, false, false] rfl rfl (any_of HT_.out (by kernel_rfl)) (fun _ _ _ h => h) (Or.inl ⟨by rfl, ?_⟩) ?_ ?_
              rotate_left
              · intro w'
                go_simp
                with_reducible rfl
              rotate_left
              · simp only [Act.put, List.setIfInBounds_toArray, List.set_cons_zero, List.set_cons_succ, i64_w, i32_w]
                rfl
              refine pure_ (i := 8) (N := some 121) (v := ?_) (a' := ?_) #[true, true, true, true, true, true, true, true, true, false, true, false, false] rfl rfl (any_of HT_.out (by kernel_rfl)) (fun _ _ _ h => h) (Or.inl ⟨by rfl, ?_⟩) ?_ ?_
              rotate_left
              · intro w'
                go_simp
                with_reducible rfl
              rotate_left
              · simp only [Act.put, List.setIfInBounds_toArray, List.set_cons_zero, List.set_cons_succ, i64_w, i32_w]
                rfl
              refine pure_ (i := 9) (N := some 122) (v := ?_) (a' := ?_) #[true, true, true, true, true, true, true, true, true, true, true, false, false] rfl rfl (any_of HT_.out (by kernel_rfl)) (fun _ _ _ h => h) (Or.inl ⟨by rfl, ?_⟩) ?_ ?_
              rotate_left
              · intro w'
                go_simp
                with_reducible rfl
              rotate_left
              · simp only [Act.put, List.setIfInBounds_toArray, List.set_cons_zero, List.set_cons_succ, i64_w, i32_w]
                rfl
              refine one_ (i := 11) (N := none) #[true, true, true, true, true, true, true, true, true, true, true, true, false] rfl rfl (one_of HT_.out (by kernel_rfl)) (by decide) (fun K hK => ?_)
              rw [if_pos (by rfl)]
              refine wp_store_mid 25 (.tmp 26) (.tmp 121) (by rfl) bx 0 #[.slice Au 0 cu, .slice Av 0 cv] (by rfl) (by rfl) (there_box hx) (by kernel_rfl) (by simp [Value.oneCell']) ?_
              refine hK.out _ _ ((hHeld.setCell lx _).setCell lx _) (fun hHeld => ?_)
              clear hK K
              refine norm_ (a' := ?_) ?_ ?_
              rotate_left
              · show Act.put _ (none) _ = _
                simp only [Act.put, List.setIfInBounds_toArray, List.set_cons_zero, List.set_cons_succ, i64_w, i32_w]
                rfl
              refine pure_ (i := 12) (N := some 27) (v := ?_) (a' := ?_) #[true, true, true, true, true, true, true, true, true, true, true, true, true] rfl rfl (any_of HT_.out (by kernel_rfl)) (fun _ _ _ h => h) (Or.inl ⟨by rfl, ?_⟩) ?_ ?_
              rotate_left
              · intro w'
                go_simp
                with_reducible rfl
              rotate_left
              · simp only [Act.put, List.setIfInBounds_toArray, List.set_cons_zero, List.set_cons_succ, i64_w, i32_w]
                rfl
              refine done_ (done_of HT_.out (by kernel_rfl)) ?_
              replace HB := Aside0.mk (below_step HB.out hHeld)
              clear hHeld
              go_wp2_with fail
              go_meet
              exact HB
          · refine value_ (w1 := ?_) (v := ?_) (by rfl) rfl ?_ ?_
            rotate_left 2
            · go_simp
              constructor
              · rfl
              · rfl
            generalize hwx : World.alloc _ _ = wx
            have hbx : Below w_.heap.size w_ wx := by rw [← hwx]; exact below_alloc (Below.refl _ _) _
            have hx : wx.heap[w_.heap.size]? = some (.cells #[.slice none 0 0, .slice none 0 0] 25 (0, 0)) := by rw [← hwx]; exact heap_alloc_new _ _
            have n2x : b2 ≠ w_.heap.size := fun e => by have := Kd.R_lt ho2 b2 e2; omega
            replace ho2 := Kd.R_below ho2 hbx
            replace ho4 := Kd.R_below ho4 hbx
            have lx : X4.heap.size ≤ w_.heap.size := hHeld.size
            have hb := hHeld.trans (hbx.mono hHeld.size)
            clear hwx hbx
            generalize w_.heap.size = bx at hx lx n2x ⊢
            refine hK.out _ _ hb (fun hHeld => ?_)
            clear hK K
            refine norm_ (a' := ?_) ?_ ?_
            rotate_left
            · show Act.put _ (some 26) _ = _
              simp only [Act.put, List.setIfInBounds_toArray, List.set_cons_zero, List.set_cons_succ, i64_w, i32_w]
              rfl
            clear hb
            exact norm_ (by first | (simp only [putAll, Act.put, List.setIfInBounds_toArray, List.set_cons_zero, List.set_cons_succ]; done) | (simp only [putAll, Act.put, List.setIfInBounds_toArray, List.set_cons_zero, List.set_cons_succ]; rfl)) (hJB ⟨v0, v2, v4, bx⟩ _ ⟨hHeld, ho2, ho4, b2, e2, n2x, hx, lx⟩)
        rintro ⟨v0, v2, v4, bx⟩ w_ ⟨hHeld, ho2, ho4, b2, e2, n2x, hx, lx⟩
        refine norm_ (a' := ?_) ?_ ?_
        rotate_left
        · simp only [putAll, Act.put, List.setIfInBounds_toArray, List.set_cons_zero, List.set_cons_succ]
          rfl
        refine one_ (i := 5) (N := some 119) #[true, true, true, true, true, true, false, false, false, false, true, false, false] rfl rfl (one_of HT_.out (by kernel_rfl)) (by decide) (fun K hK => ?_)
        obtain ⟨A4, c4, q4⟩ := Kd.R_slice ho4
        subst q4
        refine Kd.R_append_rows_step k49 (w0 := X4) X4.heap.size (by rfl) (.tmp 116) (.tmp 118) 27 49 (.agg #[(.bool false), (.string ⟨#[]⟩)]) 24 rfl Tryd.underlying27 info49 rfl (by decide) (by omega) v2 ([] ++ ab) [y4] A4 1 c4 (fun _ => True) (fun k => some k ≠ v2.ownBlock) rfl rfl ho2 (Kd.R_reads' ho4).2.2 (fun x cs h => by rw [k49_open h]; exact k49_mkM _ _ _ x) (fun _ h => ⟨trivial, h⟩) (fun _ _ => trivial) hHeld hHeld.size (by have := HQ.out; simp only [List.length_append, List.length_nil]; omega) ?_
        intro v5 w5 ho5 hb hg_ hat
        replace hx := grown_box hg_ hx (by rw [e2]; exact fun e => n2x (Option.some.inj e).symm)
        clear hg_ hat ho2 ho4 e2 n2x
        refine hK.out _ _ hb (fun hHeld => ?_)
        clear hK K
        refine norm_ (a' := ?_) ?_ ?_
        rotate_left
        · show Act.put _ (some 119) _ = _
          simp only [Act.put, List.setIfInBounds_toArray, List.set_cons_zero, List.set_cons_succ, i64_w, i32_w]
          rfl
        clear hb
        refine one_ (i := 6) (N := some 120) #[true, true, true, true, true, true, true, false, false, false, true, false, false] rfl rfl (one_of HT_.out (by kernel_rfl)) (by decide) (fun K hK => ?_)
        obtain ⟨A5, c5, q5⟩ := Kd.R_slice ho5
        subst q5
        have hc5 := (Kd.R_reads' ho5).2.1
        refine goes_ Tryd.func22 (by kernel_rfl) rfl #[.slice A5 ([] ++ ab ++ [y4]).length c5] (by rfl) rfl rfl (by (try simp only [List.map_toArray, List.map_cons, List.map_nil]); first | done | rfl) ?_
        refine (hello_Asked.calls 4000000 A5 c5 ([] ++ ab ++ [y4]) _ _ _ _ (Kd.R_reads' ho5).2.2 hc5 F2.out).mono ?_
        rintro e w6 ⟨u1, u2, rfl, ho, ho', hb⟩
        refine ⟨_, rfl, ?_⟩
        obtain ⟨Au, cu, rfl⟩ := Kd.R_slice ho
        obtain ⟨Av, cv, rfl⟩ := Kd.R_slice ho'
        clear ho ho'
        replace hx := below_box hb hx
        refine hK.out _ _ (below_step hHeld hb) (fun hHeld => ?_)
        clear hK K
        refine norm_ (a' := ?_) ?_ ?_
        rotate_left
        · show Act.put _ (some 120) _ = _
          simp only [Act.put, List.setIfInBounds_toArray, List.set_cons_zero, List.set_cons_succ, i64_w, i32_w]
          rfl
        clear ho5 hc5 hb
        refine pure_ (i := 7) (N := some 113) (v := ?_) (a' := ?_) #[true, true, true, true, true, true, true, true, false, false, true, false, false] rfl rfl (any_of HT_.out (by kernel_rfl)) (fun _ _ _ h => h) (Or.inl ⟨by rfl, ?_⟩) ?_ ?_
        rotate_left
        · intro w'
          go_simp
          with_reducible rfl
        rotate_left
        · simp only [Act.put, List.setIfInBounds_toArray, List.set_cons_zero, List.set_cons_succ, i64_w, i32_w]
          rfl
        refine pure_ (i := 8) (N := some 121) (v := ?_) (a' := ?_) #[true, true, true, true, true, true, true, true, true, false, true, false, false] rfl rfl (any_of HT_.out (by kernel_rfl)) (fun _ _ _ h => h) (Or.inl ⟨by rfl, ?_⟩) ?_ ?_
        rotate_left
        · intro w'
          go_simp
          with_reducible rfl
        rotate_left
        · simp only [Act.put, List.setIfInBounds_toArray, List.set_cons_zero, List.set_cons_succ, i64_w, i32_w]
          rfl
        refine pure_ (i := 9) (N := some 122) (v := ?_) (a' := ?_) #[true, true, true, true, true, true, true, true, true, true, true, false, false] rfl rfl (any_of HT_.out (by kernel_rfl)) (fun _ _ _ h => h) (Or.inl ⟨by rfl, ?_⟩) ?_ ?_
        rotate_left
        · intro w'
          go_simp
          with_reducible rfl
        rotate_left
        · simp only [Act.put, List.setIfInBounds_toArray, List.set_cons_zero, List.set_cons_succ, i64_w, i32_w]
          rfl
        refine one_ (i := 11) (N := none) #[true, true, true, true, true, true, true, true, true, true, true, true, false] rfl rfl (one_of HT_.out (by kernel_rfl)) (by decide) (fun K hK => ?_)
        rw [if_pos (by rfl)]
        refine wp_store_mid 25 (.tmp 26) (.tmp 121) (by rfl) bx 0 #[.slice Au 0 cu, .slice Av 0 cv] (by rfl) (by rfl) (there_box hx) (by kernel_rfl) (by simp [Value.oneCell']) ?_
        refine hK.out _ _ ((hHeld.setCell lx _).setCell lx _) (fun hHeld => ?_)
        clear hK K
        refine norm_ (a' := ?_) ?_ ?_
        rotate_left
        · show Act.put _ (none) _ = _
          simp only [Act.put, List.setIfInBounds_toArray, List.set_cons_zero, List.set_cons_succ, i64_w, i32_w]
          rfl
        refine pure_ (i := 12) (N := some 27) (v := ?_) (a' := ?_) #[true, true, true, true, true, true, true, true, true, true, true, true, true] rfl rfl (any_of HT_.out (by kernel_rfl)) (fun _ _ _ h => h) (Or.inl ⟨by rfl, ?_⟩) ?_ ?_
        rotate_left
        · intro w'
          go_simp
          with_reducible rfl
        rotate_left
        · simp only [Act.put, List.setIfInBounds_toArray, List.set_cons_zero, List.set_cons_succ, i64_w, i32_w]
          rfl
        refine done_ (done_of HT_.out (by kernel_rfl)) ?_
        replace HB := Aside0.mk (below_step HB.out hHeld)
        clear hHeld
        go_wp2_with fail
        go_meet
        exact HB
    case rest =>
    as_aux_lemma =>
    clear HB
    have HB := hcut
    clear hcut
    go_upto_if 127 with fail
    go_cut [] (fun wc => Aside0 (Below X3.heap.size X3 wc))
    case first =>
      cases on with
      | false =>
        as_aux_lemma =>
        go_wp2_with fail
        go_meet
        exact HB
      | true =>
        as_aux_lemma =>
        obtain ⟨m, ts, e1, e2, e3, e4, e5⟩ := U3.out rfl
        have hy := HY.out
        have e6 : pb.length ≤ 1000 := by omega
        have HQ := Aside0.mk e6
        have em : ((pb.length : Nat) : Int) - 1 = (m : Int) := by omega
        have ec := HApc.out
        obtain ⟨tt, htt⟩ : ∃ tt, tt = pb.take m := ⟨_, rfl⟩
        have HTL := Aside0.mk (show tt.length = pb.length - 1 from by rw [htt, List.length_take]; omega)
        have HCt := Aside0.mk (fun W (h : Below X3.heap.size X3 W) => show Kd.C k49 W Ap tt.length tt from by rw [htt]; exact Kd.C_take (Kd.C_below HAp.out h) (by omega))
        have ht : tt.length ≤ cAp := by rw [htt, List.length_take]; omega
        have hn1 : textsF tt = [] := by rw [htt]; have := texts_cut ts; rw [← e2, e1, Nat.add_sub_cancel] at this; exact this
        have hn2 : textsF ([] ++ pb ++ [y4]) = [] := by rw [List.nil_append, e2]; exact texts_more ts y4
        have f1 := pushed_none tt hn1 (by rw [htt, List.length_take]; omega) (fun x hx => by rw [htt] at hx; have := e4 x (List.mem_of_mem_take hx); omega) (k := 6000000) (by omega)
        have f2 := pushed_none ([] ++ pb ++ [y4]) hn2 (by simp only [List.length_append, List.length_nil, List.length_cons]; omega) (fun x hx => (List.mem_append.1 hx).elim (fun hx => by have := e4 x (by simpa using hx); omega) (fun hx => by rw [List.mem_singleton.1 hx]; omega)) (k := 6000000) (by omega)
        have F1 := Aside0.mk f1
        have F2 := Aside0.mk f2
        have HT := Aside0.mk ht
        have HM := Aside0.mk e1
        have z1 : (1 : Int) ≤ (pb.length : Int) := by omega
        have z2 : (pb.length : Int) ≤ 1000 := by omega
        clear em e1 e2 e3 e4 e5 e6 hn1 hn2 f1 f2 ht hy htt
        go_upto_region 19 with (go_at_call 24; have hz := hello_Pushed.calls 6000000 Ap cAp tt _ _ _ (HCt.out _ HB.out) HT.out F1.out; rw [HTL.out] at hz; with_reducible refine hz.mono ?_; clear hz; rintro e X4 ⟨v1, rfl, ho, hb⟩; replace HB := Aside0.mk (below_step HB.out hb); clear ho hb F1)
        refine start_ (n := 12) (S := fun w' => Below X4.heap.size X4 w') (ds := []) #[false, false, false, false, false, false, false, false, false, false, false, false] (by kernel_rfl) rfl rfl (below_drew1 (Below.refl _ _)) (fun hHeld => ?_)
        refine with_tabW whole.tab19 whole.bits19 (fun HT_ HW_ => ?_)
        generalize X4.drew = W at hHeld ⊢
        refine pure_ (i := 1) (N := some 139) (v := ?_) (a' := ?_) #[false, true, false, false, false, false, false, false, false, false, false, false] rfl rfl (any_of HT_.out (by kernel_rfl)) (fun _ _ _ h => h) (Or.inl ⟨by rfl, ?_⟩) ?_ ?_
        rotate_left
        · intro w'
          go_simp
          with_reducible rfl
        rotate_left
        · simp only [Act.put, List.setIfInBounds_toArray, List.set_cons_zero, List.set_cons_succ, i64_w, i32_w]
          rfl
        refine take_ (i := 3) (N := some 141) (v := .agg #[.bool y4.f0, .string y4.f1]) (a' := ?_) #[false, true, false, true, false, false, false, false, false, false, false, false] rfl rfl (take_ofW HT_.out HW_.out (by kernel_rfl)) (fun _ _ _ h => h) (Or.inl ⟨by rfl, fun w' hS' => ?_⟩) hHeld ?_ ?_
        · obtain ⟨n0, n1⟩ := cellB (below_step HB.out hS') H9.out
          go_simp
        rotate_left
        · simp only [Act.put, List.setIfInBounds_toArray, List.set_cons_zero, List.set_cons_succ, i64_w, i32_w]
          rfl
        refine join_ (σ := Value × Value × Value) 7 #[true, true, true, true, true, false, false, false, false, false, false, false] (fun s => [(138, s.1), (140, s.2.1), (142, s.2.2)]) (fun s w' => Below X4.heap.size X4 w' ∧ Kd.R k49 49 w' X4.heap.size (fun _ => True) s.2.1 ([] ++ pb) ∧ Kd.R k49 49 w' X4.heap.size (fun _ => True) s.2.2 [y4] ∧ ∃ b2, s.2.1.ownBlock = some b2) ?_ ?_
        rotate_left
        · intro hJA
          refine two_ (i := 0) (j := 4) (Ni := some 138) (Nj := some 142) #[true, true, false, true, false, false, false, false, false, false, false, false] #[false, true, false, true, true, false, false, false, false, false, false, false] rfl rfl rfl rfl (two_of HT_.out (by kernel_rfl)) (by decide) (by decide) (fun K hK => ?_) (fun K hK => ?_)
          · refine Kd.R_lit_step k49 (w0 := X4) X4.heap.size 49 (by rfl) (N := 138) ?hd (xs := ([] : List Ln)) (inner := []) (ok := fun _ => True) (okp := fun _ => True) ?hr ?hp (fun _ hk => hk) trivial hHeld hHeld.size (by simp) ?_
            case hd => rfl
            case hr => first | (go_simp; done) | (go_simp; rfl)
            case hp => exact (Reps.none _ _)
            rintro v0 w0 ho0 hb hg_ ⟨b0, e0, l0⟩
            clear hg_ l0
            refine hK.out _ _ hb (fun hHeld => ?_)
            clear hK K
            refine norm_ (a' := ?_) ?_ ?_
            rotate_left
            · show Act.put _ (some 138) _ = _
              simp only [Act.put, List.setIfInBounds_toArray, List.set_cons_zero, List.set_cons_succ, i64_w, i32_w]
              rfl
            clear hb
            refine two_ (i := 2) (j := 4) (Ni := some 140) (Nj := some 142) #[true, true, true, true, false, false, false, false, false, false, false, false] #[true, true, false, true, true, false, false, false, false, false, false, false] rfl rfl rfl rfl (two_of HT_.out (by kernel_rfl)) (by decide) (by decide) (fun K hK => ?_) (fun K hK => ?_)
            · refine Kd.R_append_rows_step k49 (w0 := X4) X4.heap.size (by rfl) (.tmp 138) (.tmp 139) 27 49 (.agg #[(.bool false), (.string ⟨#[]⟩)]) 24 rfl Tryd.underlying27 info49 rfl (by decide) (by omega) v0 [] pb Ap pb.length cAp (fun _ => True) (fun k => some k ≠ v0.ownBlock) rfl rfl ho0 (Kd.C_below HAp.out (below_step HB.out hHeld)) (fun x cs h => by rw [k49_open h]; exact k49_mkM _ _ _ x) (fun _ h => ⟨trivial, h⟩) (fun _ _ => trivial) hHeld hHeld.size (by have := HQ.out; simp only [List.length_nil]; omega) ?_
              intro v2 w2 ho2 hb hg_ hat
              obtain ⟨b2, e2⟩ : ∃ b2, v2.ownBlock = some b2 := by
                rcases hat with h | ⟨b, h, hl⟩
                · exact ⟨b0, h.trans e0⟩
                · exact ⟨b, h⟩
              clear hg_ hat
              refine hK.out _ _ hb (fun hHeld => ?_)
              clear hK K
              refine norm_ (a' := ?_) ?_ ?_
              rotate_left
              · show Act.put _ (some 140) _ = _
                simp only [Act.put, List.setIfInBounds_toArray, List.set_cons_zero, List.set_cons_succ, i64_w, i32_w]
                rfl
              clear hb
              refine one_ (i := 4) (N := some 142) #[true, true, true, true, true, false, false, false, false, false, false, false] rfl rfl (one_of HT_.out (by kernel_rfl)) (by decide) (fun K hK => ?_)
              refine Kd.R_lit_step k49 (w0 := X4) X4.heap.size 49 (by rfl) (N := 142) ?hd (xs := [y4]) (inner := [.bool y4.f0, .string y4.f1]) (ok := fun _ => True) (okp := fun _ => True) ?hr ?hp (fun _ hk => hk) trivial hHeld hHeld.size (by simp) ?_
              case hd => rfl
              case hr => first | (go_simp; done) | (go_simp; rfl)
              case hp => exact Reps.c2 (k49_mkM _ _ _ y4) (Reps.none _ _)
              rintro v4 w4 ho4 hb hg_ ⟨b4, e4, l4⟩
              replace ho2 := Kd.R_grown1 ho2 rfl hg_ (by rw [e2]; simp)
              clear hg_ l4
              refine hK.out _ _ hb (fun hHeld => ?_)
              clear hK K
              refine norm_ (a' := ?_) ?_ ?_
              rotate_left
              · show Act.put _ (some 142) _ = _
                simp only [Act.put, List.setIfInBounds_toArray, List.set_cons_zero, List.set_cons_succ, i64_w, i32_w]
                rfl
              clear hb
              exact norm_ (by first | (simp only [putAll, Act.put, List.setIfInBounds_toArray, List.set_cons_zero, List.set_cons_succ]; done) | (simp only [putAll, Act.put, List.setIfInBounds_toArray, List.set_cons_zero, List.set_cons_succ]; rfl)) (hJA ⟨v0, v2, v4⟩ _ ⟨hHeld, ho2, ho4, b2, e2⟩)
            · refine Kd.R_lit_step k49 (w0 := X4) X4.heap.size 49 (by rfl) (N := 142) ?hd (xs := [y4]) (inner := [.bool y4.f0, .string y4.f1]) (ok := fun _ => True) (okp := fun _ => True) ?hr ?hp (fun _ hk => hk) trivial hHeld hHeld.size (by simp) ?_
              case hd => rfl
              case hr => first | (go_simp; done) | (go_simp; rfl)
              case hp => exact Reps.c2 (k49_mkM _ _ _ y4) (Reps.none _ _)
              rintro v4 w4 ho4 hb hg_ ⟨b4, e4, l4⟩
              have ne04 : b0 ≠ b4 := fun e => by have := Kd.R_lt ho0 b0 e0; omega
              replace ho0 := Kd.R_grown1 ho0 rfl hg_ (by rw [e0]; simp)
              clear hg_ l4
              refine hK.out _ _ hb (fun hHeld => ?_)
              clear hK K
              refine norm_ (a' := ?_) ?_ ?_
              rotate_left
              · show Act.put _ (some 142) _ = _
                simp only [Act.put, List.setIfInBounds_toArray, List.set_cons_zero, List.set_cons_succ, i64_w, i32_w]
                rfl
              clear hb
              refine one_ (i := 2) (N := some 140) #[true, true, true, true, true, false, false, false, false, false, false, false] rfl rfl (one_of HT_.out (by kernel_rfl)) (by decide) (fun K hK => ?_)
              refine Kd.R_append_rows_step k49 (w0 := X4) X4.heap.size (by rfl) (.tmp 138) (.tmp 139) 27 49 (.agg #[(.bool false), (.string ⟨#[]⟩)]) 24 rfl Tryd.underlying27 info49 rfl (by decide) (by omega) v0 [] pb Ap pb.length cAp (fun _ => True) (fun k => some k ≠ v0.ownBlock) rfl rfl ho0 (Kd.C_below HAp.out (below_step HB.out hHeld)) (fun x cs h => by rw [k49_open h]; exact k49_mkM _ _ _ x) (fun _ h => ⟨trivial, h⟩) (fun _ _ => trivial) hHeld hHeld.size (by have := HQ.out; simp only [List.length_nil]; omega) ?_
              intro v2 w2 ho2 hb hg_ hat
              obtain ⟨b2, e2⟩ : ∃ b2, v2.ownBlock = some b2 := by
                rcases hat with h | ⟨b, h, hl⟩
                · exact ⟨b0, h.trans e0⟩
                · exact ⟨b, h⟩
              replace ho4 := Kd.R_grown1 ho4 rfl hg_ (by rw [e0, e4]; exact fun e => ne04 (Option.some.inj e))
              clear hg_ hat
              refine hK.out _ _ hb (fun hHeld => ?_)
              clear hK K
              refine norm_ (a' := ?_) ?_ ?_
              rotate_left
              · show Act.put _ (some 140) _ = _
                simp only [Act.put, List.setIfInBounds_toArray, List.set_cons_zero, List.set_cons_succ, i64_w, i32_w]
                rfl
              clear hb
              exact norm_ (by first | (simp only [putAll, Act.put, List.setIfInBounds_toArray, List.set_cons_zero, List.set_cons_succ]; done) | (simp only [putAll, Act.put, List.setIfInBounds_toArray, List.set_cons_zero, List.set_cons_succ]; rfl)) (hJA ⟨v0, v2, v4⟩ _ ⟨hHeld, ho2, ho4, b2, e2⟩)
          · refine Kd.R_lit_step k49 (w0 := X4) X4.heap.size 49 (by rfl) (N := 142) ?hd (xs := [y4]) (inner := [.bool y4.f0, .string y4.f1]) (ok := fun _ => True) (okp := fun _ => True) ?hr ?hp (fun _ hk => hk) trivial hHeld hHeld.size (by simp) ?_
            case hd => rfl
            case hr => first | (go_simp; done) | (go_simp; rfl)
            case hp => exact Reps.c2 (k49_mkM _ _ _ y4) (Reps.none _ _)
            rintro v4 w4 ho4 hb hg_ ⟨b4, e4, l4⟩
            clear hg_ l4
            refine hK.out _ _ hb (fun hHeld => ?_)
            clear hK K
            refine norm_ (a' := ?_) ?_ ?_
            rotate_left
            · show Act.put _ (some 142) _ = _
              simp only [Act.put, List.setIfInBounds_toArray, List.set_cons_zero, List.set_cons_succ, i64_w, i32_w]
              rfl
            clear hb
            refine one_ (i := 0) (N := some 138) #[true, true, false, true, true, false, false, false, false, false, false, false] rfl rfl (one_of HT_.out (by kernel_rfl)) (by decide) (fun K hK => ?_)
            refine Kd.R_lit_step k49 (w0 := X4) X4.heap.size 49 (by rfl) (N := 138) ?hd (xs := ([] : List Ln)) (inner := []) (ok := fun _ => True) (okp := fun _ => True) ?hr ?hp (fun _ hk => hk) trivial hHeld hHeld.size (by simp) ?_
            case hd => rfl
            case hr => first | (go_simp; done) | (go_simp; rfl)
            case hp => exact (Reps.none _ _)
            rintro v0 w0 ho0 hb hg_ ⟨b0, e0, l0⟩
            have ne04 : b0 ≠ b4 := fun e => by have := Kd.R_lt ho4 b4 e4; omega
            replace ho4 := Kd.R_grown1 ho4 rfl hg_ (by rw [e4]; simp)
            clear hg_ l0
            refine hK.out _ _ hb (fun hHeld => ?_)
            clear hK K
            refine norm_ (a' := ?_) ?_ ?_
            rotate_left
            · show Act.put _ (some 138) _ = _
              simp only [Act.put, List.setIfInBounds_toArray, List.set_cons_zero, List.set_cons_succ, i64_w, i32_w]
              rfl
            clear hb
            refine one_ (i := 2) (N := some 140) #[true, true, true, true, true, false, false, false, false, false, false, false] rfl rfl (one_of HT_.out (by kernel_rfl)) (by decide) (fun K hK => ?_)
            refine Kd.R_append_rows_step k49 (w0 := X4) X4.heap.size (by rfl) (.tmp 138) (.tmp 139) 27 49 (.agg #[(.bool false), (.string ⟨#[]⟩)]) 24 rfl Tryd.underlying27 info49 rfl (by decide) (by omega) v0 [] pb Ap pb.length cAp (fun _ => True) (fun k => some k ≠ v0.ownBlock) rfl rfl ho0 (Kd.C_below HAp.out (below_step HB.out hHeld)) (fun x cs h => by rw [k49_open h]; exact k49_mkM _ _ _ x) (fun _ h => ⟨trivial, h⟩) (fun _ _ => trivial) hHeld hHeld.size (by have := HQ.out; simp only [List.length_nil]; omega) ?_
            intro v2 w2 ho2 hb hg_ hat
            obtain ⟨b2, e2⟩ : ∃ b2, v2.ownBlock = some b2 := by
              rcases hat with h | ⟨b, h, hl⟩
              · exact ⟨b0, h.trans e0⟩
              · exact ⟨b, h⟩
            replace ho4 := Kd.R_grown1 ho4 rfl hg_ (by rw [e0, e4]; exact fun e => ne04 (Option.some.inj e))
            clear hg_ hat
            refine hK.out _ _ hb (fun hHeld => ?_)
            clear hK K
            refine norm_ (a' := ?_) ?_ ?_
            rotate_left
            · show Act.put _ (some 140) _ = _
              simp only [Act.put, List.setIfInBounds_toArray, List.set_cons_zero, List.set_cons_succ, i64_w, i32_w]
              rfl
            clear hb
            exact norm_ (by first | (simp only [putAll, Act.put, List.setIfInBounds_toArray, List.set_cons_zero, List.set_cons_succ]; done) | (simp only [putAll, Act.put, List.setIfInBounds_toArray, List.set_cons_zero, List.set_cons_succ]; rfl)) (hJA ⟨v0, v2, v4⟩ _ ⟨hHeld, ho2, ho4, b2, e2⟩)
        rintro ⟨v0, v2, v4⟩ w_ ⟨hHeld, ho2, ho4, b2, e2⟩
        refine norm_ (a' := ?_) ?_ ?_
        rotate_left
        · simp only [putAll, Act.put, List.setIfInBounds_toArray, List.set_cons_zero, List.set_cons_succ]
          rfl
        refine one_ (i := 5) (N := some 143) #[true, true, true, true, true, true, false, false, false, false, false, false] rfl rfl (one_of HT_.out (by kernel_rfl)) (by decide) (fun K hK => ?_)
        obtain ⟨A4, c4, q4⟩ := Kd.R_slice ho4
        subst q4
        refine Kd.R_append_rows_step k49 (w0 := X4) X4.heap.size (by rfl) (.tmp 140) (.tmp 142) 27 49 (.agg #[(.bool false), (.string ⟨#[]⟩)]) 24 rfl Tryd.underlying27 info49 rfl (by decide) (by omega) v2 ([] ++ pb) [y4] A4 1 c4 (fun _ => True) (fun k => some k ≠ v2.ownBlock) rfl rfl ho2 (Kd.R_reads' ho4).2.2 (fun x cs h => by rw [k49_open h]; exact k49_mkM _ _ _ x) (fun _ h => ⟨trivial, h⟩) (fun _ _ => trivial) hHeld hHeld.size (by have := HQ.out; simp only [List.length_append, List.length_nil]; omega) ?_
        intro v5 w5 ho5 hb hg_ hat
        clear hg_ hat ho2 ho4 e2
        refine hK.out _ _ hb (fun hHeld => ?_)
        clear hK K
        refine norm_ (a' := ?_) ?_ ?_
        rotate_left
        · show Act.put _ (some 143) _ = _
          simp only [Act.put, List.setIfInBounds_toArray, List.set_cons_zero, List.set_cons_succ, i64_w, i32_w]
          rfl
        clear hb
        refine one_ (i := 6) (N := some 144) #[true, true, true, true, true, true, true, false, false, false, false, false] rfl rfl (one_of HT_.out (by kernel_rfl)) (by decide) (fun K hK => ?_)
        obtain ⟨A5, c5, q5⟩ := Kd.R_slice ho5
        subst q5
        have hc5 := (Kd.R_reads' ho5).2.1
        refine goes_ Tryd.func24 (by kernel_rfl) rfl #[.slice A5 ([] ++ pb ++ [y4]).length c5] (by rfl) rfl rfl (by (try simp only [List.map_toArray, List.map_cons, List.map_nil]); first | done | rfl) ?_
        refine (hello_Pushed.calls 6000000 A5 c5 ([] ++ pb ++ [y4]) _ _ _ (Kd.R_reads' ho5).2.2 hc5 F2.out).mono ?_
        rintro e w6 ⟨u1, rfl, ho, hb⟩
        refine ⟨_, rfl, ?_⟩
        clear ho
        refine hK.out _ _ (below_step hHeld hb) (fun hHeld => ?_)
        clear hK K
        refine norm_ (a' := ?_) ?_ ?_
        rotate_left
        · show Act.put _ (some 144) _ = _
          simp only [Act.put, List.setIfInBounds_toArray, List.set_cons_zero, List.set_cons_succ, i64_w, i32_w]
          rfl
        clear ho5 hc5 hb
        refine pure_ (i := 7) (N := some 137) (v := ?_) (a' := ?_) #[true, true, true, true, true, true, true, true, false, false, false, false] rfl rfl (any_of HT_.out (by kernel_rfl)) (fun _ _ _ h => h) (Or.inl ⟨by rfl, ?_⟩) ?_ ?_
        rotate_left
        · intro w'
          go_simp
          with_reducible rfl
        rotate_left
        · simp only [Act.put, List.setIfInBounds_toArray, List.set_cons_zero, List.set_cons_succ, i64_w, i32_w]
          rfl
        refine pure_ (i := 8) (N := some 145) (v := ?_) (a' := ?_) #[true, true, true, true, true, true, true, true, true, false, false, false] rfl rfl (any_of HT_.out (by kernel_rfl)) (fun _ _ _ h => h) (Or.inl ⟨by rfl, ?_⟩) ?_ ?_
        rotate_left
        · intro w'
          go_simp
          with_reducible rfl
        rotate_left
        · simp only [Act.put, List.setIfInBounds_toArray, List.set_cons_zero, List.set_cons_succ, i64_w, i32_w]
          rfl
        refine pure_ (i := 9) (N := some 146) (v := ?_) (a' := ?_) #[true, true, true, true, true, true, true, true, true, true, false, false] rfl rfl (any_of HT_.out (by kernel_rfl)) (fun _ _ _ h => h) (Or.inl ⟨by rfl, ?_⟩) ?_ ?_
        rotate_left
        · intro w'
          go_simp
          with_reducible rfl
        rotate_left
        · simp only [Act.put, List.setIfInBounds_toArray, List.set_cons_zero, List.set_cons_succ, i64_w, i32_w]
          rfl
        refine pure_ (i := 10) (N := some 30) (v := ?_) (a' := ?_) #[true, true, true, true, true, true, true, true, true, true, true, false] rfl rfl (any_of HT_.out (by kernel_rfl)) (fun _ _ _ h => h) (Or.inl ⟨by rfl, ?_⟩) ?_ ?_
        rotate_left
        · intro w'
          go_simp
          with_reducible rfl
        rotate_left
        · simp only [Act.put, List.setIfInBounds_toArray, List.set_cons_zero, List.set_cons_succ, i64_w, i32_w]
          rfl
        refine pure_ (i := 11) (N := some 31) (v := ?_) (a' := ?_) #[true, true, true, true, true, true, true, true, true, true, true, true] rfl rfl (any_of HT_.out (by kernel_rfl)) (fun _ _ _ h => h) (Or.inl ⟨by rfl, ?_⟩) ?_ ?_
        rotate_left
        · intro w'
          go_simp
          with_reducible rfl
        rotate_left
        · simp only [Act.put, List.setIfInBounds_toArray, List.set_cons_zero, List.set_cons_succ, i64_w, i32_w]
          rfl
        refine done_ (done_of HT_.out (by kernel_rfl)) ?_
        replace HB := Aside0.mk (below_step HB.out hHeld)
        clear hHeld
        go_wp2_with fail
        go_meet
        exact HB
    case rest =>
    as_aux_lemma =>
    clear HB
    have HB := hcut
    clear hcut
    obtain ⟨k0, k1⟩ := cellB HB.out H7.out

    cases is with
    | false =>
      cases in' with
      | false =>
        cases on with
        | false =>
          as_aux_lemma =>
          go_wp2
          go_ret
          exact ⟨rfl, HBw.out.trans ((HX.out.trans (HB.out.mono HX.out.size)).mono HBw.out.size)⟩
        | true =>
          as_aux_lemma =>
          obtain ⟨m3, ts3, p3, q3, r3, s3, t3⟩ := U3.out rfl
          have z3 : (pb.length : Int) = (l3.length : Int) + 1 := by omega
          have y3 : (pb.length : Int) ≤ 1000 := by omega
          have x30 : (l3.length : Int) ≤ 1000 := by omega
          clear m3 ts3 p3 q3 r3 s3 t3
          go_wp2
          go_ret
          exact ⟨rfl, HBw.out.trans ((HX.out.trans (HB.out.mono HX.out.size)).mono HBw.out.size)⟩
      | true =>
        cases on with
        | false =>
          as_aux_lemma =>
          obtain ⟨m2, ts2, p2, q2, r2, s2, t2⟩ := U2.out rfl
          have z2 : (ab.length : Int) = (lw.length : Int) + (lh.length : Int) + 2 := by omega
          have y2 : (ab.length : Int) ≤ 1000 := by omega
          have x20 : (lw.length : Int) ≤ 1000 := by omega
          have x21 : (lh.length : Int) ≤ 1000 := by omega
          clear m2 ts2 p2 q2 r2 s2 t2
          go_wp2
          go_ret
          exact ⟨rfl, HBw.out.trans ((HX.out.trans (HB.out.mono HX.out.size)).mono HBw.out.size)⟩
        | true =>
          as_aux_lemma =>
          obtain ⟨m2, ts2, p2, q2, r2, s2, t2⟩ := U2.out rfl
          have z2 : (ab.length : Int) = (lw.length : Int) + (lh.length : Int) + 2 := by omega
          have y2 : (ab.length : Int) ≤ 1000 := by omega
          have x20 : (lw.length : Int) ≤ 1000 := by omega
          have x21 : (lh.length : Int) ≤ 1000 := by omega
          clear m2 ts2 p2 q2 r2 s2 t2
          obtain ⟨m3, ts3, p3, q3, r3, s3, t3⟩ := U3.out rfl
          have z3 : (pb.length : Int) = (l3.length : Int) + 1 := by omega
          have y3 : (pb.length : Int) ≤ 1000 := by omega
          have x30 : (l3.length : Int) ≤ 1000 := by omega
          clear m3 ts3 p3 q3 r3 s3 t3
          go_wp2
          go_ret
          exact ⟨rfl, HBw.out.trans ((HX.out.trans (HB.out.mono HX.out.size)).mono HBw.out.size)⟩
    | true =>
      cases in' with
      | false =>
        cases on with
        | false =>
          as_aux_lemma =>
          obtain ⟨m1, ts1, p1, q1, r1, s1, t1⟩ := U1.out rfl
          have z1 : (tb.length : Int) = (l1.length : Int) + 2 := by omega
          have y1 : (tb.length : Int) ≤ 1000 := by omega
          have x10 : (l1.length : Int) ≤ 1000 := by omega
          clear m1 ts1 p1 q1 r1 s1 t1
          go_wp2
          go_ret
          exact ⟨rfl, HBw.out.trans ((HX.out.trans (HB.out.mono HX.out.size)).mono HBw.out.size)⟩
        | true =>
          as_aux_lemma =>
          obtain ⟨m1, ts1, p1, q1, r1, s1, t1⟩ := U1.out rfl
          have z1 : (tb.length : Int) = (l1.length : Int) + 2 := by omega
          have y1 : (tb.length : Int) ≤ 1000 := by omega
          have x10 : (l1.length : Int) ≤ 1000 := by omega
          clear m1 ts1 p1 q1 r1 s1 t1
          obtain ⟨m3, ts3, p3, q3, r3, s3, t3⟩ := U3.out rfl
          have z3 : (pb.length : Int) = (l3.length : Int) + 1 := by omega
          have y3 : (pb.length : Int) ≤ 1000 := by omega
          have x30 : (l3.length : Int) ≤ 1000 := by omega
          clear m3 ts3 p3 q3 r3 s3 t3
          go_wp2
          go_ret
          exact ⟨rfl, HBw.out.trans ((HX.out.trans (HB.out.mono HX.out.size)).mono HBw.out.size)⟩
      | true =>
        cases on with
        | false =>
          as_aux_lemma =>
          obtain ⟨m1, ts1, p1, q1, r1, s1, t1⟩ := U1.out rfl
          have z1 : (tb.length : Int) = (l1.length : Int) + 2 := by omega
          have y1 : (tb.length : Int) ≤ 1000 := by omega
          have x10 : (l1.length : Int) ≤ 1000 := by omega
          clear m1 ts1 p1 q1 r1 s1 t1
          obtain ⟨m2, ts2, p2, q2, r2, s2, t2⟩ := U2.out rfl
          have z2 : (ab.length : Int) = (lw.length : Int) + (lh.length : Int) + 2 := by omega
          have y2 : (ab.length : Int) ≤ 1000 := by omega
          have x20 : (lw.length : Int) ≤ 1000 := by omega
          have x21 : (lh.length : Int) ≤ 1000 := by omega
          clear m2 ts2 p2 q2 r2 s2 t2
          go_wp2
          go_ret
          exact ⟨rfl, HBw.out.trans ((HX.out.trans (HB.out.mono HX.out.size)).mono HBw.out.size)⟩
        | true =>
          as_aux_lemma =>
          obtain ⟨m1, ts1, p1, q1, r1, s1, t1⟩ := U1.out rfl
          have z1 : (tb.length : Int) = (l1.length : Int) + 2 := by omega
          have y1 : (tb.length : Int) ≤ 1000 := by omega
          have x10 : (l1.length : Int) ≤ 1000 := by omega
          clear m1 ts1 p1 q1 r1 s1 t1
          obtain ⟨m2, ts2, p2, q2, r2, s2, t2⟩ := U2.out rfl
          have z2 : (ab.length : Int) = (lw.length : Int) + (lh.length : Int) + 2 := by omega
          have y2 : (ab.length : Int) ≤ 1000 := by omega
          have x20 : (lw.length : Int) ≤ 1000 := by omega
          have x21 : (lh.length : Int) ≤ 1000 := by omega
          clear m2 ts2 p2 q2 r2 s2 t2
          obtain ⟨m3, ts3, p3, q3, r3, s3, t3⟩ := U3.out rfl
          have z3 : (pb.length : Int) = (l3.length : Int) + 1 := by omega
          have y3 : (pb.length : Int) ≤ 1000 := by omega
          have x30 : (l3.length : Int) ≤ 1000 := by omega
          clear m3 ts3 p3 q3 r3 s3 t3
          go_wp2
          go_ret
          exact ⟨rfl, HBw.out.trans ((HX.out.trans (HB.out.mono HX.out.size)).mono HBw.out.size)⟩
end Go.Proofs.YtmmionafcmnfoaaDoor.Hello
