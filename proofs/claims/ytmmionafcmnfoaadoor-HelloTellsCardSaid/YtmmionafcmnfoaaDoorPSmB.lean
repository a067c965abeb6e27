/- The calls of a law, as a plain function, printed by a program. -/
import Derived.Test.YtmmionafcmnfoaaDoorPrint0
import Derived.Test.YtmmionafcmnfoaaDoorPrint1
import Derived.Test.YtmmionafcmnfoaaDoorPrint2
import Derived.Test.YtmmionafcmnfoaaDoorPrint3
import Derived.Test.YtmmionafcmnfoaaDoorPrint4
import Derived.Test.YtmmionafcmnfoaaDoorPrint6
import Derived.Test.YtmmionafcmnfoaaDoorPrint7
import Derived.Test.YtmmionafcmnfoaaDoorPrint8
import Derived.Test.YtmmionafcmnfoaaDoorPrint9
namespace Go.Proofs.YtmmionafcmnfoaaDoor.Print
open Go.RowKit Go.Proofs.YtmmionafcmnfoaaDoorW.PrintWords Go.Proofs.YtmmionafcmnfoaaDoorW.PrintLast Go.Proofs.YtmmionafcmnfoaaDoorW.PrintMore Go.Proofs.YtmmionafcmnfoaaDoor.Conv
attribute [local go_sem] max2_int min2_int max_two min_two max_three min_three max_four min_four
set_option linter.unusedVariables false
set_option linter.unusedSimpArgs false
attribute [local go_sem high] eqA49 eqA63 eqA65
def q9_Same.l0 : Nat -> List (S63) -> List (S63) -> Int -> Option (Bool)
 | 0, _, _, _ => none
 | k + 1, x0, x1, x5 => if x5 < (x0.length : Int) then (if 0 <= x5 then (if x5 < (x1.length : Int) then (if (!((((rd_T63 x0 x5).f0).toList) == (((rd_T63 x1 x5).f0).toList)) || (!((((rd_T63 x0 x5).f1).toList) == (((rd_T63 x1 x5).f1).toList)))) = true then (some false) else (q9_Same.l0 k x0 x1 (wrap64 (x5 + 1)))) else (none)) else (none)) else (some true)
def q9_Same.f (k : Nat) (l0 : List (S63)) (l1 : List (S63)) : Option (Bool) := if (l0.length : Int) = (l1.length : Int) then (q9_Same.l0 k l0 l1 0) else (some false)
set_option maxHeartbeats 8000000 in
set_option maxRecDepth 100000 in
theorem q9_Same.calls (k : Nat) (A0 : Option Addr) (c0 : Nat) (l0 : List (S63)) (A1 : Option Addr) (c1 : Nat) (l1 : List (S63)) (r : Bool) (w : World) (hr0 : Kd.C k63 w A0 l0.length l0) (hc0 : l0.length <= c0) (hr1 : Kd.C k63 w A1 l1.length l1) (hc1 : l1.length <= c1) (h : q9_Same.f k l0 l1 = some r) :
  Calls Tryd.prog 26 #[.slice A0 l0.length c0, .slice A1 l1.length c1] w fun e w' => e = .returned (.bool r) /\ Drawn0 w w' := by
 have hu63 := Tryd.underlying63
 have HR0 := Asd.mk hr0
 have HC0 := Asd.mk hc0
 clear hr0 hc0
 have HR1 := Asd.mk hr1
 have HC1 := Asd.mk hc1
 clear hr1 hc1
 have H : (if (l0.length : Int) = (l1.length : Int) then (q9_Same.l0 k l0 l1 0) else (some false)) = some r := h
 clear h
 by_cases c3 : (l0.length : Int) = (l1.length : Int)
 ·rw [if_pos c3] at H
  have c3b0 : ((l0.length : Int) == (l1.length : Int)) = true := beq_iff_eq.mpr c3
  have c3b1 : ((l0.length : Int) != (l1.length : Int)) = false := bne_eq_false_iff_eq.mpr c3
  have c3b2 : (l0.length == l1.length) = true := by first | simpa using c3 | (simp at c3 ⊢; omega)
  clear c3
  have H' := Asd.mk H
  clear H
  go_enter Tryd.func26, Tryd.ntmps26
  go_wp2
  repeat (go_quiet (fail); try go_wp2)
  go_loopg [5] k (fun kq v5 w' => ∃ (x5_1 : Int), v5 = .int .i64 x5_1 /\ Asd (q9_Same.l0 kq l0 l1 x5_1 = some r) /\ Asd (kq <= k) /\ Drawn0 w w')
  case atStart => exact ⟨(0), (by first | rfl | (simp; done) | (simp [*]; done)), H', ⟨Nat.le_refl _⟩, by repeat (first | exact Drawn0.refl _ | apply Drawn0.step)⟩
  case round =>
   clear H'
   try clear c1
   try clear c2
   try clear p2
   try clear c3
   try clear c3b0
   try clear c3b1
   try clear c3b2
   obtain ⟨x5_1, rfl, HA, HK1, ⟨m1, rfl⟩⟩ := hrel
   cases gk with
   | zero => exact absurd HA.out (by simp [q9_Same.l0])
   | succ k1 =>
    have H := HA.out
    clear HA
    simp only [q9_Same.l0] at H
    by_cases c4 : x5_1 < (l0.length : Int)
    ·rw [if_pos c4] at H
     have c4b0 : decide (x5_1 < (l0.length : Int)) = true := decide_eq_true c4
     clear c4
     by_cases c5 : 0 <= x5_1
     ·rw [if_pos c5] at H
      have c5b0 : decide (0 <= x5_1) = true := decide_eq_true c5
      clear c5
      by_cases c6 : x5_1 < (l1.length : Int)
      ·rw [if_pos c6] at H
       have c6b0 : decide (x5_1 < (l1.length : Int)) = true := decide_eq_true c6
       clear c6
       by_cases c7 : (!((((rd_T63 l0 x5_1).f0).toList) == (((rd_T63 l1 x5_1).f0).toList)) || (!((((rd_T63 l0 x5_1).f1).toList) == (((rd_T63 l1 x5_1).f1).toList)))) = true
       ·rw [if_pos c7] at H
        have c7b0 : (!((((rd_T63 l0 x5_1).f0).toList) == (((rd_T63 l1 x5_1).f0).toList)) || (!((((rd_T63 l0 x5_1).f1).toList) == (((rd_T63 l1 x5_1).f1).toList)))) = true := c7
        clear c7
        obtain rfl := Option.some.inj H
        have p386 : 0 <= (x5_1 : Int) := of_decide_eq_true (by first | (with_reducible assumption) | assumption)
        have q386 : x5_1 < (l0.length : Int) := of_decide_eq_true (by first | (with_reducible assumption) | assumption)
        obtain ⟨ad386, e386, hx386_0, hx386_1⟩ := at_T63 HR0.out x5_1 p386 q386
        cases e386
        replace p386 := eq_true p386
        replace q386 := eq_true q386
        have p387 : 0 <= (x5_1 : Int) := of_decide_eq_true (by first | (with_reducible assumption) | assumption)
        have q387 : x5_1 < (l1.length : Int) := of_decide_eq_true (by first | (with_reducible assumption) | assumption)
        obtain ⟨ad387, e387, hx387_0, hx387_1⟩ := at_T63 HR1.out x5_1 p387 q387
        cases e387
        replace p387 := eq_true p387
        replace q387 := eq_true q387
        go_wp2
        repeat (go_quiet (fail); try go_wp2)
        go_ret
        exact ⟨by first | rfl | (simp; done) | (simp [*]; done), by repeat (first | exact Drawn0.refl _ | apply Drawn0.step)⟩
       ·rw [if_neg c7] at H
        have c7b0 : (!((((rd_T63 l0 x5_1).f0).toList) == (((rd_T63 l1 x5_1).f0).toList)) || (!((((rd_T63 l0 x5_1).f1).toList) == (((rd_T63 l1 x5_1).f1).toList)))) = false := by simpa using c7
        clear c7
        have H' := Asd.mk H
        clear H
        have p386 : 0 <= (x5_1 : Int) := of_decide_eq_true (by first | (with_reducible assumption) | assumption)
        have q386 : x5_1 < (l0.length : Int) := of_decide_eq_true (by first | (with_reducible assumption) | assumption)
        obtain ⟨ad386, e386, hx386_0, hx386_1⟩ := at_T63 HR0.out x5_1 p386 q386
        cases e386
        replace p386 := eq_true p386
        replace q386 := eq_true q386
        have p387 : 0 <= (x5_1 : Int) := of_decide_eq_true (by first | (with_reducible assumption) | assumption)
        have q387 : x5_1 < (l1.length : Int) := of_decide_eq_true (by first | (with_reducible assumption) | assumption)
        obtain ⟨ad387, e387, hx387_0, hx387_1⟩ := at_T63 HR1.out x5_1 p387 q387
        cases e387
        replace p387 := eq_true p387
        replace q387 := eq_true q387
        go_wp2
        repeat (go_quiet (fail); try go_wp2)
        go_roundg k1
        case measure => have := HK1.out; omega
        case rel => exact ⟨(wrap64 (x5_1 + 1)), (by first | rfl | (simp; done) | (simp [*]; done)), H', ⟨by have := HK1.out; omega⟩, by repeat (first | exact Drawn0.refl _ | apply Drawn0.step)⟩
      ·rw [if_neg c6] at H
       exact absurd H (by simp)
     ·rw [if_neg c5] at H
      exact absurd H (by simp)
    ·rw [if_neg c4] at H
     have c4b0 : decide (x5_1 < (l0.length : Int)) = false := decide_eq_false c4
     clear c4
     obtain rfl := Option.some.inj H
     go_wp2
     repeat (go_quiet (fail); try go_wp2)
     go_ret
     exact ⟨by first | rfl | (simp; done) | (simp [*]; done), by repeat (first | exact Drawn0.refl _ | apply Drawn0.step)⟩
 ·rw [if_neg c3] at H
  have c3b0 : ((l0.length : Int) == (l1.length : Int)) = false := beq_eq_false_iff_ne.mpr c3
  have c3b1 : ((l0.length : Int) != (l1.length : Int)) = true := bne_iff_ne.mpr c3
  have c3b2 : (l0.length == l1.length) = false := by first | simpa using c3 | (simp at c3 ⊢; omega)
  obtain rfl := Option.some.inj H
  go_enter Tryd.func26, Tryd.ntmps26
  go_wp2
  repeat (go_quiet (fail); try go_wp2)
  go_ret
  exact ⟨by first | rfl | (simp; done) | (simp [*]; done), by repeat (first | exact Drawn0.refl _ | apply Drawn0.step)⟩
def q4_SameTexts.l0 : Nat -> List ByteArray -> List ByteArray -> Int -> Option (Bool)
 | 0, _, _, _ => none
 | k + 1, x0, x1, x5 => if x5 < (x0.length : Int) then (if 0 <= x5 then (if x5 < (x1.length : Int) then (if (rdOf ByteArray.empty x0 x5).toList = (rdOf ByteArray.empty x1 x5).toList then (q4_SameTexts.l0 k x0 x1 (wrap64 (x5 + 1))) else (some false)) else (none)) else (none)) else (some true)
def q4_SameTexts.f (k : Nat) (l0 : List ByteArray) (l1 : List ByteArray) : Option (Bool) := if (l0.length : Int) = (l1.length : Int) then (q4_SameTexts.l0 k l0 l1 0) else (some false)
set_option maxHeartbeats 8000000 in
set_option maxRecDepth 100000 in
theorem q4_SameTexts.calls (k : Nat) (A0 : Option Addr) (c0 : Nat) (l0 : List ByteArray) (A1 : Option Addr) (c1 : Nat) (l1 : List ByteArray) (r : Bool) (w : World) (hr0 : Kd.C Kd.string w A0 l0.length l0) (hc0 : l0.length <= c0) (hr1 : Kd.C Kd.string w A1 l1.length l1) (hc1 : l1.length <= c1) (h : q4_SameTexts.f k l0 l1 = some r) :
  Calls Tryd.prog 27 #[.slice A0 l0.length c0, .slice A1 l1.length c1] w fun e w' => e = .returned (.bool r) /\ Drawn0 w w' := by
 have HR0 := Asd.mk hr0
 have HC0 := Asd.mk hc0
 clear hr0 hc0
 have HR1 := Asd.mk hr1
 have HC1 := Asd.mk hc1
 clear hr1 hc1
 have H : (if (l0.length : Int) = (l1.length : Int) then (q4_SameTexts.l0 k l0 l1 0) else (some false)) = some r := h
 clear h
 by_cases c3 : (l0.length : Int) = (l1.length : Int)
 ·rw [if_pos c3] at H
  have c3b0 : ((l0.length : Int) == (l1.length : Int)) = true := beq_iff_eq.mpr c3
  have c3b1 : ((l0.length : Int) != (l1.length : Int)) = false := bne_eq_false_iff_eq.mpr c3
  have c3b2 : (l0.length == l1.length) = true := by first | simpa using c3 | (simp at c3 ⊢; omega)
  clear c3
  have H' := Asd.mk H
  clear H
  go_enter Tryd.func27, Tryd.ntmps27
  go_wp2
  repeat (go_quiet (fail); try go_wp2)
  go_loopg [5] k (fun kq v5 w' => ∃ (x5_1 : Int), v5 = .int .i64 x5_1 /\ Asd (q4_SameTexts.l0 kq l0 l1 x5_1 = some r) /\ Asd (kq <= k) /\ Drawn0 w w')
  case atStart => exact ⟨(0), (by first | rfl | (simp; done) | (simp [*]; done)), H', ⟨Nat.le_refl _⟩, by repeat (first | exact Drawn0.refl _ | apply Drawn0.step)⟩
  case round =>
   clear H'
   try clear c1
   try clear c2
   try clear p2
   try clear c3
   try clear c3b0
   try clear c3b1
   try clear c3b2
   obtain ⟨x5_1, rfl, HA, HK1, ⟨m1, rfl⟩⟩ := hrel
   cases gk with
   | zero => exact absurd HA.out (by simp [q4_SameTexts.l0])
   | succ k1 =>
    have H := HA.out
    clear HA
    simp only [q4_SameTexts.l0] at H
    by_cases c4 : x5_1 < (l0.length : Int)
    ·rw [if_pos c4] at H
     have c4b0 : decide (x5_1 < (l0.length : Int)) = true := decide_eq_true c4
     clear c4
     by_cases c5 : 0 <= x5_1
     ·rw [if_pos c5] at H
      have c5b0 : decide (0 <= x5_1) = true := decide_eq_true c5
      clear c5
      by_cases c6 : x5_1 < (l1.length : Int)
      ·rw [if_pos c6] at H
       have c6b0 : decide (x5_1 < (l1.length : Int)) = true := decide_eq_true c6
       clear c6
       by_cases c7 : (rdOf ByteArray.empty l0 x5_1).toList = (rdOf ByteArray.empty l1 x5_1).toList
       ·rw [if_pos c7] at H
        have c7b0 : ((rdOf ByteArray.empty l0 x5_1).toList == (rdOf ByteArray.empty l1 x5_1).toList) = true := beq_iff_eq.mpr c7
        have c7b1 : ((rdOf ByteArray.empty l0 x5_1).toList != (rdOf ByteArray.empty l1 x5_1).toList) = false := bne_eq_false_iff_eq.mpr c7
        clear c7
        have H' := Asd.mk H
        clear H
        have p388 : 0 <= (x5_1 : Int) := of_decide_eq_true (by first | (with_reducible assumption) | assumption)
        have q388 : x5_1 < (l0.length : Int) := of_decide_eq_true (by first | (with_reducible assumption) | assumption)
        obtain ⟨ad388, e388, hx388_0⟩ := Kd.at_string HR0.out x5_1 p388 q388
        cases e388
        replace p388 := eq_true p388
        replace q388 := eq_true q388
        have p389 : 0 <= (x5_1 : Int) := of_decide_eq_true (by first | (with_reducible assumption) | assumption)
        have q389 : x5_1 < (l1.length : Int) := of_decide_eq_true (by first | (with_reducible assumption) | assumption)
        obtain ⟨ad389, e389, hx389_0⟩ := Kd.at_string HR1.out x5_1 p389 q389
        cases e389
        replace p389 := eq_true p389
        replace q389 := eq_true q389
        go_wp2
        repeat (go_quiet (fail); try go_wp2)
        go_roundg k1
        case measure => have := HK1.out; omega
        case rel => exact ⟨(wrap64 (x5_1 + 1)), (by first | rfl | (simp; done) | (simp [*]; done)), H', ⟨by have := HK1.out; omega⟩, by repeat (first | exact Drawn0.refl _ | apply Drawn0.step)⟩
       ·rw [if_neg c7] at H
        have c7b0 : ((rdOf ByteArray.empty l0 x5_1).toList == (rdOf ByteArray.empty l1 x5_1).toList) = false := beq_eq_false_iff_ne.mpr c7
        have c7b1 : ((rdOf ByteArray.empty l0 x5_1).toList != (rdOf ByteArray.empty l1 x5_1).toList) = true := bne_iff_ne.mpr c7
        obtain rfl := Option.some.inj H
        have p388 : 0 <= (x5_1 : Int) := of_decide_eq_true (by first | (with_reducible assumption) | assumption)
        have q388 : x5_1 < (l0.length : Int) := of_decide_eq_true (by first | (with_reducible assumption) | assumption)
        obtain ⟨ad388, e388, hx388_0⟩ := Kd.at_string HR0.out x5_1 p388 q388
        cases e388
        replace p388 := eq_true p388
        replace q388 := eq_true q388
        have p389 : 0 <= (x5_1 : Int) := of_decide_eq_true (by first | (with_reducible assumption) | assumption)
        have q389 : x5_1 < (l1.length : Int) := of_decide_eq_true (by first | (with_reducible assumption) | assumption)
        obtain ⟨ad389, e389, hx389_0⟩ := Kd.at_string HR1.out x5_1 p389 q389
        cases e389
        replace p389 := eq_true p389
        replace q389 := eq_true q389
        go_wp2
        repeat (go_quiet (fail); try go_wp2)
        go_ret
        exact ⟨by first | rfl | (simp; done) | (simp [*]; done), by repeat (first | exact Drawn0.refl _ | apply Drawn0.step)⟩
      ·rw [if_neg c6] at H
       exact absurd H (by simp)
     ·rw [if_neg c5] at H
      exact absurd H (by simp)
    ·rw [if_neg c4] at H
     have c4b0 : decide (x5_1 < (l0.length : Int)) = false := decide_eq_false c4
     clear c4
     obtain rfl := Option.some.inj H
     go_wp2
     repeat (go_quiet (fail); try go_wp2)
     go_ret
     exact ⟨by first | rfl | (simp; done) | (simp [*]; done), by repeat (first | exact Drawn0.refl _ | apply Drawn0.step)⟩
 ·rw [if_neg c3] at H
  have c3b0 : ((l0.length : Int) == (l1.length : Int)) = false := beq_eq_false_iff_ne.mpr c3
  have c3b1 : ((l0.length : Int) != (l1.length : Int)) = true := bne_iff_ne.mpr c3
  have c3b2 : (l0.length == l1.length) = false := by first | simpa using c3 | (simp at c3 ⊢; omega)
  obtain rfl := Option.some.inj H
  go_enter Tryd.func27, Tryd.ntmps27
  go_wp2
  repeat (go_quiet (fail); try go_wp2)
  go_ret
  exact ⟨by first | rfl | (simp; done) | (simp [*]; done), by repeat (first | exact Drawn0.refl _ | apply Drawn0.step)⟩
def q6_SameUpdates.l0 : Nat -> List (S65) -> List (S65) -> Int -> Option (Bool)
 | 0, _, _, _ => none
 | k + 1, x0, x1, x5 => if x5 < (x0.length : Int) then (if 0 <= x5 then (if x5 < (x1.length : Int) then (if (!((((rd_T65 x0 x5).f0).toList) == (((rd_T65 x1 x5).f0).toList)) || (!((((rd_T65 x0 x5).f1).toList) == (((rd_T65 x1 x5).f1).toList)) || (!((((rd_T65 x0 x5).f2).toList) == (((rd_T65 x1 x5).f2).toList))))) = true then (some false) else (q6_SameUpdates.l0 k x0 x1 (wrap64 (x5 + 1)))) else (none)) else (none)) else (some true)
def q6_SameUpdates.f (k : Nat) (l0 : List (S65)) (l1 : List (S65)) : Option (Bool) := if (l0.length : Int) = (l1.length : Int) then (q6_SameUpdates.l0 k l0 l1 0) else (some false)
set_option maxHeartbeats 8000000 in
set_option maxRecDepth 100000 in
theorem q6_SameUpdates.calls (k : Nat) (A0 : Option Addr) (c0 : Nat) (l0 : List (S65)) (A1 : Option Addr) (c1 : Nat) (l1 : List (S65)) (r : Bool) (w : World) (hr0 : Kd.C k65 w A0 l0.length l0) (hc0 : l0.length <= c0) (hr1 : Kd.C k65 w A1 l1.length l1) (hc1 : l1.length <= c1) (h : q6_SameUpdates.f k l0 l1 = some r) :
  Calls Tryd.prog 28 #[.slice A0 l0.length c0, .slice A1 l1.length c1] w fun e w' => e = .returned (.bool r) /\ Drawn0 w w' := by
 have hu65 := Tryd.underlying65
 have HR0 := Asd.mk hr0
 have HC0 := Asd.mk hc0
 clear hr0 hc0
 have HR1 := Asd.mk hr1
 have HC1 := Asd.mk hc1
 clear hr1 hc1
 have H : (if (l0.length : Int) = (l1.length : Int) then (q6_SameUpdates.l0 k l0 l1 0) else (some false)) = some r := h
 clear h
 by_cases c3 : (l0.length : Int) = (l1.length : Int)
 ·rw [if_pos c3] at H
  have c3b0 : ((l0.length : Int) == (l1.length : Int)) = true := beq_iff_eq.mpr c3
  have c3b1 : ((l0.length : Int) != (l1.length : Int)) = false := bne_eq_false_iff_eq.mpr c3
  have c3b2 : (l0.length == l1.length) = true := by first | simpa using c3 | (simp at c3 ⊢; omega)
  clear c3
  have H' := Asd.mk H
  clear H
  go_enter Tryd.func28, Tryd.ntmps28
  go_wp2
  repeat (go_quiet (fail); try go_wp2)
  go_loopg [5] k (fun kq v5 w' => ∃ (x5_1 : Int), v5 = .int .i64 x5_1 /\ Asd (q6_SameUpdates.l0 kq l0 l1 x5_1 = some r) /\ Asd (kq <= k) /\ Drawn0 w w')
  case atStart => exact ⟨(0), (by first | rfl | (simp; done) | (simp [*]; done)), H', ⟨Nat.le_refl _⟩, by repeat (first | exact Drawn0.refl _ | apply Drawn0.step)⟩
  case round =>
   clear H'
   try clear c1
   try clear c2
   try clear p2
   try clear c3
   try clear c3b0
   try clear c3b1
   try clear c3b2
   obtain ⟨x5_1, rfl, HA, HK1, ⟨m1, rfl⟩⟩ := hrel
   cases gk with
   | zero => exact absurd HA.out (by simp [q6_SameUpdates.l0])
   | succ k1 =>
    have H := HA.out
    clear HA
    simp only [q6_SameUpdates.l0] at H
    by_cases c4 : x5_1 < (l0.length : Int)
    ·rw [if_pos c4] at H
     have c4b0 : decide (x5_1 < (l0.length : Int)) = true := decide_eq_true c4
     clear c4
     by_cases c5 : 0 <= x5_1
     ·rw [if_pos c5] at H
      have c5b0 : decide (0 <= x5_1) = true := decide_eq_true c5
      clear c5
      by_cases c6 : x5_1 < (l1.length : Int)
      ·rw [if_pos c6] at H
       have c6b0 : decide (x5_1 < (l1.length : Int)) = true := decide_eq_true c6
       clear c6
       by_cases c7 : (!((((rd_T65 l0 x5_1).f0).toList) == (((rd_T65 l1 x5_1).f0).toList)) || (!((((rd_T65 l0 x5_1).f1).toList) == (((rd_T65 l1 x5_1).f1).toList)) || (!((((rd_T65 l0 x5_1).f2).toList) == (((rd_T65 l1 x5_1).f2).toList))))) = true
       ·rw [if_pos c7] at H
        have c7b0 : (!((((rd_T65 l0 x5_1).f0).toList) == (((rd_T65 l1 x5_1).f0).toList)) || (!((((rd_T65 l0 x5_1).f1).toList) == (((rd_T65 l1 x5_1).f1).toList)) || (!((((rd_T65 l0 x5_1).f2).toList) == (((rd_T65 l1 x5_1).f2).toList))))) = true := c7
        clear c7
        obtain rfl := Option.some.inj H
        have p390 : 0 <= (x5_1 : Int) := of_decide_eq_true (by first | (with_reducible assumption) | assumption)
        have q390 : x5_1 < (l0.length : Int) := of_decide_eq_true (by first | (with_reducible assumption) | assumption)
        obtain ⟨ad390, e390, hx390_0, hx390_1, hx390_2⟩ := at_T65 HR0.out x5_1 p390 q390
        cases e390
        replace p390 := eq_true p390
        replace q390 := eq_true q390
        have p391 : 0 <= (x5_1 : Int) := of_decide_eq_true (by first | (with_reducible assumption) | assumption)
        have q391 : x5_1 < (l1.length : Int) := of_decide_eq_true (by first | (with_reducible assumption) | assumption)
        obtain ⟨ad391, e391, hx391_0, hx391_1, hx391_2⟩ := at_T65 HR1.out x5_1 p391 q391
        cases e391
        replace p391 := eq_true p391
        replace q391 := eq_true q391
        go_wp2
        repeat (go_quiet (fail); try go_wp2)
        go_ret
        exact ⟨by first | rfl | (simp; done) | (simp [*]; done), by repeat (first | exact Drawn0.refl _ | apply Drawn0.step)⟩
       ·rw [if_neg c7] at H
        have c7b0 : (!((((rd_T65 l0 x5_1).f0).toList) == (((rd_T65 l1 x5_1).f0).toList)) || (!((((rd_T65 l0 x5_1).f1).toList) == (((rd_T65 l1 x5_1).f1).toList)) || (!((((rd_T65 l0 x5_1).f2).toList) == (((rd_T65 l1 x5_1).f2).toList))))) = false := by simpa using c7
        clear c7
        have H' := Asd.mk H
        clear H
        have p390 : 0 <= (x5_1 : Int) := of_decide_eq_true (by first | (with_reducible assumption) | assumption)
        have q390 : x5_1 < (l0.length : Int) := of_decide_eq_true (by first | (with_reducible assumption) | assumption)
        obtain ⟨ad390, e390, hx390_0, hx390_1, hx390_2⟩ := at_T65 HR0.out x5_1 p390 q390
        cases e390
        replace p390 := eq_true p390
        replace q390 := eq_true q390
        have p391 : 0 <= (x5_1 : Int) := of_decide_eq_true (by first | (with_reducible assumption) | assumption)
        have q391 : x5_1 < (l1.length : Int) := of_decide_eq_true (by first | (with_reducible assumption) | assumption)
        obtain ⟨ad391, e391, hx391_0, hx391_1, hx391_2⟩ := at_T65 HR1.out x5_1 p391 q391
        cases e391
        replace p391 := eq_true p391
        replace q391 := eq_true q391
        go_wp2
        repeat (go_quiet (fail); try go_wp2)
        go_roundg k1
        case measure => have := HK1.out; omega
        case rel => exact ⟨(wrap64 (x5_1 + 1)), (by first | rfl | (simp; done) | (simp [*]; done)), H', ⟨by have := HK1.out; omega⟩, by repeat (first | exact Drawn0.refl _ | apply Drawn0.step)⟩
      ·rw [if_neg c6] at H
       exact absurd H (by simp)
     ·rw [if_neg c5] at H
      exact absurd H (by simp)
    ·rw [if_neg c4] at H
     have c4b0 : decide (x5_1 < (l0.length : Int)) = false := decide_eq_false c4
     clear c4
     obtain rfl := Option.some.inj H
     go_wp2
     repeat (go_quiet (fail); try go_wp2)
     go_ret
     exact ⟨by first | rfl | (simp; done) | (simp [*]; done), by repeat (first | exact Drawn0.refl _ | apply Drawn0.step)⟩
 ·rw [if_neg c3] at H
  have c3b0 : ((l0.length : Int) == (l1.length : Int)) = false := beq_eq_false_iff_ne.mpr c3
  have c3b1 : ((l0.length : Int) != (l1.length : Int)) = true := bne_iff_ne.mpr c3
  have c3b2 : (l0.length == l1.length) = false := by first | simpa using c3 | (simp at c3 ⊢; omega)
  obtain rfl := Option.some.inj H
  go_enter Tryd.func28, Tryd.ntmps28
  go_wp2
  repeat (go_quiet (fail); try go_wp2)
  go_ret
  exact ⟨by first | rfl | (simp; done) | (simp [*]; done), by repeat (first | exact Drawn0.refl _ | apply Drawn0.step)⟩
end Go.Proofs.YtmmionafcmnfoaaDoor.Print
