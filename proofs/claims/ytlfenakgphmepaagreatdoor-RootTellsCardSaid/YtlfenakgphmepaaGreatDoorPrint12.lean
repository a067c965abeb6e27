/- Functions of the program as plain functions, and proofs that the program's calls tell what these tell. Written by a program. -/
import Derived.Test.YtlfenakgphmepaaGreatDoorPrint0
namespace Go.Proofs.YtlfenakgphmepaaGreatDoor.Print
open Go.RowKit YtlfenakgphmepaaGreatDoorW.PrintWords YtlfenakgphmepaaGreatDoorW.PrintLast YtlfenakgphmepaaGreatDoorW.PrintMore YtlfenakgphmepaaGreatDoor.Conv
attribute [local go_sem] max2_int min2_int max_two min_two max_three min_three max_four min_four
set_option linter.unusedVariables false
set_option linter.unusedSimpArgs false
def q9_above.f (a0 : ByteArray) (a1 : ByteArray) : Option (Bool) := if (a1.size : Int) > (a0.size : Int) then (if 0 <= (a0.size : Int) then (if (a0.size : Int) <= (a1.size : Int) then (if (a1.extract 0 ((a0.size : Int) : Int).toNat).toList = a0.toList then (if (a0.size : Int) < (a1.size : Int) then (some ((bt a1 (a0.size : Int)) == 47)) else (none)) else (some false)) else (none)) else (none)) else (some false)
set_option maxHeartbeats 8000000 in
set_option maxRecDepth 100000 in
theorem q9_above.calls (a0 : ByteArray) (a1 : ByteArray) (r : Bool) (w : World) (h : q9_above.f a0 a1 = some r) :
  Calls Tryz.prog 66 #[.string a0, .string a1] w fun e w' => e = .returned (.bool r) /\ Drawn0 w w' := by
 have H : (if (a1.size : Int) > (a0.size : Int) then (if 0 <= (a0.size : Int) then (if (a0.size : Int) <= (a1.size : Int) then (if (a1.extract 0 ((a0.size : Int) : Int).toNat).toList = a0.toList then (if (a0.size : Int) < (a1.size : Int) then (some ((bt a1 (a0.size : Int)) == 47)) else (none)) else (some false)) else (none)) else (none)) else (some false)) = some r := h
 clear h
 by_cases c3 : (a1.size : Int) > (a0.size : Int)
 ·rw [if_pos c3] at H
  have c3b0 : decide ((a0.size : Int) < (a1.size : Int)) = true := dt c3
  have c3b1 : decide (a0.size < a1.size) = true := dt (Int.ofNat_lt.mp c3)
  clear c3
  by_cases c4 : 0 <= (a0.size : Int)
  ·rw [if_pos c4] at H
   have c4b0 := eq_true c4
   have c4b1 : decide (0 <= (a0.size : Int)) = true := dt c4
   clear c4
   by_cases c5 : (a0.size : Int) <= (a1.size : Int)
   ·rw [if_pos c5] at H
    have c5b0 := eq_true c5
    have c5b1 : decide ((a0.size : Int) <= (a1.size : Int)) = true := dt c5
    clear c5
    by_cases c6 : (a1.extract 0 ((a0.size : Int) : Int).toNat).toList = a0.toList
    ·rw [if_pos c6] at H
     have c6b0 : ((a1.extract 0 ((a0.size : Int) : Int).toNat).toList == a0.toList) = true := beq_iff_eq.mpr c6
     (try (have c6b0s := c6b0; simp only [Int.toNat_natCast] at c6b0s))
     have c6b1 : ((a1.extract 0 ((a0.size : Int) : Int).toNat).toList != a0.toList) = false := bne_eq_false_iff_eq.mpr c6
     (try (have c6b1s := c6b1; simp only [Int.toNat_natCast] at c6b1s))
     clear c6
     by_cases c7 : (a0.size : Int) < (a1.size : Int)
     ·rw [if_pos c7] at H
      have c7b0 : decide ((a0.size : Int) < (a1.size : Int)) = true := dt c7
      have c7b1 : decide (a0.size < a1.size) = true := dt (Int.ofNat_lt.mp c7)
      clear c7
      obtain rfl := Option.some.inj H
      have p8 : 0 <= ((a0.size : Int) : Int) := dz
      have q8 : (a0.size : Int) < (a1.size : Int) := dz
      have hx8 := bt_at a1 (a0.size : Int)
      have hx8s := bt_at a1 (a0.size : Int)
      (try simp only [Int.toNat_natCast] at hx8s)
      replace p8 := eq_true p8
      replace q8 := eq_true q8
      go_enter Tryz.func66, Tryz.ntmps66
      go_wp2
      go_ret
      exact ⟨by first | rfl | (simp; done) | (simp [*]; done) | (simp; rw [hx8s (of_decide_eq_true (by assumption))]), wz⟩
     ·rw [if_neg c7] at H
      exact absurd H (by simp)
    ·rw [if_neg c6] at H
     have c6b0 : ((a1.extract 0 ((a0.size : Int) : Int).toNat).toList == a0.toList) = false := beq_eq_false_iff_ne.mpr c6
     (try (have c6b0s := c6b0; simp only [Int.toNat_natCast] at c6b0s))
     have c6b1 : ((a1.extract 0 ((a0.size : Int) : Int).toNat).toList != a0.toList) = true := bne_iff_ne.mpr c6
     (try (have c6b1s := c6b1; simp only [Int.toNat_natCast] at c6b1s))
     obtain rfl := Option.some.inj H
     go_enter Tryz.func66, Tryz.ntmps66
     go_wp2
     go_ret
     exact ⟨by first | rfl | (simp; done) | (simp [*]; done) | (simp; rw [hx8s (of_decide_eq_true (by assumption))]), wz⟩
   ·rw [if_neg c5] at H
    exact absurd H (by simp)
  ·rw [if_neg c4] at H
   exact absurd H (by simp)
 ·rw [if_neg c3] at H
  have c3b0 : decide ((a0.size : Int) < (a1.size : Int)) = false := df c3
  have c3b1 : decide (a0.size < a1.size) = false := df (fun h => c3 (Int.ofNat_lt.mpr h))
  clear c3
  obtain rfl := Option.some.inj H
  go_enter Tryz.func66, Tryz.ntmps66
  go_wp2
  go_ret
  exact ⟨by first | rfl | (simp; done) | (simp [*]; done) | (simp; rw [hx8s (of_decide_eq_true (by assumption))]), wz⟩
end Go.Proofs.YtlfenakgphmepaaGreatDoor.Print
