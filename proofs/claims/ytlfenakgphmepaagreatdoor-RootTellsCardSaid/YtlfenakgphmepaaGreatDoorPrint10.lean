/- Functions of the program as plain functions, and proofs that the program's calls tell what these tell. Written by a program. -/
import Derived.Test.YtlfenakgphmepaaGreatDoorPrint0
namespace Go.Proofs.YtlfenakgphmepaaGreatDoor.Print
open Go.RowKit YtlfenakgphmepaaGreatDoorW.PrintWords YtlfenakgphmepaaGreatDoorW.PrintLast YtlfenakgphmepaaGreatDoorW.PrintMore YtlfenakgphmepaaGreatDoor.Conv
attribute [local go_sem] max2_int min2_int max_two min_two max_three min_three max_four min_four
set_option linter.unusedVariables false
set_option linter.unusedSimpArgs false
def q9_part.l0 : Nat -> ByteArray -> Int -> Option (Bool)
 | 0, _, _ => none
 | k + 1, x0, x3 => if x3 < (x0.size : Int) then (if 0 <= x3 then (if (bt x0 x3) = 46 then (q9_part.l0 k x0 (wrap64 (x3 + 1))) else (if (bt x0 x3) = 45 then (q9_part.l0 k x0 (wrap64 (x3 + 1))) else (if (bt x0 x3) = 95 then (q9_part.l0 k x0 (wrap64 (x3 + 1))) else (if (bt x0 x3) < 97 then (if (bt x0 x3) < 48 then (some false) else (if (bt x0 x3) > 57 then (some false) else (q9_part.l0 k x0 (wrap64 (x3 + 1))))) else (if (bt x0 x3) > 122 then (if (bt x0 x3) < 48 then (some false) else (if (bt x0 x3) > 57 then (some false) else (q9_part.l0 k x0 (wrap64 (x3 + 1))))) else (q9_part.l0 k x0 (wrap64 (x3 + 1)))))))) else (none)) else (if (x0.size : Int) >= 1 then (if (x0.size : Int) <= 30 then (if 0 < (x0.size : Int) then (some ((bt x0 0) != 46)) else (none)) else (some false)) else (some false))
def q9_part.f (k : Nat) (a0 : ByteArray) : Option (Bool) := q9_part.l0 k a0 0
set_option maxHeartbeats 8000000 in
set_option maxRecDepth 100000 in
theorem q9_part.calls (k : Nat) (a0 : ByteArray) (r : Bool) (w : World) (h : q9_part.f k a0 = some r) :
  Calls Tryz.prog 67 #[.string a0] w fun e w' => e = .returned (.bool r) /\ Drawn0 w w' := by
 have H : (q9_part.l0 k a0 0) = some r := h
 clear h
 have H' := am H
 clear H
 go_enter Tryz.func67, Tryz.ntmps67
 go_wp2
 go_loopg [3] k (fun kq v3 w' => ∃ (x3_1 : Int), v3 = .int .i64 x3_1 /\ Asd (q9_part.l0 kq a0 x3_1 = some r) /\ Asd (kq <= k) /\ Drawn0 w w')
 case atStart => exact ⟨(0), (ez), H', ⟨Nat.le_refl _⟩, wz⟩
 case round =>
  clear H'
  obtain ⟨x3_1, rfl, HA, HK1, ⟨m1, rfl⟩⟩ := hrel
  cases gk with
  | zero => exact absurd HA.out (by simp [q9_part.l0])
  | succ k1 =>
   have H := HA.out
   clear HA
   simp only [q9_part.l0] at H
   by_cases c2 : x3_1 < (a0.size : Int)
   ·rw [if_pos c2] at H
    have c2b0 : decide (x3_1 < (a0.size : Int)) = true := dt c2
    clear c2
    by_cases c3 : 0 <= x3_1
    ·rw [if_pos c3] at H
     have c3b0 : decide (0 <= x3_1) = true := dt c3
     clear c3
     by_cases c5 : (bt a0 x3_1) = 46
     ·rw [if_pos c5] at H
      have c5b0 : ((bt a0 x3_1) == 46) = true := beq_iff_eq.mpr c5
      have c5b1 : ((bt a0 x3_1) != 46) = false := bne_eq_false_iff_eq.mpr c5
      clear c5
      have H' := am H
      clear H
      have p4 : 0 <= (x3_1 : Int) := dz
      have q4 : x3_1 < (a0.size : Int) := dz
      have hx4 := bt_at a0 x3_1
      replace p4 := eq_true p4
      replace q4 := eq_true q4
      go_wp2
      go_roundg k1
      case measure => have := HK1.out; omega
      case rel => exact ⟨(wrap64 (x3_1 + 1)), (ez), H', ⟨by have := HK1.out; omega⟩, wz⟩
     ·rw [if_neg c5] at H
      have c5b0 : ((bt a0 x3_1) == 46) = false := beq_eq_false_iff_ne.mpr c5
      have c5b1 : ((bt a0 x3_1) != 46) = true := bne_iff_ne.mpr c5
      by_cases c6 : (bt a0 x3_1) = 45
      ·rw [if_pos c6] at H
       have c6b0 : ((bt a0 x3_1) == 45) = true := beq_iff_eq.mpr c6
       have c6b1 : ((bt a0 x3_1) != 45) = false := bne_eq_false_iff_eq.mpr c6
       clear c6
       have H' := am H
       clear H
       have p4 : 0 <= (x3_1 : Int) := dz
       have q4 : x3_1 < (a0.size : Int) := dz
       have hx4 := bt_at a0 x3_1
       replace p4 := eq_true p4
       replace q4 := eq_true q4
       go_wp2
       go_roundg k1
       case measure => have := HK1.out; omega
       case rel => exact ⟨(wrap64 (x3_1 + 1)), (ez), H', ⟨by have := HK1.out; omega⟩, wz⟩
      ·rw [if_neg c6] at H
       have c6b0 : ((bt a0 x3_1) == 45) = false := beq_eq_false_iff_ne.mpr c6
       have c6b1 : ((bt a0 x3_1) != 45) = true := bne_iff_ne.mpr c6
       by_cases c7 : (bt a0 x3_1) = 95
       ·rw [if_pos c7] at H
        have c7b0 : ((bt a0 x3_1) == 95) = true := beq_iff_eq.mpr c7
        have c7b1 : ((bt a0 x3_1) != 95) = false := bne_eq_false_iff_eq.mpr c7
        clear c7
        have H' := am H
        clear H
        have p4 : 0 <= (x3_1 : Int) := dz
        have q4 : x3_1 < (a0.size : Int) := dz
        have hx4 := bt_at a0 x3_1
        replace p4 := eq_true p4
        replace q4 := eq_true q4
        go_wp2
        go_roundg k1
        case measure => have := HK1.out; omega
        case rel => exact ⟨(wrap64 (x3_1 + 1)), (ez), H', ⟨by have := HK1.out; omega⟩, wz⟩
       ·rw [if_neg c7] at H
        have c7b0 : ((bt a0 x3_1) == 95) = false := beq_eq_false_iff_ne.mpr c7
        have c7b1 : ((bt a0 x3_1) != 95) = true := bne_iff_ne.mpr c7
        by_cases c8 : (bt a0 x3_1) < 97
        ·rw [if_pos c8] at H
         have c8b0 : decide ((bt a0 x3_1) < 97) = true := dt c8
         clear c8
         by_cases c9 : (bt a0 x3_1) < 48
         ·rw [if_pos c9] at H
          have c9b0 : decide ((bt a0 x3_1) < 48) = true := dt c9
          clear c9
          obtain rfl := Option.some.inj H
          have p4 : 0 <= (x3_1 : Int) := dz
          have q4 : x3_1 < (a0.size : Int) := dz
          have hx4 := bt_at a0 x3_1
          replace p4 := eq_true p4
          replace q4 := eq_true q4
          go_wp2
          go_ret
          exact ⟨ez, wz⟩
         ·rw [if_neg c9] at H
          have c9b0 : decide ((bt a0 x3_1) < 48) = false := df c9
          clear c9
          by_cases c10 : (bt a0 x3_1) > 57
          ·rw [if_pos c10] at H
           have c10b0 : decide (57 < (bt a0 x3_1)) = true := dt c10
           clear c10
           obtain rfl := Option.some.inj H
           have p4 : 0 <= (x3_1 : Int) := dz
           have q4 : x3_1 < (a0.size : Int) := dz
           have hx4 := bt_at a0 x3_1
           replace p4 := eq_true p4
           replace q4 := eq_true q4
           go_wp2
           go_ret
           exact ⟨ez, wz⟩
          ·rw [if_neg c10] at H
           have c10b0 : decide (57 < (bt a0 x3_1)) = false := df c10
           clear c10
           have H' := am H
           clear H
           have p4 : 0 <= (x3_1 : Int) := dz
           have q4 : x3_1 < (a0.size : Int) := dz
           have hx4 := bt_at a0 x3_1
           replace p4 := eq_true p4
           replace q4 := eq_true q4
           go_wp2
           go_roundg k1
           case measure => have := HK1.out; omega
           case rel => exact ⟨(wrap64 (x3_1 + 1)), (ez), H', ⟨by have := HK1.out; omega⟩, wz⟩
        ·rw [if_neg c8] at H
         have c8b0 : decide ((bt a0 x3_1) < 97) = false := df c8
         clear c8
         by_cases c11 : (bt a0 x3_1) > 122
         ·rw [if_pos c11] at H
          have c11b0 : decide (122 < (bt a0 x3_1)) = true := dt c11
          clear c11
          by_cases c12 : (bt a0 x3_1) < 48
          ·rw [if_pos c12] at H
           have c12b0 : decide ((bt a0 x3_1) < 48) = true := dt c12
           clear c12
           obtain rfl := Option.some.inj H
           have p4 : 0 <= (x3_1 : Int) := dz
           have q4 : x3_1 < (a0.size : Int) := dz
           have hx4 := bt_at a0 x3_1
           replace p4 := eq_true p4
           replace q4 := eq_true q4
           go_wp2
           go_ret
           exact ⟨ez, wz⟩
          ·rw [if_neg c12] at H
           have c12b0 : decide ((bt a0 x3_1) < 48) = false := df c12
           clear c12
           by_cases c13 : (bt a0 x3_1) > 57
           ·rw [if_pos c13] at H
            have c13b0 : decide (57 < (bt a0 x3_1)) = true := dt c13
            clear c13
            obtain rfl := Option.some.inj H
            have p4 : 0 <= (x3_1 : Int) := dz
            have q4 : x3_1 < (a0.size : Int) := dz
            have hx4 := bt_at a0 x3_1
            replace p4 := eq_true p4
            replace q4 := eq_true q4
            go_wp2
            go_ret
            exact ⟨ez, wz⟩
           ·rw [if_neg c13] at H
            have c13b0 : decide (57 < (bt a0 x3_1)) = false := df c13
            clear c13
            have H' := am H
            clear H
            have p4 : 0 <= (x3_1 : Int) := dz
            have q4 : x3_1 < (a0.size : Int) := dz
            have hx4 := bt_at a0 x3_1
            replace p4 := eq_true p4
            replace q4 := eq_true q4
            go_wp2
            go_roundg k1
            case measure => have := HK1.out; omega
            case rel => exact ⟨(wrap64 (x3_1 + 1)), (ez), H', ⟨by have := HK1.out; omega⟩, wz⟩
         ·rw [if_neg c11] at H
          have c11b0 : decide (122 < (bt a0 x3_1)) = false := df c11
          clear c11
          have H' := am H
          clear H
          have p4 : 0 <= (x3_1 : Int) := dz
          have q4 : x3_1 < (a0.size : Int) := dz
          have hx4 := bt_at a0 x3_1
          replace p4 := eq_true p4
          replace q4 := eq_true q4
          go_wp2
          go_roundg k1
          case measure => have := HK1.out; omega
          case rel => exact ⟨(wrap64 (x3_1 + 1)), (ez), H', ⟨by have := HK1.out; omega⟩, wz⟩
    ·rw [if_neg c3] at H
     exact absurd H (by simp)
   ·rw [if_neg c2] at H
    have c2b0 : decide (x3_1 < (a0.size : Int)) = false := df c2
    clear c2
    by_cases c14 : (a0.size : Int) >= 1
    ·rw [if_pos c14] at H
     have c14b0 : decide (1 <= (a0.size : Int)) = true := dt c14
     have c14b1 : decide (1 <= a0.size) = true := dt (by omega)
     clear c14
     by_cases c15 : (a0.size : Int) <= 30
     ·rw [if_pos c15] at H
      have c15b0 : decide ((a0.size : Int) <= 30) = true := dt c15
      have c15b1 : decide (a0.size <= 30) = true := dt (by omega)
      clear c15
      by_cases c16 : 0 < (a0.size : Int)
      ·rw [if_pos c16] at H
       have c16b0 : decide (0 < (a0.size : Int)) = true := dt c16
       have c16b1 : decide (0 < a0.size) = true := dt (by omega)
       clear c16
       obtain rfl := Option.some.inj H
       have p17 : 0 <= (0 : Int) := (by omega)
       have q17 : 0 < a0.size := (by have : (0 : Int) < (a0.size : Int) := dz; omega)
       have hx17 : ∀ h : 0 < a0.size, ((a0[0]'h).toNat : Int) = bt a0 0 := bt_at a0 0
       clear p17
       have qi17 : (0 < (a0.size : Int)) = True := eq_true (dz)
       replace q17 := eq_true q17
       go_wp2
       go_ret
       exact ⟨ez, wz⟩
      ·rw [if_neg c16] at H
       exact absurd H (by simp)
     ·rw [if_neg c15] at H
      have c15b0 : decide ((a0.size : Int) <= 30) = false := df c15
      have c15b1 : decide (a0.size <= 30) = false := df (by omega)
      clear c15
      obtain rfl := Option.some.inj H
      go_wp2
      go_ret
      exact ⟨ez, wz⟩
    ·rw [if_neg c14] at H
     have c14b0 : decide (1 <= (a0.size : Int)) = false := df c14
     have c14b1 : decide (1 <= a0.size) = false := df (by omega)
     clear c14
     obtain rfl := Option.some.inj H
     go_wp2
     go_ret
     exact ⟨ez, wz⟩
end Go.Proofs.YtlfenakgphmepaaGreatDoor.Print
