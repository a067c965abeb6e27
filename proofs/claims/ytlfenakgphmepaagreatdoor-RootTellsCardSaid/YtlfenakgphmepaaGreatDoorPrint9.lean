/- Functions of the program as plain functions, and proofs that the program's calls tell what these tell. Written by a program. -/
import Derived.Test.YtlfenakgphmepaaGreatDoorPrint0
namespace Go.Proofs.YtlfenakgphmepaaGreatDoor.Print
open Go.RowKit YtlfenakgphmepaaGreatDoorW.PrintWords YtlfenakgphmepaaGreatDoorW.PrintLast YtlfenakgphmepaaGreatDoorW.PrintMore YtlfenakgphmepaaGreatDoor.Conv
attribute [local go_sem] max2_int min2_int max_two min_two max_three min_three max_four min_four
set_option linter.unusedVariables false
set_option linter.unusedSimpArgs false
def sacristyref10_Named.l0 : Nat -> ByteArray -> Int -> Option (Bool)
 | 0, _, _ => none
 | k + 1, x0, x3 => if x3 < (x0.size : Int) then (if 0 <= x3 then (if (bt x0 x3) = 45 then (sacristyref10_Named.l0 k x0 (wrap64 (x3 + 1))) else (if (bt x0 x3) < 97 then (if (bt x0 x3) < 48 then (some false) else (if (bt x0 x3) > 57 then (some false) else (sacristyref10_Named.l0 k x0 (wrap64 (x3 + 1))))) else (if (bt x0 x3) > 122 then (if (bt x0 x3) < 48 then (some false) else (if (bt x0 x3) > 57 then (some false) else (sacristyref10_Named.l0 k x0 (wrap64 (x3 + 1))))) else (sacristyref10_Named.l0 k x0 (wrap64 (x3 + 1)))))) else (none)) else (if (x0.size : Int) >= 1 then (some (decide ((x0.size : Int) <= 20))) else (some false))
def sacristyref10_Named.f (k : Nat) (a0 : ByteArray) : Option (Bool) := sacristyref10_Named.l0 k a0 0
set_option maxHeartbeats 8000000 in
set_option maxRecDepth 100000 in
theorem sacristyref10_Named.calls (k : Nat) (a0 : ByteArray) (r : Bool) (w : World) (h : sacristyref10_Named.f k a0 = some r) :
  Calls Tryz.prog 15 #[.string a0] w fun e w' => e = .returned (.bool r) /\ Drawn0 w w' := by
 have H : (sacristyref10_Named.l0 k a0 0) = some r := h
 clear h
 have H' := am H
 clear H
 go_enter Tryz.func15, Tryz.ntmps15
 go_wp2
 go_loopg [3] k (fun kq v3 w' => ∃ (x3_1 : Int), v3 = .int .i64 x3_1 /\ Asd (sacristyref10_Named.l0 kq a0 x3_1 = some r) /\ Asd (kq <= k) /\ Drawn0 w w')
 case atStart => exact ⟨(0), (ez), H', ⟨Nat.le_refl _⟩, wz⟩
 case round =>
  clear H'
  obtain ⟨x3_1, rfl, HA, HK1, ⟨m1, rfl⟩⟩ := hrel
  cases gk with
  | zero => exact absurd HA.out (by simp [sacristyref10_Named.l0])
  | succ k1 =>
   have H := HA.out
   clear HA
   simp only [sacristyref10_Named.l0] at H
   by_cases c2 : x3_1 < (a0.size : Int)
   ·rw [if_pos c2] at H
    have c2b0 : decide (x3_1 < (a0.size : Int)) = true := dt c2
    clear c2
    by_cases c3 : 0 <= x3_1
    ·rw [if_pos c3] at H
     have c3b0 : decide (0 <= x3_1) = true := dt c3
     clear c3
     by_cases c5 : (bt a0 x3_1) = 45
     ·rw [if_pos c5] at H
      have c5b0 : ((bt a0 x3_1) == 45) = true := beq_iff_eq.mpr c5
      have c5b1 : ((bt a0 x3_1) != 45) = false := bne_eq_false_iff_eq.mpr c5
      clear c5
      have H' := am H
      clear H
      have p4 : 0 <= (x3_1 : Int) := dz
      have q4 : x3_1 < (a0.size : Int) := dz
      have hx4 := bt_at a0 x3_1
      replace p4 := eq_true p4
      replace q4 := eq_true q4
      go_wp2
      go_roundg k1
      case measure => have := HK1.out; omega
      case rel => exact ⟨(wrap64 (x3_1 + 1)), (ez), H', ⟨by have := HK1.out; omega⟩, wz⟩
     ·rw [if_neg c5] at H
      have c5b0 : ((bt a0 x3_1) == 45) = false := beq_eq_false_iff_ne.mpr c5
      have c5b1 : ((bt a0 x3_1) != 45) = true := bne_iff_ne.mpr c5
      by_cases c6 : (bt a0 x3_1) < 97
      ·rw [if_pos c6] at H
       have c6b0 : decide ((bt a0 x3_1) < 97) = true := dt c6
       clear c6
       by_cases c7 : (bt a0 x3_1) < 48
       ·rw [if_pos c7] at H
        have c7b0 : decide ((bt a0 x3_1) < 48) = true := dt c7
        clear c7
        obtain rfl := Option.some.inj H
        have p4 : 0 <= (x3_1 : Int) := dz
        have q4 : x3_1 < (a0.size : Int) := dz
        have hx4 := bt_at a0 x3_1
        replace p4 := eq_true p4
        replace q4 := eq_true q4
        go_wp2
        go_ret
        exact ⟨ez, wz⟩
       ·rw [if_neg c7] at H
        have c7b0 : decide ((bt a0 x3_1) < 48) = false := df c7
        clear c7
        by_cases c8 : (bt a0 x3_1) > 57
        ·rw [if_pos c8] at H
         have c8b0 : decide (57 < (bt a0 x3_1)) = true := dt c8
         clear c8
         obtain rfl := Option.some.inj H
         have p4 : 0 <= (x3_1 : Int) := dz
         have q4 : x3_1 < (a0.size : Int) := dz
         have hx4 := bt_at a0 x3_1
         replace p4 := eq_true p4
         replace q4 := eq_true q4
         go_wp2
         go_ret
         exact ⟨ez, wz⟩
        ·rw [if_neg c8] at H
         have c8b0 : decide (57 < (bt a0 x3_1)) = false := df c8
         clear c8
         have H' := am H
         clear H
         have p4 : 0 <= (x3_1 : Int) := dz
         have q4 : x3_1 < (a0.size : Int) := dz
         have hx4 := bt_at a0 x3_1
         replace p4 := eq_true p4
         replace q4 := eq_true q4
         go_wp2
         go_roundg k1
         case measure => have := HK1.out; omega
         case rel => exact ⟨(wrap64 (x3_1 + 1)), (ez), H', ⟨by have := HK1.out; omega⟩, wz⟩
      ·rw [if_neg c6] at H
       have c6b0 : decide ((bt a0 x3_1) < 97) = false := df c6
       clear c6
       by_cases c9 : (bt a0 x3_1) > 122
       ·rw [if_pos c9] at H
        have c9b0 : decide (122 < (bt a0 x3_1)) = true := dt c9
        clear c9
        by_cases c10 : (bt a0 x3_1) < 48
        ·rw [if_pos c10] at H
         have c10b0 : decide ((bt a0 x3_1) < 48) = true := dt c10
         clear c10
         obtain rfl := Option.some.inj H
         have p4 : 0 <= (x3_1 : Int) := dz
         have q4 : x3_1 < (a0.size : Int) := dz
         have hx4 := bt_at a0 x3_1
         replace p4 := eq_true p4
         replace q4 := eq_true q4
         go_wp2
         go_ret
         exact ⟨ez, wz⟩
        ·rw [if_neg c10] at H
         have c10b0 : decide ((bt a0 x3_1) < 48) = false := df c10
         clear c10
         by_cases c11 : (bt a0 x3_1) > 57
         ·rw [if_pos c11] at H
          have c11b0 : decide (57 < (bt a0 x3_1)) = true := dt c11
          clear c11
          obtain rfl := Option.some.inj H
          have p4 : 0 <= (x3_1 : Int) := dz
          have q4 : x3_1 < (a0.size : Int) := dz
          have hx4 := bt_at a0 x3_1
          replace p4 := eq_true p4
          replace q4 := eq_true q4
          go_wp2
          go_ret
          exact ⟨ez, wz⟩
         ·rw [if_neg c11] at H
          have c11b0 : decide (57 < (bt a0 x3_1)) = false := df c11
          clear c11
          have H' := am H
          clear H
          have p4 : 0 <= (x3_1 : Int) := dz
          have q4 : x3_1 < (a0.size : Int) := dz
          have hx4 := bt_at a0 x3_1
          replace p4 := eq_true p4
          replace q4 := eq_true q4
          go_wp2
          go_roundg k1
          case measure => have := HK1.out; omega
          case rel => exact ⟨(wrap64 (x3_1 + 1)), (ez), H', ⟨by have := HK1.out; omega⟩, wz⟩
       ·rw [if_neg c9] at H
        have c9b0 : decide (122 < (bt a0 x3_1)) = false := df c9
        clear c9
        have H' := am H
        clear H
        have p4 : 0 <= (x3_1 : Int) := dz
        have q4 : x3_1 < (a0.size : Int) := dz
        have hx4 := bt_at a0 x3_1
        replace p4 := eq_true p4
        replace q4 := eq_true q4
        go_wp2
        go_roundg k1
        case measure => have := HK1.out; omega
        case rel => exact ⟨(wrap64 (x3_1 + 1)), (ez), H', ⟨by have := HK1.out; omega⟩, wz⟩
    ·rw [if_neg c3] at H
     exact absurd H (by simp)
   ·rw [if_neg c2] at H
    have c2b0 : decide (x3_1 < (a0.size : Int)) = false := df c2
    clear c2
    by_cases c12 : (a0.size : Int) >= 1
    ·rw [if_pos c12] at H
     have c12b0 : decide (1 <= (a0.size : Int)) = true := dt c12
     have c12b1 : decide (1 <= a0.size) = true := dt (by omega)
     clear c12
     obtain rfl := Option.some.inj H
     go_wp2
     go_ret
     exact ⟨ez, wz⟩
    ·rw [if_neg c12] at H
     have c12b0 : decide (1 <= (a0.size : Int)) = false := df c12
     have c12b1 : decide (1 <= a0.size) = false := df (by omega)
     clear c12
     obtain rfl := Option.some.inj H
     go_wp2
     go_ret
     exact ⟨ez, wz⟩
def q2_Named.l0 : Nat -> ByteArray -> Int -> Option (Bool)
 | 0, _, _ => none
 | k + 1, x0, x3 => if x3 < 64 then (if 0 <= x3 then (if x3 < (x0.size : Int) then (if (bt x0 x3) >= 48 then (if (bt x0 x3) <= 57 then (q2_Named.l0 k x0 (wrap64 (x3 + 1))) else (if (bt x0 x3) >= 97 then (if ((bt x0 x3) <= 102) then (q2_Named.l0 k x0 (wrap64 (x3 + 1))) else (some false)) else (some false))) else (if (bt x0 x3) >= 97 then (if ((bt x0 x3) <= 102) then (q2_Named.l0 k x0 (wrap64 (x3 + 1))) else (some false)) else (some false))) else (none)) else (none)) else (some true)
def q2_Named.f (k : Nat) (a0 : ByteArray) : Option (Bool) := if (a0.size : Int) = 64 then (q2_Named.l0 k a0 0) else (some false)
set_option maxHeartbeats 8000000 in
set_option maxRecDepth 100000 in
theorem q2_Named.calls (k : Nat) (a0 : ByteArray) (r : Bool) (w : World) (h : q2_Named.f k a0 = some r) :
  Calls Tryz.prog 65 #[.string a0] w fun e w' => e = .returned (.bool r) /\ Drawn0 w w' := by
 have H : (if (a0.size : Int) = 64 then (q2_Named.l0 k a0 0) else (some false)) = some r := h
 clear h
 by_cases c2 : (a0.size : Int) = 64
 ·rw [if_pos c2] at H
  have c2b0 : ((a0.size : Int) == 64) = true := beq_iff_eq.mpr c2
  have c2b1 : ((a0.size : Int) != 64) = false := bne_eq_false_iff_eq.mpr c2
  clear c2
  have H' := am H
  clear H
  go_enter Tryz.func65, Tryz.ntmps65
  go_wp2
  go_loopg [3] k (fun kq v3 w' => ∃ (x3_1 : Int), v3 = .int .i64 x3_1 /\ Asd (q2_Named.l0 kq a0 x3_1 = some r) /\ Asd (kq <= k) /\ Drawn0 w w')
  case atStart => exact ⟨(0), (ez), H', ⟨Nat.le_refl _⟩, wz⟩
  case round =>
   clear H'
   obtain ⟨x3_1, rfl, HA, HK1, ⟨m1, rfl⟩⟩ := hrel
   cases gk with
   | zero => exact absurd HA.out (by simp [q2_Named.l0])
   | succ k1 =>
    have H := HA.out
    clear HA
    simp only [q2_Named.l0] at H
    by_cases c3 : x3_1 < 64
    ·rw [if_pos c3] at H
     have c3b0 : decide (x3_1 < 64) = true := dt c3
     clear c3
     by_cases c4 : 0 <= x3_1
     ·rw [if_pos c4] at H
      have c4b0 : decide (0 <= x3_1) = true := dt c4
      clear c4
      by_cases c5 : x3_1 < (a0.size : Int)
      ·rw [if_pos c5] at H
       have c5b0 : decide (x3_1 < (a0.size : Int)) = true := dt c5
       clear c5
       by_cases c7 : (bt a0 x3_1) >= 48
       ·rw [if_pos c7] at H
        have c7b0 : decide (48 <= (bt a0 x3_1)) = true := dt c7
        clear c7
        by_cases c9 : (bt a0 x3_1) <= 57
        ·rw [if_pos c9] at H
         have c9b0 : decide ((bt a0 x3_1) <= 57) = true := dt c9
         clear c9
         have H' := am H
         clear H
         have p6 : 0 <= (x3_1 : Int) := dz
         have q6 : x3_1 < (a0.size : Int) := dz
         have hx6 := bt_at a0 x3_1
         replace p6 := eq_true p6
         replace q6 := eq_true q6
         have p8 : 0 <= (x3_1 : Int) := dz
         have q8 : x3_1 < (a0.size : Int) := dz
         have hx8 := bt_at a0 x3_1
         replace p8 := eq_true p8
         replace q8 := eq_true q8
         go_wp2
         go_roundg k1
         case measure => have := HK1.out; omega
         case rel => exact ⟨(wrap64 (x3_1 + 1)), (ez), H', ⟨by have := HK1.out; omega⟩, wz⟩
        ·rw [if_neg c9] at H
         have c9b0 : decide ((bt a0 x3_1) <= 57) = false := df c9
         clear c9
         by_cases c11 : (bt a0 x3_1) >= 97
         ·rw [if_pos c11] at H
          have c11b0 : decide (97 <= (bt a0 x3_1)) = true := dt c11
          clear c11
          by_cases c13 : ((bt a0 x3_1) <= 102)
          ·rw [if_pos c13] at H
           have c13b0 : decide ((bt a0 x3_1) <= 102) = true := dt c13
           clear c13
           have H' := am H
           clear H
           have p6 : 0 <= (x3_1 : Int) := dz
           have q6 : x3_1 < (a0.size : Int) := dz
           have hx6 := bt_at a0 x3_1
           replace p6 := eq_true p6
           replace q6 := eq_true q6
           have p8 : 0 <= (x3_1 : Int) := dz
           have q8 : x3_1 < (a0.size : Int) := dz
           have hx8 := bt_at a0 x3_1
           replace p8 := eq_true p8
           replace q8 := eq_true q8
           have p10 : 0 <= (x3_1 : Int) := dz
           have q10 : x3_1 < (a0.size : Int) := dz
           have hx10 := bt_at a0 x3_1
           replace p10 := eq_true p10
           replace q10 := eq_true q10
           have p12 : 0 <= (x3_1 : Int) := dz
           have q12 : x3_1 < (a0.size : Int) := dz
           have hx12 := bt_at a0 x3_1
           replace p12 := eq_true p12
           replace q12 := eq_true q12
           go_wp2
           go_roundg k1
           case measure => have := HK1.out; omega
           case rel => exact ⟨(wrap64 (x3_1 + 1)), (ez), H', ⟨by have := HK1.out; omega⟩, wz⟩
          ·rw [if_neg c13] at H
           have c13b0 : decide ((bt a0 x3_1) <= 102) = false := df c13
           clear c13
           obtain rfl := Option.some.inj H
           have p6 : 0 <= (x3_1 : Int) := dz
           have q6 : x3_1 < (a0.size : Int) := dz
           have hx6 := bt_at a0 x3_1
           replace p6 := eq_true p6
           replace q6 := eq_true q6
           have p8 : 0 <= (x3_1 : Int) := dz
           have q8 : x3_1 < (a0.size : Int) := dz
           have hx8 := bt_at a0 x3_1
           replace p8 := eq_true p8
           replace q8 := eq_true q8
           have p10 : 0 <= (x3_1 : Int) := dz
           have q10 : x3_1 < (a0.size : Int) := dz
           have hx10 := bt_at a0 x3_1
           replace p10 := eq_true p10
           replace q10 := eq_true q10
           have p12 : 0 <= (x3_1 : Int) := dz
           have q12 : x3_1 < (a0.size : Int) := dz
           have hx12 := bt_at a0 x3_1
           replace p12 := eq_true p12
           replace q12 := eq_true q12
           go_wp2
           go_ret
           exact ⟨ez, wz⟩
         ·rw [if_neg c11] at H
          have c11b0 : decide (97 <= (bt a0 x3_1)) = false := df c11
          clear c11
          obtain rfl := Option.some.inj H
          have p6 : 0 <= (x3_1 : Int) := dz
          have q6 : x3_1 < (a0.size : Int) := dz
          have hx6 := bt_at a0 x3_1
          replace p6 := eq_true p6
          replace q6 := eq_true q6
          have p8 : 0 <= (x3_1 : Int) := dz
          have q8 : x3_1 < (a0.size : Int) := dz
          have hx8 := bt_at a0 x3_1
          replace p8 := eq_true p8
          replace q8 := eq_true q8
          have p10 : 0 <= (x3_1 : Int) := dz
          have q10 : x3_1 < (a0.size : Int) := dz
          have hx10 := bt_at a0 x3_1
          replace p10 := eq_true p10
          replace q10 := eq_true q10
          go_wp2
          go_ret
          exact ⟨ez, wz⟩
       ·rw [if_neg c7] at H
        have c7b0 : decide (48 <= (bt a0 x3_1)) = false := df c7
        clear c7
        by_cases c15 : (bt a0 x3_1) >= 97
        ·rw [if_pos c15] at H
         have c15b0 : decide (97 <= (bt a0 x3_1)) = true := dt c15
         clear c15
         by_cases c17 : ((bt a0 x3_1) <= 102)
         ·rw [if_pos c17] at H
          have c17b0 : decide ((bt a0 x3_1) <= 102) = true := dt c17
          clear c17
          have H' := am H
          clear H
          have p6 : 0 <= (x3_1 : Int) := dz
          have q6 : x3_1 < (a0.size : Int) := dz
          have hx6 := bt_at a0 x3_1
          replace p6 := eq_true p6
          replace q6 := eq_true q6
          have p14 : 0 <= (x3_1 : Int) := dz
          have q14 : x3_1 < (a0.size : Int) := dz
          have hx14 := bt_at a0 x3_1
          replace p14 := eq_true p14
          replace q14 := eq_true q14
          have p16 : 0 <= (x3_1 : Int) := dz
          have q16 : x3_1 < (a0.size : Int) := dz
          have hx16 := bt_at a0 x3_1
          replace p16 := eq_true p16
          replace q16 := eq_true q16
          go_wp2
          go_roundg k1
          case measure => have := HK1.out; omega
          case rel => exact ⟨(wrap64 (x3_1 + 1)), (ez), H', ⟨by have := HK1.out; omega⟩, wz⟩
         ·rw [if_neg c17] at H
          have c17b0 : decide ((bt a0 x3_1) <= 102) = false := df c17
          clear c17
          obtain rfl := Option.some.inj H
          have p6 : 0 <= (x3_1 : Int) := dz
          have q6 : x3_1 < (a0.size : Int) := dz
          have hx6 := bt_at a0 x3_1
          replace p6 := eq_true p6
          replace q6 := eq_true q6
          have p14 : 0 <= (x3_1 : Int) := dz
          have q14 : x3_1 < (a0.size : Int) := dz
          have hx14 := bt_at a0 x3_1
          replace p14 := eq_true p14
          replace q14 := eq_true q14
          have p16 : 0 <= (x3_1 : Int) := dz
          have q16 : x3_1 < (a0.size : Int) := dz
          have hx16 := bt_at a0 x3_1
          replace p16 := eq_true p16
          replace q16 := eq_true q16
          go_wp2
          go_ret
          exact ⟨ez, wz⟩
        ·rw [if_neg c15] at H
         have c15b0 : decide (97 <= (bt a0 x3_1)) = false := df c15
         clear c15
         obtain rfl := Option.some.inj H
         have p6 : 0 <= (x3_1 : Int) := dz
         have q6 : x3_1 < (a0.size : Int) := dz
         have hx6 := bt_at a0 x3_1
         replace p6 := eq_true p6
         replace q6 := eq_true q6
         have p14 : 0 <= (x3_1 : Int) := dz
         have q14 : x3_1 < (a0.size : Int) := dz
         have hx14 := bt_at a0 x3_1
         replace p14 := eq_true p14
         replace q14 := eq_true q14
         go_wp2
         go_ret
         exact ⟨ez, wz⟩
      ·rw [if_neg c5] at H
       exact absurd H (by simp)
     ·rw [if_neg c4] at H
      exact absurd H (by simp)
    ·rw [if_neg c3] at H
     have c3b0 : decide (x3_1 < 64) = false := df c3
     clear c3
     obtain rfl := Option.some.inj H
     go_wp2
     go_ret
     exact ⟨ez, wz⟩
 ·rw [if_neg c2] at H
  have c2b0 : ((a0.size : Int) == 64) = false := beq_eq_false_iff_ne.mpr c2
  have c2b1 : ((a0.size : Int) != 64) = true := bne_iff_ne.mpr c2
  obtain rfl := Option.some.inj H
  go_enter Tryz.func65, Tryz.ntmps65
  go_wp2
  go_ret
  exact ⟨ez, wz⟩
mutual
def sacristyref10_packs.l0 : Nat -> List ByteArray -> Int -> Option (Bool)
 | 0, _, _ => none
 | k + 1, x0, x3 => if x3 < (x0.length : Int) then (if 0 <= x3 then ((q2_Named.f k (rdOf ByteArray.empty x0 x3)).bind fun t165 => (if t165 = true then (sacristyref10_packs.l1 k x0 x3 0) else (some false))) else (none)) else (some (decide ((x0.length : Int) <= 24)))
def sacristyref10_packs.l1 : Nat -> List ByteArray -> Int -> Int -> Option (Bool)
 | 0, _, _, _ => none
 | k + 1, x0, x3, x4 => if x4 < x3 then (if 0 <= x4 then (if x4 < (x0.length : Int) then (if 0 <= x3 then (if x3 < (x0.length : Int) then (if (rdOf ByteArray.empty x0 x4).toList = (rdOf ByteArray.empty x0 x3).toList then (some false) else (sacristyref10_packs.l1 k x0 x3 (wrap64 (x4 + 1)))) else (none)) else (none)) else (none)) else (none)) else (sacristyref10_packs.l0 k x0 (wrap64 (x3 + 1)))
end
def sacristyref10_packs.f (k : Nat) (l0 : List ByteArray) : Option (Bool) := sacristyref10_packs.l0 k l0 0
set_option maxHeartbeats 8000000 in
set_option maxRecDepth 100000 in
theorem sacristyref10_packs.calls (k : Nat) (A0 : Option Addr) (c0 : Nat) (l0 : List ByteArray) (r : Bool) (w : World) (hr0 : Kd.C Kd.string w A0 l0.length l0) (hc0 : l0.length <= c0) (h : sacristyref10_packs.f k l0 = some r) :
  Calls Tryz.prog 42 #[.slice A0 l0.length c0] w fun e w' => e = .returned (.bool r) /\ Drawn0 w w' := by
 have HR0 := am hr0
 have HC0 := am hc0
 clear hr0 hc0
 have H : (sacristyref10_packs.l0 k l0 0) = some r := h
 clear h
 have H' := am H
 clear H
 go_enter Tryz.func42, Tryz.ntmps42
 go_wp2
 repeat (go_quiet (fail); try go_wp2)
 go_loopg [3] k (fun kq v3 w' => ∃ (x3_1 : Int), v3 = .int .i64 x3_1 /\ Asd (sacristyref10_packs.l0 kq l0 x3_1 = some r) /\ Asd (kq <= k) /\ Drawn0 w w')
 case atStart => exact ⟨(0), (ez), H', ⟨Nat.le_refl _⟩, wz⟩
 case round =>
  clear H'
  obtain ⟨x3_1, rfl, HA, HK1, ⟨m1, rfl⟩⟩ := hrel
  cases gk with
  | zero => exact absurd HA.out (by simp [sacristyref10_packs.l0])
  | succ k1 =>
   have H := HA.out
   clear HA
   simp only [sacristyref10_packs.l0] at H
   by_cases c2 : x3_1 < (l0.length : Int)
   ·rw [if_pos c2] at H
    have c2b0 : decide (x3_1 < (l0.length : Int)) = true := dt c2
    clear c2
    by_cases c3 : 0 <= x3_1
    ·rw [if_pos c3] at H
     have c3b0 : decide (0 <= x3_1) = true := dt c3
     clear c3
     replace H := Option.bind_eq_some_iff.mp H
     obtain ⟨t165, A40, H⟩ := H
     replace H : (if t165 = true then (sacristyref10_packs.l1 k1 l0 x3_1 0) else (some false)) = some r := H
     have A4 := am A40
     by_cases c5 : t165 = true
     ·subst c5
      have H1 : (sacristyref10_packs.l1 k1 l0 x3_1 0) = some r := by rw [if_pos rfl] at H; exact H
      clear H
      have H := H1
      clear H1
      have H' := am H
      clear H
      have p164 : 0 <= (x3_1 : Int) := dz
      have q164 : x3_1 < (l0.length : Int) := dz
      obtain ⟨ad164, e164, hx164_0⟩ := Kd.at_string HR0.out x3_1 p164 q164
      cases e164
      replace p164 := eq_true p164
      replace q164 := eq_true q164
      go_wp2_with (first | (go_at_call 65; (with_reducible refine (q2_Named.calls k1 (rdOf ByteArray.empty l0 x3_1) true _ A4.out).mono ?_); rintro e w' ⟨rfl, ⟨nd, rfl⟩⟩; (try first | exact ⟨rfl, _, World.drewN_drewN _ _ _⟩ | exact ⟨rfl, _, Eq.trans (World.drewN_drewN _ _ _) (congrArg (World.drewN _) (Nat.add_assoc _ _ _))⟩)))
      repeat (go_quiet (first | (go_at_call 65; (with_reducible refine (q2_Named.calls k1 (rdOf ByteArray.empty l0 x3_1) true _ A4.out).mono ?_); rintro e w' ⟨rfl, ⟨nd, rfl⟩⟩; (try first | exact ⟨rfl, _, World.drewN_drewN _ _ _⟩ | exact ⟨rfl, _, Eq.trans (World.drewN_drewN _ _ _) (congrArg (World.drewN _) (Nat.add_assoc _ _ _))⟩))); try go_wp2_with (first | (go_at_call 65; (with_reducible refine (q2_Named.calls k1 (rdOf ByteArray.empty l0 x3_1) true _ A4.out).mono ?_); rintro e w' ⟨rfl, ⟨nd, rfl⟩⟩; (try first | exact ⟨rfl, _, World.drewN_drewN _ _ _⟩ | exact ⟨rfl, _, Eq.trans (World.drewN_drewN _ _ _) (congrArg (World.drewN _) (Nat.add_assoc _ _ _))⟩))))
      go_loopg [4] k1 (fun kq v4 w' => ∃ (x4_2 : Int), v4 = .int .i64 x4_2 /\ Asd (sacristyref10_packs.l1 kq l0 x3_1 x4_2 = some r) /\ Asd (kq <= k1) /\ Drawn0 w w')
      case atStart => exact ⟨(0), (ez), H', ⟨Nat.le_refl _⟩, wz⟩
      case round =>
       clear H'
       obtain ⟨x4_2, rfl, HA, HK2, ⟨m2, rfl⟩⟩ := hrel
       cases gk with
       | zero => exact absurd HA.out (by simp [sacristyref10_packs.l1])
       | succ k2 =>
        have H := HA.out
        clear HA
        simp only [sacristyref10_packs.l1] at H
        by_cases c6 : x4_2 < x3_1
        ·rw [if_pos c6] at H
         have c6b0 : decide (x4_2 < x3_1) = true := dt c6
         clear c6
         by_cases c7 : 0 <= x4_2
         ·rw [if_pos c7] at H
          have c7b0 : decide (0 <= x4_2) = true := dt c7
          clear c7
          by_cases c8 : x4_2 < (l0.length : Int)
          ·rw [if_pos c8] at H
           have c8b0 : decide (x4_2 < (l0.length : Int)) = true := dt c8
           clear c8
           by_cases c9 : 0 <= x3_1
           ·rw [if_pos c9] at H
            have c9b0 : decide (0 <= x3_1) = true := dt c9
            clear c9
            by_cases c10 : x3_1 < (l0.length : Int)
            ·rw [if_pos c10] at H
             have c10b0 : decide (x3_1 < (l0.length : Int)) = true := dt c10
             clear c10
             by_cases c11 : (rdOf ByteArray.empty l0 x4_2).toList = (rdOf ByteArray.empty l0 x3_1).toList
             ·rw [if_pos c11] at H
              have c11b0 : ((rdOf ByteArray.empty l0 x4_2).toList == (rdOf ByteArray.empty l0 x3_1).toList) = true := beq_iff_eq.mpr c11
              have c11b1 : ((rdOf ByteArray.empty l0 x4_2).toList != (rdOf ByteArray.empty l0 x3_1).toList) = false := bne_eq_false_iff_eq.mpr c11
              clear c11
              obtain rfl := Option.some.inj H
              have p166 : 0 <= (x4_2 : Int) := dz
              have q166 : x4_2 < (l0.length : Int) := dz
              obtain ⟨ad166, e166, hx166_0⟩ := Kd.at_string HR0.out x4_2 p166 q166
              obtain rfl : ad164 = ad166 := (by injection e166)
              replace p166 := eq_true p166
              replace q166 := eq_true q166
              have p167 : 0 <= (x3_1 : Int) := dz
              have q167 : x3_1 < (l0.length : Int) := dz
              obtain ⟨ad167, e167, hx167_0⟩ := Kd.at_string HR0.out x3_1 p167 q167
              obtain rfl : ad164 = ad167 := (by injection e167)
              replace p167 := eq_true p167
              replace q167 := eq_true q167
              go_wp2
              repeat (go_quiet (fail); try go_wp2)
              go_ret
              exact ⟨ez, wz⟩
             ·rw [if_neg c11] at H
              have c11b0 : ((rdOf ByteArray.empty l0 x4_2).toList == (rdOf ByteArray.empty l0 x3_1).toList) = false := beq_eq_false_iff_ne.mpr c11
              have c11b1 : ((rdOf ByteArray.empty l0 x4_2).toList != (rdOf ByteArray.empty l0 x3_1).toList) = true := bne_iff_ne.mpr c11
              have H' := am H
              clear H
              have p166 : 0 <= (x4_2 : Int) := dz
              have q166 : x4_2 < (l0.length : Int) := dz
              obtain ⟨ad166, e166, hx166_0⟩ := Kd.at_string HR0.out x4_2 p166 q166
              obtain rfl : ad164 = ad166 := (by injection e166)
              replace p166 := eq_true p166
              replace q166 := eq_true q166
              have p167 : 0 <= (x3_1 : Int) := dz
              have q167 : x3_1 < (l0.length : Int) := dz
              obtain ⟨ad167, e167, hx167_0⟩ := Kd.at_string HR0.out x3_1 p167 q167
              obtain rfl : ad164 = ad167 := (by injection e167)
              replace p167 := eq_true p167
              replace q167 := eq_true q167
              go_wp2
              repeat (go_quiet (fail); try go_wp2)
              go_roundg k2
              case measure => have := HK1.out; have := HK2.out; omega
              case rel => exact ⟨(wrap64 (x4_2 + 1)), (ez), H', ⟨by have := HK1.out; have := HK2.out; omega⟩, wz⟩
            ·rw [if_neg c10] at H
             exact absurd H (by simp)
           ·rw [if_neg c9] at H
            exact absurd H (by simp)
          ·rw [if_neg c8] at H
           exact absurd H (by simp)
         ·rw [if_neg c7] at H
          exact absurd H (by simp)
        ·rw [if_neg c6] at H
         have c6b0 : decide (x4_2 < x3_1) = false := df c6
         clear c6
         have H' := am H
         clear H
         go_wp2
         repeat (go_quiet (fail); try go_wp2)
         go_roundg k2
         case measure => have := HK1.out; have := HK2.out; omega
         case rel => exact ⟨(wrap64 (x3_1 + 1)), (ez), H', ⟨by have := HK1.out; have := HK2.out; omega⟩, wz⟩
     ·replace c5 := Bool.eq_false_iff.mpr c5
      subst c5
      have H1 : (some false) = some r := by rw [if_neg (show ¬ (false = true) by decide)] at H; exact H
      clear H
      have H := H1
      clear H1
      obtain rfl := Option.some.inj H
      have p164 : 0 <= (x3_1 : Int) := dz
      have q164 : x3_1 < (l0.length : Int) := dz
      obtain ⟨ad164, e164, hx164_0⟩ := Kd.at_string HR0.out x3_1 p164 q164
      cases e164
      replace p164 := eq_true p164
      replace q164 := eq_true q164
      go_wp2_with (first | (go_at_call 65; (with_reducible refine (q2_Named.calls k1 (rdOf ByteArray.empty l0 x3_1) false _ A4.out).mono ?_); rintro e w' ⟨rfl, ⟨nd, rfl⟩⟩; (try first | exact ⟨rfl, _, World.drewN_drewN _ _ _⟩ | exact ⟨rfl, _, Eq.trans (World.drewN_drewN _ _ _) (congrArg (World.drewN _) (Nat.add_assoc _ _ _))⟩)))
      repeat (go_quiet (first | (go_at_call 65; (with_reducible refine (q2_Named.calls k1 (rdOf ByteArray.empty l0 x3_1) false _ A4.out).mono ?_); rintro e w' ⟨rfl, ⟨nd, rfl⟩⟩; (try first | exact ⟨rfl, _, World.drewN_drewN _ _ _⟩ | exact ⟨rfl, _, Eq.trans (World.drewN_drewN _ _ _) (congrArg (World.drewN _) (Nat.add_assoc _ _ _))⟩))); try go_wp2_with (first | (go_at_call 65; (with_reducible refine (q2_Named.calls k1 (rdOf ByteArray.empty l0 x3_1) false _ A4.out).mono ?_); rintro e w' ⟨rfl, ⟨nd, rfl⟩⟩; (try first | exact ⟨rfl, _, World.drewN_drewN _ _ _⟩ | exact ⟨rfl, _, Eq.trans (World.drewN_drewN _ _ _) (congrArg (World.drewN _) (Nat.add_assoc _ _ _))⟩))))
      go_ret
      exact ⟨ez, wz⟩
    ·rw [if_neg c3] at H
     exact absurd H (by simp)
   ·rw [if_neg c2] at H
    have c2b0 : decide (x3_1 < (l0.length : Int)) = false := df c2
    clear c2
    obtain rfl := Option.some.inj H
    go_wp2
    repeat (go_quiet (fail); try go_wp2)
    go_ret
    exact ⟨ez, wz⟩
end Go.Proofs.YtlfenakgphmepaaGreatDoor.Print
