/- Functions of the program as plain functions, and proofs that the program's calls tell what these tell. Written by a program. -/
import Derived.Test.YtlfenakgphmepaaGreatDoorPrint0
namespace Go.Proofs.YtlfenakgphmepaaGreatDoor.Print
open Go.RowKit YtlfenakgphmepaaGreatDoorW.PrintWords YtlfenakgphmepaaGreatDoorW.PrintLast YtlfenakgphmepaaGreatDoorW.PrintMore YtlfenakgphmepaaGreatDoor.Conv
attribute [local go_sem] max2_int min2_int max_two min_two max_three min_three max_four min_four
set_option linter.unusedVariables false
set_option linter.unusedSimpArgs false
def root_Named.l0 : Nat -> ByteArray -> Int -> Int -> Option (Bool)
 | 0, _, _, _ => none
 | k + 1, x0, x6, x7 => if x7 < x6 then (if 0 <= x7 then (if x7 < (x0.size : Int) then (if (bt x0 x7) = 45 then (root_Named.l0 k x0 x6 (wrap64 (x7 + 1))) else (if (bt x0 x7) < 97 then (if (bt x0 x7) < 48 then (some false) else (if (bt x0 x7) > 57 then (some false) else (root_Named.l0 k x0 x6 (wrap64 (x7 + 1))))) else (if (bt x0 x7) > 122 then (if (bt x0 x7) < 48 then (some false) else (if (bt x0 x7) > 57 then (some false) else (root_Named.l0 k x0 x6 (wrap64 (x7 + 1))))) else (root_Named.l0 k x0 x6 (wrap64 (x7 + 1)))))) else (none)) else (none)) else (if x0.toList = ([] : List UInt8) then (some false) else (some (decide ((x0.size : Int) <= 20))))
def root_Named.f (k : Nat) (a0 : ByteArray) : Option (Bool) := root_Named.l0 k a0 (a0.size : Int) 0
set_option maxHeartbeats 8000000 in
set_option maxRecDepth 100000 in
theorem root_Named.calls (k : Nat) (a0 : ByteArray) (r : Bool) (w : World) (h : root_Named.f k a0 = some r) :
  Calls Tryz.prog 14 #[.string a0] w fun e w' => e = .returned (.bool r) /\ Drawn0 w w' := by
 have H : (root_Named.l0 k a0 (a0.size : Int) 0) = some r := h
 clear h
 have H' := am H
 clear H
 go_enter Tryz.func14, Tryz.ntmps14
 go_wp2
 go_loopg [7] k (fun kq v7 w' => ∃ (x7_1 : Int), v7 = .int .i64 x7_1 /\ Asd (root_Named.l0 kq a0 (a0.size : Int) x7_1 = some r) /\ Asd (kq <= k) /\ Drawn0 w w')
 case atStart => exact ⟨(0), (ez), H', ⟨Nat.le_refl _⟩, wz⟩
 case round =>
  clear H'
  obtain ⟨x7_1, rfl, HA, HK1, ⟨m1, rfl⟩⟩ := hrel
  cases gk with
  | zero => exact absurd HA.out (by simp [root_Named.l0])
  | succ k1 =>
   have H := HA.out
   clear HA
   simp only [root_Named.l0] at H
   by_cases c2 : x7_1 < (a0.size : Int)
   ·rw [if_pos c2] at H
    have c2b0 : decide (x7_1 < (a0.size : Int)) = true := dt c2
    clear c2
    by_cases c3 : 0 <= x7_1
    ·rw [if_pos c3] at H
     have c3b0 : decide (0 <= x7_1) = true := dt c3
     clear c3
     by_cases c4 : x7_1 < (a0.size : Int)
     ·rw [if_pos c4] at H
      have c4b0 : decide (x7_1 < (a0.size : Int)) = true := dt c4
      clear c4
      by_cases c6 : (bt a0 x7_1) = 45
      ·rw [if_pos c6] at H
       have c6b0 : ((bt a0 x7_1) == 45) = true := beq_iff_eq.mpr c6
       have c6b1 : ((bt a0 x7_1) != 45) = false := bne_eq_false_iff_eq.mpr c6
       clear c6
       have H' := am H
       clear H
       have p5 : 0 <= (x7_1 : Int) := dz
       have q5 : x7_1 < (a0.size : Int) := dz
       have hx5 := bt_at a0 x7_1
       replace p5 := eq_true p5
       replace q5 := eq_true q5
       go_wp2
       go_roundg k1
       case measure => have := HK1.out; omega
       case rel => exact ⟨(wrap64 (x7_1 + 1)), (ez), H', ⟨by have := HK1.out; omega⟩, wz⟩
      ·rw [if_neg c6] at H
       have c6b0 : ((bt a0 x7_1) == 45) = false := beq_eq_false_iff_ne.mpr c6
       have c6b1 : ((bt a0 x7_1) != 45) = true := bne_iff_ne.mpr c6
       by_cases c7 : (bt a0 x7_1) < 97
       ·rw [if_pos c7] at H
        have c7b0 : decide ((bt a0 x7_1) < 97) = true := dt c7
        clear c7
        by_cases c8 : (bt a0 x7_1) < 48
        ·rw [if_pos c8] at H
         have c8b0 : decide ((bt a0 x7_1) < 48) = true := dt c8
         clear c8
         obtain rfl := Option.some.inj H
         have p5 : 0 <= (x7_1 : Int) := dz
         have q5 : x7_1 < (a0.size : Int) := dz
         have hx5 := bt_at a0 x7_1
         replace p5 := eq_true p5
         replace q5 := eq_true q5
         go_wp2
         go_ret
         exact ⟨ez, wz⟩
        ·rw [if_neg c8] at H
         have c8b0 : decide ((bt a0 x7_1) < 48) = false := df c8
         clear c8
         by_cases c9 : (bt a0 x7_1) > 57
         ·rw [if_pos c9] at H
          have c9b0 : decide (57 < (bt a0 x7_1)) = true := dt c9
          clear c9
          obtain rfl := Option.some.inj H
          have p5 : 0 <= (x7_1 : Int) := dz
          have q5 : x7_1 < (a0.size : Int) := dz
          have hx5 := bt_at a0 x7_1
          replace p5 := eq_true p5
          replace q5 := eq_true q5
          go_wp2
          go_ret
          exact ⟨ez, wz⟩
         ·rw [if_neg c9] at H
          have c9b0 : decide (57 < (bt a0 x7_1)) = false := df c9
          clear c9
          have H' := am H
          clear H
          have p5 : 0 <= (x7_1 : Int) := dz
          have q5 : x7_1 < (a0.size : Int) := dz
          have hx5 := bt_at a0 x7_1
          replace p5 := eq_true p5
          replace q5 := eq_true q5
          go_wp2
          go_roundg k1
          case measure => have := HK1.out; omega
          case rel => exact ⟨(wrap64 (x7_1 + 1)), (ez), H', ⟨by have := HK1.out; omega⟩, wz⟩
       ·rw [if_neg c7] at H
        have c7b0 : decide ((bt a0 x7_1) < 97) = false := df c7
        clear c7
        by_cases c10 : (bt a0 x7_1) > 122
        ·rw [if_pos c10] at H
         have c10b0 : decide (122 < (bt a0 x7_1)) = true := dt c10
         clear c10
         by_cases c11 : (bt a0 x7_1) < 48
         ·rw [if_pos c11] at H
          have c11b0 : decide ((bt a0 x7_1) < 48) = true := dt c11
          clear c11
          obtain rfl := Option.some.inj H
          have p5 : 0 <= (x7_1 : Int) := dz
          have q5 : x7_1 < (a0.size : Int) := dz
          have hx5 := bt_at a0 x7_1
          replace p5 := eq_true p5
          replace q5 := eq_true q5
          go_wp2
          go_ret
          exact ⟨ez, wz⟩
         ·rw [if_neg c11] at H
          have c11b0 : decide ((bt a0 x7_1) < 48) = false := df c11
          clear c11
          by_cases c12 : (bt a0 x7_1) > 57
          ·rw [if_pos c12] at H
           have c12b0 : decide (57 < (bt a0 x7_1)) = true := dt c12
           clear c12
           obtain rfl := Option.some.inj H
           have p5 : 0 <= (x7_1 : Int) := dz
           have q5 : x7_1 < (a0.size : Int) := dz
           have hx5 := bt_at a0 x7_1
           replace p5 := eq_true p5
           replace q5 := eq_true q5
           go_wp2
           go_ret
           exact ⟨ez, wz⟩
          ·rw [if_neg c12] at H
           have c12b0 : decide (57 < (bt a0 x7_1)) = false := df c12
           clear c12
           have H' := am H
           clear H
           have p5 : 0 <= (x7_1 : Int) := dz
           have q5 : x7_1 < (a0.size : Int) := dz
           have hx5 := bt_at a0 x7_1
           replace p5 := eq_true p5
           replace q5 := eq_true q5
           go_wp2
           go_roundg k1
           case measure => have := HK1.out; omega
           case rel => exact ⟨(wrap64 (x7_1 + 1)), (ez), H', ⟨by have := HK1.out; omega⟩, wz⟩
        ·rw [if_neg c10] at H
         have c10b0 : decide (122 < (bt a0 x7_1)) = false := df c10
         clear c10
         have H' := am H
         clear H
         have p5 : 0 <= (x7_1 : Int) := dz
         have q5 : x7_1 < (a0.size : Int) := dz
         have hx5 := bt_at a0 x7_1
         replace p5 := eq_true p5
         replace q5 := eq_true q5
         go_wp2
         go_roundg k1
         case measure => have := HK1.out; omega
         case rel => exact ⟨(wrap64 (x7_1 + 1)), (ez), H', ⟨by have := HK1.out; omega⟩, wz⟩
     ·rw [if_neg c4] at H
      exact absurd H (by simp)
    ·rw [if_neg c3] at H
     exact absurd H (by simp)
   ·rw [if_neg c2] at H
    have c2b0 : decide (x7_1 < (a0.size : Int)) = false := df c2
    clear c2
    by_cases c13 : a0.toList = ([] : List UInt8)
    ·rw [if_pos c13] at H
     have c13b0 : (a0.toList == ([] : List UInt8)) = true := beq_iff_eq.mpr c13
     have c13b1 : (a0.toList != ([] : List UInt8)) = false := bne_eq_false_iff_eq.mpr c13
     clear c13
     obtain rfl := Option.some.inj H
     go_wp2
     go_ret
     exact ⟨ez, wz⟩
    ·rw [if_neg c13] at H
     have c13b0 : (a0.toList == ([] : List UInt8)) = false := beq_eq_false_iff_ne.mpr c13
     have c13b1 : (a0.toList != ([] : List UInt8)) = true := bne_iff_ne.mpr c13
     obtain rfl := Option.some.inj H
     go_wp2
     go_ret
     exact ⟨ez, wz⟩
def digest_Named.l0 : Nat -> ByteArray -> Int -> Int -> Option (Bool)
 | 0, _, _, _ => none
 | k + 1, x0, x6, x7 => if x7 < x6 then (if 0 <= x7 then (if x7 < (x0.size : Int) then (if (bt x0 x7) < 48 then (if (bt x0 x7) < 97 then (some false) else (if (bt x0 x7) > 102 then (some false) else (digest_Named.l0 k x0 x6 (wrap64 (x7 + 1))))) else (if (bt x0 x7) > 57 then (if (bt x0 x7) < 97 then (some false) else (if (bt x0 x7) > 102 then (some false) else (digest_Named.l0 k x0 x6 (wrap64 (x7 + 1))))) else (digest_Named.l0 k x0 x6 (wrap64 (x7 + 1))))) else (none)) else (none)) else (some ((x0.size : Int) == 64))
def digest_Named.f (k : Nat) (a0 : ByteArray) : Option (Bool) := digest_Named.l0 k a0 (a0.size : Int) 0
set_option maxHeartbeats 8000000 in
set_option maxRecDepth 100000 in
theorem digest_Named.calls (k : Nat) (a0 : ByteArray) (r : Bool) (w : World) (h : digest_Named.f k a0 = some r) :
  Calls Tryz.prog 64 #[.string a0] w fun e w' => e = .returned (.bool r) /\ Drawn0 w w' := by
 have H : (digest_Named.l0 k a0 (a0.size : Int) 0) = some r := h
 clear h
 have H' := am H
 clear H
 go_enter Tryz.func64, Tryz.ntmps64
 go_wp2
 go_loopg [7] k (fun kq v7 w' => ∃ (x7_1 : Int), v7 = .int .i64 x7_1 /\ Asd (digest_Named.l0 kq a0 (a0.size : Int) x7_1 = some r) /\ Asd (kq <= k) /\ Drawn0 w w')
 case atStart => exact ⟨(0), (ez), H', ⟨Nat.le_refl _⟩, wz⟩
 case round =>
  clear H'
  obtain ⟨x7_1, rfl, HA, HK1, ⟨m1, rfl⟩⟩ := hrel
  cases gk with
  | zero => exact absurd HA.out (by simp [digest_Named.l0])
  | succ k1 =>
   have H := HA.out
   clear HA
   simp only [digest_Named.l0] at H
   by_cases c2 : x7_1 < (a0.size : Int)
   ·rw [if_pos c2] at H
    have c2b0 : decide (x7_1 < (a0.size : Int)) = true := dt c2
    clear c2
    by_cases c3 : 0 <= x7_1
    ·rw [if_pos c3] at H
     have c3b0 : decide (0 <= x7_1) = true := dt c3
     clear c3
     by_cases c4 : x7_1 < (a0.size : Int)
     ·rw [if_pos c4] at H
      have c4b0 : decide (x7_1 < (a0.size : Int)) = true := dt c4
      clear c4
      by_cases c6 : (bt a0 x7_1) < 48
      ·rw [if_pos c6] at H
       have c6b0 : decide ((bt a0 x7_1) < 48) = true := dt c6
       clear c6
       by_cases c7 : (bt a0 x7_1) < 97
       ·rw [if_pos c7] at H
        have c7b0 : decide ((bt a0 x7_1) < 97) = true := dt c7
        clear c7
        obtain rfl := Option.some.inj H
        have p5 : 0 <= (x7_1 : Int) := dz
        have q5 : x7_1 < (a0.size : Int) := dz
        have hx5 := bt_at a0 x7_1
        replace p5 := eq_true p5
        replace q5 := eq_true q5
        go_wp2
        go_ret
        exact ⟨ez, wz⟩
       ·rw [if_neg c7] at H
        have c7b0 : decide ((bt a0 x7_1) < 97) = false := df c7
        clear c7
        by_cases c8 : (bt a0 x7_1) > 102
        ·rw [if_pos c8] at H
         have c8b0 : decide (102 < (bt a0 x7_1)) = true := dt c8
         clear c8
         obtain rfl := Option.some.inj H
         have p5 : 0 <= (x7_1 : Int) := dz
         have q5 : x7_1 < (a0.size : Int) := dz
         have hx5 := bt_at a0 x7_1
         replace p5 := eq_true p5
         replace q5 := eq_true q5
         go_wp2
         go_ret
         exact ⟨ez, wz⟩
        ·rw [if_neg c8] at H
         have c8b0 : decide (102 < (bt a0 x7_1)) = false := df c8
         clear c8
         have H' := am H
         clear H
         have p5 : 0 <= (x7_1 : Int) := dz
         have q5 : x7_1 < (a0.size : Int) := dz
         have hx5 := bt_at a0 x7_1
         replace p5 := eq_true p5
         replace q5 := eq_true q5
         go_wp2
         go_roundg k1
         case measure => have := HK1.out; omega
         case rel => exact ⟨(wrap64 (x7_1 + 1)), (ez), H', ⟨by have := HK1.out; omega⟩, wz⟩
      ·rw [if_neg c6] at H
       have c6b0 : decide ((bt a0 x7_1) < 48) = false := df c6
       clear c6
       by_cases c9 : (bt a0 x7_1) > 57
       ·rw [if_pos c9] at H
        have c9b0 : decide (57 < (bt a0 x7_1)) = true := dt c9
        clear c9
        by_cases c10 : (bt a0 x7_1) < 97
        ·rw [if_pos c10] at H
         have c10b0 : decide ((bt a0 x7_1) < 97) = true := dt c10
         clear c10
         obtain rfl := Option.some.inj H
         have p5 : 0 <= (x7_1 : Int) := dz
         have q5 : x7_1 < (a0.size : Int) := dz
         have hx5 := bt_at a0 x7_1
         replace p5 := eq_true p5
         replace q5 := eq_true q5
         go_wp2
         go_ret
         exact ⟨ez, wz⟩
        ·rw [if_neg c10] at H
         have c10b0 : decide ((bt a0 x7_1) < 97) = false := df c10
         clear c10
         by_cases c11 : (bt a0 x7_1) > 102
         ·rw [if_pos c11] at H
          have c11b0 : decide (102 < (bt a0 x7_1)) = true := dt c11
          clear c11
          obtain rfl := Option.some.inj H
          have p5 : 0 <= (x7_1 : Int) := dz
          have q5 : x7_1 < (a0.size : Int) := dz
          have hx5 := bt_at a0 x7_1
          replace p5 := eq_true p5
          replace q5 := eq_true q5
          go_wp2
          go_ret
          exact ⟨ez, wz⟩
         ·rw [if_neg c11] at H
          have c11b0 : decide (102 < (bt a0 x7_1)) = false := df c11
          clear c11
          have H' := am H
          clear H
          have p5 : 0 <= (x7_1 : Int) := dz
          have q5 : x7_1 < (a0.size : Int) := dz
          have hx5 := bt_at a0 x7_1
          replace p5 := eq_true p5
          replace q5 := eq_true q5
          go_wp2
          go_roundg k1
          case measure => have := HK1.out; omega
          case rel => exact ⟨(wrap64 (x7_1 + 1)), (ez), H', ⟨by have := HK1.out; omega⟩, wz⟩
       ·rw [if_neg c9] at H
        have c9b0 : decide (57 < (bt a0 x7_1)) = false := df c9
        clear c9
        have H' := am H
        clear H
        have p5 : 0 <= (x7_1 : Int) := dz
        have q5 : x7_1 < (a0.size : Int) := dz
        have hx5 := bt_at a0 x7_1
        replace p5 := eq_true p5
        replace q5 := eq_true q5
        go_wp2
        go_roundg k1
        case measure => have := HK1.out; omega
        case rel => exact ⟨(wrap64 (x7_1 + 1)), (ez), H', ⟨by have := HK1.out; omega⟩, wz⟩
     ·rw [if_neg c4] at H
      exact absurd H (by simp)
    ·rw [if_neg c3] at H
     exact absurd H (by simp)
   ·rw [if_neg c2] at H
    have c2b0 : decide (x7_1 < (a0.size : Int)) = false := df c2
    clear c2
    obtain rfl := Option.some.inj H
    go_wp2
    go_ret
    exact ⟨ez, wz⟩
def root_packs.g (k : Nat) (n : Nat) : List ByteArray -> List ByteArray -> Option (Bool)
 | _, [] => some (decide ((n : Int) <= 24))
 | seen, x :: t => if x.size <= 9223372036854775807 then (if (seen.any fun s => decide (s.data = x.data)) = true then some false else (digest_Named.f k x).bind fun b => if b = true then root_packs.g k n (x :: seen) t else some false) else none
def root_packs.f (k : Nat) (l0 : List ByteArray) : Option (Bool) := root_packs.g k l0.length [] l0
open Go.Maps in
theorem root_packs.law : Keyed Tryz.prog 9 := string_keyed Tryz.underlying9
theorem root_packs.zero (w : World) : (zeroValue 3).run Tryz.prog w = .ok (.int .i64 0) w := by kernel_rfl
def root_packs.key (s : ByteArray) : Lit := .string s.data.toList
def root_packs.C : List ByteArray -> DataW Unit
 | [] => .map []
 | s :: t => (root_packs.C t).put (root_packs.key s) (.lit (.int .i64 1))
theorem root_packs.key_is (s : ByteArray) (h : s.size <= 9223372036854775807) : keyOf Tryz.prog 9 (.string s) = some (root_packs.key s) := WideMaps.keyOf_string_mk Tryz.underlying9 h
theorem root_packs.key_lit (s : ByteArray) : WideAt.IsKeyLit (root_packs.key s) := by trivial
theorem root_packs.isMap : ∀ l : List ByteArray, Maps.IsMap (root_packs.C l)
 | [] => Maps.isMap_empty
 | _ :: t => (root_packs.isMap t).put _ _
theorem root_packs.any_mem (x : ByteArray) (l : List ByteArray) : (l.any fun s => decide (s.data = x.data)) = true <-> x ∈ l := by
 rw [List.any_eq_true]
 constructor
 ·rintro ⟨s, hs, h⟩
  rw [<- ByteArray.ext (of_decide_eq_true h)]
  exact hs
 ·intro h
  exact ⟨x, h, dt rfl⟩
theorem root_packs.at_in (x : ByteArray) : ∀ l : List ByteArray, x ∈ l -> (root_packs.C l).atKey (root_packs.key x) (.lit (.int .i64 0)) = .lit (.int .i64 1)
 | s :: t, h => by
  by_cases c : x = s
  ·subst c
   exact Maps.atKey_put_same (root_packs.isMap t) (root_packs.key_lit x) _ _
  ·have hne : root_packs.key x ≠ root_packs.key s := fun e => c (ByteArray.ext (Array.toList_inj.1 (by injection e)))
   show ((root_packs.C t).put _ _).atKey _ _ = _
   rw [Maps.atKey_put_other hne]
   exact root_packs.at_in x t ((List.mem_cons.1 h).resolve_left c)
theorem root_packs.at_out (x : ByteArray) : ∀ l : List ByteArray, ¬ x ∈ l -> (root_packs.C l).atKey (root_packs.key x) (.lit (.int .i64 0)) = .lit (.int .i64 0)
 | [], _ => rfl
 | s :: t, h => by
  have c : x ≠ s := fun e => h (by rw [e]; exact List.mem_cons_self)
  have hne : root_packs.key x ≠ root_packs.key s := fun e => c (ByteArray.ext (Array.toList_inj.1 (by injection e)))
  show ((root_packs.C t).put _ _).atKey _ _ = _
  rw [Maps.atKey_put_other hne]
  exact root_packs.at_out x t (fun e => h (List.mem_cons_of_mem _ e))
theorem root_packs.lit_inj {X : DataW Unit} {c d : Int} (h : X = .lit (.int .i64 c)) (h2 : X = .lit (.int .i64 d)) : c = d := by
 rw [h] at h2
 injection h2 with h2
 injection h2
set_option maxRecDepth 100000 in
set_option maxHeartbeats 4000000 in
theorem root_packs.calls (k : Nat) (A0 : Option Addr) (c0 : Nat) (l0 : List ByteArray) (r : Bool) (w : World) (hr0 : Kd.C Kd.string w A0 l0.length l0) (hc0 : l0.length <= c0) (h : root_packs.f k l0 = some r) :
  Calls Tryz.prog 41 #[.slice A0 l0.length c0] w fun e w' => e = .returned (.bool r) /\ Below w.heap.size w w' := by
 have HR := am hr0
 have hmax : l0.length <= 9223372036854775807 := hr0.2.1
 have HF := am h
 have hmm := @run_makeMap Tryz.prog
 clear hr0 h
 go_enter Tryz.func41, Tryz.ntmps41
 go_wp2
 go_loopg [9] l0.length (fun gg s9 wr => ∃ kk : Nat, kk <= l0.length /\ l0.length - kk <= gg /\ s9 = .int .i64 kk /\ Asd (Below w.heap.size w wr) /\ Asd (∃ seen, root_packs.g k l0.length seen (l0.drop kk) = some r /\ wr.ownsMap Tryz.prog 9 (plainElem Tryz.prog 3) w.heap.size kk (root_packs.C seen)))
 case atStart => exact ⟨0, Nat.zero_le _, by omega, rfl, ⟨bal (Below.refl _ _) _⟩, ⟨[], HF.out, World.ownsMap_made _ _ _ _⟩⟩
 case round =>
  obtain ⟨kk, hkk, hg, rfl, ⟨BW⟩, ⟨seen, A, own⟩⟩ := hrel
  by_cases hlt : kk < l0.length
  ·have hltz : (kk : Int) < (l0.length : Int) := by omega
   obtain ⟨ad, rfl, hc⟩ := (Kd.reads_of_C (enc := Value.string) (d := ByteArray.empty) (h1 := fun _ => rfl) (Kd.C_below HR.out BW)).2.2 (by omega)
   have hcell := hc kk hlt
   clear hc
   have hx : l0.getD kk ByteArray.empty = l0[kk] := by rw [List.getD_eq_getElem?_getD, List.getElem?_eq_getElem hlt]; rfl
   rw [hx] at hcell
   rw [List.drop_eq_getElem_cons hlt] at A
   generalize l0[kk] = x at hcell A
   simp only [root_packs.g] at A
   split at A
   case isFalse => cases A
   case isTrue hs =>
   have hkey := am (root_packs.key_is x hs)
   have HBW := am BW
   have HOWN := am own
   have hki := fun h => root_packs.at_in x seen ((root_packs.any_mem x seen).1 h)
   have hko := fun (h : ¬ (seen.any fun s => decide (s.data = x.data)) = true) => root_packs.at_out x seen (fun e => h ((root_packs.any_mem x seen).2 e))
   have HA := am A
   have hkm : kk < maxLen := by unfold maxLen; omega
   have HKM := am hkm
   by_cases c : (seen.any fun s => decide (s.data = x.data)) = true
   ·have HC1 := am (hki c)
    have hr : false = r := by have := HA.out; rw [if_pos c] at this; exact Option.some.inj this
    subst hr
    clear hki hko BW own A hkm hs
    go_wp2_with (first
     | (at_lookup; refine wpList_lookup_own_int _ rfl _ _ 97 rfl 9 3 .i64 root_packs.law Tryz.underlying97 Tryz.underlying3 (root_packs.zero _) w.heap.size kk _ rfl HOWN.out _ _ rfl hkey.out ?_; intro c1 hat hwc; obtain rfl := root_packs.lit_inj hat HC1.out; clear hat hwc)
     | (at_mapUpdate; refine wpList_mapUpdate_own _ rfl _ _ _ 97 rfl 9 3 root_packs.law Tryz.underlying97 _ w.heap.size kk _ rfl HOWN.out HKM.out _ _ _ rfl rfl hkey.out _ [] (plainElem_int Tryz.underlying3 (by decide)) ?_; intro w1 hown1 hgrow1; have HOWN1 := am hown1; have HG1 := am (HBW.out.grown hgrow1 HBW.out.size (fun j hj => by cases hj; exact Nat.le_refl _)); clear hown1 hgrow1)
     | (at_lookup; refine wpList_lookup_own_int _ rfl _ _ 97 rfl 9 3 .i64 root_packs.law Tryz.underlying97 Tryz.underlying3 (root_packs.zero _) w.heap.size (kk + 1) _ rfl HOWN1.out _ _ rfl hkey.out ?_; intro c2 hat hwc; obtain rfl := root_packs.lit_inj hat (Maps.atKey_put_same (root_packs.isMap seen) (root_packs.key_lit x) _ _); clear hat hwc)
     | go_in)
    go_ret
    exact ⟨rfl, HG1.out⟩
   ·have HC1 := am (hko c)
    have HA2 := HA.out
    rw [if_neg c] at HA2
    obtain ⟨b, hb, HA2⟩ := Option.bind_eq_some_iff.1 HA2
    have HB := am hb
    clear hki hko BW own A hkm hs hb HA
    cases b with
    | false =>
     have hr : false = r := Option.some.inj HA2
     subst hr
     clear HA2
     go_wp2_with (first
      | (at_lookup; refine wpList_lookup_own_int _ rfl _ _ 97 rfl 9 3 .i64 root_packs.law Tryz.underlying97 Tryz.underlying3 (root_packs.zero _) w.heap.size kk _ rfl HOWN.out _ _ rfl hkey.out ?_; intro c1 hat hwc; obtain rfl := root_packs.lit_inj hat HC1.out; clear hat hwc)
      | (at_mapUpdate; refine wpList_mapUpdate_own _ rfl _ _ _ 97 rfl 9 3 root_packs.law Tryz.underlying97 _ w.heap.size kk _ rfl HOWN.out HKM.out _ _ _ rfl rfl hkey.out _ [] (plainElem_int Tryz.underlying3 (by decide)) ?_; intro w1 hown1 hgrow1; have HOWN1 := am hown1; have HG1 := am (HBW.out.grown hgrow1 HBW.out.size (fun j hj => by cases hj; exact Nat.le_refl _)); clear hown1 hgrow1)
      | (at_lookup; refine wpList_lookup_own_int _ rfl _ _ 97 rfl 9 3 .i64 root_packs.law Tryz.underlying97 Tryz.underlying3 (root_packs.zero _) w.heap.size (kk + 1) _ rfl HOWN1.out _ _ rfl hkey.out ?_; intro c2 hat hwc; obtain rfl := root_packs.lit_inj hat (Maps.atKey_put_same (root_packs.isMap seen) (root_packs.key_lit x) _ _); clear hat hwc)
      | (go_at_call 64; refine (digest_Named.calls k x false _ HB.out).mono ?_; rintro e w' ⟨rfl, ⟨nd, rfl⟩⟩; have HG2 := am (qW HG1.out (Drawn0.below ⟨nd, rfl⟩)))
      | go_in)
     go_ret
     exact ⟨rfl, HG2.out⟩
    | true =>
     have HA3 := am HA2
     clear HA2
     go_wp2_with (first
      | (at_lookup; refine wpList_lookup_own_int _ rfl _ _ 97 rfl 9 3 .i64 root_packs.law Tryz.underlying97 Tryz.underlying3 (root_packs.zero _) w.heap.size kk _ rfl HOWN.out _ _ rfl hkey.out ?_; intro c1 hat hwc; obtain rfl := root_packs.lit_inj hat HC1.out; clear hat hwc)
      | (at_mapUpdate; refine wpList_mapUpdate_own _ rfl _ _ _ 97 rfl 9 3 root_packs.law Tryz.underlying97 _ w.heap.size kk _ rfl HOWN.out HKM.out _ _ _ rfl rfl hkey.out _ [] (plainElem_int Tryz.underlying3 (by decide)) ?_; intro w1 hown1 hgrow1; have HOWN1 := am hown1; have HG1 := am (HBW.out.grown hgrow1 HBW.out.size (fun j hj => by cases hj; exact Nat.le_refl _)); clear hown1 hgrow1)
      | (at_lookup; refine wpList_lookup_own_int _ rfl _ _ 97 rfl 9 3 .i64 root_packs.law Tryz.underlying97 Tryz.underlying3 (root_packs.zero _) w.heap.size (kk + 1) _ rfl HOWN1.out _ _ rfl hkey.out ?_; intro c2 hat hwc; obtain rfl := root_packs.lit_inj hat (Maps.atKey_put_same (root_packs.isMap seen) (root_packs.key_lit x) _ _); clear hat hwc)
      | (go_at_call 64; refine (digest_Named.calls k x true _ HB.out).mono ?_; rintro e w' ⟨rfl, ⟨nd, rfl⟩⟩; have HG2 := am (qW HG1.out (Drawn0.below ⟨nd, rfl⟩)))
      | go_in)
     go_roundg (l0.length - (kk + 1))
     case measure => omega
     case rel => exact ⟨kk + 1, by omega, by omega, by go_num, ⟨HG2.out⟩, ⟨x :: seen, HA3.out, HOWN1.out⟩⟩
  ·have hltz : ¬ (kk : Int) < (l0.length : Int) := by omega
   obtain rfl : kk = l0.length := by omega
   rw [List.drop_length] at A
   have hr : decide ((l0.length : Int) <= 24) = r := Option.some.inj A
   subst hr
   have HBW := am BW
   clear BW A own
   go_wp2
   go_ret
   exact ⟨rfl, HBW.out⟩
def strings_Split.f (a0 : ByteArray) (a1 : ByteArray) : Option (List ByteArray) := if a1.size = 1 /\ a0.size < 4294967281 then some (Lib.splitB a1 0 (Lib.countB a0 a1) a0) else none
theorem split_one (s : ByteArray) (c : UInt8) (w : World) (hs : s.size < 4294967281) :
  Calls Tryz.prog 30 #[.string s, .string ⟨#[c]⟩] w fun e w' => e = .returned (.slice (some ⟨w.heap.size, 0, none⟩) (Lib.countB s ⟨#[c]⟩ + 1) (Lib.countB s ⟨#[c]⟩ + 1)) /\
   w' = w.alloc (.cells ((Lib.splitB ⟨#[c]⟩ 0 (Lib.countB s ⟨#[c]⟩) s).map Value.string).toArray 9) := by
 have h1 : 1 <= (⟨#[c]⟩ : ByteArray).size := Nat.le_refl 1
 have hle := Lib.countB_le ⟨#[c]⟩ h1 s.size s (Nat.le_refl _)
 have hlen := Lib.splitB_all ⟨#[c]⟩ h1 0 _ s rfl
 have C := Any.strings_genSplit_core (P := Tryz.prog) Go.Proofs.Tryz.lays221 (by kernel_rfl) s ⟨#[c]⟩ 0 (-1) (Lib.countB s ⟨#[c]⟩ + 1) w hs h1 (Nat.zero_le _)
  (fun x cs hx => (Go.Proofs.Tryz.strings_Index_one x c _).mono fun e w' ⟨he, hw⟩ => ⟨by rw [he]; show _ = Ending.returned (Value.int .i64 (Lib.index x.data.toList [c])); rw [Lib.index_one], hw⟩)
  ((Go.Proofs.Tryz.strings_Count_one s c w).mono fun e w' ⟨he, hw⟩ => ⟨by rw [he]; show _ = Ending.returned (Value.int .i64 ((Lib.count s.data.toList [c] : Nat) : Int)); rw [Lib.count_one]; rfl, hw⟩)
  (by decide) (by decide) (by rw [if_pos (by decide)]; omega)
 rw [Nat.add_sub_cancel, hlen] at C
 have e2 : Lib.cellsOf (Lib.splitB ⟨#[c]⟩ 0 (Lib.countB s ⟨#[c]⟩) s) (Lib.countB s ⟨#[c]⟩ + 1) = ((Lib.splitB ⟨#[c]⟩ 0 (Lib.countB s ⟨#[c]⟩) s).map Value.string).toArray := by rw [<- hlen]; exact Lib.cellsOf_full _
 rw [e2] at C
 have CA := am C
 clear C e2 hlen hle
 go_enter Tryz.func30, Tryz.ntmps30
 go_wp2_with (go_at_call 55; refine CA.out.mono ?_; rintro e w' ⟨rfl, rfl⟩)
 go_ret
 exact ⟨rfl, rfl⟩
theorem strings_Split.calls (a0 : ByteArray) (a1 : ByteArray) (r : List ByteArray) (w : World) (h : strings_Split.f a0 a1 = some r) :
  Calls Tryz.prog 30 #[.string a0, .string a1] w fun e w' => ∃ v0_ : Value, e = .returned (v0_) /\ Kd.R Kd.string 9 w' w.heap.size (fun _ => True) v0_ r /\ Below w.heap.size w w' := by
 unfold strings_Split.f at h
 split at h
 case isFalse => cases h
 case isTrue hlen =>
 obtain rfl := Option.some.inj h
 obtain ⟨c, rfl⟩ := Lib.one_byte a1 hlen.1
 refine (split_one a0 c w hlen.2).mono ?_
 rintro e w' ⟨rfl, rfl⟩
 have hl := Lib.splitB_all ⟨#[c]⟩ (Nat.le_refl 1) 0 _ a0 rfl
 have hle := Lib.countB_le ⟨#[c]⟩ (Nat.le_refl 1) a0.size a0 (Nat.le_refl _)
 refine ⟨_, rfl, ?_, bal (Below.refl _ _) _⟩
 rw [<- hl]
 generalize Lib.splitB ⟨#[c]⟩ 0 (Lib.countB a0 ⟨#[c]⟩) a0 = ps at hl ⊢
 have h1 := World.ownsRow_lit (base := w.heap.size) (e := 9) (size := 1) w (ps.map Value.string).toArray ps.length (Nat.le_refl _) (by simp [maxLen]; omega) (by simp)
 refine ⟨fun _ _ => trivial, _, h1, ?_⟩
 show Reps _ 1 ps (ps.map Value.string)
 clear h1 hl
 induction ps with
 | nil => exact Reps.none _ _
 | cons p ps ih => exact Reps.one rfl ih
def refs_letters.l0 : Nat -> ByteArray -> Int -> Int -> Option (Bool)
 | 0, _, _, _ => none
 | k + 1, x0, x6, x7 => if x7 < x6 then (if 0 <= x7 then (if x7 < (x0.size : Int) then (if (bt x0 x7) = 46 then (refs_letters.l0 k x0 x6 (wrap64 (x7 + 1))) else (if (bt x0 x7) = 45 then (refs_letters.l0 k x0 x6 (wrap64 (x7 + 1))) else (if (bt x0 x7) = 95 then (refs_letters.l0 k x0 x6 (wrap64 (x7 + 1))) else (if (bt x0 x7) < 97 then (if (bt x0 x7) < 48 then (some false) else (if (bt x0 x7) > 57 then (some false) else (refs_letters.l0 k x0 x6 (wrap64 (x7 + 1))))) else (if (bt x0 x7) > 122 then (if (bt x0 x7) < 48 then (some false) else (if (bt x0 x7) > 57 then (some false) else (refs_letters.l0 k x0 x6 (wrap64 (x7 + 1))))) else (refs_letters.l0 k x0 x6 (wrap64 (x7 + 1)))))))) else (none)) else (none)) else (if x0.toList = ([] : List UInt8) then (some false) else (if (x0.size : Int) <= 30 then (if 0 < (x0.size : Int) then (some ((bt x0 0) != 46)) else (none)) else (some false)))
def refs_letters.f (k : Nat) (a0 : ByteArray) : Option (Bool) := refs_letters.l0 k a0 (a0.size : Int) 0
set_option maxHeartbeats 8000000 in
set_option maxRecDepth 100000 in
theorem refs_letters.calls (k : Nat) (a0 : ByteArray) (r : Bool) (w : World) (h : refs_letters.f k a0 = some r) :
  Calls Tryz.prog 81 #[.string a0] w fun e w' => e = .returned (.bool r) /\ Drawn0 w w' := by
 have H : (refs_letters.l0 k a0 (a0.size : Int) 0) = some r := h
 clear h
 have H' := am H
 clear H
 go_enter Tryz.func81, Tryz.ntmps81
 go_wp2
 go_loopg [7] k (fun kq v7 w' => ∃ (x7_1 : Int), v7 = .int .i64 x7_1 /\ Asd (refs_letters.l0 kq a0 (a0.size : Int) x7_1 = some r) /\ Asd (kq <= k) /\ Drawn0 w w')
 case atStart => exact ⟨(0), (ez), H', ⟨Nat.le_refl _⟩, wz⟩
 case round =>
  clear H'
  obtain ⟨x7_1, rfl, HA, HK1, ⟨m1, rfl⟩⟩ := hrel
  cases gk with
  | zero => exact absurd HA.out (by simp [refs_letters.l0])
  | succ k1 =>
   have H := HA.out
   clear HA
   simp only [refs_letters.l0] at H
   by_cases c2 : x7_1 < (a0.size : Int)
   ·rw [if_pos c2] at H
    have c2b0 : decide (x7_1 < (a0.size : Int)) = true := dt c2
    clear c2
    by_cases c3 : 0 <= x7_1
    ·rw [if_pos c3] at H
     have c3b0 : decide (0 <= x7_1) = true := dt c3
     clear c3
     by_cases c4 : x7_1 < (a0.size : Int)
     ·rw [if_pos c4] at H
      have c4b0 : decide (x7_1 < (a0.size : Int)) = true := dt c4
      clear c4
      by_cases c6 : (bt a0 x7_1) = 46
      ·rw [if_pos c6] at H
       have c6b0 : ((bt a0 x7_1) == 46) = true := beq_iff_eq.mpr c6
       have c6b1 : ((bt a0 x7_1) != 46) = false := bne_eq_false_iff_eq.mpr c6
       clear c6
       have H' := am H
       clear H
       have p5 : 0 <= (x7_1 : Int) := dz
       have q5 : x7_1 < (a0.size : Int) := dz
       have hx5 := bt_at a0 x7_1
       replace p5 := eq_true p5
       replace q5 := eq_true q5
       go_wp2
       go_roundg k1
       case measure => have := HK1.out; omega
       case rel => exact ⟨(wrap64 (x7_1 + 1)), (ez), H', ⟨by have := HK1.out; omega⟩, wz⟩
      ·rw [if_neg c6] at H
       have c6b0 : ((bt a0 x7_1) == 46) = false := beq_eq_false_iff_ne.mpr c6
       have c6b1 : ((bt a0 x7_1) != 46) = true := bne_iff_ne.mpr c6
       by_cases c7 : (bt a0 x7_1) = 45
       ·rw [if_pos c7] at H
        have c7b0 : ((bt a0 x7_1) == 45) = true := beq_iff_eq.mpr c7
        have c7b1 : ((bt a0 x7_1) != 45) = false := bne_eq_false_iff_eq.mpr c7
        clear c7
        have H' := am H
        clear H
        have p5 : 0 <= (x7_1 : Int) := dz
        have q5 : x7_1 < (a0.size : Int) := dz
        have hx5 := bt_at a0 x7_1
        replace p5 := eq_true p5
        replace q5 := eq_true q5
        go_wp2
        go_roundg k1
        case measure => have := HK1.out; omega
        case rel => exact ⟨(wrap64 (x7_1 + 1)), (ez), H', ⟨by have := HK1.out; omega⟩, wz⟩
       ·rw [if_neg c7] at H
        have c7b0 : ((bt a0 x7_1) == 45) = false := beq_eq_false_iff_ne.mpr c7
        have c7b1 : ((bt a0 x7_1) != 45) = true := bne_iff_ne.mpr c7
        by_cases c8 : (bt a0 x7_1) = 95
        ·rw [if_pos c8] at H
         have c8b0 : ((bt a0 x7_1) == 95) = true := beq_iff_eq.mpr c8
         have c8b1 : ((bt a0 x7_1) != 95) = false := bne_eq_false_iff_eq.mpr c8
         clear c8
         have H' := am H
         clear H
         have p5 : 0 <= (x7_1 : Int) := dz
         have q5 : x7_1 < (a0.size : Int) := dz
         have hx5 := bt_at a0 x7_1
         replace p5 := eq_true p5
         replace q5 := eq_true q5
         go_wp2
         go_roundg k1
         case measure => have := HK1.out; omega
         case rel => exact ⟨(wrap64 (x7_1 + 1)), (ez), H', ⟨by have := HK1.out; omega⟩, wz⟩
        ·rw [if_neg c8] at H
         have c8b0 : ((bt a0 x7_1) == 95) = false := beq_eq_false_iff_ne.mpr c8
         have c8b1 : ((bt a0 x7_1) != 95) = true := bne_iff_ne.mpr c8
         by_cases c9 : (bt a0 x7_1) < 97
         ·rw [if_pos c9] at H
          have c9b0 : decide ((bt a0 x7_1) < 97) = true := dt c9
          clear c9
          by_cases c10 : (bt a0 x7_1) < 48
          ·rw [if_pos c10] at H
           have c10b0 : decide ((bt a0 x7_1) < 48) = true := dt c10
           clear c10
           obtain rfl := Option.some.inj H
           have p5 : 0 <= (x7_1 : Int) := dz
           have q5 : x7_1 < (a0.size : Int) := dz
           have hx5 := bt_at a0 x7_1
           replace p5 := eq_true p5
           replace q5 := eq_true q5
           go_wp2
           go_ret
           exact ⟨ez, wz⟩
          ·rw [if_neg c10] at H
           have c10b0 : decide ((bt a0 x7_1) < 48) = false := df c10
           clear c10
           by_cases c11 : (bt a0 x7_1) > 57
           ·rw [if_pos c11] at H
            have c11b0 : decide (57 < (bt a0 x7_1)) = true := dt c11
            clear c11
            obtain rfl := Option.some.inj H
            have p5 : 0 <= (x7_1 : Int) := dz
            have q5 : x7_1 < (a0.size : Int) := dz
            have hx5 := bt_at a0 x7_1
            replace p5 := eq_true p5
            replace q5 := eq_true q5
            go_wp2
            go_ret
            exact ⟨ez, wz⟩
           ·rw [if_neg c11] at H
            have c11b0 : decide (57 < (bt a0 x7_1)) = false := df c11
            clear c11
            have H' := am H
            clear H
            have p5 : 0 <= (x7_1 : Int) := dz
            have q5 : x7_1 < (a0.size : Int) := dz
            have hx5 := bt_at a0 x7_1
            replace p5 := eq_true p5
            replace q5 := eq_true q5
            go_wp2
            go_roundg k1
            case measure => have := HK1.out; omega
            case rel => exact ⟨(wrap64 (x7_1 + 1)), (ez), H', ⟨by have := HK1.out; omega⟩, wz⟩
         ·rw [if_neg c9] at H
          have c9b0 : decide ((bt a0 x7_1) < 97) = false := df c9
          clear c9
          by_cases c12 : (bt a0 x7_1) > 122
          ·rw [if_pos c12] at H
           have c12b0 : decide (122 < (bt a0 x7_1)) = true := dt c12
           clear c12
           by_cases c13 : (bt a0 x7_1) < 48
           ·rw [if_pos c13] at H
            have c13b0 : decide ((bt a0 x7_1) < 48) = true := dt c13
            clear c13
            obtain rfl := Option.some.inj H
            have p5 : 0 <= (x7_1 : Int) := dz
            have q5 : x7_1 < (a0.size : Int) := dz
            have hx5 := bt_at a0 x7_1
            replace p5 := eq_true p5
            replace q5 := eq_true q5
            go_wp2
            go_ret
            exact ⟨ez, wz⟩
           ·rw [if_neg c13] at H
            have c13b0 : decide ((bt a0 x7_1) < 48) = false := df c13
            clear c13
            by_cases c14 : (bt a0 x7_1) > 57
            ·rw [if_pos c14] at H
             have c14b0 : decide (57 < (bt a0 x7_1)) = true := dt c14
             clear c14
             obtain rfl := Option.some.inj H
             have p5 : 0 <= (x7_1 : Int) := dz
             have q5 : x7_1 < (a0.size : Int) := dz
             have hx5 := bt_at a0 x7_1
             replace p5 := eq_true p5
             replace q5 := eq_true q5
             go_wp2
             go_ret
             exact ⟨ez, wz⟩
            ·rw [if_neg c14] at H
             have c14b0 : decide (57 < (bt a0 x7_1)) = false := df c14
             clear c14
             have H' := am H
             clear H
             have p5 : 0 <= (x7_1 : Int) := dz
             have q5 : x7_1 < (a0.size : Int) := dz
             have hx5 := bt_at a0 x7_1
             replace p5 := eq_true p5
             replace q5 := eq_true q5
             go_wp2
             go_roundg k1
             case measure => have := HK1.out; omega
             case rel => exact ⟨(wrap64 (x7_1 + 1)), (ez), H', ⟨by have := HK1.out; omega⟩, wz⟩
          ·rw [if_neg c12] at H
           have c12b0 : decide (122 < (bt a0 x7_1)) = false := df c12
           clear c12
           have H' := am H
           clear H
           have p5 : 0 <= (x7_1 : Int) := dz
           have q5 : x7_1 < (a0.size : Int) := dz
           have hx5 := bt_at a0 x7_1
           replace p5 := eq_true p5
           replace q5 := eq_true q5
           go_wp2
           go_roundg k1
           case measure => have := HK1.out; omega
           case rel => exact ⟨(wrap64 (x7_1 + 1)), (ez), H', ⟨by have := HK1.out; omega⟩, wz⟩
     ·rw [if_neg c4] at H
      exact absurd H (by simp)
    ·rw [if_neg c3] at H
     exact absurd H (by simp)
   ·rw [if_neg c2] at H
    have c2b0 : decide (x7_1 < (a0.size : Int)) = false := df c2
    clear c2
    by_cases c15 : a0.toList = ([] : List UInt8)
    ·rw [if_pos c15] at H
     have c15b0 : (a0.toList == ([] : List UInt8)) = true := beq_iff_eq.mpr c15
     have c15b1 : (a0.toList != ([] : List UInt8)) = false := bne_eq_false_iff_eq.mpr c15
     clear c15
     obtain rfl := Option.some.inj H
     go_wp2
     go_ret
     exact ⟨ez, wz⟩
    ·rw [if_neg c15] at H
     have c15b0 : (a0.toList == ([] : List UInt8)) = false := beq_eq_false_iff_ne.mpr c15
     have c15b1 : (a0.toList != ([] : List UInt8)) = true := bne_iff_ne.mpr c15
     by_cases c16 : (a0.size : Int) <= 30
     ·rw [if_pos c16] at H
      have c16b0 : decide ((a0.size : Int) <= 30) = true := dt c16
      have c16b1 : decide (a0.size <= 30) = true := dt (by omega)
      clear c16
      by_cases c17 : 0 < (a0.size : Int)
      ·rw [if_pos c17] at H
       have c17b0 : decide (0 < (a0.size : Int)) = true := dt c17
       have c17b1 : decide (0 < a0.size) = true := dt (by omega)
       clear c17
       obtain rfl := Option.some.inj H
       have p18 : 0 <= (0 : Int) := (by omega)
       have q18 : 0 < a0.size := (by have : (0 : Int) < (a0.size : Int) := dz; omega)
       have hx18 : ∀ h : 0 < a0.size, ((a0[0]'h).toNat : Int) = bt a0 0 := bt_at a0 0
       clear p18
       have qi18 : (0 < (a0.size : Int)) = True := eq_true (dz)
       replace q18 := eq_true q18
       go_wp2
       go_ret
       exact ⟨ez, wz⟩
      ·rw [if_neg c17] at H
       exact absurd H (by simp)
     ·rw [if_neg c16] at H
      have c16b0 : decide ((a0.size : Int) <= 30) = false := df c16
      have c16b1 : decide (a0.size <= 30) = false := df (by omega)
      clear c16
      obtain rfl := Option.some.inj H
      go_wp2
      go_ret
      exact ⟨ez, wz⟩
end Go.Proofs.YtlfenakgphmepaaGreatDoor.Print
