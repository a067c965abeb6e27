/- Functions of the program as plain functions, and proofs that the program's calls tell what these tell. Written by a program. -/
import Derived.Test.YtlfenakgphmepaaGreatDoorPrint0
import Derived.Test.YtlfenakgphmepaaGreatDoorPrint10
namespace Go.Proofs.YtlfenakgphmepaaGreatDoor.Print
open Go.RowKit YtlfenakgphmepaaGreatDoorW.PrintWords YtlfenakgphmepaaGreatDoorW.PrintLast YtlfenakgphmepaaGreatDoorW.PrintMore YtlfenakgphmepaaGreatDoor.Conv
attribute [local go_sem] max2_int min2_int max_two min_two max_three min_three max_four min_four
set_option linter.unusedVariables false
set_option linter.unusedSimpArgs false
mutual
def q9_Named.l0 : Nat -> Int -> ByteArray -> Option (Bool)
 | 0, _, _ => none
 | k + 1, x3, x4 => if (x4.size : Int) > 0 then (q9_Named.j1 k x3 x4 true) else (q9_Named.j1 k x3 x4 (x3 == 0))
def q9_Named.j1 : Nat -> Int -> ByteArray -> Bool -> Option (Bool)
 | 0, _, _, _ => none
 | k + 1, x3, x4, x17 => if x17 = true then (q9_Named.l1 k x3 x4 0) else (if x3 >= 2 then (some (decide (x3 <= 4))) else (some false))
def q9_Named.l1 : Nat -> Int -> ByteArray -> Int -> Option (Bool)
 | 0, _, _, _ => none
 | k + 1, x3, x4, x5 => if x5 < (x4.size : Int) then (if 0 <= x5 then (if (bt x4 x5) = 47 then (if x5 <= (x4.size : Int) then (if x3 = 0 then (if (x4.extract 0 (x5 : Int).toNat).toList = ([104, 101, 97, 100, 115] : List UInt8) then (if x3 > 0 then ((q9_part.f k (x4.extract 0 (x5 : Int).toNat)).bind fun t168 => (if t168 = true then (if x5 = (wrap64 ((x4.size : Int) - 1)) then (some false) else (if 0 <= (mn (wrap64 (x5 + 1)) (x4.size : Int)) then (if (mn (wrap64 (x5 + 1)) (x4.size : Int)) <= (x4.size : Int) then (q9_Named.l0 k (wrap64 (x3 + 1)) (x4.extract ((mn (wrap64 (x5 + 1)) (x4.size : Int)) : Int).toNat x4.size)) else (none)) else (none))) else (some false))) else (if x5 = (wrap64 ((x4.size : Int) - 1)) then (some false) else (if 0 <= (mn (wrap64 (x5 + 1)) (x4.size : Int)) then (if (mn (wrap64 (x5 + 1)) (x4.size : Int)) <= (x4.size : Int) then (q9_Named.l0 k (wrap64 (x3 + 1)) (x4.extract ((mn (wrap64 (x5 + 1)) (x4.size : Int)) : Int).toNat x4.size)) else (none)) else (none)))) else (if (x4.extract 0 (x5 : Int).toNat).toList = ([116, 97, 103, 115] : List UInt8) then (if x3 > 0 then ((q9_part.f k (x4.extract 0 (x5 : Int).toNat)).bind fun t169 => (if t169 = true then (if x5 = (wrap64 ((x4.size : Int) - 1)) then (some false) else (if 0 <= (mn (wrap64 (x5 + 1)) (x4.size : Int)) then (if (mn (wrap64 (x5 + 1)) (x4.size : Int)) <= (x4.size : Int) then (q9_Named.l0 k (wrap64 (x3 + 1)) (x4.extract ((mn (wrap64 (x5 + 1)) (x4.size : Int)) : Int).toNat x4.size)) else (none)) else (none))) else (some false))) else (if x5 = (wrap64 ((x4.size : Int) - 1)) then (some false) else (if 0 <= (mn (wrap64 (x5 + 1)) (x4.size : Int)) then (if (mn (wrap64 (x5 + 1)) (x4.size : Int)) <= (x4.size : Int) then (q9_Named.l0 k (wrap64 (x3 + 1)) (x4.extract ((mn (wrap64 (x5 + 1)) (x4.size : Int)) : Int).toNat x4.size)) else (none)) else (none)))) else (some false))) else (if x3 > 0 then ((q9_part.f k (x4.extract 0 (x5 : Int).toNat)).bind fun t170 => (if t170 = true then (if x5 = (wrap64 ((x4.size : Int) - 1)) then (some false) else (if 0 <= (mn (wrap64 (x5 + 1)) (x4.size : Int)) then (if (mn (wrap64 (x5 + 1)) (x4.size : Int)) <= (x4.size : Int) then (q9_Named.l0 k (wrap64 (x3 + 1)) (x4.extract ((mn (wrap64 (x5 + 1)) (x4.size : Int)) : Int).toNat x4.size)) else (none)) else (none))) else (some false))) else (if x5 = (wrap64 ((x4.size : Int) - 1)) then (some false) else (if 0 <= (mn (wrap64 (x5 + 1)) (x4.size : Int)) then (if (mn (wrap64 (x5 + 1)) (x4.size : Int)) <= (x4.size : Int) then (q9_Named.l0 k (wrap64 (x3 + 1)) (x4.extract ((mn (wrap64 (x5 + 1)) (x4.size : Int)) : Int).toNat x4.size)) else (none)) else (none))))) else (none)) else (q9_Named.l1 k x3 x4 (wrap64 (x5 + 1)))) else (none)) else (if 0 <= x5 then (if x5 <= (x4.size : Int) then (if x3 = 0 then (if (x4.extract 0 (x5 : Int).toNat).toList = ([104, 101, 97, 100, 115] : List UInt8) then (if x3 > 0 then ((q9_part.f k (x4.extract 0 (x5 : Int).toNat)).bind fun t171 => (if t171 = true then (if x5 = (wrap64 ((x4.size : Int) - 1)) then (some false) else (if 0 <= (mn (wrap64 (x5 + 1)) (x4.size : Int)) then (if (mn (wrap64 (x5 + 1)) (x4.size : Int)) <= (x4.size : Int) then (q9_Named.l0 k (wrap64 (x3 + 1)) (x4.extract ((mn (wrap64 (x5 + 1)) (x4.size : Int)) : Int).toNat x4.size)) else (none)) else (none))) else (some false))) else (if x5 = (wrap64 ((x4.size : Int) - 1)) then (some false) else (if 0 <= (mn (wrap64 (x5 + 1)) (x4.size : Int)) then (if (mn (wrap64 (x5 + 1)) (x4.size : Int)) <= (x4.size : Int) then (q9_Named.l0 k (wrap64 (x3 + 1)) (x4.extract ((mn (wrap64 (x5 + 1)) (x4.size : Int)) : Int).toNat x4.size)) else (none)) else (none)))) else (if (x4.extract 0 (x5 : Int).toNat).toList = ([116, 97, 103, 115] : List UInt8) then (if x3 > 0 then ((q9_part.f k (x4.extract 0 (x5 : Int).toNat)).bind fun t172 => (if t172 = true then (if x5 = (wrap64 ((x4.size : Int) - 1)) then (some false) else (if 0 <= (mn (wrap64 (x5 + 1)) (x4.size : Int)) then (if (mn (wrap64 (x5 + 1)) (x4.size : Int)) <= (x4.size : Int) then (q9_Named.l0 k (wrap64 (x3 + 1)) (x4.extract ((mn (wrap64 (x5 + 1)) (x4.size : Int)) : Int).toNat x4.size)) else (none)) else (none))) else (some false))) else (if x5 = (wrap64 ((x4.size : Int) - 1)) then (some false) else (if 0 <= (mn (wrap64 (x5 + 1)) (x4.size : Int)) then (if (mn (wrap64 (x5 + 1)) (x4.size : Int)) <= (x4.size : Int) then (q9_Named.l0 k (wrap64 (x3 + 1)) (x4.extract ((mn (wrap64 (x5 + 1)) (x4.size : Int)) : Int).toNat x4.size)) else (none)) else (none)))) else (some false))) else (if x3 > 0 then ((q9_part.f k (x4.extract 0 (x5 : Int).toNat)).bind fun t173 => (if t173 = true then (if x5 = (wrap64 ((x4.size : Int) - 1)) then (some false) else (if 0 <= (mn (wrap64 (x5 + 1)) (x4.size : Int)) then (if (mn (wrap64 (x5 + 1)) (x4.size : Int)) <= (x4.size : Int) then (q9_Named.l0 k (wrap64 (x3 + 1)) (x4.extract ((mn (wrap64 (x5 + 1)) (x4.size : Int)) : Int).toNat x4.size)) else (none)) else (none))) else (some false))) else (if x5 = (wrap64 ((x4.size : Int) - 1)) then (some false) else (if 0 <= (mn (wrap64 (x5 + 1)) (x4.size : Int)) then (if (mn (wrap64 (x5 + 1)) (x4.size : Int)) <= (x4.size : Int) then (q9_Named.l0 k (wrap64 (x3 + 1)) (x4.extract ((mn (wrap64 (x5 + 1)) (x4.size : Int)) : Int).toNat x4.size)) else (none)) else (none))))) else (none)) else (none))
end
def q9_Named.f (k : Nat) (a0 : ByteArray) : Option (Bool) := if (a0.size : Int) > 80 then (some false) else (q9_Named.l0 k 0 a0)
set_option maxHeartbeats 8000000 in
set_option maxRecDepth 100000 in
theorem q9_Named.calls (k : Nat) (a0 : ByteArray) (r : Bool) (w : World) (h : q9_Named.f k a0 = some r) :
  Calls Tryz.prog 44 #[.string a0] w fun e w' => e = .returned (.bool r) /\ Below w.heap.size w w' := by
 have HB := am (Below.refl w.heap.size w)
 have H : (if (a0.size : Int) > 80 then (some false) else (q9_Named.l0 k 0 a0)) = some r := h
 clear h
 by_cases c2 : (a0.size : Int) > 80
 ·rw [if_pos c2] at H
  have c2b0 : decide (80 < (a0.size : Int)) = true := dt c2
  have c2b1 : decide (80 < a0.size) = true := dt (by omega)
  clear c2
  obtain rfl := Option.some.inj H
  go_enter Tryz.func44, Tryz.ntmps44
  go_wp2
  go_ret
  exact ⟨ey, bz HB.out⟩
 ·rw [if_neg c2] at H
  have c2b0 : decide (80 < (a0.size : Int)) = false := df c2
  have c2b1 : decide (80 < a0.size) = false := df (by omega)
  clear c2
  have H' := am H
  clear H
  go_enter Tryz.func44, Tryz.ntmps44
  go_wp2
  go_loopg [3, 4] k (fun kq v3 v4 w' => ∃ (x3_1 : Int) (x4_1 : ByteArray), v3 = .int .i64 x3_1 /\ v4 = .string x4_1 /\ Asd (q9_Named.l0 kq x3_1 x4_1 = some r) /\ Asd (kq <= k) /\ Asd (Below w.heap.size w w'))
  case atStart => exact ⟨(0), (a0), (ez), (ez), H', ⟨Nat.le_refl _⟩, ⟨bz HB.out⟩⟩
  case round =>
   clear H'
   obtain ⟨x3_1, x4_1, rfl, rfl, HA, HK1, HB⟩ := hrel
   cases gk with
   | zero => exact absurd HA.out (by simp [q9_Named.l0])
   | succ k1 =>
    have H := HA.out
    clear HA
    simp only [q9_Named.l0] at H
    have HC3 := am H
    clear H
    go_upto_region 5 with (fail)
    go_cut [17] (fun v17 wc => ∃ (kq : Nat) (x17_2 : Bool), v17 = .bool x17_2 /\ Asd (q9_Named.j1 kq x3_1 x4_1 x17_2 = some r) /\ Asd (kq <= k1) /\ Asd (Below w.heap.size w wc))
    case first =>
     have H := HC3.out
     clear HC3
     by_cases c4 : (x4_1.size : Int) > 0
     ·rw [if_pos c4] at H
      have c4b0 : decide (0 < (x4_1.size : Int)) = true := dt c4
      have c4b1 : decide (0 < x4_1.size) = true := dt (by omega)
      clear c4
      (first | rw [c4b0] | (simp only [i64_w, i32_w]; rw [c4b0]) | skip)
      have H' := am H
      clear H
      go_wp2
      go_meet
      case rel => exact ⟨_, (true), (ez), H', ⟨by have := HK1.out; first | omega | exact Nat.le_refl _⟩, ⟨bz HB.out⟩⟩
     ·rw [if_neg c4] at H
      have c4b0 : decide (0 < (x4_1.size : Int)) = false := df c4
      have c4b1 : decide (0 < x4_1.size) = false := df (by omega)
      clear c4
      (first | rw [c4b0] | (simp only [i64_w, i32_w]; rw [c4b0]) | skip)
      have H' := am H
      clear H
      go_wp2
      go_meet
      case rel => exact ⟨_, ((x3_1 == 0)), (ez), H', ⟨by have := HK1.out; first | omega | exact Nat.le_refl _⟩, ⟨bz HB.out⟩⟩
    case rest =>
     clear HC3
     obtain ⟨kq, x17_2, rfl, HA, HJ2, HB⟩ := hcut
     cases kq with
     | zero => exact absurd HA.out (by simp [q9_Named.j1])
     | succ kj2 =>
      have H := HA.out
      clear HA
      simp only [q9_Named.j1] at H
      by_cases c5 : x17_2 = true
      ·subst c5
       have H1 : (q9_Named.l1 kj2 x3_1 x4_1 0) = some r := by rw [if_pos rfl] at H; exact H
       clear H
       have H := H1
       clear H1
       have H' := am H
       clear H
       go_wp2
       go_loopg [5] kj2 (fun kq v5 w' => ∃ (x5_3 : Int), v5 = .int .i64 x5_3 /\ Asd (q9_Named.l1 kq x3_1 x4_1 x5_3 = some r) /\ Asd (kq <= kj2) /\ Asd (Below w.heap.size w w'))
       case atStart => exact ⟨(0), (ez), H', ⟨Nat.le_refl _⟩, ⟨bz HB.out⟩⟩
       case round =>
        clear H'
        obtain ⟨x5_3, rfl, HA, HK3, HB⟩ := hrel
        cases gk with
        | zero => exact absurd HA.out (by simp [q9_Named.l1])
        | succ k3 =>
         have H := HA.out
         clear HA
         simp only [q9_Named.l1] at H
         by_cases c6 : x5_3 < (x4_1.size : Int)
         ·rw [if_pos c6] at H
          have c6b0 : decide (x5_3 < (x4_1.size : Int)) = true := dt c6
          clear c6
          by_cases c7 : 0 <= x5_3
          ·rw [if_pos c7] at H
           have c7b0 : decide (0 <= x5_3) = true := dt c7
           clear c7
           by_cases c9 : (bt x4_1 x5_3) = 47
           ·rw [if_pos c9] at H
            have c9b0 : ((bt x4_1 x5_3) == 47) = true := beq_iff_eq.mpr c9
            have c9b1 : ((bt x4_1 x5_3) != 47) = false := bne_eq_false_iff_eq.mpr c9
            clear c9
            have c10b0 := eq_true (dz : 0 <= x5_3)
            by_cases c11 : x5_3 <= (x4_1.size : Int)
            ·rw [if_pos c11] at H
             have c11b0 := eq_true c11
             have c11b1 : decide (x5_3 <= (x4_1.size : Int)) = true := dt c11
             clear c11
             by_cases c12 : x3_1 = 0
             ·rw [if_pos c12] at H
              have c12b0 : (x3_1 == 0) = true := beq_iff_eq.mpr c12
              have c12b1 : (x3_1 != 0) = false := bne_eq_false_iff_eq.mpr c12
              clear c12
              by_cases c13 : (x4_1.extract 0 (x5_3 : Int).toNat).toList = ([104, 101, 97, 100, 115] : List UInt8)
              ·rw [if_pos c13] at H
               have c13b0 : ((x4_1.extract 0 (x5_3 : Int).toNat).toList == ([104, 101, 97, 100, 115] : List UInt8)) = true := beq_iff_eq.mpr c13
               have c13b1 : ((x4_1.extract 0 (x5_3 : Int).toNat).toList != ([104, 101, 97, 100, 115] : List UInt8)) = false := bne_eq_false_iff_eq.mpr c13
               clear c13
               by_cases c14 : x3_1 > 0
               ·rw [if_pos c14] at H
                have c14b0 : decide (0 < x3_1) = true := dt c14
                clear c14
                replace H := Option.bind_eq_some_iff.mp H
                obtain ⟨t168, A150, H⟩ := H
                replace H : (if t168 = true then (if x5_3 = (wrap64 ((x4_1.size : Int) - 1)) then (some false) else (if 0 <= (mn (wrap64 (x5_3 + 1)) (x4_1.size : Int)) then (if (mn (wrap64 (x5_3 + 1)) (x4_1.size : Int)) <= (x4_1.size : Int) then (q9_Named.l0 k3 (wrap64 (x3_1 + 1)) (x4_1.extract ((mn (wrap64 (x5_3 + 1)) (x4_1.size : Int)) : Int).toNat x4_1.size)) else (none)) else (none))) else (some false)) = some r := H
                have A15 := am A150
                by_cases c16 : t168 = true
                ·subst c16
                 have H1 : (if x5_3 = (wrap64 ((x4_1.size : Int) - 1)) then (some false) else (if 0 <= (mn (wrap64 (x5_3 + 1)) (x4_1.size : Int)) then (if (mn (wrap64 (x5_3 + 1)) (x4_1.size : Int)) <= (x4_1.size : Int) then (q9_Named.l0 k3 (wrap64 (x3_1 + 1)) (x4_1.extract ((mn (wrap64 (x5_3 + 1)) (x4_1.size : Int)) : Int).toNat x4_1.size)) else (none)) else (none))) = some r := by rw [if_pos rfl] at H; exact H
                 clear H
                 have H := H1
                 clear H1
                 by_cases c17 : x5_3 = (wrap64 ((x4_1.size : Int) - 1))
                 ·rw [if_pos c17] at H
                  have c17b0 : (x5_3 == (wrap64 ((x4_1.size : Int) - 1))) = true := beq_iff_eq.mpr c17
                  have c17b1 : (x5_3 != (wrap64 ((x4_1.size : Int) - 1))) = false := bne_eq_false_iff_eq.mpr c17
                  clear c17
                  obtain rfl := Option.some.inj H
                  have p8 : 0 <= (x5_3 : Int) := dz
                  have q8 : x5_3 < (x4_1.size : Int) := dz
                  have hx8 := bt_at x4_1 x5_3
                  replace p8 := eq_true p8
                  replace q8 := eq_true q8
                  go_wp2_with (first | (go_at_call 67; (with_reducible refine (q9_part.calls k3 (x4_1.extract 0 (x5_3 : Int).toNat) true _ A15.out).mono ?_); rintro e w' ⟨rfl, ⟨nd, rfl⟩⟩))
                  go_ret
                  exact ⟨ey, bz HB.out⟩
                 ·rw [if_neg c17] at H
                  have c17b0 : (x5_3 == (wrap64 ((x4_1.size : Int) - 1))) = false := beq_eq_false_iff_ne.mpr c17
                  have c17b1 : (x5_3 != (wrap64 ((x4_1.size : Int) - 1))) = true := bne_iff_ne.mpr c17
                  obtain ⟨ji18, hji18⟩ : ∃ j_ : Int, (mn (wrap64 (x5_3 + 1)) (x4_1.size : Int)) = j_ := ⟨_, rfl⟩
                  replace H : (if 0 <= (ji18) then (if (ji18) <= (x4_1.size : Int) then (q9_Named.l0 k3 (wrap64 (x3_1 + 1)) (x4_1.extract ((ji18) : Int).toNat x4_1.size)) else (none)) else (none)) = some r := by first | (rw [hji18] at H; exact H) | (simp only [hji18] at H ⊢; exact H)
                  (try rw [hji18] at A15)
                  have hji18_ : (if (x4_1.size : Int) < (wrap64 (x5_3 + 1)) then (x4_1.size : Int) else (wrap64 (x5_3 + 1))) = ji18 := hji18
                  by_cases c19 : 0 <= (ji18)
                  ·rw [if_pos c19] at H
                   have c19b0 := eq_true c19
                   have c19b1 : decide (0 <= (ji18)) = true := dt c19
                   clear c19
                   by_cases c20 : (ji18) <= (x4_1.size : Int)
                   ·rw [if_pos c20] at H
                    have c20b0 := eq_true c20
                    have c20b1 : decide ((ji18) <= (x4_1.size : Int)) = true := dt c20
                    clear c20
                    have H' := am H
                    clear H
                    have p8 : 0 <= (x5_3 : Int) := dz
                    have q8 : x5_3 < (x4_1.size : Int) := dz
                    have hx8 := bt_at x4_1 x5_3
                    replace p8 := eq_true p8
                    replace q8 := eq_true q8
                    go_wp2_with (first | (go_at_call 67; (with_reducible refine (q9_part.calls k3 (x4_1.extract 0 (x5_3 : Int).toNat) true _ A15.out).mono ?_); rintro e w' ⟨rfl, ⟨nd, rfl⟩⟩))
                    go_roundg k3
                    case measure => have := HK1.out; have := HJ2.out; have := HK3.out; omega
                    case rel => exact ⟨(wrap64 (x3_1 + 1)), (x4_1.extract ((ji18) : Int).toNat x4_1.size), (ez), (by first | rfl | (simp; done) | (simp only [<- hji18] <;> (first | rfl | simp)) | (simp [*]; done)), H', ⟨by have := HK1.out; have := HJ2.out; have := HK3.out; omega⟩, ⟨bz HB.out⟩⟩
                   ·rw [if_neg c20] at H
                    exact absurd H (by simp)
                  ·rw [if_neg c19] at H
                   exact absurd H (by simp)
                ·replace c16 := Bool.eq_false_iff.mpr c16
                 subst c16
                 have H1 : (some false) = some r := by rw [if_neg (show ¬ (false = true) by decide)] at H; exact H
                 clear H
                 have H := H1
                 clear H1
                 obtain rfl := Option.some.inj H
                 have p8 : 0 <= (x5_3 : Int) := dz
                 have q8 : x5_3 < (x4_1.size : Int) := dz
                 have hx8 := bt_at x4_1 x5_3
                 replace p8 := eq_true p8
                 replace q8 := eq_true q8
                 go_wp2_with (first | (go_at_call 67; (with_reducible refine (q9_part.calls k3 (x4_1.extract 0 (x5_3 : Int).toNat) false _ A15.out).mono ?_); rintro e w' ⟨rfl, ⟨nd, rfl⟩⟩))
                 go_ret
                 exact ⟨ey, bz HB.out⟩
               ·rw [if_neg c14] at H
                have c14b0 : decide (0 < x3_1) = false := df c14
                clear c14
                by_cases c21 : x5_3 = (wrap64 ((x4_1.size : Int) - 1))
                ·rw [if_pos c21] at H
                 have c21b0 : (x5_3 == (wrap64 ((x4_1.size : Int) - 1))) = true := beq_iff_eq.mpr c21
                 have c21b1 : (x5_3 != (wrap64 ((x4_1.size : Int) - 1))) = false := bne_eq_false_iff_eq.mpr c21
                 clear c21
                 obtain rfl := Option.some.inj H
                 have p8 : 0 <= (x5_3 : Int) := dz
                 have q8 : x5_3 < (x4_1.size : Int) := dz
                 have hx8 := bt_at x4_1 x5_3
                 replace p8 := eq_true p8
                 replace q8 := eq_true q8
                 go_wp2
                 go_ret
                 exact ⟨ey, bz HB.out⟩
                ·rw [if_neg c21] at H
                 have c21b0 : (x5_3 == (wrap64 ((x4_1.size : Int) - 1))) = false := beq_eq_false_iff_ne.mpr c21
                 have c21b1 : (x5_3 != (wrap64 ((x4_1.size : Int) - 1))) = true := bne_iff_ne.mpr c21
                 obtain ⟨ji22, hji22⟩ : ∃ j_ : Int, (mn (wrap64 (x5_3 + 1)) (x4_1.size : Int)) = j_ := ⟨_, rfl⟩
                 replace H : (if 0 <= (ji22) then (if (ji22) <= (x4_1.size : Int) then (q9_Named.l0 k3 (wrap64 (x3_1 + 1)) (x4_1.extract ((ji22) : Int).toNat x4_1.size)) else (none)) else (none)) = some r := by first | (rw [hji22] at H; exact H) | (simp only [hji22] at H ⊢; exact H)
                 have hji22_ : (if (x4_1.size : Int) < (wrap64 (x5_3 + 1)) then (x4_1.size : Int) else (wrap64 (x5_3 + 1))) = ji22 := hji22
                 by_cases c23 : 0 <= (ji22)
                 ·rw [if_pos c23] at H
                  have c23b0 := eq_true c23
                  have c23b1 : decide (0 <= (ji22)) = true := dt c23
                  clear c23
                  by_cases c24 : (ji22) <= (x4_1.size : Int)
                  ·rw [if_pos c24] at H
                   have c24b0 := eq_true c24
                   have c24b1 : decide ((ji22) <= (x4_1.size : Int)) = true := dt c24
                   clear c24
                   have H' := am H
                   clear H
                   have p8 : 0 <= (x5_3 : Int) := dz
                   have q8 : x5_3 < (x4_1.size : Int) := dz
                   have hx8 := bt_at x4_1 x5_3
                   replace p8 := eq_true p8
                   replace q8 := eq_true q8
                   go_wp2
                   go_roundg k3
                   case measure => have := HK1.out; have := HJ2.out; have := HK3.out; omega
                   case rel => exact ⟨(wrap64 (x3_1 + 1)), (x4_1.extract ((ji22) : Int).toNat x4_1.size), (ez), (by first | rfl | (simp; done) | (simp only [<- hji22] <;> (first | rfl | simp)) | (simp [*]; done)), H', ⟨by have := HK1.out; have := HJ2.out; have := HK3.out; omega⟩, ⟨bz HB.out⟩⟩
                  ·rw [if_neg c24] at H
                   exact absurd H (by simp)
                 ·rw [if_neg c23] at H
                  exact absurd H (by simp)
              ·rw [if_neg c13] at H
               have c13b0 : ((x4_1.extract 0 (x5_3 : Int).toNat).toList == ([104, 101, 97, 100, 115] : List UInt8)) = false := beq_eq_false_iff_ne.mpr c13
               have c13b1 : ((x4_1.extract 0 (x5_3 : Int).toNat).toList != ([104, 101, 97, 100, 115] : List UInt8)) = true := bne_iff_ne.mpr c13
               by_cases c25 : (x4_1.extract 0 (x5_3 : Int).toNat).toList = ([116, 97, 103, 115] : List UInt8)
               ·rw [if_pos c25] at H
                have c25b0 : ((x4_1.extract 0 (x5_3 : Int).toNat).toList == ([116, 97, 103, 115] : List UInt8)) = true := beq_iff_eq.mpr c25
                have c25b1 : ((x4_1.extract 0 (x5_3 : Int).toNat).toList != ([116, 97, 103, 115] : List UInt8)) = false := bne_eq_false_iff_eq.mpr c25
                clear c25
                by_cases c26 : x3_1 > 0
                ·rw [if_pos c26] at H
                 have c26b0 : decide (0 < x3_1) = true := dt c26
                 clear c26
                 replace H := Option.bind_eq_some_iff.mp H
                 obtain ⟨t169, A270, H⟩ := H
                 replace H : (if t169 = true then (if x5_3 = (wrap64 ((x4_1.size : Int) - 1)) then (some false) else (if 0 <= (mn (wrap64 (x5_3 + 1)) (x4_1.size : Int)) then (if (mn (wrap64 (x5_3 + 1)) (x4_1.size : Int)) <= (x4_1.size : Int) then (q9_Named.l0 k3 (wrap64 (x3_1 + 1)) (x4_1.extract ((mn (wrap64 (x5_3 + 1)) (x4_1.size : Int)) : Int).toNat x4_1.size)) else (none)) else (none))) else (some false)) = some r := H
                 have A27 := am A270
                 by_cases c28 : t169 = true
                 ·subst c28
                  have H1 : (if x5_3 = (wrap64 ((x4_1.size : Int) - 1)) then (some false) else (if 0 <= (mn (wrap64 (x5_3 + 1)) (x4_1.size : Int)) then (if (mn (wrap64 (x5_3 + 1)) (x4_1.size : Int)) <= (x4_1.size : Int) then (q9_Named.l0 k3 (wrap64 (x3_1 + 1)) (x4_1.extract ((mn (wrap64 (x5_3 + 1)) (x4_1.size : Int)) : Int).toNat x4_1.size)) else (none)) else (none))) = some r := by rw [if_pos rfl] at H; exact H
                  clear H
                  have H := H1
                  clear H1
                  by_cases c29 : x5_3 = (wrap64 ((x4_1.size : Int) - 1))
                  ·rw [if_pos c29] at H
                   have c29b0 : (x5_3 == (wrap64 ((x4_1.size : Int) - 1))) = true := beq_iff_eq.mpr c29
                   have c29b1 : (x5_3 != (wrap64 ((x4_1.size : Int) - 1))) = false := bne_eq_false_iff_eq.mpr c29
                   clear c29
                   obtain rfl := Option.some.inj H
                   have p8 : 0 <= (x5_3 : Int) := dz
                   have q8 : x5_3 < (x4_1.size : Int) := dz
                   have hx8 := bt_at x4_1 x5_3
                   replace p8 := eq_true p8
                   replace q8 := eq_true q8
                   go_wp2_with (first | (go_at_call 67; (with_reducible refine (q9_part.calls k3 (x4_1.extract 0 (x5_3 : Int).toNat) true _ A27.out).mono ?_); rintro e w' ⟨rfl, ⟨nd, rfl⟩⟩))
                   go_ret
                   exact ⟨ey, bz HB.out⟩
                  ·rw [if_neg c29] at H
                   have c29b0 : (x5_3 == (wrap64 ((x4_1.size : Int) - 1))) = false := beq_eq_false_iff_ne.mpr c29
                   have c29b1 : (x5_3 != (wrap64 ((x4_1.size : Int) - 1))) = true := bne_iff_ne.mpr c29
                   obtain ⟨ji30, hji30⟩ : ∃ j_ : Int, (mn (wrap64 (x5_3 + 1)) (x4_1.size : Int)) = j_ := ⟨_, rfl⟩
                   replace H : (if 0 <= (ji30) then (if (ji30) <= (x4_1.size : Int) then (q9_Named.l0 k3 (wrap64 (x3_1 + 1)) (x4_1.extract ((ji30) : Int).toNat x4_1.size)) else (none)) else (none)) = some r := by first | (rw [hji30] at H; exact H) | (simp only [hji30] at H ⊢; exact H)
                   (try rw [hji30] at A27)
                   have hji30_ : (if (x4_1.size : Int) < (wrap64 (x5_3 + 1)) then (x4_1.size : Int) else (wrap64 (x5_3 + 1))) = ji30 := hji30
                   by_cases c31 : 0 <= (ji30)
                   ·rw [if_pos c31] at H
                    have c31b0 := eq_true c31
                    have c31b1 : decide (0 <= (ji30)) = true := dt c31
                    clear c31
                    by_cases c32 : (ji30) <= (x4_1.size : Int)
                    ·rw [if_pos c32] at H
                     have c32b0 := eq_true c32
                     have c32b1 : decide ((ji30) <= (x4_1.size : Int)) = true := dt c32
                     clear c32
                     have H' := am H
                     clear H
                     have p8 : 0 <= (x5_3 : Int) := dz
                     have q8 : x5_3 < (x4_1.size : Int) := dz
                     have hx8 := bt_at x4_1 x5_3
                     replace p8 := eq_true p8
                     replace q8 := eq_true q8
                     go_wp2_with (first | (go_at_call 67; (with_reducible refine (q9_part.calls k3 (x4_1.extract 0 (x5_3 : Int).toNat) true _ A27.out).mono ?_); rintro e w' ⟨rfl, ⟨nd, rfl⟩⟩))
                     go_roundg k3
                     case measure => have := HK1.out; have := HJ2.out; have := HK3.out; omega
                     case rel => exact ⟨(wrap64 (x3_1 + 1)), (x4_1.extract ((ji30) : Int).toNat x4_1.size), (ez), (by first | rfl | (simp; done) | (simp only [<- hji30] <;> (first | rfl | simp)) | (simp [*]; done)), H', ⟨by have := HK1.out; have := HJ2.out; have := HK3.out; omega⟩, ⟨bz HB.out⟩⟩
                    ·rw [if_neg c32] at H
                     exact absurd H (by simp)
                   ·rw [if_neg c31] at H
                    exact absurd H (by simp)
                 ·replace c28 := Bool.eq_false_iff.mpr c28
                  subst c28
                  have H1 : (some false) = some r := by rw [if_neg (show ¬ (false = true) by decide)] at H; exact H
                  clear H
                  have H := H1
                  clear H1
                  obtain rfl := Option.some.inj H
                  have p8 : 0 <= (x5_3 : Int) := dz
                  have q8 : x5_3 < (x4_1.size : Int) := dz
                  have hx8 := bt_at x4_1 x5_3
                  replace p8 := eq_true p8
                  replace q8 := eq_true q8
                  go_wp2_with (first | (go_at_call 67; (with_reducible refine (q9_part.calls k3 (x4_1.extract 0 (x5_3 : Int).toNat) false _ A27.out).mono ?_); rintro e w' ⟨rfl, ⟨nd, rfl⟩⟩))
                  go_ret
                  exact ⟨ey, bz HB.out⟩
                ·rw [if_neg c26] at H
                 have c26b0 : decide (0 < x3_1) = false := df c26
                 clear c26
                 by_cases c33 : x5_3 = (wrap64 ((x4_1.size : Int) - 1))
                 ·rw [if_pos c33] at H
                  have c33b0 : (x5_3 == (wrap64 ((x4_1.size : Int) - 1))) = true := beq_iff_eq.mpr c33
                  have c33b1 : (x5_3 != (wrap64 ((x4_1.size : Int) - 1))) = false := bne_eq_false_iff_eq.mpr c33
                  clear c33
                  obtain rfl := Option.some.inj H
                  have p8 : 0 <= (x5_3 : Int) := dz
                  have q8 : x5_3 < (x4_1.size : Int) := dz
                  have hx8 := bt_at x4_1 x5_3
                  replace p8 := eq_true p8
                  replace q8 := eq_true q8
                  go_wp2
                  go_ret
                  exact ⟨ey, bz HB.out⟩
                 ·rw [if_neg c33] at H
                  have c33b0 : (x5_3 == (wrap64 ((x4_1.size : Int) - 1))) = false := beq_eq_false_iff_ne.mpr c33
                  have c33b1 : (x5_3 != (wrap64 ((x4_1.size : Int) - 1))) = true := bne_iff_ne.mpr c33
                  obtain ⟨ji34, hji34⟩ : ∃ j_ : Int, (mn (wrap64 (x5_3 + 1)) (x4_1.size : Int)) = j_ := ⟨_, rfl⟩
                  replace H : (if 0 <= (ji34) then (if (ji34) <= (x4_1.size : Int) then (q9_Named.l0 k3 (wrap64 (x3_1 + 1)) (x4_1.extract ((ji34) : Int).toNat x4_1.size)) else (none)) else (none)) = some r := by first | (rw [hji34] at H; exact H) | (simp only [hji34] at H ⊢; exact H)
                  have hji34_ : (if (x4_1.size : Int) < (wrap64 (x5_3 + 1)) then (x4_1.size : Int) else (wrap64 (x5_3 + 1))) = ji34 := hji34
                  by_cases c35 : 0 <= (ji34)
                  ·rw [if_pos c35] at H
                   have c35b0 := eq_true c35
                   have c35b1 : decide (0 <= (ji34)) = true := dt c35
                   clear c35
                   by_cases c36 : (ji34) <= (x4_1.size : Int)
                   ·rw [if_pos c36] at H
                    have c36b0 := eq_true c36
                    have c36b1 : decide ((ji34) <= (x4_1.size : Int)) = true := dt c36
                    clear c36
                    have H' := am H
                    clear H
                    have p8 : 0 <= (x5_3 : Int) := dz
                    have q8 : x5_3 < (x4_1.size : Int) := dz
                    have hx8 := bt_at x4_1 x5_3
                    replace p8 := eq_true p8
                    replace q8 := eq_true q8
                    go_wp2
                    go_roundg k3
                    case measure => have := HK1.out; have := HJ2.out; have := HK3.out; omega
                    case rel => exact ⟨(wrap64 (x3_1 + 1)), (x4_1.extract ((ji34) : Int).toNat x4_1.size), (ez), (by first | rfl | (simp; done) | (simp only [<- hji34] <;> (first | rfl | simp)) | (simp [*]; done)), H', ⟨by have := HK1.out; have := HJ2.out; have := HK3.out; omega⟩, ⟨bz HB.out⟩⟩
                   ·rw [if_neg c36] at H
                    exact absurd H (by simp)
                  ·rw [if_neg c35] at H
                   exact absurd H (by simp)
               ·rw [if_neg c25] at H
                have c25b0 : ((x4_1.extract 0 (x5_3 : Int).toNat).toList == ([116, 97, 103, 115] : List UInt8)) = false := beq_eq_false_iff_ne.mpr c25
                have c25b1 : ((x4_1.extract 0 (x5_3 : Int).toNat).toList != ([116, 97, 103, 115] : List UInt8)) = true := bne_iff_ne.mpr c25
                obtain rfl := Option.some.inj H
                have p8 : 0 <= (x5_3 : Int) := dz
                have q8 : x5_3 < (x4_1.size : Int) := dz
                have hx8 := bt_at x4_1 x5_3
                replace p8 := eq_true p8
                replace q8 := eq_true q8
                go_wp2
                go_ret
                exact ⟨ey, bz HB.out⟩
             ·rw [if_neg c12] at H
              have c12b0 : (x3_1 == 0) = false := beq_eq_false_iff_ne.mpr c12
              have c12b1 : (x3_1 != 0) = true := bne_iff_ne.mpr c12
              by_cases c37 : x3_1 > 0
              ·rw [if_pos c37] at H
               have c37b0 : decide (0 < x3_1) = true := dt c37
               clear c37
               replace H := Option.bind_eq_some_iff.mp H
               obtain ⟨t170, A380, H⟩ := H
               replace H : (if t170 = true then (if x5_3 = (wrap64 ((x4_1.size : Int) - 1)) then (some false) else (if 0 <= (mn (wrap64 (x5_3 + 1)) (x4_1.size : Int)) then (if (mn (wrap64 (x5_3 + 1)) (x4_1.size : Int)) <= (x4_1.size : Int) then (q9_Named.l0 k3 (wrap64 (x3_1 + 1)) (x4_1.extract ((mn (wrap64 (x5_3 + 1)) (x4_1.size : Int)) : Int).toNat x4_1.size)) else (none)) else (none))) else (some false)) = some r := H
               have A38 := am A380
               by_cases c39 : t170 = true
               ·subst c39
                have H1 : (if x5_3 = (wrap64 ((x4_1.size : Int) - 1)) then (some false) else (if 0 <= (mn (wrap64 (x5_3 + 1)) (x4_1.size : Int)) then (if (mn (wrap64 (x5_3 + 1)) (x4_1.size : Int)) <= (x4_1.size : Int) then (q9_Named.l0 k3 (wrap64 (x3_1 + 1)) (x4_1.extract ((mn (wrap64 (x5_3 + 1)) (x4_1.size : Int)) : Int).toNat x4_1.size)) else (none)) else (none))) = some r := by rw [if_pos rfl] at H; exact H
                clear H
                have H := H1
                clear H1
                by_cases c40 : x5_3 = (wrap64 ((x4_1.size : Int) - 1))
                ·rw [if_pos c40] at H
                 have c40b0 : (x5_3 == (wrap64 ((x4_1.size : Int) - 1))) = true := beq_iff_eq.mpr c40
                 have c40b1 : (x5_3 != (wrap64 ((x4_1.size : Int) - 1))) = false := bne_eq_false_iff_eq.mpr c40
                 clear c40
                 obtain rfl := Option.some.inj H
                 have p8 : 0 <= (x5_3 : Int) := dz
                 have q8 : x5_3 < (x4_1.size : Int) := dz
                 have hx8 := bt_at x4_1 x5_3
                 replace p8 := eq_true p8
                 replace q8 := eq_true q8
                 go_wp2_with (first | (go_at_call 67; (with_reducible refine (q9_part.calls k3 (x4_1.extract 0 (x5_3 : Int).toNat) true _ A38.out).mono ?_); rintro e w' ⟨rfl, ⟨nd, rfl⟩⟩))
                 go_ret
                 exact ⟨ey, bz HB.out⟩
                ·rw [if_neg c40] at H
                 have c40b0 : (x5_3 == (wrap64 ((x4_1.size : Int) - 1))) = false := beq_eq_false_iff_ne.mpr c40
                 have c40b1 : (x5_3 != (wrap64 ((x4_1.size : Int) - 1))) = true := bne_iff_ne.mpr c40
                 obtain ⟨ji41, hji41⟩ : ∃ j_ : Int, (mn (wrap64 (x5_3 + 1)) (x4_1.size : Int)) = j_ := ⟨_, rfl⟩
                 replace H : (if 0 <= (ji41) then (if (ji41) <= (x4_1.size : Int) then (q9_Named.l0 k3 (wrap64 (x3_1 + 1)) (x4_1.extract ((ji41) : Int).toNat x4_1.size)) else (none)) else (none)) = some r := by first | (rw [hji41] at H; exact H) | (simp only [hji41] at H ⊢; exact H)
                 (try rw [hji41] at A38)
                 have hji41_ : (if (x4_1.size : Int) < (wrap64 (x5_3 + 1)) then (x4_1.size : Int) else (wrap64 (x5_3 + 1))) = ji41 := hji41
                 by_cases c42 : 0 <= (ji41)
                 ·rw [if_pos c42] at H
                  have c42b0 := eq_true c42
                  have c42b1 : decide (0 <= (ji41)) = true := dt c42
                  clear c42
                  by_cases c43 : (ji41) <= (x4_1.size : Int)
                  ·rw [if_pos c43] at H
                   have c43b0 := eq_true c43
                   have c43b1 : decide ((ji41) <= (x4_1.size : Int)) = true := dt c43
                   clear c43
                   have H' := am H
                   clear H
                   have p8 : 0 <= (x5_3 : Int) := dz
                   have q8 : x5_3 < (x4_1.size : Int) := dz
                   have hx8 := bt_at x4_1 x5_3
                   replace p8 := eq_true p8
                   replace q8 := eq_true q8
                   go_wp2_with (first | (go_at_call 67; (with_reducible refine (q9_part.calls k3 (x4_1.extract 0 (x5_3 : Int).toNat) true _ A38.out).mono ?_); rintro e w' ⟨rfl, ⟨nd, rfl⟩⟩))
                   go_roundg k3
                   case measure => have := HK1.out; have := HJ2.out; have := HK3.out; omega
                   case rel => exact ⟨(wrap64 (x3_1 + 1)), (x4_1.extract ((ji41) : Int).toNat x4_1.size), (ez), (by first | rfl | (simp; done) | (simp only [<- hji41] <;> (first | rfl | simp)) | (simp [*]; done)), H', ⟨by have := HK1.out; have := HJ2.out; have := HK3.out; omega⟩, ⟨bz HB.out⟩⟩
                  ·rw [if_neg c43] at H
                   exact absurd H (by simp)
                 ·rw [if_neg c42] at H
                  exact absurd H (by simp)
               ·replace c39 := Bool.eq_false_iff.mpr c39
                subst c39
                have H1 : (some false) = some r := by rw [if_neg (show ¬ (false = true) by decide)] at H; exact H
                clear H
                have H := H1
                clear H1
                obtain rfl := Option.some.inj H
                have p8 : 0 <= (x5_3 : Int) := dz
                have q8 : x5_3 < (x4_1.size : Int) := dz
                have hx8 := bt_at x4_1 x5_3
                replace p8 := eq_true p8
                replace q8 := eq_true q8
                go_wp2_with (first | (go_at_call 67; (with_reducible refine (q9_part.calls k3 (x4_1.extract 0 (x5_3 : Int).toNat) false _ A38.out).mono ?_); rintro e w' ⟨rfl, ⟨nd, rfl⟩⟩))
                go_ret
                exact ⟨ey, bz HB.out⟩
              ·rw [if_neg c37] at H
               have c37b0 : decide (0 < x3_1) = false := df c37
               clear c37
               by_cases c44 : x5_3 = (wrap64 ((x4_1.size : Int) - 1))
               ·rw [if_pos c44] at H
                have c44b0 : (x5_3 == (wrap64 ((x4_1.size : Int) - 1))) = true := beq_iff_eq.mpr c44
                have c44b1 : (x5_3 != (wrap64 ((x4_1.size : Int) - 1))) = false := bne_eq_false_iff_eq.mpr c44
                clear c44
                obtain rfl := Option.some.inj H
                have p8 : 0 <= (x5_3 : Int) := dz
                have q8 : x5_3 < (x4_1.size : Int) := dz
                have hx8 := bt_at x4_1 x5_3
                replace p8 := eq_true p8
                replace q8 := eq_true q8
                go_wp2
                go_ret
                exact ⟨ey, bz HB.out⟩
               ·rw [if_neg c44] at H
                have c44b0 : (x5_3 == (wrap64 ((x4_1.size : Int) - 1))) = false := beq_eq_false_iff_ne.mpr c44
                have c44b1 : (x5_3 != (wrap64 ((x4_1.size : Int) - 1))) = true := bne_iff_ne.mpr c44
                obtain ⟨ji45, hji45⟩ : ∃ j_ : Int, (mn (wrap64 (x5_3 + 1)) (x4_1.size : Int)) = j_ := ⟨_, rfl⟩
                replace H : (if 0 <= (ji45) then (if (ji45) <= (x4_1.size : Int) then (q9_Named.l0 k3 (wrap64 (x3_1 + 1)) (x4_1.extract ((ji45) : Int).toNat x4_1.size)) else (none)) else (none)) = some r := by first | (rw [hji45] at H; exact H) | (simp only [hji45] at H ⊢; exact H)
                have hji45_ : (if (x4_1.size : Int) < (wrap64 (x5_3 + 1)) then (x4_1.size : Int) else (wrap64 (x5_3 + 1))) = ji45 := hji45
                by_cases c46 : 0 <= (ji45)
                ·rw [if_pos c46] at H
                 have c46b0 := eq_true c46
                 have c46b1 : decide (0 <= (ji45)) = true := dt c46
                 clear c46
                 by_cases c47 : (ji45) <= (x4_1.size : Int)
                 ·rw [if_pos c47] at H
                  have c47b0 := eq_true c47
                  have c47b1 : decide ((ji45) <= (x4_1.size : Int)) = true := dt c47
                  clear c47
                  have H' := am H
                  clear H
                  have p8 : 0 <= (x5_3 : Int) := dz
                  have q8 : x5_3 < (x4_1.size : Int) := dz
                  have hx8 := bt_at x4_1 x5_3
                  replace p8 := eq_true p8
                  replace q8 := eq_true q8
                  go_wp2
                  go_roundg k3
                  case measure => have := HK1.out; have := HJ2.out; have := HK3.out; omega
                  case rel => exact ⟨(wrap64 (x3_1 + 1)), (x4_1.extract ((ji45) : Int).toNat x4_1.size), (ez), (by first | rfl | (simp; done) | (simp only [<- hji45] <;> (first | rfl | simp)) | (simp [*]; done)), H', ⟨by have := HK1.out; have := HJ2.out; have := HK3.out; omega⟩, ⟨bz HB.out⟩⟩
                 ·rw [if_neg c47] at H
                  exact absurd H (by simp)
                ·rw [if_neg c46] at H
                 exact absurd H (by simp)
            ·rw [if_neg c11] at H
             exact absurd H (by simp)
           ·rw [if_neg c9] at H
            have c9b0 : ((bt x4_1 x5_3) == 47) = false := beq_eq_false_iff_ne.mpr c9
            have c9b1 : ((bt x4_1 x5_3) != 47) = true := bne_iff_ne.mpr c9
            have H' := am H
            clear H
            have p8 : 0 <= (x5_3 : Int) := dz
            have q8 : x5_3 < (x4_1.size : Int) := dz
            have hx8 := bt_at x4_1 x5_3
            replace p8 := eq_true p8
            replace q8 := eq_true q8
            go_wp2
            go_roundg k3
            case measure => have := HK1.out; have := HJ2.out; have := HK3.out; omega
            case rel => exact ⟨(wrap64 (x5_3 + 1)), (ez), H', ⟨by have := HK1.out; have := HJ2.out; have := HK3.out; omega⟩, ⟨bz HB.out⟩⟩
          ·rw [if_neg c7] at H
           exact absurd H (by simp)
         ·rw [if_neg c6] at H
          have c6b0 : decide (x5_3 < (x4_1.size : Int)) = false := df c6
          clear c6
          by_cases c48 : 0 <= x5_3
          ·rw [if_pos c48] at H
           have c48b0 := eq_true c48
           have c48b1 : decide (0 <= x5_3) = true := dt c48
           clear c48
           by_cases c49 : x5_3 <= (x4_1.size : Int)
           ·rw [if_pos c49] at H
            have c49b0 := eq_true c49
            have c49b1 : decide (x5_3 <= (x4_1.size : Int)) = true := dt c49
            clear c49
            by_cases c50 : x3_1 = 0
            ·rw [if_pos c50] at H
             have c50b0 : (x3_1 == 0) = true := beq_iff_eq.mpr c50
             have c50b1 : (x3_1 != 0) = false := bne_eq_false_iff_eq.mpr c50
             clear c50
             by_cases c51 : (x4_1.extract 0 (x5_3 : Int).toNat).toList = ([104, 101, 97, 100, 115] : List UInt8)
             ·rw [if_pos c51] at H
              have c51b0 : ((x4_1.extract 0 (x5_3 : Int).toNat).toList == ([104, 101, 97, 100, 115] : List UInt8)) = true := beq_iff_eq.mpr c51
              have c51b1 : ((x4_1.extract 0 (x5_3 : Int).toNat).toList != ([104, 101, 97, 100, 115] : List UInt8)) = false := bne_eq_false_iff_eq.mpr c51
              clear c51
              by_cases c52 : x3_1 > 0
              ·rw [if_pos c52] at H
               have c52b0 : decide (0 < x3_1) = true := dt c52
               clear c52
               replace H := Option.bind_eq_some_iff.mp H
               obtain ⟨t171, A530, H⟩ := H
               replace H : (if t171 = true then (if x5_3 = (wrap64 ((x4_1.size : Int) - 1)) then (some false) else (if 0 <= (mn (wrap64 (x5_3 + 1)) (x4_1.size : Int)) then (if (mn (wrap64 (x5_3 + 1)) (x4_1.size : Int)) <= (x4_1.size : Int) then (q9_Named.l0 k3 (wrap64 (x3_1 + 1)) (x4_1.extract ((mn (wrap64 (x5_3 + 1)) (x4_1.size : Int)) : Int).toNat x4_1.size)) else (none)) else (none))) else (some false)) = some r := H
               have A53 := am A530
               by_cases c54 : t171 = true
               ·subst c54
                have H1 : (if x5_3 = (wrap64 ((x4_1.size : Int) - 1)) then (some false) else (if 0 <= (mn (wrap64 (x5_3 + 1)) (x4_1.size : Int)) then (if (mn (wrap64 (x5_3 + 1)) (x4_1.size : Int)) <= (x4_1.size : Int) then (q9_Named.l0 k3 (wrap64 (x3_1 + 1)) (x4_1.extract ((mn (wrap64 (x5_3 + 1)) (x4_1.size : Int)) : Int).toNat x4_1.size)) else (none)) else (none))) = some r := by rw [if_pos rfl] at H; exact H
                clear H
                have H := H1
                clear H1
                by_cases c55 : x5_3 = (wrap64 ((x4_1.size : Int) - 1))
                ·rw [if_pos c55] at H
                 have c55b0 : (x5_3 == (wrap64 ((x4_1.size : Int) - 1))) = true := beq_iff_eq.mpr c55
                 have c55b1 : (x5_3 != (wrap64 ((x4_1.size : Int) - 1))) = false := bne_eq_false_iff_eq.mpr c55
                 clear c55
                 obtain rfl := Option.some.inj H
                 go_wp2_with (first | (go_at_call 67; (with_reducible refine (q9_part.calls k3 (x4_1.extract 0 (x5_3 : Int).toNat) true _ A53.out).mono ?_); rintro e w' ⟨rfl, ⟨nd, rfl⟩⟩))
                 go_ret
                 exact ⟨ey, bz HB.out⟩
                ·rw [if_neg c55] at H
                 have c55b0 : (x5_3 == (wrap64 ((x4_1.size : Int) - 1))) = false := beq_eq_false_iff_ne.mpr c55
                 have c55b1 : (x5_3 != (wrap64 ((x4_1.size : Int) - 1))) = true := bne_iff_ne.mpr c55
                 obtain ⟨ji56, hji56⟩ : ∃ j_ : Int, (mn (wrap64 (x5_3 + 1)) (x4_1.size : Int)) = j_ := ⟨_, rfl⟩
                 replace H : (if 0 <= (ji56) then (if (ji56) <= (x4_1.size : Int) then (q9_Named.l0 k3 (wrap64 (x3_1 + 1)) (x4_1.extract ((ji56) : Int).toNat x4_1.size)) else (none)) else (none)) = some r := by first | (rw [hji56] at H; exact H) | (simp only [hji56] at H ⊢; exact H)
                 (try rw [hji56] at A53)
                 have hji56_ : (if (x4_1.size : Int) < (wrap64 (x5_3 + 1)) then (x4_1.size : Int) else (wrap64 (x5_3 + 1))) = ji56 := hji56
                 by_cases c57 : 0 <= (ji56)
                 ·rw [if_pos c57] at H
                  have c57b0 := eq_true c57
                  have c57b1 : decide (0 <= (ji56)) = true := dt c57
                  clear c57
                  by_cases c58 : (ji56) <= (x4_1.size : Int)
                  ·rw [if_pos c58] at H
                   have c58b0 := eq_true c58
                   have c58b1 : decide ((ji56) <= (x4_1.size : Int)) = true := dt c58
                   clear c58
                   have H' := am H
                   clear H
                   go_wp2_with (first | (go_at_call 67; (with_reducible refine (q9_part.calls k3 (x4_1.extract 0 (x5_3 : Int).toNat) true _ A53.out).mono ?_); rintro e w' ⟨rfl, ⟨nd, rfl⟩⟩))
                   go_roundg k3
                   case measure => have := HK1.out; have := HJ2.out; have := HK3.out; omega
                   case rel => exact ⟨(wrap64 (x3_1 + 1)), (x4_1.extract ((ji56) : Int).toNat x4_1.size), (ez), (by first | rfl | (simp; done) | (simp only [<- hji56] <;> (first | rfl | simp)) | (simp [*]; done)), H', ⟨by have := HK1.out; have := HJ2.out; have := HK3.out; omega⟩, ⟨bz HB.out⟩⟩
                  ·rw [if_neg c58] at H
                   exact absurd H (by simp)
                 ·rw [if_neg c57] at H
                  exact absurd H (by simp)
               ·replace c54 := Bool.eq_false_iff.mpr c54
                subst c54
                have H1 : (some false) = some r := by rw [if_neg (show ¬ (false = true) by decide)] at H; exact H
                clear H
                have H := H1
                clear H1
                obtain rfl := Option.some.inj H
                go_wp2_with (first | (go_at_call 67; (with_reducible refine (q9_part.calls k3 (x4_1.extract 0 (x5_3 : Int).toNat) false _ A53.out).mono ?_); rintro e w' ⟨rfl, ⟨nd, rfl⟩⟩))
                go_ret
                exact ⟨ey, bz HB.out⟩
              ·rw [if_neg c52] at H
               have c52b0 : decide (0 < x3_1) = false := df c52
               clear c52
               by_cases c59 : x5_3 = (wrap64 ((x4_1.size : Int) - 1))
               ·rw [if_pos c59] at H
                have c59b0 : (x5_3 == (wrap64 ((x4_1.size : Int) - 1))) = true := beq_iff_eq.mpr c59
                have c59b1 : (x5_3 != (wrap64 ((x4_1.size : Int) - 1))) = false := bne_eq_false_iff_eq.mpr c59
                clear c59
                obtain rfl := Option.some.inj H
                go_wp2
                go_ret
                exact ⟨ey, bz HB.out⟩
               ·rw [if_neg c59] at H
                have c59b0 : (x5_3 == (wrap64 ((x4_1.size : Int) - 1))) = false := beq_eq_false_iff_ne.mpr c59
                have c59b1 : (x5_3 != (wrap64 ((x4_1.size : Int) - 1))) = true := bne_iff_ne.mpr c59
                obtain ⟨ji60, hji60⟩ : ∃ j_ : Int, (mn (wrap64 (x5_3 + 1)) (x4_1.size : Int)) = j_ := ⟨_, rfl⟩
                replace H : (if 0 <= (ji60) then (if (ji60) <= (x4_1.size : Int) then (q9_Named.l0 k3 (wrap64 (x3_1 + 1)) (x4_1.extract ((ji60) : Int).toNat x4_1.size)) else (none)) else (none)) = some r := by first | (rw [hji60] at H; exact H) | (simp only [hji60] at H ⊢; exact H)
                have hji60_ : (if (x4_1.size : Int) < (wrap64 (x5_3 + 1)) then (x4_1.size : Int) else (wrap64 (x5_3 + 1))) = ji60 := hji60
                by_cases c61 : 0 <= (ji60)
                ·rw [if_pos c61] at H
                 have c61b0 := eq_true c61
                 have c61b1 : decide (0 <= (ji60)) = true := dt c61
                 clear c61
                 by_cases c62 : (ji60) <= (x4_1.size : Int)
                 ·rw [if_pos c62] at H
                  have c62b0 := eq_true c62
                  have c62b1 : decide ((ji60) <= (x4_1.size : Int)) = true := dt c62
                  clear c62
                  have H' := am H
                  clear H
                  go_wp2
                  go_roundg k3
                  case measure => have := HK1.out; have := HJ2.out; have := HK3.out; omega
                  case rel => exact ⟨(wrap64 (x3_1 + 1)), (x4_1.extract ((ji60) : Int).toNat x4_1.size), (ez), (by first | rfl | (simp; done) | (simp only [<- hji60] <;> (first | rfl | simp)) | (simp [*]; done)), H', ⟨by have := HK1.out; have := HJ2.out; have := HK3.out; omega⟩, ⟨bz HB.out⟩⟩
                 ·rw [if_neg c62] at H
                  exact absurd H (by simp)
                ·rw [if_neg c61] at H
                 exact absurd H (by simp)
             ·rw [if_neg c51] at H
              have c51b0 : ((x4_1.extract 0 (x5_3 : Int).toNat).toList == ([104, 101, 97, 100, 115] : List UInt8)) = false := beq_eq_false_iff_ne.mpr c51
              have c51b1 : ((x4_1.extract 0 (x5_3 : Int).toNat).toList != ([104, 101, 97, 100, 115] : List UInt8)) = true := bne_iff_ne.mpr c51
              by_cases c63 : (x4_1.extract 0 (x5_3 : Int).toNat).toList = ([116, 97, 103, 115] : List UInt8)
              ·rw [if_pos c63] at H
               have c63b0 : ((x4_1.extract 0 (x5_3 : Int).toNat).toList == ([116, 97, 103, 115] : List UInt8)) = true := beq_iff_eq.mpr c63
               have c63b1 : ((x4_1.extract 0 (x5_3 : Int).toNat).toList != ([116, 97, 103, 115] : List UInt8)) = false := bne_eq_false_iff_eq.mpr c63
               clear c63
               by_cases c64 : x3_1 > 0
               ·rw [if_pos c64] at H
                have c64b0 : decide (0 < x3_1) = true := dt c64
                clear c64
                replace H := Option.bind_eq_some_iff.mp H
                obtain ⟨t172, A650, H⟩ := H
                replace H : (if t172 = true then (if x5_3 = (wrap64 ((x4_1.size : Int) - 1)) then (some false) else (if 0 <= (mn (wrap64 (x5_3 + 1)) (x4_1.size : Int)) then (if (mn (wrap64 (x5_3 + 1)) (x4_1.size : Int)) <= (x4_1.size : Int) then (q9_Named.l0 k3 (wrap64 (x3_1 + 1)) (x4_1.extract ((mn (wrap64 (x5_3 + 1)) (x4_1.size : Int)) : Int).toNat x4_1.size)) else (none)) else (none))) else (some false)) = some r := H
                have A65 := am A650
                by_cases c66 : t172 = true
                ·subst c66
                 have H1 : (if x5_3 = (wrap64 ((x4_1.size : Int) - 1)) then (some false) else (if 0 <= (mn (wrap64 (x5_3 + 1)) (x4_1.size : Int)) then (if (mn (wrap64 (x5_3 + 1)) (x4_1.size : Int)) <= (x4_1.size : Int) then (q9_Named.l0 k3 (wrap64 (x3_1 + 1)) (x4_1.extract ((mn (wrap64 (x5_3 + 1)) (x4_1.size : Int)) : Int).toNat x4_1.size)) else (none)) else (none))) = some r := by rw [if_pos rfl] at H; exact H
                 clear H
                 have H := H1
                 clear H1
                 by_cases c67 : x5_3 = (wrap64 ((x4_1.size : Int) - 1))
                 ·rw [if_pos c67] at H
                  have c67b0 : (x5_3 == (wrap64 ((x4_1.size : Int) - 1))) = true := beq_iff_eq.mpr c67
                  have c67b1 : (x5_3 != (wrap64 ((x4_1.size : Int) - 1))) = false := bne_eq_false_iff_eq.mpr c67
                  clear c67
                  obtain rfl := Option.some.inj H
                  go_wp2_with (first | (go_at_call 67; (with_reducible refine (q9_part.calls k3 (x4_1.extract 0 (x5_3 : Int).toNat) true _ A65.out).mono ?_); rintro e w' ⟨rfl, ⟨nd, rfl⟩⟩))
                  go_ret
                  exact ⟨ey, bz HB.out⟩
                 ·rw [if_neg c67] at H
                  have c67b0 : (x5_3 == (wrap64 ((x4_1.size : Int) - 1))) = false := beq_eq_false_iff_ne.mpr c67
                  have c67b1 : (x5_3 != (wrap64 ((x4_1.size : Int) - 1))) = true := bne_iff_ne.mpr c67
                  obtain ⟨ji68, hji68⟩ : ∃ j_ : Int, (mn (wrap64 (x5_3 + 1)) (x4_1.size : Int)) = j_ := ⟨_, rfl⟩
                  replace H : (if 0 <= (ji68) then (if (ji68) <= (x4_1.size : Int) then (q9_Named.l0 k3 (wrap64 (x3_1 + 1)) (x4_1.extract ((ji68) : Int).toNat x4_1.size)) else (none)) else (none)) = some r := by first | (rw [hji68] at H; exact H) | (simp only [hji68] at H ⊢; exact H)
                  (try rw [hji68] at A65)
                  have hji68_ : (if (x4_1.size : Int) < (wrap64 (x5_3 + 1)) then (x4_1.size : Int) else (wrap64 (x5_3 + 1))) = ji68 := hji68
                  by_cases c69 : 0 <= (ji68)
                  ·rw [if_pos c69] at H
                   have c69b0 := eq_true c69
                   have c69b1 : decide (0 <= (ji68)) = true := dt c69
                   clear c69
                   by_cases c70 : (ji68) <= (x4_1.size : Int)
                   ·rw [if_pos c70] at H
                    have c70b0 := eq_true c70
                    have c70b1 : decide ((ji68) <= (x4_1.size : Int)) = true := dt c70
                    clear c70
                    have H' := am H
                    clear H
                    go_wp2_with (first | (go_at_call 67; (with_reducible refine (q9_part.calls k3 (x4_1.extract 0 (x5_3 : Int).toNat) true _ A65.out).mono ?_); rintro e w' ⟨rfl, ⟨nd, rfl⟩⟩))
                    go_roundg k3
                    case measure => have := HK1.out; have := HJ2.out; have := HK3.out; omega
                    case rel => exact ⟨(wrap64 (x3_1 + 1)), (x4_1.extract ((ji68) : Int).toNat x4_1.size), (ez), (by first | rfl | (simp; done) | (simp only [<- hji68] <;> (first | rfl | simp)) | (simp [*]; done)), H', ⟨by have := HK1.out; have := HJ2.out; have := HK3.out; omega⟩, ⟨bz HB.out⟩⟩
                   ·rw [if_neg c70] at H
                    exact absurd H (by simp)
                  ·rw [if_neg c69] at H
                   exact absurd H (by simp)
                ·replace c66 := Bool.eq_false_iff.mpr c66
                 subst c66
                 have H1 : (some false) = some r := by rw [if_neg (show ¬ (false = true) by decide)] at H; exact H
                 clear H
                 have H := H1
                 clear H1
                 obtain rfl := Option.some.inj H
                 go_wp2_with (first | (go_at_call 67; (with_reducible refine (q9_part.calls k3 (x4_1.extract 0 (x5_3 : Int).toNat) false _ A65.out).mono ?_); rintro e w' ⟨rfl, ⟨nd, rfl⟩⟩))
                 go_ret
                 exact ⟨ey, bz HB.out⟩
               ·rw [if_neg c64] at H
                have c64b0 : decide (0 < x3_1) = false := df c64
                clear c64
                by_cases c71 : x5_3 = (wrap64 ((x4_1.size : Int) - 1))
                ·rw [if_pos c71] at H
                 have c71b0 : (x5_3 == (wrap64 ((x4_1.size : Int) - 1))) = true := beq_iff_eq.mpr c71
                 have c71b1 : (x5_3 != (wrap64 ((x4_1.size : Int) - 1))) = false := bne_eq_false_iff_eq.mpr c71
                 clear c71
                 obtain rfl := Option.some.inj H
                 go_wp2
                 go_ret
                 exact ⟨ey, bz HB.out⟩
                ·rw [if_neg c71] at H
                 have c71b0 : (x5_3 == (wrap64 ((x4_1.size : Int) - 1))) = false := beq_eq_false_iff_ne.mpr c71
                 have c71b1 : (x5_3 != (wrap64 ((x4_1.size : Int) - 1))) = true := bne_iff_ne.mpr c71
                 obtain ⟨ji72, hji72⟩ : ∃ j_ : Int, (mn (wrap64 (x5_3 + 1)) (x4_1.size : Int)) = j_ := ⟨_, rfl⟩
                 replace H : (if 0 <= (ji72) then (if (ji72) <= (x4_1.size : Int) then (q9_Named.l0 k3 (wrap64 (x3_1 + 1)) (x4_1.extract ((ji72) : Int).toNat x4_1.size)) else (none)) else (none)) = some r := by first | (rw [hji72] at H; exact H) | (simp only [hji72] at H ⊢; exact H)
                 have hji72_ : (if (x4_1.size : Int) < (wrap64 (x5_3 + 1)) then (x4_1.size : Int) else (wrap64 (x5_3 + 1))) = ji72 := hji72
                 by_cases c73 : 0 <= (ji72)
                 ·rw [if_pos c73] at H
                  have c73b0 := eq_true c73
                  have c73b1 : decide (0 <= (ji72)) = true := dt c73
                  clear c73
                  by_cases c74 : (ji72) <= (x4_1.size : Int)
                  ·rw [if_pos c74] at H
                   have c74b0 := eq_true c74
                   have c74b1 : decide ((ji72) <= (x4_1.size : Int)) = true := dt c74
                   clear c74
                   have H' := am H
                   clear H
                   go_wp2
                   go_roundg k3
                   case measure => have := HK1.out; have := HJ2.out; have := HK3.out; omega
                   case rel => exact ⟨(wrap64 (x3_1 + 1)), (x4_1.extract ((ji72) : Int).toNat x4_1.size), (ez), (by first | rfl | (simp; done) | (simp only [<- hji72] <;> (first | rfl | simp)) | (simp [*]; done)), H', ⟨by have := HK1.out; have := HJ2.out; have := HK3.out; omega⟩, ⟨bz HB.out⟩⟩
                  ·rw [if_neg c74] at H
                   exact absurd H (by simp)
                 ·rw [if_neg c73] at H
                  exact absurd H (by simp)
              ·rw [if_neg c63] at H
               have c63b0 : ((x4_1.extract 0 (x5_3 : Int).toNat).toList == ([116, 97, 103, 115] : List UInt8)) = false := beq_eq_false_iff_ne.mpr c63
               have c63b1 : ((x4_1.extract 0 (x5_3 : Int).toNat).toList != ([116, 97, 103, 115] : List UInt8)) = true := bne_iff_ne.mpr c63
               obtain rfl := Option.some.inj H
               go_wp2
               go_ret
               exact ⟨ey, bz HB.out⟩
            ·rw [if_neg c50] at H
             have c50b0 : (x3_1 == 0) = false := beq_eq_false_iff_ne.mpr c50
             have c50b1 : (x3_1 != 0) = true := bne_iff_ne.mpr c50
             by_cases c75 : x3_1 > 0
             ·rw [if_pos c75] at H
              have c75b0 : decide (0 < x3_1) = true := dt c75
              clear c75
              replace H := Option.bind_eq_some_iff.mp H
              obtain ⟨t173, A760, H⟩ := H
              replace H : (if t173 = true then (if x5_3 = (wrap64 ((x4_1.size : Int) - 1)) then (some false) else (if 0 <= (mn (wrap64 (x5_3 + 1)) (x4_1.size : Int)) then (if (mn (wrap64 (x5_3 + 1)) (x4_1.size : Int)) <= (x4_1.size : Int) then (q9_Named.l0 k3 (wrap64 (x3_1 + 1)) (x4_1.extract ((mn (wrap64 (x5_3 + 1)) (x4_1.size : Int)) : Int).toNat x4_1.size)) else (none)) else (none))) else (some false)) = some r := H
              have A76 := am A760
              by_cases c77 : t173 = true
              ·subst c77
               have H1 : (if x5_3 = (wrap64 ((x4_1.size : Int) - 1)) then (some false) else (if 0 <= (mn (wrap64 (x5_3 + 1)) (x4_1.size : Int)) then (if (mn (wrap64 (x5_3 + 1)) (x4_1.size : Int)) <= (x4_1.size : Int) then (q9_Named.l0 k3 (wrap64 (x3_1 + 1)) (x4_1.extract ((mn (wrap64 (x5_3 + 1)) (x4_1.size : Int)) : Int).toNat x4_1.size)) else (none)) else (none))) = some r := by rw [if_pos rfl] at H; exact H
               clear H
               have H := H1
               clear H1
               by_cases c78 : x5_3 = (wrap64 ((x4_1.size : Int) - 1))
               ·rw [if_pos c78] at H
                have c78b0 : (x5_3 == (wrap64 ((x4_1.size : Int) - 1))) = true := beq_iff_eq.mpr c78
                have c78b1 : (x5_3 != (wrap64 ((x4_1.size : Int) - 1))) = false := bne_eq_false_iff_eq.mpr c78
                clear c78
                obtain rfl := Option.some.inj H
                go_wp2_with (first | (go_at_call 67; (with_reducible refine (q9_part.calls k3 (x4_1.extract 0 (x5_3 : Int).toNat) true _ A76.out).mono ?_); rintro e w' ⟨rfl, ⟨nd, rfl⟩⟩))
                go_ret
                exact ⟨ey, bz HB.out⟩
               ·rw [if_neg c78] at H
                have c78b0 : (x5_3 == (wrap64 ((x4_1.size : Int) - 1))) = false := beq_eq_false_iff_ne.mpr c78
                have c78b1 : (x5_3 != (wrap64 ((x4_1.size : Int) - 1))) = true := bne_iff_ne.mpr c78
                obtain ⟨ji79, hji79⟩ : ∃ j_ : Int, (mn (wrap64 (x5_3 + 1)) (x4_1.size : Int)) = j_ := ⟨_, rfl⟩
                replace H : (if 0 <= (ji79) then (if (ji79) <= (x4_1.size : Int) then (q9_Named.l0 k3 (wrap64 (x3_1 + 1)) (x4_1.extract ((ji79) : Int).toNat x4_1.size)) else (none)) else (none)) = some r := by first | (rw [hji79] at H; exact H) | (simp only [hji79] at H ⊢; exact H)
                (try rw [hji79] at A76)
                have hji79_ : (if (x4_1.size : Int) < (wrap64 (x5_3 + 1)) then (x4_1.size : Int) else (wrap64 (x5_3 + 1))) = ji79 := hji79
                by_cases c80 : 0 <= (ji79)
                ·rw [if_pos c80] at H
                 have c80b0 := eq_true c80
                 have c80b1 : decide (0 <= (ji79)) = true := dt c80
                 clear c80
                 by_cases c81 : (ji79) <= (x4_1.size : Int)
                 ·rw [if_pos c81] at H
                  have c81b0 := eq_true c81
                  have c81b1 : decide ((ji79) <= (x4_1.size : Int)) = true := dt c81
                  clear c81
                  have H' := am H
                  clear H
                  go_wp2_with (first | (go_at_call 67; (with_reducible refine (q9_part.calls k3 (x4_1.extract 0 (x5_3 : Int).toNat) true _ A76.out).mono ?_); rintro e w' ⟨rfl, ⟨nd, rfl⟩⟩))
                  go_roundg k3
                  case measure => have := HK1.out; have := HJ2.out; have := HK3.out; omega
                  case rel => exact ⟨(wrap64 (x3_1 + 1)), (x4_1.extract ((ji79) : Int).toNat x4_1.size), (ez), (by first | rfl | (simp; done) | (simp only [<- hji79] <;> (first | rfl | simp)) | (simp [*]; done)), H', ⟨by have := HK1.out; have := HJ2.out; have := HK3.out; omega⟩, ⟨bz HB.out⟩⟩
                 ·rw [if_neg c81] at H
                  exact absurd H (by simp)
                ·rw [if_neg c80] at H
                 exact absurd H (by simp)
              ·replace c77 := Bool.eq_false_iff.mpr c77
               subst c77
               have H1 : (some false) = some r := by rw [if_neg (show ¬ (false = true) by decide)] at H; exact H
               clear H
               have H := H1
               clear H1
               obtain rfl := Option.some.inj H
               go_wp2_with (first | (go_at_call 67; (with_reducible refine (q9_part.calls k3 (x4_1.extract 0 (x5_3 : Int).toNat) false _ A76.out).mono ?_); rintro e w' ⟨rfl, ⟨nd, rfl⟩⟩))
               go_ret
               exact ⟨ey, bz HB.out⟩
             ·rw [if_neg c75] at H
              have c75b0 : decide (0 < x3_1) = false := df c75
              clear c75
              by_cases c82 : x5_3 = (wrap64 ((x4_1.size : Int) - 1))
              ·rw [if_pos c82] at H
               have c82b0 : (x5_3 == (wrap64 ((x4_1.size : Int) - 1))) = true := beq_iff_eq.mpr c82
               have c82b1 : (x5_3 != (wrap64 ((x4_1.size : Int) - 1))) = false := bne_eq_false_iff_eq.mpr c82
               clear c82
               obtain rfl := Option.some.inj H
               go_wp2
               go_ret
               exact ⟨ey, bz HB.out⟩
              ·rw [if_neg c82] at H
               have c82b0 : (x5_3 == (wrap64 ((x4_1.size : Int) - 1))) = false := beq_eq_false_iff_ne.mpr c82
               have c82b1 : (x5_3 != (wrap64 ((x4_1.size : Int) - 1))) = true := bne_iff_ne.mpr c82
               obtain ⟨ji83, hji83⟩ : ∃ j_ : Int, (mn (wrap64 (x5_3 + 1)) (x4_1.size : Int)) = j_ := ⟨_, rfl⟩
               replace H : (if 0 <= (ji83) then (if (ji83) <= (x4_1.size : Int) then (q9_Named.l0 k3 (wrap64 (x3_1 + 1)) (x4_1.extract ((ji83) : Int).toNat x4_1.size)) else (none)) else (none)) = some r := by first | (rw [hji83] at H; exact H) | (simp only [hji83] at H ⊢; exact H)
               have hji83_ : (if (x4_1.size : Int) < (wrap64 (x5_3 + 1)) then (x4_1.size : Int) else (wrap64 (x5_3 + 1))) = ji83 := hji83
               by_cases c84 : 0 <= (ji83)
               ·rw [if_pos c84] at H
                have c84b0 := eq_true c84
                have c84b1 : decide (0 <= (ji83)) = true := dt c84
                clear c84
                by_cases c85 : (ji83) <= (x4_1.size : Int)
                ·rw [if_pos c85] at H
                 have c85b0 := eq_true c85
                 have c85b1 : decide ((ji83) <= (x4_1.size : Int)) = true := dt c85
                 clear c85
                 have H' := am H
                 clear H
                 go_wp2
                 go_roundg k3
                 case measure => have := HK1.out; have := HJ2.out; have := HK3.out; omega
                 case rel => exact ⟨(wrap64 (x3_1 + 1)), (x4_1.extract ((ji83) : Int).toNat x4_1.size), (ez), (by first | rfl | (simp; done) | (simp only [<- hji83] <;> (first | rfl | simp)) | (simp [*]; done)), H', ⟨by have := HK1.out; have := HJ2.out; have := HK3.out; omega⟩, ⟨bz HB.out⟩⟩
                ·rw [if_neg c85] at H
                 exact absurd H (by simp)
               ·rw [if_neg c84] at H
                exact absurd H (by simp)
           ·rw [if_neg c49] at H
            exact absurd H (by simp)
          ·rw [if_neg c48] at H
           exact absurd H (by simp)
      ·replace c5 := Bool.eq_false_iff.mpr c5
       subst c5
       have H1 : (if x3_1 >= 2 then (some (decide (x3_1 <= 4))) else (some false)) = some r := by rw [if_neg (show ¬ (false = true) by decide)] at H; exact H
       clear H
       have H := H1
       clear H1
       by_cases c86 : x3_1 >= 2
       ·rw [if_pos c86] at H
        have c86b0 : decide (2 <= x3_1) = true := dt c86
        clear c86
        obtain rfl := Option.some.inj H
        go_wp2
        go_ret
        exact ⟨ey, bz HB.out⟩
       ·rw [if_neg c86] at H
        have c86b0 : decide (2 <= x3_1) = false := df c86
        clear c86
        obtain rfl := Option.some.inj H
        go_wp2
        go_ret
        exact ⟨ey, bz HB.out⟩
end Go.Proofs.YtlfenakgphmepaaGreatDoor.Print
