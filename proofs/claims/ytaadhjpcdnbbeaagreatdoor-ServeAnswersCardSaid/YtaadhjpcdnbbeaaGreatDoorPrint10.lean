/- Functions of the program as plain functions, and proofs that the program's calls tell what these tell. Written by a program. -/
import Derived.Test.YtaadhjpcdnbbeaaGreatDoorPrint0
namespace Go.Proofs.YtaadhjpcdnbbeaaGreatDoor.Print
open Go.RowKit Go.Proofs.YtaadhjpcdnbbeaaGreatDoorW.PrintWords Go.Proofs.YtaadhjpcdnbbeaaGreatDoorW.PrintLast Go.Proofs.YtaadhjpcdnbbeaaGreatDoorW.PrintMore Go.Proofs.YtaadhjpcdnbbeaaGreatDoor.Conv
attribute [local go_sem] max2_int min2_int max_two min_two max_three min_three max_four min_four
set_option linter.unusedVariables false
set_option linter.unusedSimpArgs false
def q4_SameTexts.l0 : Nat -> List ByteArray -> List ByteArray -> Int -> Option (Bool)
 | 0, _, _, _ => none
 | k + 1, x0, x1, x5 => if x5 < (x0.length : Int) then (if 0 <= x5 then (if x5 < (x1.length : Int) then (if (rdOf ByteArray.empty x0 x5).toList = (rdOf ByteArray.empty x1 x5).toList then (q4_SameTexts.l0 k x0 x1 (wrap64 (x5 + 1))) else (some false)) else (none)) else (none)) else (some true)
def q4_SameTexts.f (k : Nat) (l0 : List ByteArray) (l1 : List ByteArray) : Option (Bool) := if (l0.length : Int) = (l1.length : Int) then (q4_SameTexts.l0 k l0 l1 0) else (some false)
set_option maxHeartbeats 8000000 in
set_option maxRecDepth 100000 in
theorem q4_SameTexts.calls (k : Nat) (A0 : Option Addr) (c0 : Nat) (l0 : List ByteArray) (A1 : Option Addr) (c1 : Nat) (l1 : List ByteArray) (r : Bool) (w : World) (hr0 : Kd.C Kd.string w A0 l0.length l0) (hc0 : l0.length <= c0) (hr1 : Kd.C Kd.string w A1 l1.length l1) (hc1 : l1.length <= c1) (h : q4_SameTexts.f k l0 l1 = some r) :
  Calls Tryz.prog 12 #[.slice A0 l0.length c0, .slice A1 l1.length c1] w fun e w' => e = .returned (.bool r) /\ Drawn0 w w' := by
 have HR0 := Asd.mk hr0
 have HC0 := Asd.mk hc0
 clear hr0 hc0
 have HR1 := Asd.mk hr1
 have HC1 := Asd.mk hc1
 clear hr1 hc1
 have H : (if (l0.length : Int) = (l1.length : Int) then (q4_SameTexts.l0 k l0 l1 0) else (some false)) = some r := h
 clear h
 by_cases c3 : (l0.length : Int) = (l1.length : Int)
 ·rw [if_pos c3] at H
  have c3b0 : ((l0.length : Int) == (l1.length : Int)) = true := beq_iff_eq.mpr c3
  have c3b1 : ((l0.length : Int) != (l1.length : Int)) = false := bne_eq_false_iff_eq.mpr c3
  have c3b2 : (l0.length == l1.length) = true := by first | simpa using c3 | (simp at c3 ⊢; omega)
  clear c3
  have H' := Asd.mk H
  clear H
  go_enter Tryz.func12, Tryz.ntmps12
  go_wp2
  repeat (go_quiet (fail); try go_wp2)
  go_loopg [5] k (fun kq v5 w' => ∃ (x5_1 : Int), v5 = .int .i64 x5_1 /\ Asd (q4_SameTexts.l0 kq l0 l1 x5_1 = some r) /\ Asd (kq <= k) /\ Drawn0 w w')
  case atStart => exact ⟨(0), (by first | rfl | (simp; done) | (simp [*]; done)), H', ⟨Nat.le_refl _⟩, by repeat (first | exact Drawn0.refl _ | apply Drawn0.step)⟩
  case round =>
   clear H'
   try clear c1
   try clear p2
   try clear c3
   try clear c3b0
   try clear c3b1
   try clear c3b2
   obtain ⟨x5_1, rfl, HA, HK1, ⟨m1, rfl⟩⟩ := hrel
   cases gk with
   | zero => exact absurd HA.out (by simp [q4_SameTexts.l0])
   | succ k1 =>
    have H := HA.out
    clear HA
    simp only [q4_SameTexts.l0] at H
    by_cases c4 : x5_1 < (l0.length : Int)
    ·rw [if_pos c4] at H
     have c4b0 : decide (x5_1 < (l0.length : Int)) = true := decide_eq_true c4
     clear c4
     by_cases c5 : 0 <= x5_1
     ·rw [if_pos c5] at H
      have c5b0 : decide (0 <= x5_1) = true := decide_eq_true c5
      clear c5
      by_cases c6 : x5_1 < (l1.length : Int)
      ·rw [if_pos c6] at H
       have c6b0 : decide (x5_1 < (l1.length : Int)) = true := decide_eq_true c6
       clear c6
       by_cases c7 : (rdOf ByteArray.empty l0 x5_1).toList = (rdOf ByteArray.empty l1 x5_1).toList
       ·rw [if_pos c7] at H
        have c7b0 : ((rdOf ByteArray.empty l0 x5_1).toList == (rdOf ByteArray.empty l1 x5_1).toList) = true := beq_iff_eq.mpr c7
        have c7b1 : ((rdOf ByteArray.empty l0 x5_1).toList != (rdOf ByteArray.empty l1 x5_1).toList) = false := bne_eq_false_iff_eq.mpr c7
        clear c7
        have H' := Asd.mk H
        clear H
        have p253 : 0 <= (x5_1 : Int) := of_decide_eq_true (by first | (with_reducible assumption) | assumption)
        have q253 : x5_1 < (l0.length : Int) := of_decide_eq_true (by first | (with_reducible assumption) | assumption)
        obtain ⟨ad253, e253, hx253_0⟩ := Kd.at_string HR0.out x5_1 p253 q253
        cases e253
        replace p253 := eq_true p253
        replace q253 := eq_true q253
        have p254 : 0 <= (x5_1 : Int) := of_decide_eq_true (by first | (with_reducible assumption) | assumption)
        have q254 : x5_1 < (l1.length : Int) := of_decide_eq_true (by first | (with_reducible assumption) | assumption)
        obtain ⟨ad254, e254, hx254_0⟩ := Kd.at_string HR1.out x5_1 p254 q254
        cases e254
        replace p254 := eq_true p254
        replace q254 := eq_true q254
        go_wp2
        repeat (go_quiet (fail); try go_wp2)
        go_roundg k1
        case measure => have := HK1.out; omega
        case rel => exact ⟨(wrap64 (x5_1 + 1)), (by first | rfl | (simp; done) | (simp [*]; done)), H', ⟨by have := HK1.out; omega⟩, by repeat (first | exact Drawn0.refl _ | apply Drawn0.step)⟩
       ·rw [if_neg c7] at H
        have c7b0 : ((rdOf ByteArray.empty l0 x5_1).toList == (rdOf ByteArray.empty l1 x5_1).toList) = false := beq_eq_false_iff_ne.mpr c7
        have c7b1 : ((rdOf ByteArray.empty l0 x5_1).toList != (rdOf ByteArray.empty l1 x5_1).toList) = true := bne_iff_ne.mpr c7
        obtain rfl := Option.some.inj H
        have p253 : 0 <= (x5_1 : Int) := of_decide_eq_true (by first | (with_reducible assumption) | assumption)
        have q253 : x5_1 < (l0.length : Int) := of_decide_eq_true (by first | (with_reducible assumption) | assumption)
        obtain ⟨ad253, e253, hx253_0⟩ := Kd.at_string HR0.out x5_1 p253 q253
        cases e253
        replace p253 := eq_true p253
        replace q253 := eq_true q253
        have p254 : 0 <= (x5_1 : Int) := of_decide_eq_true (by first | (with_reducible assumption) | assumption)
        have q254 : x5_1 < (l1.length : Int) := of_decide_eq_true (by first | (with_reducible assumption) | assumption)
        obtain ⟨ad254, e254, hx254_0⟩ := Kd.at_string HR1.out x5_1 p254 q254
        cases e254
        replace p254 := eq_true p254
        replace q254 := eq_true q254
        go_wp2
        repeat (go_quiet (fail); try go_wp2)
        go_ret
        exact ⟨by first | rfl | (simp; done) | (simp [*]; done), by repeat (first | exact Drawn0.refl _ | apply Drawn0.step)⟩
      ·rw [if_neg c6] at H
       exact absurd H (by simp)
     ·rw [if_neg c5] at H
      exact absurd H (by simp)
    ·rw [if_neg c4] at H
     have c4b0 : decide (x5_1 < (l0.length : Int)) = false := decide_eq_false c4
     clear c4
     obtain rfl := Option.some.inj H
     go_wp2
     repeat (go_quiet (fail); try go_wp2)
     go_ret
     exact ⟨by first | rfl | (simp; done) | (simp [*]; done), by repeat (first | exact Drawn0.refl _ | apply Drawn0.step)⟩
 ·rw [if_neg c3] at H
  have c3b0 : ((l0.length : Int) == (l1.length : Int)) = false := beq_eq_false_iff_ne.mpr c3
  have c3b1 : ((l0.length : Int) != (l1.length : Int)) = true := bne_iff_ne.mpr c3
  have c3b2 : (l0.length == l1.length) = false := by first | simpa using c3 | (simp at c3 ⊢; omega)
  obtain rfl := Option.some.inj H
  go_enter Tryz.func12, Tryz.ntmps12
  go_wp2
  repeat (go_quiet (fail); try go_wp2)
  go_ret
  exact ⟨by first | rfl | (simp; done) | (simp [*]; done), by repeat (first | exact Drawn0.refl _ | apply Drawn0.step)⟩
def w5_GreatTexts.l0 : Nat -> List ByteArray -> Int -> Int -> Option (Bool)
 | 0, _, _, _ => none
 | k + 1, x0, x3, x4 => if x4 < (x0.length : Int) then (if x3 < 9000 then (if 0 <= x4 then (w5_GreatTexts.l0 k x0 (wrap64 (x3 + (mn ((rdOf ByteArray.empty x0 x4).size : Int) 9000))) (wrap64 (x4 + 1))) else (none)) else (if x3 >= 9000 then (some true) else (some (decide ((x0.length : Int) > 200))))) else (if x3 >= 9000 then (some true) else (some (decide ((x0.length : Int) > 200))))
def w5_GreatTexts.f (k : Nat) (l0 : List ByteArray) : Option (Bool) := w5_GreatTexts.l0 k l0 (l0.length : Int) 0
set_option maxHeartbeats 8000000 in
set_option maxRecDepth 100000 in
theorem w5_GreatTexts.calls (k : Nat) (A0 : Option Addr) (c0 : Nat) (l0 : List ByteArray) (r : Bool) (w : World) (hr0 : Kd.C Kd.string w A0 l0.length l0) (hc0 : l0.length <= c0) (h : w5_GreatTexts.f k l0 = some r) :
  Calls Tryz.prog 13 #[.slice A0 l0.length c0] w fun e w' => e = .returned (.bool r) /\ Below w.heap.size w w' := by
 have HR0 := Asd.mk hr0
 have HC0 := Asd.mk hc0
 clear hr0 hc0
 have HB := Asd.mk (Below.refl w.heap.size w)
 have H : (w5_GreatTexts.l0 k l0 (l0.length : Int) 0) = some r := h
 clear h
 have H' := Asd.mk H
 clear H
 go_enter Tryz.func13, Tryz.ntmps13
 go_wp2
 go_loopg [3, 4] k (fun kq v3 v4 w' => ∃ (x3_1 : Int) (x4_1 : Int), v3 = .int .i64 x3_1 /\ v4 = .int .i64 x4_1 /\ Asd (w5_GreatTexts.l0 kq l0 x3_1 x4_1 = some r) /\ Asd (kq <= k) /\ Asd (Below w.heap.size w w'))
 case atStart => exact ⟨((l0.length : Int)), (0), (by first | rfl | (simp; done) | (simp [*]; done)), (by first | rfl | (simp; done) | (simp [*]; done)), H', ⟨Nat.le_refl _⟩, ⟨by repeat (first | (with_reducible first | exact HB.out | apply bal | apply pbN | apply bd1) | exact HB.out)⟩⟩
 case round =>
  clear H'
  try clear c1
  obtain ⟨x3_1, x4_1, rfl, rfl, HA, HK1, HB⟩ := hrel
  cases gk with
  | zero => exact absurd HA.out (by simp [w5_GreatTexts.l0])
  | succ k1 =>
   have H := HA.out
   clear HA
   simp only [w5_GreatTexts.l0] at H
   by_cases c2 : x4_1 < (l0.length : Int)
   ·rw [if_pos c2] at H
    have c2b0 : decide (x4_1 < (l0.length : Int)) = true := decide_eq_true c2
    clear c2
    by_cases c3 : x3_1 < 9000
    ·rw [if_pos c3] at H
     have c3b0 : decide (x3_1 < 9000) = true := decide_eq_true c3
     clear c3
     by_cases c4 : 0 <= x4_1
     ·rw [if_pos c4] at H
      have c4b0 : decide (0 <= x4_1) = true := decide_eq_true c4
      clear c4
      obtain ⟨ji5, hji5⟩ : ∃ j_ : Int, (mn ((rdOf ByteArray.empty l0 x4_1).size : Int) 9000) = j_ := ⟨_, rfl⟩
      replace H : (w5_GreatTexts.l0 k1 l0 (wrap64 (x3_1 + (ji5))) (wrap64 (x4_1 + 1))) = some r := by first | (rw [hji5] at H; exact H) | (simp only [hji5] at H ⊢; exact H)
      have hji5_ : (if 9000 < ((rdOf ByteArray.empty l0 x4_1).size : Int) then 9000 else ((rdOf ByteArray.empty l0 x4_1).size : Int)) = ji5 := hji5
      have H' := Asd.mk H
      clear H
      have p257 : 0 <= (x4_1 : Int) := of_decide_eq_true (by first | (with_reducible assumption) | assumption)
      have q257 : x4_1 < (l0.length : Int) := of_decide_eq_true (by first | (with_reducible assumption) | assumption)
      obtain ⟨ad257, e257, hx257_0⟩ := Kd.at_string HR0.out x4_1 p257 q257
      cases e257
      replace hx257_0 := (HB.out.cell (World.block_lt_of_cell? w _ hx257_0)).trans hx257_0
      replace p257 := eq_true p257
      replace q257 := eq_true q257
      go_wp2
      go_roundg k1
      case measure => have := HK1.out; omega
      case rel => exact ⟨(wrap64 (x3_1 + (ji5))), (wrap64 (x4_1 + 1)), (by first | rfl | (simp; done) | (simp only [<- hji5] <;> (first | rfl | simp)) | (simp [*]; done)), (by first | rfl | (simp; done) | (simp [*]; done)), H', ⟨by have := HK1.out; omega⟩, ⟨by repeat (first | (with_reducible first | exact HB.out | apply bal | apply pbN | apply bd1) | exact HB.out)⟩⟩
     ·rw [if_neg c4] at H
      exact absurd H (by simp)
    ·rw [if_neg c3] at H
     have c3b0 : decide (x3_1 < 9000) = false := decide_eq_false c3
     clear c3
     by_cases c6 : x3_1 >= 9000
     ·rw [if_pos c6] at H
      have c6b0 : decide (9000 <= x3_1) = true := decide_eq_true c6
      clear c6
      obtain rfl := Option.some.inj H
      go_wp2
      go_ret
      exact ⟨by first | rfl | (simp [errW_none, errW_some] <;> rfl) | (simp [*, errW_none, errW_some] <;> rfl), by repeat (first | (with_reducible first | exact HB.out | apply bal | apply pbN | apply bd1) | exact HB.out)⟩
     ·rw [if_neg c6] at H
      have c6b0 : decide (9000 <= x3_1) = false := decide_eq_false c6
      clear c6
      obtain rfl := Option.some.inj H
      go_wp2
      go_ret
      exact ⟨by first | rfl | (simp [errW_none, errW_some] <;> rfl) | (simp [*, errW_none, errW_some] <;> rfl), by repeat (first | (with_reducible first | exact HB.out | apply bal | apply pbN | apply bd1) | exact HB.out)⟩
   ·rw [if_neg c2] at H
    have c2b0 : decide (x4_1 < (l0.length : Int)) = false := decide_eq_false c2
    clear c2
    by_cases c7 : x3_1 >= 9000
    ·rw [if_pos c7] at H
     have c7b0 : decide (9000 <= x3_1) = true := decide_eq_true c7
     clear c7
     obtain rfl := Option.some.inj H
     go_wp2
     go_ret
     exact ⟨by first | rfl | (simp [errW_none, errW_some] <;> rfl) | (simp [*, errW_none, errW_some] <;> rfl), by repeat (first | (with_reducible first | exact HB.out | apply bal | apply pbN | apply bd1) | exact HB.out)⟩
    ·rw [if_neg c7] at H
     have c7b0 : decide (9000 <= x3_1) = false := decide_eq_false c7
     clear c7
     obtain rfl := Option.some.inj H
     go_wp2
     go_ret
     exact ⟨by first | rfl | (simp [errW_none, errW_some] <;> rfl) | (simp [*, errW_none, errW_some] <;> rfl), by repeat (first | (with_reducible first | exact HB.out | apply bal | apply pbN | apply bd1) | exact HB.out)⟩
end Go.Proofs.YtaadhjpcdnbbeaaGreatDoor.Print
