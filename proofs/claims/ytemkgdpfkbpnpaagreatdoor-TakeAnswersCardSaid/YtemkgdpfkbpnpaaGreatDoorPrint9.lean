/- Functions of the program as plain functions, and proofs that the program's calls tell what these tell. Written by a program. -/
import Derived.Test.YtemkgdpfkbpnpaaGreatDoorPrint0
import Derived.Test.YtemkgdpfkbpnpaaGreatDoorPrint1
import Derived.Test.YtemkgdpfkbpnpaaGreatDoorPrint2
import Derived.Test.YtemkgdpfkbpnpaaGreatDoorPrint8
namespace Go.Proofs.YtemkgdpfkbpnpaaGreatDoor.Print
open Go.RowKit Go.Proofs.YtemkgdpfkbpnpaaGreatDoorW.PrintWords Go.Proofs.YtemkgdpfkbpnpaaGreatDoorW.PrintLast Go.Proofs.YtemkgdpfkbpnpaaGreatDoorW.PrintMore Go.Proofs.YtemkgdpfkbpnpaaGreatDoor.Conv
attribute [local go_sem] max2_int min2_int max_two min_two max_three min_three max_four min_four
set_option linter.unusedVariables false
set_option linter.unusedSimpArgs false
attribute [local go_sem high] eqA42 eqA65
def q6_SameUpdates.l0 : Nat -> List (S42) -> List (S42) -> Int -> Option (Bool)
 | 0, _, _, _ => none
 | k + 1, x0, x1, x5 => if x5 < (x0.length : Int) then (if 0 <= x5 then (if x5 < (x1.length : Int) then (if (!((((rd_T42 x0 x5).f0).toList) == (((rd_T42 x1 x5).f0).toList)) || (!((((rd_T42 x0 x5).f1).toList) == (((rd_T42 x1 x5).f1).toList)) || (!((((rd_T42 x0 x5).f2).toList) == (((rd_T42 x1 x5).f2).toList))))) = true then (some false) else (q6_SameUpdates.l0 k x0 x1 (wrap64 (x5 + 1)))) else (none)) else (none)) else (some true)
def q6_SameUpdates.f (k : Nat) (l0 : List (S42)) (l1 : List (S42)) : Option (Bool) := if (l0.length : Int) = (l1.length : Int) then (q6_SameUpdates.l0 k l0 l1 0) else (some false)
set_option maxHeartbeats 8000000 in
set_option maxRecDepth 100000 in
theorem q6_SameUpdates.calls (k : Nat) (A0 : Option Addr) (c0 : Nat) (l0 : List (S42)) (A1 : Option Addr) (c1 : Nat) (l1 : List (S42)) (r : Bool) (w : World) (hr0 : Kd.C k42 w A0 l0.length l0) (hc0 : l0.length <= c0) (hr1 : Kd.C k42 w A1 l1.length l1) (hc1 : l1.length <= c1) (h : q6_SameUpdates.f k l0 l1 = some r) :
  Calls Tryz.prog 13 #[.slice A0 l0.length c0, .slice A1 l1.length c1] w fun e w' => e = .returned (.bool r) /\ Drawn0 w w' := by
 have hu42 := Tryz.underlying42
 have HR0 := Asd.mk hr0
 have HC0 := Asd.mk hc0
 clear hr0 hc0
 have HR1 := Asd.mk hr1
 have HC1 := Asd.mk hc1
 clear hr1 hc1
 have H : (if (l0.length : Int) = (l1.length : Int) then (q6_SameUpdates.l0 k l0 l1 0) else (some false)) = some r := h
 clear h
 by_cases c3 : (l0.length : Int) = (l1.length : Int)
 ·rw [if_pos c3] at H
  have c3b0 : ((l0.length : Int) == (l1.length : Int)) = true := beq_iff_eq.mpr c3
  have c3b1 : ((l0.length : Int) != (l1.length : Int)) = false := bne_eq_false_iff_eq.mpr c3
  have c3b2 : (l0.length == l1.length) = true := by first | simpa using c3 | (simp at c3 ⊢; omega)
  clear c3
  have H' := Asd.mk H
  clear H
  go_enter Tryz.func13, Tryz.ntmps13
  go_wp2
  repeat (go_quiet (fail); try go_wp2)
  go_loopg [5] k (fun kq v5 w' => ∃ (x5_1 : Int), v5 = .int .i64 x5_1 /\ Asd (q6_SameUpdates.l0 kq l0 l1 x5_1 = some r) /\ Asd (kq <= k) /\ Drawn0 w w')
  case atStart => exact ⟨(0), (by first | rfl | (simp; done) | (simp [*]; done)), H', ⟨Nat.le_refl _⟩, by repeat (first | exact Drawn0.refl _ | apply Drawn0.step)⟩
  case round =>
   clear H'
   try clear c1
   try clear p2
   try clear c3
   try clear c3b0
   try clear c3b1
   try clear c3b2
   obtain ⟨x5_1, rfl, HA, HK1, ⟨m1, rfl⟩⟩ := hrel
   cases gk with
   | zero => exact absurd HA.out (by simp [q6_SameUpdates.l0])
   | succ k1 =>
    have H := HA.out
    clear HA
    simp only [q6_SameUpdates.l0] at H
    by_cases c4 : x5_1 < (l0.length : Int)
    ·rw [if_pos c4] at H
     have c4b0 : decide (x5_1 < (l0.length : Int)) = true := decide_eq_true c4
     clear c4
     by_cases c5 : 0 <= x5_1
     ·rw [if_pos c5] at H
      have c5b0 : decide (0 <= x5_1) = true := decide_eq_true c5
      clear c5
      by_cases c6 : x5_1 < (l1.length : Int)
      ·rw [if_pos c6] at H
       have c6b0 : decide (x5_1 < (l1.length : Int)) = true := decide_eq_true c6
       clear c6
       by_cases c7 : (!((((rd_T42 l0 x5_1).f0).toList) == (((rd_T42 l1 x5_1).f0).toList)) || (!((((rd_T42 l0 x5_1).f1).toList) == (((rd_T42 l1 x5_1).f1).toList)) || (!((((rd_T42 l0 x5_1).f2).toList) == (((rd_T42 l1 x5_1).f2).toList))))) = true
       ·rw [if_pos c7] at H
        have c7b0 : (!((((rd_T42 l0 x5_1).f0).toList) == (((rd_T42 l1 x5_1).f0).toList)) || (!((((rd_T42 l0 x5_1).f1).toList) == (((rd_T42 l1 x5_1).f1).toList)) || (!((((rd_T42 l0 x5_1).f2).toList) == (((rd_T42 l1 x5_1).f2).toList))))) = true := c7
        clear c7
        obtain rfl := Option.some.inj H
        have p235 : 0 <= (x5_1 : Int) := of_decide_eq_true (by first | (with_reducible assumption) | assumption)
        have q235 : x5_1 < (l0.length : Int) := of_decide_eq_true (by first | (with_reducible assumption) | assumption)
        obtain ⟨ad235, e235, hx235_0, hx235_1, hx235_2⟩ := at_T42 HR0.out x5_1 p235 q235
        cases e235
        replace p235 := eq_true p235
        replace q235 := eq_true q235
        have p236 : 0 <= (x5_1 : Int) := of_decide_eq_true (by first | (with_reducible assumption) | assumption)
        have q236 : x5_1 < (l1.length : Int) := of_decide_eq_true (by first | (with_reducible assumption) | assumption)
        obtain ⟨ad236, e236, hx236_0, hx236_1, hx236_2⟩ := at_T42 HR1.out x5_1 p236 q236
        cases e236
        replace p236 := eq_true p236
        replace q236 := eq_true q236
        go_wp2
        repeat (go_quiet (fail); try go_wp2)
        go_ret
        exact ⟨by first | rfl | (simp; done) | (simp [*]; done), by repeat (first | exact Drawn0.refl _ | apply Drawn0.step)⟩
       ·rw [if_neg c7] at H
        have c7b0 : (!((((rd_T42 l0 x5_1).f0).toList) == (((rd_T42 l1 x5_1).f0).toList)) || (!((((rd_T42 l0 x5_1).f1).toList) == (((rd_T42 l1 x5_1).f1).toList)) || (!((((rd_T42 l0 x5_1).f2).toList) == (((rd_T42 l1 x5_1).f2).toList))))) = false := by simpa using c7
        clear c7
        have H' := Asd.mk H
        clear H
        have p235 : 0 <= (x5_1 : Int) := of_decide_eq_true (by first | (with_reducible assumption) | assumption)
        have q235 : x5_1 < (l0.length : Int) := of_decide_eq_true (by first | (with_reducible assumption) | assumption)
        obtain ⟨ad235, e235, hx235_0, hx235_1, hx235_2⟩ := at_T42 HR0.out x5_1 p235 q235
        cases e235
        replace p235 := eq_true p235
        replace q235 := eq_true q235
        have p236 : 0 <= (x5_1 : Int) := of_decide_eq_true (by first | (with_reducible assumption) | assumption)
        have q236 : x5_1 < (l1.length : Int) := of_decide_eq_true (by first | (with_reducible assumption) | assumption)
        obtain ⟨ad236, e236, hx236_0, hx236_1, hx236_2⟩ := at_T42 HR1.out x5_1 p236 q236
        cases e236
        replace p236 := eq_true p236
        replace q236 := eq_true q236
        go_wp2
        repeat (go_quiet (fail); try go_wp2)
        go_roundg k1
        case measure => have := HK1.out; omega
        case rel => exact ⟨(wrap64 (x5_1 + 1)), (by first | rfl | (simp; done) | (simp [*]; done)), H', ⟨by have := HK1.out; omega⟩, by repeat (first | exact Drawn0.refl _ | apply Drawn0.step)⟩
      ·rw [if_neg c6] at H
       exact absurd H (by simp)
     ·rw [if_neg c5] at H
      exact absurd H (by simp)
    ·rw [if_neg c4] at H
     have c4b0 : decide (x5_1 < (l0.length : Int)) = false := decide_eq_false c4
     clear c4
     obtain rfl := Option.some.inj H
     go_wp2
     repeat (go_quiet (fail); try go_wp2)
     go_ret
     exact ⟨by first | rfl | (simp; done) | (simp [*]; done), by repeat (first | exact Drawn0.refl _ | apply Drawn0.step)⟩
 ·rw [if_neg c3] at H
  have c3b0 : ((l0.length : Int) == (l1.length : Int)) = false := beq_eq_false_iff_ne.mpr c3
  have c3b1 : ((l0.length : Int) != (l1.length : Int)) = true := bne_iff_ne.mpr c3
  have c3b2 : (l0.length == l1.length) = false := by first | simpa using c3 | (simp at c3 ⊢; omega)
  obtain rfl := Option.some.inj H
  go_enter Tryz.func13, Tryz.ntmps13
  go_wp2
  repeat (go_quiet (fail); try go_wp2)
  go_ret
  exact ⟨by first | rfl | (simp; done) | (simp [*]; done), by repeat (first | exact Drawn0.refl _ | apply Drawn0.step)⟩
def w9_GreatUpdates.l0 : Nat -> List (S42) -> Int -> Int -> Option (Bool)
 | 0, _, _, _ => none
 | k + 1, x0, x3, x4 => if x4 < (x0.length : Int) then (if x3 < 9000 then (if 0 <= x4 then (w9_GreatUpdates.l0 k x0 (wrap64 ((wrap64 ((wrap64 (x3 + (mn (((rd_T42 x0 x4).f0).size : Int) 9000))) + (mn (((rd_T42 x0 x4).f1).size : Int) 9000))) + (mn (((rd_T42 x0 x4).f2).size : Int) 9000))) (wrap64 (x4 + 1))) else (none)) else (if x3 >= 9000 then (some true) else (some (decide ((x0.length : Int) > 40))))) else (if x3 >= 9000 then (some true) else (some (decide ((x0.length : Int) > 40))))
def w9_GreatUpdates.f (k : Nat) (l0 : List (S42)) : Option (Bool) := w9_GreatUpdates.l0 k l0 (l0.length : Int) 0
set_option maxHeartbeats 8000000 in
set_option maxRecDepth 100000 in
theorem w9_GreatUpdates.calls (k : Nat) (A0 : Option Addr) (c0 : Nat) (l0 : List (S42)) (r : Bool) (w : World) (hr0 : Kd.C k42 w A0 l0.length l0) (hc0 : l0.length <= c0) (h : w9_GreatUpdates.f k l0 = some r) :
  Calls Tryz.prog 14 #[.slice A0 l0.length c0] w fun e w' => e = .returned (.bool r) /\ Below w.heap.size w w' := by
 have HR0 := Asd.mk hr0
 have HC0 := Asd.mk hc0
 clear hr0 hc0
 have HB := Asd.mk (Below.refl w.heap.size w)
 have H : (w9_GreatUpdates.l0 k l0 (l0.length : Int) 0) = some r := h
 clear h
 have H' := Asd.mk H
 clear H
 go_enter Tryz.func14, Tryz.ntmps14
 go_wp2
 repeat (go_quiet (fail); try go_wp2)
 go_loopg [3, 4] k (fun kq v3 v4 w' => ∃ (x3_1 : Int) (x4_1 : Int), v3 = .int .i64 x3_1 /\ v4 = .int .i64 x4_1 /\ Asd (w9_GreatUpdates.l0 kq l0 x3_1 x4_1 = some r) /\ Asd (kq <= k) /\ Asd (Below w.heap.size w w'))
 case atStart => exact ⟨((l0.length : Int)), (0), (by first | rfl | (simp; done) | (simp [*]; done)), (by first | rfl | (simp; done) | (simp [*]; done)), H', ⟨Nat.le_refl _⟩, ⟨by repeat (first | (with_reducible first | exact HB.out | apply bal | apply pbN | apply bd1) | exact HB.out)⟩⟩
 case round =>
  clear H'
  try clear c1
  obtain ⟨x3_1, x4_1, rfl, rfl, HA, HK1, HB⟩ := hrel
  cases gk with
  | zero => exact absurd HA.out (by simp [w9_GreatUpdates.l0])
  | succ k1 =>
   have H := HA.out
   clear HA
   simp only [w9_GreatUpdates.l0] at H
   by_cases c2 : x4_1 < (l0.length : Int)
   ·rw [if_pos c2] at H
    have c2b0 : decide (x4_1 < (l0.length : Int)) = true := decide_eq_true c2
    clear c2
    by_cases c3 : x3_1 < 9000
    ·rw [if_pos c3] at H
     have c3b0 : decide (x3_1 < 9000) = true := decide_eq_true c3
     clear c3
     by_cases c4 : 0 <= x4_1
     ·rw [if_pos c4] at H
      have c4b0 : decide (0 <= x4_1) = true := decide_eq_true c4
      clear c4
      obtain ⟨ji5, hji5⟩ : ∃ j_ : Int, (mn (((rd_T42 l0 x4_1).f0).size : Int) 9000) = j_ := ⟨_, rfl⟩
      replace H : (w9_GreatUpdates.l0 k1 l0 (wrap64 ((wrap64 ((wrap64 (x3_1 + (ji5))) + (mn (((rd_T42 l0 x4_1).f1).size : Int) 9000))) + (mn (((rd_T42 l0 x4_1).f2).size : Int) 9000))) (wrap64 (x4_1 + 1))) = some r := by first | (rw [hji5] at H; exact H) | (simp only [hji5] at H ⊢; exact H)
      have hji5_ : (if 9000 < (((rd_T42 l0 x4_1).f0).size : Int) then 9000 else (((rd_T42 l0 x4_1).f0).size : Int)) = ji5 := hji5
      obtain ⟨ji6, hji6⟩ : ∃ j_ : Int, (mn (((rd_T42 l0 x4_1).f1).size : Int) 9000) = j_ := ⟨_, rfl⟩
      replace H : (w9_GreatUpdates.l0 k1 l0 (wrap64 ((wrap64 ((wrap64 (x3_1 + (ji5))) + (ji6))) + (mn (((rd_T42 l0 x4_1).f2).size : Int) 9000))) (wrap64 (x4_1 + 1))) = some r := by first | (rw [hji6] at H; exact H) | (simp only [hji6] at H ⊢; exact H)
      have hji6_ : (if 9000 < (((rd_T42 l0 x4_1).f1).size : Int) then 9000 else (((rd_T42 l0 x4_1).f1).size : Int)) = ji6 := hji6
      obtain ⟨ji7, hji7⟩ : ∃ j_ : Int, (mn (((rd_T42 l0 x4_1).f2).size : Int) 9000) = j_ := ⟨_, rfl⟩
      replace H : (w9_GreatUpdates.l0 k1 l0 (wrap64 ((wrap64 ((wrap64 (x3_1 + (ji5))) + (ji6))) + (ji7))) (wrap64 (x4_1 + 1))) = some r := by first | (rw [hji7] at H; exact H) | (simp only [hji7] at H ⊢; exact H)
      have hji7_ : (if 9000 < (((rd_T42 l0 x4_1).f2).size : Int) then 9000 else (((rd_T42 l0 x4_1).f2).size : Int)) = ji7 := hji7
      have H' := Asd.mk H
      clear H
      have p237 : 0 <= (x4_1 : Int) := of_decide_eq_true (by first | (with_reducible assumption) | assumption)
      have q237 : x4_1 < (l0.length : Int) := of_decide_eq_true (by first | (with_reducible assumption) | assumption)
      obtain ⟨ad237, e237, hx237_0, hx237_1, hx237_2⟩ := at_T42 HR0.out x4_1 p237 q237
      cases e237
      replace hx237_0 := (HB.out.cell (World.block_lt_of_cell? w _ hx237_0)).trans hx237_0
      replace hx237_1 := (HB.out.cell (World.block_lt_of_cell? w _ hx237_1)).trans hx237_1
      replace hx237_2 := (HB.out.cell (World.block_lt_of_cell? w _ hx237_2)).trans hx237_2
      replace p237 := eq_true p237
      replace q237 := eq_true q237
      have p238 : 0 <= (x4_1 : Int) := of_decide_eq_true (by first | (with_reducible assumption) | assumption)
      have q238 : x4_1 < (l0.length : Int) := of_decide_eq_true (by first | (with_reducible assumption) | assumption)
      obtain ⟨ad238, e238, hx238_0, hx238_1, hx238_2⟩ := at_T42 HR0.out x4_1 p238 q238
      obtain rfl : ad237 = ad238 := (by injection e238)
      replace hx238_0 := (HB.out.cell (World.block_lt_of_cell? w _ hx238_0)).trans hx238_0
      replace hx238_1 := (HB.out.cell (World.block_lt_of_cell? w _ hx238_1)).trans hx238_1
      replace hx238_2 := (HB.out.cell (World.block_lt_of_cell? w _ hx238_2)).trans hx238_2
      replace p238 := eq_true p238
      replace q238 := eq_true q238
      have p239 : 0 <= (x4_1 : Int) := of_decide_eq_true (by first | (with_reducible assumption) | assumption)
      have q239 : x4_1 < (l0.length : Int) := of_decide_eq_true (by first | (with_reducible assumption) | assumption)
      obtain ⟨ad239, e239, hx239_0, hx239_1, hx239_2⟩ := at_T42 HR0.out x4_1 p239 q239
      obtain rfl : ad237 = ad239 := (by injection e239)
      replace hx239_0 := (HB.out.cell (World.block_lt_of_cell? w _ hx239_0)).trans hx239_0
      replace hx239_1 := (HB.out.cell (World.block_lt_of_cell? w _ hx239_1)).trans hx239_1
      replace hx239_2 := (HB.out.cell (World.block_lt_of_cell? w _ hx239_2)).trans hx239_2
      replace p239 := eq_true p239
      replace q239 := eq_true q239
      go_wp2
      repeat (go_quiet (fail); try go_wp2)
      go_roundg k1
      case measure => have := HK1.out; omega
      case rel => exact ⟨(wrap64 ((wrap64 ((wrap64 (x3_1 + (ji5))) + (ji6))) + (ji7))), (wrap64 (x4_1 + 1)), (by first | rfl | (simp; done) | (simp only [<- hji5, <- hji6, <- hji7] <;> (first | rfl | simp)) | (simp [*]; done)), (by first | rfl | (simp; done) | (simp [*]; done)), H', ⟨by have := HK1.out; omega⟩, ⟨by repeat (first | (with_reducible first | exact HB.out | apply bal | apply pbN | apply bd1) | exact HB.out)⟩⟩
     ·rw [if_neg c4] at H
      exact absurd H (by simp)
    ·rw [if_neg c3] at H
     have c3b0 : decide (x3_1 < 9000) = false := decide_eq_false c3
     clear c3
     by_cases c8 : x3_1 >= 9000
     ·rw [if_pos c8] at H
      have c8b0 : decide (9000 <= x3_1) = true := decide_eq_true c8
      clear c8
      obtain rfl := Option.some.inj H
      go_wp2
      repeat (go_quiet (fail); try go_wp2)
      go_ret
      exact ⟨by first | rfl | (simp [errW_none, errW_some] <;> rfl) | (simp [*, errW_none, errW_some] <;> rfl), by repeat (first | (with_reducible first | exact HB.out | apply bal | apply pbN | apply bd1) | exact HB.out)⟩
     ·rw [if_neg c8] at H
      have c8b0 : decide (9000 <= x3_1) = false := decide_eq_false c8
      clear c8
      obtain rfl := Option.some.inj H
      go_wp2
      repeat (go_quiet (fail); try go_wp2)
      go_ret
      exact ⟨by first | rfl | (simp [errW_none, errW_some] <;> rfl) | (simp [*, errW_none, errW_some] <;> rfl), by repeat (first | (with_reducible first | exact HB.out | apply bal | apply pbN | apply bd1) | exact HB.out)⟩
   ·rw [if_neg c2] at H
    have c2b0 : decide (x4_1 < (l0.length : Int)) = false := decide_eq_false c2
    clear c2
    by_cases c9 : x3_1 >= 9000
    ·rw [if_pos c9] at H
     have c9b0 : decide (9000 <= x3_1) = true := decide_eq_true c9
     clear c9
     obtain rfl := Option.some.inj H
     go_wp2
     repeat (go_quiet (fail); try go_wp2)
     go_ret
     exact ⟨by first | rfl | (simp [errW_none, errW_some] <;> rfl) | (simp [*, errW_none, errW_some] <;> rfl), by repeat (first | (with_reducible first | exact HB.out | apply bal | apply pbN | apply bd1) | exact HB.out)⟩
    ·rw [if_neg c9] at H
     have c9b0 : decide (9000 <= x3_1) = false := decide_eq_false c9
     clear c9
     obtain rfl := Option.some.inj H
     go_wp2
     repeat (go_quiet (fail); try go_wp2)
     go_ret
     exact ⟨by first | rfl | (simp [errW_none, errW_some] <;> rfl) | (simp [*, errW_none, errW_some] <;> rfl), by repeat (first | (with_reducible first | exact HB.out | apply bal | apply pbN | apply bd1) | exact HB.out)⟩
mutual
def hello_texts.l0 : Nat -> List (S65) -> List ByteArray -> List (S65) -> Int -> Int -> Option (List ByteArray)
 | 0, _, _, _, _, _ => none
 | k + 1, x0, x3, x9, x10, x11 => if x11 < x10 then (if 0 <= x11 then (if x11 < (x9.length : Int) then ((strings_CutSuffix.f ((rd_T65 x9 x11).f1) (⟨#[10]⟩ : ByteArray)).bind fun bt247 => (if x11 = (wrap64 ((x0.length : Int) - 1)) then (hello_texts.j1 k x0 x3 bt247.1 bt247.2 x9 x10 x11 (((rd_T65 x9 x11).f0) && ((((rd_T65 x9 x11).f1).toList) == ([] : List UInt8))) ((rd_T65 x9 x11).f0) ((rd_T65 x9 x11).f1)) else (hello_texts.j1 k x0 x3 bt247.1 bt247.2 x9 x10 x11 false ((rd_T65 x9 x11).f0) ((rd_T65 x9 x11).f1)))) else (none)) else (none)) else (some ([] : List ByteArray))
def hello_texts.j1 : Nat -> List (S65) -> List ByteArray -> ByteArray -> Bool -> List (S65) -> Int -> Int -> Bool -> Bool -> ByteArray -> Option (List ByteArray)
 | 0, _, _, _, _, _, _, _, _, _, _ => none
 | k + 1, x0, x3, x6, x7, x9, x10, x11, x22, x247000, x247001 => if x22 = true then (some x3) else (if x7 = true then (if x247000 = true then (some ([] : List ByteArray)) else (if x3.length < 8796093022208 then (hello_texts.l0 k x0 (x3 ++ [x6]) x9 x10 (wrap64 (x11 + 1))) else (none))) else (some ([] : List ByteArray)))
end
def hello_texts.f (k : Nat) (l0 : List (S65)) : Option (List ByteArray) := hello_texts.l0 k l0 (([] : List ByteArray)) l0 (l0.length : Int) 0
set_option maxHeartbeats 8000000 in
set_option maxRecDepth 100000 in
theorem hello_texts.calls (k : Nat) (A0 : Option Addr) (c0 : Nat) (l0 : List (S65)) (r : List ByteArray) (w : World) (hr0 : Kd.C k65 w A0 l0.length l0) (hc0 : l0.length <= c0) (h : hello_texts.f k l0 = some r) :
  Calls Tryz.prog 63 #[.slice A0 l0.length c0] w fun e w' => ∃ v0_ : Value, e = .returned (v0_) /\ Kd.R Kd.string 9 w' w.heap.size (fun _ => True) v0_ r /\ Below w.heap.size w w' := by
 have hu65 := Tryz.underlying65
 have HR0 := Asd.mk hr0
 have HC0 := Asd.mk hc0
 clear hr0 hc0
 have HB := Asd.mk (Below.refl w.heap.size w)
 have H : (hello_texts.l0 k l0 (([] : List ByteArray)) l0 (l0.length : Int) 0) = some r := h
 clear h
 obtain ⟨y242, hy242⟩ : ∃ y_ : List ByteArray, y_ = (([] : List ByteArray)) := ⟨_, rfl⟩
 replace H : (hello_texts.l0 k l0 y242 l0 (l0.length : Int) 0) = some r := by first | (rw [hy242]; with_reducible exact H) | (have H2_ := (Option.bind_some _ _).symm.trans H; rw [hy242]; with_reducible exact H2_) | (have H2_ := (Option.bind_some _ _).symm.trans H; with_reducible exact H2_) | with_reducible exact H | (rw [hy242]; exact H) | exact H
 have Ny242 := Asd.mk hy242
 clear hy242
 have H' := Asd.mk H
 clear H
 go_enter Tryz.func63, Tryz.ntmps63
 go_wp2_with (first | ((with_reducible refine gate_dst (N := 8) rfl ?_); refine Kd.R_lit Kd.string _ 9 ?hg (N := 8) ?hd (xs := ([] : List ByteArray)) (inner := []) (ok := fun _ => True) (okp := fun _ => True) ?hr ?hp (fun _ hk => hk) trivial (Below.refl _ _) (Nat.le_refl _) (by simp) ?_; (case hd => rfl); (case hg => rfl); (case hr => first | (go_simp; done) | (go_simp; rfl)); (case hp => exact (Reps.none _ _)); intro v243 w2 ho3 hb hg_ hnew_; clear hg_ hnew_; (first | rw [<- Ny242.out] at ho3 | (simp only [Int.reduceToNat] at ho3; rw [<- Ny242.out] at ho3)); have n0_ := Asd.mk (Kd.R_lower ho3 (below_size (by repeat (first | (with_reducible first | exact HB.out | apply bal | apply pbN | apply bd1) | exact HB.out)))); have n1_ := Asd.mk (below_step (by repeat (first | (with_reducible first | exact HB.out | apply bal | apply pbN | apply bd1) | exact HB.out)) hb); clear HB; have HO244 := n0_; have HB := n1_; clear n0_ n1_; clear hb ho3))
 go_loopg [3, 11] k (fun kq v3 v11 w' => ∃ (x3_1 : List ByteArray) (x11_1 : Int), v11 = .int .i64 x11_1 /\ Asd (hello_texts.l0 kq l0 x3_1 l0 (l0.length : Int) x11_1 = some r) /\ Asd (kq <= k) /\ Asd (Kd.R Kd.string 9 w' w.heap.size (fun _ => True) v3 x3_1) /\ Asd (Below w.heap.size w w'))
 case atStart => exact ⟨(y242), (0), (by first | rfl | (simp; done) | (simp [*]; done)), H', ⟨Nat.le_refl _⟩, ⟨by (with_reducible repeat (first | apply Kd.R_alloc | apply Kd.R_drewN | apply Kd.R_drew)); exact HO244.out⟩, ⟨by repeat (first | (with_reducible first | exact HB.out | apply bal | apply pbN | apply bd1) | exact HB.out)⟩⟩
 case round =>
  clear H'
  try clear p2
  obtain ⟨x3_1, x11_1, rfl, HA, HK1, HO_3, HB⟩ := hrel
  cases gk with
  | zero => exact absurd HA.out (by simp [hello_texts.l0])
  | succ k1 =>
   have H := HA.out
   clear HA
   simp only [hello_texts.l0] at H
   by_cases c4 : x11_1 < (l0.length : Int)
   ·rw [if_pos c4] at H
    have c4b0 : decide (x11_1 < (l0.length : Int)) = true := decide_eq_true c4
    clear c4
    by_cases c5 : 0 <= x11_1
    ·rw [if_pos c5] at H
     have c5b0 : decide (0 <= x11_1) = true := decide_eq_true c5
     clear c5
     by_cases c6 : x11_1 < (l0.length : Int)
     ·rw [if_pos c6] at H
      have c6b0 : decide (x11_1 < (l0.length : Int)) = true := decide_eq_true c6
      clear c6
      replace H := Option.bind_eq_some_iff.mp H
      obtain ⟨⟨t247, t248⟩, A70, H⟩ := H
      replace H : (if x11_1 = (wrap64 ((l0.length : Int) - 1)) then (hello_texts.j1 k1 l0 x3_1 t247 t248 l0 (l0.length : Int) x11_1 (((rd_T65 l0 x11_1).f0) && ((((rd_T65 l0 x11_1).f1).toList) == ([] : List UInt8))) ((rd_T65 l0 x11_1).f0) ((rd_T65 l0 x11_1).f1)) else (hello_texts.j1 k1 l0 x3_1 t247 t248 l0 (l0.length : Int) x11_1 false ((rd_T65 l0 x11_1).f0) ((rd_T65 l0 x11_1).f1))) = some r := H
      have A7 := Asd.mk A70
      clear A70
      have HC8 := Asd.mk H
      clear H
      have p245 : 0 <= (x11_1 : Int) := of_decide_eq_true (by first | (with_reducible assumption) | assumption)
      have q245 : x11_1 < (l0.length : Int) := of_decide_eq_true (by first | (with_reducible assumption) | assumption)
      obtain ⟨ad245, e245, hx245_0, hx245_1⟩ := at_T65 HR0.out x11_1 p245 q245
      cases e245
      replace hx245_0 := (HB.out.cell (World.block_lt_of_cell? w _ hx245_0)).trans hx245_0
      replace hx245_1 := (HB.out.cell (World.block_lt_of_cell? w _ hx245_1)).trans hx245_1
      replace p245 := eq_true p245
      replace q245 := eq_true q245
      go_upto_region 6 with (first | ((with_reducible refine gate_dst (N := 5) rfl ?_); refine box_event ?hg (N := 5) ?hd (cs := #[.bool false, .string (⟨#[]⟩ : ByteArray)]) (t := 65) ?hr ?_; (case hd => rfl); (case hg => rfl); (case hr => first | (go_simp; done) | (go_simp; rfl)); intro gb246 hg w9 hbox hb; have n0_ := Asd.mk (Kd.R_below (by (with_reducible repeat (first | apply Kd.R_alloc | apply Kd.R_drewN | apply Kd.R_drew)); exact HO_3.out) hb); have n1_ := Asd.mk (below_step (by repeat (first | (with_reducible first | exact HB.out | apply bal | apply pbN | apply bd1) | exact HB.out)) hb); have n2_ := Asd.mk (hbox); have n3_ := Asd.mk ((by rw [hg]; exact (below_size (by repeat (first | (with_reducible first | exact HB.out | apply bal | apply pbN | apply bd1) | exact HB.out))) : w.heap.size <= gb246)); have n4_ := Asd.mk ((by rw [hg]; exact (below_size (by repeat (first | (with_reducible first | exact HB.out | apply bal | apply pbN | apply bd1) | exact HB.out))) : w.heap.size <= gb246)); clear HO_3; clear HB; have HO_3 := n0_; have HB := n1_; have BK246 := n2_; have GW246 := n3_; have GE246 := n4_; clear n0_ n1_ n2_ n3_ n4_; clear hb hbox hg; have hcz10_0 : w9.cell? ⟨gb246, 0, none⟩ = some (.bool false) := (blk_cell BK246.out 0).trans rfl; have hcz10_1 : w9.cell? ⟨gb246, 1, none⟩ = some (.string (⟨#[]⟩ : ByteArray)) := (blk_cell BK246.out 1).trans rfl; have hfz10_0 := blk_frozen BK246.out 0; have hfz10_1 := blk_frozen BK246.out 1) | ((with_reducible refine gate_callee (f := 33) rfl ?_); refine goesL_ (some 19) rfl rfl Tryz.func33 (by kernel_rfl) rfl #[.string ((rd_T65 l0 x11_1).f1), .string (⟨#[10]⟩ : ByteArray)] rfl (by (try simp only [List.map_toArray, List.map_cons, List.map_nil]); first | done | rfl | (simp only [List.length_drop, List.length_take]; rfl)) ?_; (with_reducible refine (strings_CutSuffix.calls ((rd_T65 l0 x11_1).f1) (⟨#[10]⟩ : ByteArray) t247 t248 _ A7.out).mono ?_); rintro e w' ⟨rfl, ⟨nd, rfl⟩⟩; refine ⟨_, rfl, ?_⟩))
      (try simp only [Act.put, zA, zB, zC])
      go_cut [22] (fun v22 wc => ∃ (kq : Nat) (x22_7 : Bool), v22 = .bool x22_7 /\ Asd (hello_texts.j1 kq l0 x3_1 t247 t248 l0 (l0.length : Int) x11_1 x22_7 ((rd_T65 l0 x11_1).f0) ((rd_T65 l0 x11_1).f1) = some r) /\ Asd (kq <= k1) /\ Asd (Kd.R Kd.string 9 wc w.heap.size (fun _ => True) u3 x3_1) /\ Asd (wc.heap[gb246]? = some (.cells #[.bool ((rd_T65 l0 x11_1).f0), .string ((rd_T65 l0 x11_1).f1)] 65 (0, 0))) /\ Asd (Below w.heap.size w wc))
      case first =>
       have H := HC8.out
       clear HC8
       by_cases c11 : x11_1 = (wrap64 ((l0.length : Int) - 1))
       ·rw [if_pos c11] at H
        have c11b0 : (x11_1 == (wrap64 ((l0.length : Int) - 1))) = true := beq_iff_eq.mpr c11
        have c11b1 : (x11_1 != (wrap64 ((l0.length : Int) - 1))) = false := bne_eq_false_iff_eq.mpr c11
        clear c11
        (first | rw [c11b0] | (simp only [i64_w, i32_w]; rw [c11b0]) | skip)
        have H' := Asd.mk H
        clear H
        have hcz12_0 : w9.cell? ⟨gb246, 0, none⟩ = some (.bool false) := (blk_cell BK246.out 0).trans rfl
        have hcz12_1 : w9.cell? ⟨gb246, 1, none⟩ = some (.string (⟨#[]⟩ : ByteArray)) := (blk_cell BK246.out 1).trans rfl
        have hfz12_0 := blk_frozen BK246.out 0
        have hfz12_1 := blk_frozen BK246.out 1
        go_wp2
        go_meet
        case rel => exact ⟨_, ((((rd_T65 l0 x11_1).f0) && ((((rd_T65 l0 x11_1).f1).toList) == ([] : List UInt8)))), (by first | rfl | (simp; done) | (simp [*]; done)), H', ⟨by have := HK1.out; first | omega | exact Nat.le_refl _⟩, ⟨by (with_reducible repeat (first | apply Kd.R_alloc | apply Kd.R_drewN | apply Kd.R_drew)); exact Kd.R_mono (Kd.R_far (p := ⟨gb246, 1, none⟩) (Kd.R_far (p := ⟨gb246, 0, none⟩) (Kd.R_types HO_3.out BK246.out (by decide)) (fun _ hk => hk.2) (.bool ((rd_T65 l0 x11_1).f0))) (fun _ hk => hk.2) (.string ((rd_T65 l0 x11_1).f1))) (fun _ hk => trivial)⟩, ⟨by (with_reducible repeat (first | refine blk_drewN ?_ _ | refine blk_drew ?_ | refine blk_alloc ?_ _)); refine blk_put (cs := #[.bool ((rd_T65 l0 x11_1).f0), .string (⟨#[]⟩ : ByteArray)]) ?_ 1 _ rfl; (with_reducible repeat (first | refine blk_drewN ?_ _ | refine blk_drew ?_ | refine blk_alloc ?_ _)); refine blk_put (cs := #[.bool false, .string (⟨#[]⟩ : ByteArray)]) ?_ 0 _ rfl; (with_reducible repeat (first | refine blk_drewN ?_ _ | refine blk_drew ?_ | refine blk_alloc ?_ _)); exact BK246.out⟩, ⟨by repeat (first | (with_reducible first | exact HB.out | apply bal | apply pbN | apply bd1 | refine below_set ?_ GE246.out) | exact HB.out)⟩⟩
       ·rw [if_neg c11] at H
        have c11b0 : (x11_1 == (wrap64 ((l0.length : Int) - 1))) = false := beq_eq_false_iff_ne.mpr c11
        have c11b1 : (x11_1 != (wrap64 ((l0.length : Int) - 1))) = true := bne_iff_ne.mpr c11
        (first | rw [c11b0] | (simp only [i64_w, i32_w]; rw [c11b0]) | skip)
        have H' := Asd.mk H
        clear H
        go_wp2
        go_meet
        case rel => exact ⟨_, (false), (by first | rfl | (simp; done) | (simp [*]; done)), H', ⟨by have := HK1.out; first | omega | exact Nat.le_refl _⟩, ⟨by (with_reducible repeat (first | apply Kd.R_alloc | apply Kd.R_drewN | apply Kd.R_drew)); exact Kd.R_mono (Kd.R_far (p := ⟨gb246, 1, none⟩) (Kd.R_far (p := ⟨gb246, 0, none⟩) (Kd.R_types HO_3.out BK246.out (by decide)) (fun _ hk => hk.2) (.bool ((rd_T65 l0 x11_1).f0))) (fun _ hk => hk.2) (.string ((rd_T65 l0 x11_1).f1))) (fun _ hk => trivial)⟩, ⟨by (with_reducible repeat (first | refine blk_drewN ?_ _ | refine blk_drew ?_ | refine blk_alloc ?_ _)); refine blk_put (cs := #[.bool ((rd_T65 l0 x11_1).f0), .string (⟨#[]⟩ : ByteArray)]) ?_ 1 _ rfl; (with_reducible repeat (first | refine blk_drewN ?_ _ | refine blk_drew ?_ | refine blk_alloc ?_ _)); refine blk_put (cs := #[.bool false, .string (⟨#[]⟩ : ByteArray)]) ?_ 0 _ rfl; (with_reducible repeat (first | refine blk_drewN ?_ _ | refine blk_drew ?_ | refine blk_alloc ?_ _)); exact BK246.out⟩, ⟨by repeat (first | (with_reducible first | exact HB.out | apply bal | apply pbN | apply bd1 | refine below_set ?_ GE246.out) | exact HB.out)⟩⟩
      case rest =>
       clear HC8
       try clear c1
       try clear p2
       try clear q2
       try clear hx2
       try clear c3
       try clear c4
       try clear c4b0
       try clear c5
       try clear c5b0
       try clear c6
       try clear c6b0
       try clear p6
       try clear c11
       try clear c11b0
       try clear c11b1
       try clear hcz10_0
       try clear hcz10_1
       try clear hcz12_0
       try clear hcz12_1
       try clear hfz10_0
       try clear hfz10_1
       try clear hfz12_0
       try clear hfz12_1
       try clear hx245_0
       try clear hx245_1
       try clear p2
       try clear p245
       try clear q245
       obtain ⟨kq, x22_7, rfl, HA, HJ7, HO_3, BK246, HB⟩ := hcut
       cases kq with
       | zero => exact absurd HA.out (by simp [hello_texts.j1])
       | succ kj7 =>
        have H := HA.out
        clear HA
        simp only [hello_texts.j1] at H
        by_cases c13 : x22_7 = true
        ·subst c13
         have H1 : (some x3_1) = some r := by rw [if_pos rfl] at H; exact H
         clear H
         have H := H1
         clear H1
         obtain rfl := Option.some.inj H
         go_wp2
         go_ret
         exact ⟨_, by first | rfl | (simp [errW_none, errW_some] <;> rfl) | (simp [*, errW_none, errW_some] <;> rfl), by (with_reducible repeat (first | apply Kd.R_alloc | apply Kd.R_drewN | apply Kd.R_drew)); exact HO_3.out, by repeat (first | (with_reducible first | exact HB.out | apply bal | apply pbN | apply bd1 | refine below_set ?_ GE246.out) | exact HB.out)⟩
        ·replace c13 := Bool.eq_false_iff.mpr c13
         subst c13
         have H1 : (if t248 = true then (if ((rd_T65 l0 x11_1).f0) = true then (some ([] : List ByteArray)) else (if x3_1.length < 8796093022208 then (hello_texts.l0 kj7 l0 (x3_1 ++ [t247]) l0 (l0.length : Int) (wrap64 (x11_1 + 1))) else (none))) else (some ([] : List ByteArray))) = some r := by rw [if_neg (show ¬ (false = true) by decide)] at H; exact H
         clear H
         have H := H1
         clear H1
         by_cases c14 : t248 = true
         ·subst c14
          have H1 : (if ((rd_T65 l0 x11_1).f0) = true then (some ([] : List ByteArray)) else (if x3_1.length < 8796093022208 then (hello_texts.l0 kj7 l0 (x3_1 ++ [t247]) l0 (l0.length : Int) (wrap64 (x11_1 + 1))) else (none))) = some r := by rw [if_pos rfl] at H; exact H
          clear H
          have H := H1
          clear H1
          by_cases c15 : ((rd_T65 l0 x11_1).f0) = true
          ·rw [if_pos c15] at H
           have c15b0 : ((rd_T65 l0 x11_1).f0) = true := c15
           clear c15
           obtain rfl := Option.some.inj H
           have hcz16_0 : wc.cell? ⟨gb246, 0, none⟩ = some (.bool ((rd_T65 l0 x11_1).f0)) := (blk_cell BK246.out 0).trans rfl
           have hcz16_1 : wc.cell? ⟨gb246, 1, none⟩ = some (.string ((rd_T65 l0 x11_1).f1)) := (blk_cell BK246.out 1).trans rfl
           have hfz16_0 := blk_frozen BK246.out 0
           have hfz16_1 := blk_frozen BK246.out 1
           go_wp2
           go_ret
           exact ⟨_, by first | rfl | (simp [errW_none, errW_some] <;> rfl) | (simp [*, errW_none, errW_some] <;> rfl), by first | exact Kd.R_nil _ _ _ _ _ | exact Kd.N_nil _ _ _ _ _ | exact Kd.V_nil _ _ _ _ _ | exact Kd.Q_nil _ _ _ _ _ | exact Kd.S_nil _ _ _ _ _, by repeat (first | (with_reducible first | exact HB.out | apply bal | apply pbN | apply bd1 | refine below_set ?_ GE246.out) | exact HB.out)⟩
          ·rw [if_neg c15] at H
           have c15b0 : ((rd_T65 l0 x11_1).f0) = false := by simpa using c15
           clear c15
           by_cases c17 : x3_1.length < 8796093022208
           ·rw [if_pos c17] at H
            have LMc17 := Asd.mk c17
            clear c17
            obtain ⟨y249, hy249⟩ : ∃ y_ : List ByteArray, y_ = (x3_1 ++ [t247]) := ⟨_, rfl⟩
            replace H : (hello_texts.l0 kj7 l0 y249 l0 (l0.length : Int) (wrap64 (x11_1 + 1))) = some r := by first | (rw [hy249]; with_reducible exact H) | (have H2_ := (Option.bind_some _ _).symm.trans H; rw [hy249]; with_reducible exact H2_) | (have H2_ := (Option.bind_some _ _).symm.trans H; with_reducible exact H2_) | with_reducible exact H | (rw [hy249]; exact H) | exact H
            have Ny249 := Asd.mk hy249
            clear hy249
            have H' := Asd.mk H
            clear H
            have hcz18_0 : wc.cell? ⟨gb246, 0, none⟩ = some (.bool ((rd_T65 l0 x11_1).f0)) := (blk_cell BK246.out 0).trans rfl
            have hcz18_1 : wc.cell? ⟨gb246, 1, none⟩ = some (.string ((rd_T65 l0 x11_1).f1)) := (blk_cell BK246.out 1).trans rfl
            have hfz18_0 := blk_frozen BK246.out 0
            have hfz18_1 := blk_frozen BK246.out 1
            go_wp2_with (first | ((with_reducible refine gate_builtin (b := .append) (xs := #[.tmp 39, .tmp 41]) rfl ?_); at_builtin; refine Kd.R_append Kd.string (w0 := w) w.heap.size rfl (.tmp 39) (.tmp 41) 38 9 (.string ⟨#[]⟩) 16 rfl Tryz.underlying38 info9 rfl (by decide) (by omega) u3 x3_1 t247 [.string t247] (fun _ => True) (fun _ => False) rfl rfl ?aP (fun _ hk => hk.elim) ?aF ?aO ?aB ?aS ?aL ?_; (case aP => exact rfl); (case aB => exact (by repeat (first | (with_reducible first | exact HB.out | apply bal | apply pbN | apply bd1 | refine below_set ?_ GE246.out) | exact HB.out))); (case aF => exact (fun _ _ => trivial)); (case aO => exact (by (with_reducible repeat (first | apply Kd.R_alloc | apply Kd.R_drewN | apply Kd.R_drew)); exact HO_3.out)); (case aS => exact (below_size (by repeat (first | (with_reducible first | exact HB.out | apply bal | apply pbN | apply bd1 | refine below_set ?_ GE246.out) | exact HB.out)))); (case aL => have := LMc17.out; omega); intro v250 w19 ho hb hg hat; rw [<- Ny249.out] at ho; have n0_ := Asd.mk (blk_grown (g := gb246) (o := .cells #[.bool ((rd_T65 l0 x11_1).f0), .string ((rd_T65 l0 x11_1).f1)] 65 (0, 0)) (by (with_reducible repeat (first | refine blk_drewN ?_ _ | refine blk_drew ?_ | refine blk_alloc ?_ _)); exact BK246.out) hg (Kd.R_ne HO_3.out BK246.out (by decide))); have n1_ := Asd.mk (hb); have n2_ := Asd.mk (ho); clear BK246; clear HB; clear HO_3; have BK246 := n0_; have HB := n1_; have HO251 := n2_; clear n0_ n1_ n2_; clear ho hb hg hat))
            go_roundg kj7
            case measure => have := HK1.out; have := HJ7.out; omega
            case rel => exact ⟨(y249), (wrap64 (x11_1 + 1)), (by first | rfl | (simp; done) | (simp [*]; done)), H', ⟨by have := HK1.out; have := HJ7.out; omega⟩, ⟨by (with_reducible repeat (first | apply Kd.R_alloc | apply Kd.R_drewN | apply Kd.R_drew)); exact HO251.out⟩, ⟨by repeat (first | (with_reducible first | exact HB.out | apply bal | apply pbN | apply bd1 | refine below_set ?_ GE246.out) | exact HB.out)⟩⟩
           ·rw [if_neg c17] at H
            exact absurd H (by simp)
         ·replace c14 := Bool.eq_false_iff.mpr c14
          subst c14
          have H1 : (some ([] : List ByteArray)) = some r := by rw [if_neg (show ¬ (false = true) by decide)] at H; exact H
          clear H
          have H := H1
          clear H1
          obtain rfl := Option.some.inj H
          go_wp2
          go_ret
          exact ⟨_, by first | rfl | (simp [errW_none, errW_some] <;> rfl) | (simp [*, errW_none, errW_some] <;> rfl), by first | exact Kd.R_nil _ _ _ _ _ | exact Kd.N_nil _ _ _ _ _ | exact Kd.V_nil _ _ _ _ _ | exact Kd.Q_nil _ _ _ _ _ | exact Kd.S_nil _ _ _ _ _, by repeat (first | (with_reducible first | exact HB.out | apply bal | apply pbN | apply bd1 | refine below_set ?_ GE246.out) | exact HB.out)⟩
     ·rw [if_neg c6] at H
      exact absurd H (by simp)
    ·rw [if_neg c5] at H
     exact absurd H (by simp)
   ·rw [if_neg c4] at H
    have c4b0 : decide (x11_1 < (l0.length : Int)) = false := decide_eq_false c4
    clear c4
    obtain rfl := Option.some.inj H
    go_wp2
    go_ret
    exact ⟨_, by first | rfl | (simp [errW_none, errW_some] <;> rfl) | (simp [*, errW_none, errW_some] <;> rfl), by first | exact Kd.R_nil _ _ _ _ _ | exact Kd.N_nil _ _ _ _ _ | exact Kd.V_nil _ _ _ _ _ | exact Kd.Q_nil _ _ _ _ _ | exact Kd.S_nil _ _ _ _ _, by repeat (first | (with_reducible first | exact HB.out | apply bal | apply pbN | apply bd1) | exact HB.out)⟩
def hello_plain.f (a0 : ByteArray) : Option (ByteArray) := if a0.toList = ([45] : List UInt8) then (some (⟨#[]⟩ : ByteArray)) else (some a0)
set_option maxHeartbeats 8000000 in
set_option maxRecDepth 100000 in
theorem hello_plain.calls (a0 : ByteArray) (r : ByteArray) (w : World) (h : hello_plain.f a0 = some r) :
  Calls Tryz.prog 64 #[.string a0] w fun e w' => e = .returned (.string r) /\ Drawn0 w w' := by
 have H : (if a0.toList = ([45] : List UInt8) then (some (⟨#[]⟩ : ByteArray)) else (some a0)) = some r := h
 clear h
 by_cases c2 : a0.toList = ([45] : List UInt8)
 ·rw [if_pos c2] at H
  have c2b0 : (a0.toList == ([45] : List UInt8)) = true := beq_iff_eq.mpr c2
  have c2b1 : (a0.toList != ([45] : List UInt8)) = false := bne_eq_false_iff_eq.mpr c2
  clear c2
  obtain rfl := Option.some.inj H
  go_enter Tryz.func64, Tryz.ntmps64
  go_wp2
  go_ret
  exact ⟨by first | rfl | (simp; done) | (simp [*]; done), by repeat (first | exact Drawn0.refl _ | apply Drawn0.step)⟩
 ·rw [if_neg c2] at H
  have c2b0 : (a0.toList == ([45] : List UInt8)) = false := beq_eq_false_iff_ne.mpr c2
  have c2b1 : (a0.toList != ([45] : List UInt8)) = true := bne_iff_ne.mpr c2
  obtain rfl := Option.some.inj H
  go_enter Tryz.func64, Tryz.ntmps64
  go_wp2
  go_ret
  exact ⟨by first | rfl | (simp; done) | (simp [*]; done), by repeat (first | exact Drawn0.refl _ | apply Drawn0.step)⟩
end Go.Proofs.YtemkgdpfkbpnpaaGreatDoor.Print
