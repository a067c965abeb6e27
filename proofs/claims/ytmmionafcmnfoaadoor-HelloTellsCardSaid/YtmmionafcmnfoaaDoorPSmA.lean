/- The calls of a law, as a plain function, printed by a program. -/
import Derived.Test.YtmmionafcmnfoaaDoorPrint0
import Derived.Test.YtmmionafcmnfoaaDoorPrint1
import Derived.Test.YtmmionafcmnfoaaDoorPrint2
import Derived.Test.YtmmionafcmnfoaaDoorPrint3
import Derived.Test.YtmmionafcmnfoaaDoorPrint4
import Derived.Test.YtmmionafcmnfoaaDoorPrint6
import Derived.Test.YtmmionafcmnfoaaDoorPrint7
import Derived.Test.YtmmionafcmnfoaaDoorPrint8
import Derived.Test.YtmmionafcmnfoaaDoorPrint9
namespace Go.Proofs.YtmmionafcmnfoaaDoor.Print
open Go.RowKit Go.Proofs.YtmmionafcmnfoaaDoorW.PrintWords Go.Proofs.YtmmionafcmnfoaaDoorW.PrintLast Go.Proofs.YtmmionafcmnfoaaDoorW.PrintMore Go.Proofs.YtmmionafcmnfoaaDoor.Conv
attribute [local go_sem] max2_int min2_int max_two min_two max_three min_three max_four min_four
set_option linter.unusedVariables false
set_option linter.unusedSimpArgs false
attribute [local go_sem high] eqA49 eqA63 eqA65
def w9_GreatUpdates.l0 : Nat -> List (S65) -> Int -> Int -> Option (Bool)
 | 0, _, _, _ => none
 | k + 1, x0, x3, x4 => if x4 < (x0.length : Int) then (if x3 < 9000 then (if 0 <= x4 then (w9_GreatUpdates.l0 k x0 (wrap64 ((wrap64 ((wrap64 (x3 + (mn (((rd_T65 x0 x4).f0).size : Int) 9000))) + (mn (((rd_T65 x0 x4).f1).size : Int) 9000))) + (mn (((rd_T65 x0 x4).f2).size : Int) 9000))) (wrap64 (x4 + 1))) else (none)) else (if x3 >= 9000 then (some true) else (some (decide ((x0.length : Int) > 40))))) else (if x3 >= 9000 then (some true) else (some (decide ((x0.length : Int) > 40))))
def w9_GreatUpdates.f (k : Nat) (l0 : List (S65)) : Option (Bool) := w9_GreatUpdates.l0 k l0 (l0.length : Int) 0
set_option maxHeartbeats 8000000 in
set_option maxRecDepth 100000 in
theorem w9_GreatUpdates.calls (k : Nat) (A0 : Option Addr) (c0 : Nat) (l0 : List (S65)) (r : Bool) (w : World) (hr0 : Kd.C k65 w A0 l0.length l0) (hc0 : l0.length <= c0) (h : w9_GreatUpdates.f k l0 = some r) :
  Calls Tryd.prog 11 #[.slice A0 l0.length c0] w fun e w' => e = .returned (.bool r) /\ Below w.heap.size w w' := by
 have HR0 := Asd.mk hr0
 have HC0 := Asd.mk hc0
 clear hr0 hc0
 have HB := Asd.mk (Below.refl w.heap.size w)
 have H : (w9_GreatUpdates.l0 k l0 (l0.length : Int) 0) = some r := h
 clear h
 have H' := Asd.mk H
 clear H
 go_enter Tryd.func11, Tryd.ntmps11
 go_wp2
 repeat (go_quiet (fail); try go_wp2)
 go_loopg [3, 4] k (fun kq v3 v4 w' => ∃ (x3_1 : Int) (x4_1 : Int), v3 = .int .i64 x3_1 /\ v4 = .int .i64 x4_1 /\ Asd (w9_GreatUpdates.l0 kq l0 x3_1 x4_1 = some r) /\ Asd (kq <= k) /\ Asd (Below w.heap.size w w'))
 case atStart => exact ⟨((l0.length : Int)), (0), (by first | rfl | (simp; done) | (simp [*]; done)), (by first | rfl | (simp; done) | (simp [*]; done)), H', ⟨Nat.le_refl _⟩, ⟨by repeat (first | (with_reducible first | exact HB.out | apply bal | apply pbN | apply bd1) | exact HB.out)⟩⟩
 case round =>
  clear H'
  try clear c1
  obtain ⟨x3_1, x4_1, rfl, rfl, HA, HK1, HB⟩ := hrel
  cases gk with
  | zero => exact absurd HA.out (by simp [w9_GreatUpdates.l0])
  | succ k1 =>
   have H := HA.out
   clear HA
   simp only [w9_GreatUpdates.l0] at H
   by_cases c2 : x4_1 < (l0.length : Int)
   ·rw [if_pos c2] at H
    have c2b0 : decide (x4_1 < (l0.length : Int)) = true := decide_eq_true c2
    clear c2
    by_cases c3 : x3_1 < 9000
    ·rw [if_pos c3] at H
     have c3b0 : decide (x3_1 < 9000) = true := decide_eq_true c3
     clear c3
     by_cases c4 : 0 <= x4_1
     ·rw [if_pos c4] at H
      have c4b0 : decide (0 <= x4_1) = true := decide_eq_true c4
      clear c4
      obtain ⟨ji5, hji5⟩ : ∃ j_ : Int, (mn (((rd_T65 l0 x4_1).f0).size : Int) 9000) = j_ := ⟨_, rfl⟩
      replace H : (w9_GreatUpdates.l0 k1 l0 (wrap64 ((wrap64 ((wrap64 (x3_1 + (ji5))) + (mn (((rd_T65 l0 x4_1).f1).size : Int) 9000))) + (mn (((rd_T65 l0 x4_1).f2).size : Int) 9000))) (wrap64 (x4_1 + 1))) = some r := by first | (rw [hji5] at H; exact H) | (simp only [hji5] at H ⊢; exact H)
      have hji5_ : (if 9000 < (((rd_T65 l0 x4_1).f0).size : Int) then 9000 else (((rd_T65 l0 x4_1).f0).size : Int)) = ji5 := hji5
      obtain ⟨ji6, hji6⟩ : ∃ j_ : Int, (mn (((rd_T65 l0 x4_1).f1).size : Int) 9000) = j_ := ⟨_, rfl⟩
      replace H : (w9_GreatUpdates.l0 k1 l0 (wrap64 ((wrap64 ((wrap64 (x3_1 + (ji5))) + (ji6))) + (mn (((rd_T65 l0 x4_1).f2).size : Int) 9000))) (wrap64 (x4_1 + 1))) = some r := by first | (rw [hji6] at H; exact H) | (simp only [hji6] at H ⊢; exact H)
      have hji6_ : (if 9000 < (((rd_T65 l0 x4_1).f1).size : Int) then 9000 else (((rd_T65 l0 x4_1).f1).size : Int)) = ji6 := hji6
      obtain ⟨ji7, hji7⟩ : ∃ j_ : Int, (mn (((rd_T65 l0 x4_1).f2).size : Int) 9000) = j_ := ⟨_, rfl⟩
      replace H : (w9_GreatUpdates.l0 k1 l0 (wrap64 ((wrap64 ((wrap64 (x3_1 + (ji5))) + (ji6))) + (ji7))) (wrap64 (x4_1 + 1))) = some r := by first | (rw [hji7] at H; exact H) | (simp only [hji7] at H ⊢; exact H)
      have hji7_ : (if 9000 < (((rd_T65 l0 x4_1).f2).size : Int) then 9000 else (((rd_T65 l0 x4_1).f2).size : Int)) = ji7 := hji7
      have H' := Asd.mk H
      clear H
      have p234 : 0 <= (x4_1 : Int) := of_decide_eq_true (by first | (with_reducible assumption) | assumption)
      have q234 : x4_1 < (l0.length : Int) := of_decide_eq_true (by first | (with_reducible assumption) | assumption)
      obtain ⟨ad234, e234, hx234_0, hx234_1, hx234_2⟩ := at_T65 HR0.out x4_1 p234 q234
      cases e234
      replace hx234_0 := (HB.out.cell (World.block_lt_of_cell? w _ hx234_0)).trans hx234_0
      replace hx234_1 := (HB.out.cell (World.block_lt_of_cell? w _ hx234_1)).trans hx234_1
      replace hx234_2 := (HB.out.cell (World.block_lt_of_cell? w _ hx234_2)).trans hx234_2
      replace p234 := eq_true p234
      replace q234 := eq_true q234
      have p235 : 0 <= (x4_1 : Int) := of_decide_eq_true (by first | (with_reducible assumption) | assumption)
      have q235 : x4_1 < (l0.length : Int) := of_decide_eq_true (by first | (with_reducible assumption) | assumption)
      obtain ⟨ad235, e235, hx235_0, hx235_1, hx235_2⟩ := at_T65 HR0.out x4_1 p235 q235
      obtain rfl : ad234 = ad235 := (by injection e235)
      replace hx235_0 := (HB.out.cell (World.block_lt_of_cell? w _ hx235_0)).trans hx235_0
      replace hx235_1 := (HB.out.cell (World.block_lt_of_cell? w _ hx235_1)).trans hx235_1
      replace hx235_2 := (HB.out.cell (World.block_lt_of_cell? w _ hx235_2)).trans hx235_2
      replace p235 := eq_true p235
      replace q235 := eq_true q235
      have p236 : 0 <= (x4_1 : Int) := of_decide_eq_true (by first | (with_reducible assumption) | assumption)
      have q236 : x4_1 < (l0.length : Int) := of_decide_eq_true (by first | (with_reducible assumption) | assumption)
      obtain ⟨ad236, e236, hx236_0, hx236_1, hx236_2⟩ := at_T65 HR0.out x4_1 p236 q236
      obtain rfl : ad234 = ad236 := (by injection e236)
      replace hx236_0 := (HB.out.cell (World.block_lt_of_cell? w _ hx236_0)).trans hx236_0
      replace hx236_1 := (HB.out.cell (World.block_lt_of_cell? w _ hx236_1)).trans hx236_1
      replace hx236_2 := (HB.out.cell (World.block_lt_of_cell? w _ hx236_2)).trans hx236_2
      replace p236 := eq_true p236
      replace q236 := eq_true q236
      go_wp2
      repeat (go_quiet (fail); try go_wp2)
      go_roundg k1
      case measure => have := HK1.out; omega
      case rel => exact ⟨(wrap64 ((wrap64 ((wrap64 (x3_1 + (ji5))) + (ji6))) + (ji7))), (wrap64 (x4_1 + 1)), (by first | rfl | (simp; done) | (simp only [<- hji5, <- hji6, <- hji7] <;> (first | rfl | simp)) | (simp [*]; done)), (by first | rfl | (simp; done) | (simp [*]; done)), H', ⟨by have := HK1.out; omega⟩, ⟨by repeat (first | (with_reducible first | exact HB.out | apply bal | apply pbN | apply bd1) | exact HB.out)⟩⟩
     ·rw [if_neg c4] at H
      exact absurd H (by simp)
    ·rw [if_neg c3] at H
     have c3b0 : decide (x3_1 < 9000) = false := decide_eq_false c3
     clear c3
     by_cases c8 : x3_1 >= 9000
     ·rw [if_pos c8] at H
      have c8b0 : decide (9000 <= x3_1) = true := decide_eq_true c8
      clear c8
      obtain rfl := Option.some.inj H
      go_wp2
      repeat (go_quiet (fail); try go_wp2)
      go_ret
      exact ⟨by first | rfl | (simp [errW_none, errW_some] <;> rfl) | (simp [*, errW_none, errW_some] <;> rfl), by repeat (first | (with_reducible first | exact HB.out | apply bal | apply pbN | apply bd1) | exact HB.out)⟩
     ·rw [if_neg c8] at H
      have c8b0 : decide (9000 <= x3_1) = false := decide_eq_false c8
      clear c8
      obtain rfl := Option.some.inj H
      go_wp2
      repeat (go_quiet (fail); try go_wp2)
      go_ret
      exact ⟨by first | rfl | (simp [errW_none, errW_some] <;> rfl) | (simp [*, errW_none, errW_some] <;> rfl), by repeat (first | (with_reducible first | exact HB.out | apply bal | apply pbN | apply bd1) | exact HB.out)⟩
   ·rw [if_neg c2] at H
    have c2b0 : decide (x4_1 < (l0.length : Int)) = false := decide_eq_false c2
    clear c2
    by_cases c9 : x3_1 >= 9000
    ·rw [if_pos c9] at H
     have c9b0 : decide (9000 <= x3_1) = true := decide_eq_true c9
     clear c9
     obtain rfl := Option.some.inj H
     go_wp2
     repeat (go_quiet (fail); try go_wp2)
     go_ret
     exact ⟨by first | rfl | (simp [errW_none, errW_some] <;> rfl) | (simp [*, errW_none, errW_some] <;> rfl), by repeat (first | (with_reducible first | exact HB.out | apply bal | apply pbN | apply bd1) | exact HB.out)⟩
    ·rw [if_neg c9] at H
     have c9b0 : decide (9000 <= x3_1) = false := decide_eq_false c9
     clear c9
     obtain rfl := Option.some.inj H
     go_wp2
     repeat (go_quiet (fail); try go_wp2)
     go_ret
     exact ⟨by first | rfl | (simp [errW_none, errW_some] <;> rfl) | (simp [*, errW_none, errW_some] <;> rfl), by repeat (first | (with_reducible first | exact HB.out | apply bal | apply pbN | apply bd1) | exact HB.out)⟩
def w15_Great.l0 : Nat -> List (S49) -> Int -> Int -> Option (Bool)
 | 0, _, _, _ => none
 | k + 1, x0, x3, x4 => if x4 < (x0.length : Int) then (if x3 < 20000 then (if 0 <= x4 then (w15_Great.l0 k x0 (wrap64 (x3 + (mn (((rd_T49 x0 x4).f1).size : Int) 20000))) (wrap64 (x4 + 1))) else (none)) else (some (decide (x3 >= 20000)))) else (some (decide (x3 >= 20000)))
def w15_Great.f (k : Nat) (l0 : List (S49)) : Option (Bool) := w15_Great.l0 k l0 (l0.length : Int) 0
set_option maxHeartbeats 8000000 in
set_option maxRecDepth 100000 in
theorem w15_Great.calls (k : Nat) (A0 : Option Addr) (c0 : Nat) (l0 : List (S49)) (r : Bool) (w : World) (hr0 : Kd.C k49 w A0 l0.length l0) (hc0 : l0.length <= c0) (h : w15_Great.f k l0 = some r) :
  Calls Tryd.prog 12 #[.slice A0 l0.length c0] w fun e w' => e = .returned (.bool r) /\ Below w.heap.size w w' := by
 have HR0 := Asd.mk hr0
 have HC0 := Asd.mk hc0
 clear hr0 hc0
 have HB := Asd.mk (Below.refl w.heap.size w)
 have H : (w15_Great.l0 k l0 (l0.length : Int) 0) = some r := h
 clear h
 have H' := Asd.mk H
 clear H
 go_enter Tryd.func12, Tryd.ntmps12
 go_wp2
 go_loopg [3, 4] k (fun kq v3 v4 w' => ∃ (x3_1 : Int) (x4_1 : Int), v3 = .int .i64 x3_1 /\ v4 = .int .i64 x4_1 /\ Asd (w15_Great.l0 kq l0 x3_1 x4_1 = some r) /\ Asd (kq <= k) /\ Asd (Below w.heap.size w w'))
 case atStart => exact ⟨((l0.length : Int)), (0), (by first | rfl | (simp; done) | (simp [*]; done)), (by first | rfl | (simp; done) | (simp [*]; done)), H', ⟨Nat.le_refl _⟩, ⟨by repeat (first | (with_reducible first | exact HB.out | apply bal | apply pbN | apply bd1) | exact HB.out)⟩⟩
 case round =>
  clear H'
  try clear c1
  obtain ⟨x3_1, x4_1, rfl, rfl, HA, HK1, HB⟩ := hrel
  cases gk with
  | zero => exact absurd HA.out (by simp [w15_Great.l0])
  | succ k1 =>
   have H := HA.out
   clear HA
   simp only [w15_Great.l0] at H
   by_cases c2 : x4_1 < (l0.length : Int)
   ·rw [if_pos c2] at H
    have c2b0 : decide (x4_1 < (l0.length : Int)) = true := decide_eq_true c2
    clear c2
    by_cases c3 : x3_1 < 20000
    ·rw [if_pos c3] at H
     have c3b0 : decide (x3_1 < 20000) = true := decide_eq_true c3
     clear c3
     by_cases c4 : 0 <= x4_1
     ·rw [if_pos c4] at H
      have c4b0 : decide (0 <= x4_1) = true := decide_eq_true c4
      clear c4
      obtain ⟨ji5, hji5⟩ : ∃ j_ : Int, (mn (((rd_T49 l0 x4_1).f1).size : Int) 20000) = j_ := ⟨_, rfl⟩
      replace H : (w15_Great.l0 k1 l0 (wrap64 (x3_1 + (ji5))) (wrap64 (x4_1 + 1))) = some r := by first | (rw [hji5] at H; exact H) | (simp only [hji5] at H ⊢; exact H)
      have hji5_ : (if 20000 < (((rd_T49 l0 x4_1).f1).size : Int) then 20000 else (((rd_T49 l0 x4_1).f1).size : Int)) = ji5 := hji5
      have H' := Asd.mk H
      clear H
      have p237 : 0 <= (x4_1 : Int) := of_decide_eq_true (by first | (with_reducible assumption) | assumption)
      have q237 : x4_1 < (l0.length : Int) := of_decide_eq_true (by first | (with_reducible assumption) | assumption)
      obtain ⟨ad237, e237, hx237_0, hx237_1⟩ := at_T49 HR0.out x4_1 p237 q237
      cases e237
      replace hx237_0 := (HB.out.cell (World.block_lt_of_cell? w _ hx237_0)).trans hx237_0
      replace hx237_1 := (HB.out.cell (World.block_lt_of_cell? w _ hx237_1)).trans hx237_1
      replace p237 := eq_true p237
      replace q237 := eq_true q237
      go_wp2
      go_roundg k1
      case measure => have := HK1.out; omega
      case rel => exact ⟨(wrap64 (x3_1 + (ji5))), (wrap64 (x4_1 + 1)), (by first | rfl | (simp; done) | (simp only [<- hji5] <;> (first | rfl | simp)) | (simp [*]; done)), (by first | rfl | (simp; done) | (simp [*]; done)), H', ⟨by have := HK1.out; omega⟩, ⟨by repeat (first | (with_reducible first | exact HB.out | apply bal | apply pbN | apply bd1) | exact HB.out)⟩⟩
     ·rw [if_neg c4] at H
      exact absurd H (by simp)
    ·rw [if_neg c3] at H
     have c3b0 : decide (x3_1 < 20000) = false := decide_eq_false c3
     clear c3
     obtain rfl := Option.some.inj H
     go_wp2
     go_ret
     exact ⟨by first | rfl | (simp [errW_none, errW_some] <;> rfl) | (simp [*, errW_none, errW_some] <;> rfl), by repeat (first | (with_reducible first | exact HB.out | apply bal | apply pbN | apply bd1) | exact HB.out)⟩
   ·rw [if_neg c2] at H
    have c2b0 : decide (x4_1 < (l0.length : Int)) = false := decide_eq_false c2
    clear c2
    obtain rfl := Option.some.inj H
    go_wp2
    go_ret
    exact ⟨by first | rfl | (simp [errW_none, errW_some] <;> rfl) | (simp [*, errW_none, errW_some] <;> rfl), by repeat (first | (with_reducible first | exact HB.out | apply bal | apply pbN | apply bd1) | exact HB.out)⟩
def q5_Same.l0 : Nat -> List (S49) -> List (S49) -> Int -> Option (Bool)
 | 0, _, _, _ => none
 | k + 1, x0, x1, x5 => if x5 < (x0.length : Int) then (if 0 <= x5 then (if x5 < (x1.length : Int) then (if (!(((rd_T49 x0 x5).f0) == ((rd_T49 x1 x5).f0)) || (!((((rd_T49 x0 x5).f1).toList) == (((rd_T49 x1 x5).f1).toList)))) = true then (some false) else (q5_Same.l0 k x0 x1 (wrap64 (x5 + 1)))) else (none)) else (none)) else (some true)
def q5_Same.f (k : Nat) (l0 : List (S49)) (l1 : List (S49)) : Option (Bool) := if (l0.length : Int) = (l1.length : Int) then (q5_Same.l0 k l0 l1 0) else (some false)
set_option maxHeartbeats 8000000 in
set_option maxRecDepth 100000 in
theorem q5_Same.calls (k : Nat) (A0 : Option Addr) (c0 : Nat) (l0 : List (S49)) (A1 : Option Addr) (c1 : Nat) (l1 : List (S49)) (r : Bool) (w : World) (hr0 : Kd.C k49 w A0 l0.length l0) (hc0 : l0.length <= c0) (hr1 : Kd.C k49 w A1 l1.length l1) (hc1 : l1.length <= c1) (h : q5_Same.f k l0 l1 = some r) :
  Calls Tryd.prog 19 #[.slice A0 l0.length c0, .slice A1 l1.length c1] w fun e w' => e = .returned (.bool r) /\ Drawn0 w w' := by
 have hu49 := Tryd.underlying49
 have HR0 := Asd.mk hr0
 have HC0 := Asd.mk hc0
 clear hr0 hc0
 have HR1 := Asd.mk hr1
 have HC1 := Asd.mk hc1
 clear hr1 hc1
 have H : (if (l0.length : Int) = (l1.length : Int) then (q5_Same.l0 k l0 l1 0) else (some false)) = some r := h
 clear h
 by_cases c3 : (l0.length : Int) = (l1.length : Int)
 ·rw [if_pos c3] at H
  have c3b0 : ((l0.length : Int) == (l1.length : Int)) = true := beq_iff_eq.mpr c3
  have c3b1 : ((l0.length : Int) != (l1.length : Int)) = false := bne_eq_false_iff_eq.mpr c3
  have c3b2 : (l0.length == l1.length) = true := by first | simpa using c3 | (simp at c3 ⊢; omega)
  clear c3
  have H' := Asd.mk H
  clear H
  go_enter Tryd.func19, Tryd.ntmps19
  go_wp2
  repeat (go_quiet (fail); try go_wp2)
  go_loopg [5] k (fun kq v5 w' => ∃ (x5_1 : Int), v5 = .int .i64 x5_1 /\ Asd (q5_Same.l0 kq l0 l1 x5_1 = some r) /\ Asd (kq <= k) /\ Drawn0 w w')
  case atStart => exact ⟨(0), (by first | rfl | (simp; done) | (simp [*]; done)), H', ⟨Nat.le_refl _⟩, by repeat (first | exact Drawn0.refl _ | apply Drawn0.step)⟩
  case round =>
   clear H'
   try clear c1
   try clear p2
   try clear c3
   try clear c3b0
   try clear c3b1
   try clear c3b2
   obtain ⟨x5_1, rfl, HA, HK1, ⟨m1, rfl⟩⟩ := hrel
   cases gk with
   | zero => exact absurd HA.out (by simp [q5_Same.l0])
   | succ k1 =>
    have H := HA.out
    clear HA
    simp only [q5_Same.l0] at H
    by_cases c4 : x5_1 < (l0.length : Int)
    ·rw [if_pos c4] at H
     have c4b0 : decide (x5_1 < (l0.length : Int)) = true := decide_eq_true c4
     clear c4
     by_cases c5 : 0 <= x5_1
     ·rw [if_pos c5] at H
      have c5b0 : decide (0 <= x5_1) = true := decide_eq_true c5
      clear c5
      by_cases c6 : x5_1 < (l1.length : Int)
      ·rw [if_pos c6] at H
       have c6b0 : decide (x5_1 < (l1.length : Int)) = true := decide_eq_true c6
       clear c6
       by_cases c7 : (!(((rd_T49 l0 x5_1).f0) == ((rd_T49 l1 x5_1).f0)) || (!((((rd_T49 l0 x5_1).f1).toList) == (((rd_T49 l1 x5_1).f1).toList)))) = true
       ·rw [if_pos c7] at H
        have c7b0 : (!(((rd_T49 l0 x5_1).f0) == ((rd_T49 l1 x5_1).f0)) || (!((((rd_T49 l0 x5_1).f1).toList) == (((rd_T49 l1 x5_1).f1).toList)))) = true := c7
        clear c7
        obtain rfl := Option.some.inj H
        have p312 : 0 <= (x5_1 : Int) := of_decide_eq_true (by first | (with_reducible assumption) | assumption)
        have q312 : x5_1 < (l0.length : Int) := of_decide_eq_true (by first | (with_reducible assumption) | assumption)
        obtain ⟨ad312, e312, hx312_0, hx312_1⟩ := at_T49 HR0.out x5_1 p312 q312
        cases e312
        replace p312 := eq_true p312
        replace q312 := eq_true q312
        have p313 : 0 <= (x5_1 : Int) := of_decide_eq_true (by first | (with_reducible assumption) | assumption)
        have q313 : x5_1 < (l1.length : Int) := of_decide_eq_true (by first | (with_reducible assumption) | assumption)
        obtain ⟨ad313, e313, hx313_0, hx313_1⟩ := at_T49 HR1.out x5_1 p313 q313
        cases e313
        replace p313 := eq_true p313
        replace q313 := eq_true q313
        go_wp2
        repeat (go_quiet (fail); try go_wp2)
        go_ret
        exact ⟨by first | rfl | (simp; done) | (simp [*]; done), by repeat (first | exact Drawn0.refl _ | apply Drawn0.step)⟩
       ·rw [if_neg c7] at H
        have c7b0 : (!(((rd_T49 l0 x5_1).f0) == ((rd_T49 l1 x5_1).f0)) || (!((((rd_T49 l0 x5_1).f1).toList) == (((rd_T49 l1 x5_1).f1).toList)))) = false := by simpa using c7
        clear c7
        have H' := Asd.mk H
        clear H
        have p312 : 0 <= (x5_1 : Int) := of_decide_eq_true (by first | (with_reducible assumption) | assumption)
        have q312 : x5_1 < (l0.length : Int) := of_decide_eq_true (by first | (with_reducible assumption) | assumption)
        obtain ⟨ad312, e312, hx312_0, hx312_1⟩ := at_T49 HR0.out x5_1 p312 q312
        cases e312
        replace p312 := eq_true p312
        replace q312 := eq_true q312
        have p313 : 0 <= (x5_1 : Int) := of_decide_eq_true (by first | (with_reducible assumption) | assumption)
        have q313 : x5_1 < (l1.length : Int) := of_decide_eq_true (by first | (with_reducible assumption) | assumption)
        obtain ⟨ad313, e313, hx313_0, hx313_1⟩ := at_T49 HR1.out x5_1 p313 q313
        cases e313
        replace p313 := eq_true p313
        replace q313 := eq_true q313
        go_wp2
        repeat (go_quiet (fail); try go_wp2)
        go_roundg k1
        case measure => have := HK1.out; omega
        case rel => exact ⟨(wrap64 (x5_1 + 1)), (by first | rfl | (simp; done) | (simp [*]; done)), H', ⟨by have := HK1.out; omega⟩, by repeat (first | exact Drawn0.refl _ | apply Drawn0.step)⟩
      ·rw [if_neg c6] at H
       exact absurd H (by simp)
     ·rw [if_neg c5] at H
      exact absurd H (by simp)
    ·rw [if_neg c4] at H
     have c4b0 : decide (x5_1 < (l0.length : Int)) = false := decide_eq_false c4
     clear c4
     obtain rfl := Option.some.inj H
     go_wp2
     repeat (go_quiet (fail); try go_wp2)
     go_ret
     exact ⟨by first | rfl | (simp; done) | (simp [*]; done), by repeat (first | exact Drawn0.refl _ | apply Drawn0.step)⟩
 ·rw [if_neg c3] at H
  have c3b0 : ((l0.length : Int) == (l1.length : Int)) = false := beq_eq_false_iff_ne.mpr c3
  have c3b1 : ((l0.length : Int) != (l1.length : Int)) = true := bne_iff_ne.mpr c3
  have c3b2 : (l0.length == l1.length) = false := by first | simpa using c3 | (simp at c3 ⊢; omega)
  obtain rfl := Option.some.inj H
  go_enter Tryd.func19, Tryd.ntmps19
  go_wp2
  repeat (go_quiet (fail); try go_wp2)
  go_ret
  exact ⟨by first | rfl | (simp; done) | (simp [*]; done), by repeat (first | exact Drawn0.refl _ | apply Drawn0.step)⟩
end Go.Proofs.YtmmionafcmnfoaaDoor.Print
