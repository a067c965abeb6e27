/- Functions of the program as plain functions, and proofs that the program's calls tell what these tell. Written by a program. -/
import Derived.Test.YtlfenakgphmepaaGreatDoorPrint0
import Derived.Test.YtlfenakgphmepaaGreatDoorPrint1
import Derived.Test.YtlfenakgphmepaaGreatDoorPrint18
namespace Go.Proofs.YtlfenakgphmepaaGreatDoor.Print
open Go.RowKit YtlfenakgphmepaaGreatDoorW.PrintWords YtlfenakgphmepaaGreatDoorW.PrintLast YtlfenakgphmepaaGreatDoorW.PrintMore YtlfenakgphmepaaGreatDoor.Conv
attribute [local go_sem] max2_int min2_int max_two min_two max_three min_three max_four min_four
set_option linter.unusedVariables false
set_option linter.unusedSimpArgs false
attribute [local go_sem high] eqA83
def q9_Same.l0 : Nat -> List (S83) -> List (S83) -> Int -> Option (Bool)
 | 0, _, _, _ => none
 | k + 1, x0, x1, x5 => if x5 < (x0.length : Int) then (if 0 <= x5 then (if x5 < (x1.length : Int) then (if (!((((rd_T83 x0 x5).f0).toList) == (((rd_T83 x1 x5).f0).toList)) || (!((((rd_T83 x0 x5).f1).toList) == (((rd_T83 x1 x5).f1).toList)))) = true then (some false) else (q9_Same.l0 k x0 x1 (wrap64 (x5 + 1)))) else (none)) else (none)) else (some true)
def q9_Same.f (k : Nat) (l0 : List (S83)) (l1 : List (S83)) : Option (Bool) := if (l0.length : Int) = (l1.length : Int) then (q9_Same.l0 k l0 l1 0) else (some false)
set_option maxHeartbeats 8000000 in
set_option maxRecDepth 100000 in
theorem q9_Same.calls (k : Nat) (A0 : Option Addr) (c0 : Nat) (l0 : List (S83)) (A1 : Option Addr) (c1 : Nat) (l1 : List (S83)) (r : Bool) (w : World) (hr0 : Kd.C k83 w A0 l0.length l0) (hc0 : l0.length <= c0) (hr1 : Kd.C k83 w A1 l1.length l1) (hc1 : l1.length <= c1) (h : q9_Same.f k l0 l1 = some r) :
  Calls Tryz.prog 46 #[.slice A0 l0.length c0, .slice A1 l1.length c1] w fun e w' => e = .returned (.bool r) /\ Drawn0 w w' := by
 have hu83 := Tryz.underlying83
 have HR0 := am hr0
 have HC0 := am hc0
 clear hr0 hc0
 have HR1 := am hr1
 have HC1 := am hc1
 clear hr1 hc1
 have H : (if (l0.length : Int) = (l1.length : Int) then (q9_Same.l0 k l0 l1 0) else (some false)) = some r := h
 clear h
 by_cases c3 : (l0.length : Int) = (l1.length : Int)
 ·rw [if_pos c3] at H
  have c3b0 : ((l0.length : Int) == (l1.length : Int)) = true := beq_iff_eq.mpr c3
  have c3b1 : ((l0.length : Int) != (l1.length : Int)) = false := bne_eq_false_iff_eq.mpr c3
  have c3b2 : (l0.length == l1.length) = true := by first | simpa using c3 | (simp at c3 ⊢; omega)
  clear c3
  have H' := am H
  clear H
  go_enter Tryz.func46, Tryz.ntmps46
  go_wp2
  repeat (go_quiet (fail); try go_wp2)
  go_loopg [5] k (fun kq v5 w' => ∃ (x5_1 : Int), v5 = .int .i64 x5_1 /\ Asd (q9_Same.l0 kq l0 l1 x5_1 = some r) /\ Asd (kq <= k) /\ Drawn0 w w')
  case atStart => exact ⟨(0), (ez), H', ⟨Nat.le_refl _⟩, wz⟩
  case round =>
   clear H'
   obtain ⟨x5_1, rfl, HA, HK1, ⟨m1, rfl⟩⟩ := hrel
   cases gk with
   | zero => exact absurd HA.out (by simp [q9_Same.l0])
   | succ k1 =>
    have H := HA.out
    clear HA
    simp only [q9_Same.l0] at H
    by_cases c4 : x5_1 < (l0.length : Int)
    ·rw [if_pos c4] at H
     have c4b0 : decide (x5_1 < (l0.length : Int)) = true := dt c4
     clear c4
     by_cases c5 : 0 <= x5_1
     ·rw [if_pos c5] at H
      have c5b0 : decide (0 <= x5_1) = true := dt c5
      clear c5
      by_cases c6 : x5_1 < (l1.length : Int)
      ·rw [if_pos c6] at H
       have c6b0 : decide (x5_1 < (l1.length : Int)) = true := dt c6
       clear c6
       by_cases c7 : (!((((rd_T83 l0 x5_1).f0).toList) == (((rd_T83 l1 x5_1).f0).toList)) || (!((((rd_T83 l0 x5_1).f1).toList) == (((rd_T83 l1 x5_1).f1).toList)))) = true
       ·rw [if_pos c7] at H
        have c7b0 : (!((((rd_T83 l0 x5_1).f0).toList) == (((rd_T83 l1 x5_1).f0).toList)) || (!((((rd_T83 l0 x5_1).f1).toList) == (((rd_T83 l1 x5_1).f1).toList)))) = true := c7
        clear c7
        obtain rfl := Option.some.inj H
        have p298 : 0 <= (x5_1 : Int) := dz
        have q298 : x5_1 < (l0.length : Int) := dz
        obtain ⟨ad298, e298, hx298_0, hx298_1⟩ := at_T83 HR0.out x5_1 p298 q298
        cases e298
        replace p298 := eq_true p298
        replace q298 := eq_true q298
        have p299 : 0 <= (x5_1 : Int) := dz
        have q299 : x5_1 < (l1.length : Int) := dz
        obtain ⟨ad299, e299, hx299_0, hx299_1⟩ := at_T83 HR1.out x5_1 p299 q299
        cases e299
        replace p299 := eq_true p299
        replace q299 := eq_true q299
        go_wp2
        repeat (go_quiet (fail); try go_wp2)
        go_ret
        exact ⟨ez, wz⟩
       ·rw [if_neg c7] at H
        have c7b0 : (!((((rd_T83 l0 x5_1).f0).toList) == (((rd_T83 l1 x5_1).f0).toList)) || (!((((rd_T83 l0 x5_1).f1).toList) == (((rd_T83 l1 x5_1).f1).toList)))) = false := by simpa using c7
        clear c7
        have H' := am H
        clear H
        have p298 : 0 <= (x5_1 : Int) := dz
        have q298 : x5_1 < (l0.length : Int) := dz
        obtain ⟨ad298, e298, hx298_0, hx298_1⟩ := at_T83 HR0.out x5_1 p298 q298
        cases e298
        replace p298 := eq_true p298
        replace q298 := eq_true q298
        have p299 : 0 <= (x5_1 : Int) := dz
        have q299 : x5_1 < (l1.length : Int) := dz
        obtain ⟨ad299, e299, hx299_0, hx299_1⟩ := at_T83 HR1.out x5_1 p299 q299
        cases e299
        replace p299 := eq_true p299
        replace q299 := eq_true q299
        go_wp2
        repeat (go_quiet (fail); try go_wp2)
        go_roundg k1
        case measure => have := HK1.out; omega
        case rel => exact ⟨(wrap64 (x5_1 + 1)), (ez), H', ⟨by have := HK1.out; omega⟩, wz⟩
      ·rw [if_neg c6] at H
       exact absurd H (by simp)
     ·rw [if_neg c5] at H
      exact absurd H (by simp)
    ·rw [if_neg c4] at H
     have c4b0 : decide (x5_1 < (l0.length : Int)) = false := df c4
     clear c4
     obtain rfl := Option.some.inj H
     go_wp2
     repeat (go_quiet (fail); try go_wp2)
     go_ret
     exact ⟨ez, wz⟩
 ·rw [if_neg c3] at H
  have c3b0 : ((l0.length : Int) == (l1.length : Int)) = false := beq_eq_false_iff_ne.mpr c3
  have c3b1 : ((l0.length : Int) != (l1.length : Int)) = true := bne_iff_ne.mpr c3
  have c3b2 : (l0.length == l1.length) = false := by first | simpa using c3 | (simp at c3 ⊢; omega)
  obtain rfl := Option.some.inj H
  go_enter Tryz.func46, Tryz.ntmps46
  go_wp2
  repeat (go_quiet (fail); try go_wp2)
  go_ret
  exact ⟨ez, wz⟩
def sacristyref10_Find.l0 : Nat -> ByteArray -> Int -> Int -> List ByteArray -> List (S39) -> Option (Int)
 | 0, _, _, _, _, _ => none
 | k + 1, x1, x5, x310000, x310001, x310002 => if x5 < (x310002.length : Int) then (if 0 <= x5 then (if ((qT x310002 x5).f0).toList = x1.toList then (some x5) else (sacristyref10_Find.l0 k x1 (wrap64 (x5 + 1)) x310000 x310001 x310002)) else (none)) else (some (-1))
def sacristyref10_Find.f (k : Nat) (a0_0 : Int) (l0_1 : List ByteArray) (l0_2 : List (S39)) (a1 : ByteArray) : Option (Int) := sacristyref10_Find.l0 k a1 0 a0_0 l0_1 l0_2
set_option maxHeartbeats 8000000 in
set_option maxRecDepth 100000 in
theorem sacristyref10_Find.calls (k : Nat) (a0_0 : Int) (A0_1 : Option Addr) (c0_1 : Nat) (l0_1 : List ByteArray) (A0_2 : Option Addr) (c0_2 : Nat) (l0_2 : List (S39)) (a1 : ByteArray) (r : Int) (w : World) (hr0_1 : Kd.C Kd.string w A0_1 l0_1.length l0_1) (hc0_1 : l0_1.length <= c0_1) (hr0_2 : Kd.C k39 w A0_2 l0_2.length l0_2) (hc0_2 : l0_2.length <= c0_2) (h : sacristyref10_Find.f k a0_0 l0_1 l0_2 a1 = some r) :
  Calls Tryz.prog 17 #[.agg #[.int .i64 a0_0, .slice A0_1 l0_1.length c0_1, .slice A0_2 l0_2.length c0_2], .string a1] w fun e w' => e = .returned (.int .i64 r) /\ Below w.heap.size w w' := by
 have hu25 := Tryz.underlying25
 have HR0_1 := am hr0_1
 have HC0_1 := am hc0_1
 clear hr0_1 hc0_1
 have HR0_2 := am hr0_2
 have HC0_2 := am hc0_2
 clear hr0_2 hc0_2
 have HB := am (Below.refl w.heap.size w)
 have H : (sacristyref10_Find.l0 k a1 0 a0_0 l0_1 l0_2) = some r := h
 clear h
 have H' := am H
 clear H
 go_enter Tryz.func17, Tryz.ntmps17
 go_wp2_with (first | ((with_reducible refine gate_dst (N := 2) rfl ?_); refine box_event ?hg (N := 2) ?hd (cs := #[.int .i64 a0_0, .slice A0_1 l0_1.length c0_1, .slice A0_2 l0_2.length c0_2]) (t := 25) ?hr ?_; (case hd => rfl); (case hg => rfl); (case hr => first | (go_simp; done) | (go_simp; rfl)); intro gb309 hg w3 hbox hb; have n0_ := am (qW (bz HB.out) hb); have n1_ := am (hbox); have n2_ := am ((by rw [hg]; exact (qZ (bz HB.out)) : w.heap.size <= gb309)); have n3_ := am ((by rw [hg]; exact (qZ (bz HB.out)) : w.heap.size <= gb309)); clear HB; have HB := n0_; have BK309 := n1_; have GW309 := n2_; have GE309 := n3_; clear n0_ n1_ n2_ n3_; clear hb hbox hg))
 go_loopg [5] k (fun kq v5 w' => ∃ (x5_1 : Int), v5 = .int .i64 x5_1 /\ Asd (sacristyref10_Find.l0 kq a1 x5_1 a0_0 l0_1 l0_2 = some r) /\ Asd (kq <= k) /\ Asd (w'.heap[gb309]? = some (.cells #[.int .i64 a0_0, (.slice A0_1 l0_1.length c0_1), (.slice A0_2 l0_2.length c0_2)] 25 (0, 0))) /\ Asd (Below w.heap.size w w'))
 case atStart => exact ⟨(0), (ez), H', ⟨Nat.le_refl _⟩, ⟨kz BK309.out⟩, ⟨bs1 HB.out GE309.out⟩⟩
 case round =>
  clear H'
  obtain ⟨x5_1, rfl, HA, HK1, BK309, HB⟩ := hrel
  cases gk with
  | zero => exact absurd HA.out (by simp [sacristyref10_Find.l0])
  | succ k1 =>
   have H := HA.out
   clear HA
   simp only [sacristyref10_Find.l0] at H
   by_cases c4 : x5_1 < (l0_2.length : Int)
   ·rw [if_pos c4] at H
    have c4b0 : decide (x5_1 < (l0_2.length : Int)) = true := dt c4
    clear c4
    by_cases c5 : 0 <= x5_1
    ·rw [if_pos c5] at H
     have c5b0 : decide (0 <= x5_1) = true := dt c5
     clear c5
     by_cases c6 : ((qT l0_2 x5_1).f0).toList = a1.toList
     ·rw [if_pos c6] at H
      have c6b0 : (((qT l0_2 x5_1).f0).toList == a1.toList) = true := beq_iff_eq.mpr c6
      have c6b1 : (((qT l0_2 x5_1).f0).toList != a1.toList) = false := bne_eq_false_iff_eq.mpr c6
      clear c6
      obtain rfl := Option.some.inj H
      have hcz7_0 : wr.cell? ⟨gb309, 0, none⟩ = some (.int .i64 a0_0) := bc BK309.out 0
      have hcz7_1 : wr.cell? ⟨gb309, 1, none⟩ = some (.slice A0_1 l0_1.length c0_1) := bc BK309.out 1
      have hcz7_2 : wr.cell? ⟨gb309, 2, none⟩ = some (.slice A0_2 l0_2.length c0_2) := bc BK309.out 2
      have hfz7_0 := qf BK309.out 0
      have hfz7_1 := qf BK309.out 1
      have hfz7_2 := qf BK309.out 2
      have p310 : 0 <= (x5_1 : Int) := dz
      have q310 : x5_1 < (l0_2.length : Int) := dz
      obtain ⟨ad310, A310_3, c310_3, A310_4, c310_4, e310, hx310_0, hx310_1, hx310_2, hx310_3, hx310_4, hl310_3, hi310_3, hl310_4, hi310_4⟩ := at_T39 HR0_2.out x5_1 p310 q310
      cases e310
      replace hx310_0 := hZc HB.out hx310_0
      replace hx310_1 := hZc HB.out hx310_1
      replace hx310_2 := hZc HB.out hx310_2
      replace hx310_3 := hZc HB.out hx310_3
      replace hx310_4 := hZc HB.out hx310_4
      have HR310_3 := am hi310_3
      have HC310_3 := am hl310_3
      clear hi310_3 hl310_3
      have HR310_4 := am hi310_4
      have HC310_4 := am hl310_4
      clear hi310_4 hl310_4
      replace p310 := eq_true p310
      replace q310 := eq_true q310
      go_wp2
      go_ret
      exact ⟨ey, bs1 HB.out GE309.out⟩
     ·rw [if_neg c6] at H
      have c6b0 : (((qT l0_2 x5_1).f0).toList == a1.toList) = false := beq_eq_false_iff_ne.mpr c6
      have c6b1 : (((qT l0_2 x5_1).f0).toList != a1.toList) = true := bne_iff_ne.mpr c6
      have H' := am H
      clear H
      have hcz8_0 : wr.cell? ⟨gb309, 0, none⟩ = some (.int .i64 a0_0) := bc BK309.out 0
      have hcz8_1 : wr.cell? ⟨gb309, 1, none⟩ = some (.slice A0_1 l0_1.length c0_1) := bc BK309.out 1
      have hcz8_2 : wr.cell? ⟨gb309, 2, none⟩ = some (.slice A0_2 l0_2.length c0_2) := bc BK309.out 2
      have hfz8_0 := qf BK309.out 0
      have hfz8_1 := qf BK309.out 1
      have hfz8_2 := qf BK309.out 2
      have p310 : 0 <= (x5_1 : Int) := dz
      have q310 : x5_1 < (l0_2.length : Int) := dz
      obtain ⟨ad310, A310_3, c310_3, A310_4, c310_4, e310, hx310_0, hx310_1, hx310_2, hx310_3, hx310_4, hl310_3, hi310_3, hl310_4, hi310_4⟩ := at_T39 HR0_2.out x5_1 p310 q310
      cases e310
      replace hx310_0 := hZc HB.out hx310_0
      replace hx310_1 := hZc HB.out hx310_1
      replace hx310_2 := hZc HB.out hx310_2
      replace hx310_3 := hZc HB.out hx310_3
      replace hx310_4 := hZc HB.out hx310_4
      have HR310_3 := am hi310_3
      have HC310_3 := am hl310_3
      clear hi310_3 hl310_3
      have HR310_4 := am hi310_4
      have HC310_4 := am hl310_4
      clear hi310_4 hl310_4
      replace p310 := eq_true p310
      replace q310 := eq_true q310
      go_wp2
      go_roundg k1
      case measure => have := HK1.out; omega
      case rel => exact ⟨(wrap64 (x5_1 + 1)), (ez), H', ⟨by have := HK1.out; omega⟩, ⟨kz BK309.out⟩, ⟨bs1 HB.out GE309.out⟩⟩
    ·rw [if_neg c5] at H
     exact absurd H (by simp)
   ·rw [if_neg c4] at H
    have c4b0 : decide (x5_1 < (l0_2.length : Int)) = false := df c4
    clear c4
    obtain rfl := Option.some.inj H
    have hcz9_0 : wr.cell? ⟨gb309, 0, none⟩ = some (.int .i64 a0_0) := bc BK309.out 0
    have hcz9_1 : wr.cell? ⟨gb309, 1, none⟩ = some (.slice A0_1 l0_1.length c0_1) := bc BK309.out 1
    have hcz9_2 : wr.cell? ⟨gb309, 2, none⟩ = some (.slice A0_2 l0_2.length c0_2) := bc BK309.out 2
    have hfz9_0 := qf BK309.out 0
    have hfz9_1 := qf BK309.out 1
    have hfz9_2 := qf BK309.out 2
    go_wp2
    go_ret
    exact ⟨ey, bs1 HB.out GE309.out⟩
end Go.Proofs.YtlfenakgphmepaaGreatDoor.Print
