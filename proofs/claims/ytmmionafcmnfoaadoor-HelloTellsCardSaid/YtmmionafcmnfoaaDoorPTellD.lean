/- The calls of a law, as a plain function, printed by a program. -/
import Derived.Test.YtmmionafcmnfoaaDoorPTellC
namespace Go.Proofs.YtmmionafcmnfoaaDoor.Print
open Go.RowKit Go.Proofs.YtmmionafcmnfoaaDoorW.PrintWords Go.Proofs.YtmmionafcmnfoaaDoorW.PrintLast Go.Proofs.YtmmionafcmnfoaaDoorW.PrintMore Go.Proofs.YtmmionafcmnfoaaDoor.Conv
attribute [local go_sem] max2_int min2_int max_two min_two max_three min_three max_four min_four
set_option linter.unusedVariables false
set_option linter.unusedSimpArgs false
mutual
def q6_Asked.l0 : Nat -> List (S49) -> List ByteArray -> Int -> List ByteArray -> List ByteArray -> Option (List ByteArray × List ByteArray × Bool)
 | 0, _, _, _, _, _ => none
 | k + 1, x0, x5, x7, x339000, x339001 => if x7 < (x5.length : Int) then (if 0 <= x7 then (if ((rdOf ByteArray.empty x5 x7).size : Int) > 5 then (if 0 <= 5 then (if 5 <= ((rdOf ByteArray.empty x5 x7).size : Int) then (q6_Asked.j1 k x0 x5 x7 (((rdOf ByteArray.empty x5 x7).extract 0 5).toList == ([119, 97, 110, 116, 32] : List UInt8)) x339000 x339001) else (none)) else (none)) else (q6_Asked.j1 k x0 x5 x7 false x339000 x339001)) else (none)) else ((q6_Ask.f k x339000 x339001).bind fun bt355 => (if bt355.2 = true then ((q5_Same.f k bt355.1 x0).bind fun t359 => (if t359 = true then (some (x339000, x339001, true)) else (some (([] : List ByteArray), ([] : List ByteArray), false)))) else (some (([] : List ByteArray), ([] : List ByteArray), false))))
def q6_Asked.j1 : Nat -> List (S49) -> List ByteArray -> Int -> Bool -> List ByteArray -> List ByteArray -> Option (List ByteArray × List ByteArray × Bool)
 | 0, _, _, _, _, _, _ => none
 | k + 1, x0, x5, x7, x37, x339000, x339001 => if x37 = true then (if 0 <= x7 then (if x7 < (x5.length : Int) then (if 5 <= ((rdOf ByteArray.empty x5 x7).size : Int) then (if x339000.length < 8796093022208 then (q6_Asked.l0 k x0 x5 (wrap64 (x7 + 1)) (x339000 ++ [(rdOf ByteArray.empty x5 x7).extract 5 (rdOf ByteArray.empty x5 x7).size]) x339001) else (none)) else (none)) else (none)) else (none)) else (if 0 <= x7 then (if x7 < (x5.length : Int) then (if ((rdOf ByteArray.empty x5 x7).size : Int) > 5 then (if 0 <= 5 then (if 5 <= ((rdOf ByteArray.empty x5 x7).size : Int) then (if ((rdOf ByteArray.empty x5 x7).extract 0 5).toList = ([104, 97, 118, 101, 32] : List UInt8) then (if x339001.length < 8796093022208 then (q6_Asked.l0 k x0 x5 (wrap64 (x7 + 1)) x339000 (x339001 ++ [(rdOf ByteArray.empty x5 x7).extract 5 (rdOf ByteArray.empty x5 x7).size])) else (none)) else (q6_Asked.l0 k x0 x5 (wrap64 (x7 + 1)) x339000 x339001)) else (none)) else (none)) else (q6_Asked.l0 k x0 x5 (wrap64 (x7 + 1)) x339000 x339001)) else (none)) else (none))
end
def q6_Asked.f (k : Nat) (l0 : List (S49)) : Option (List ByteArray × List ByteArray × Bool) := (q6_texts.f k l0).bind fun bt339 => (if bt339.2 = true then (q6_Asked.l0 k l0 bt339.1 0 ([] : List ByteArray) ([] : List ByteArray)) else (some (([] : List ByteArray), ([] : List ByteArray), false)))
def q6_Asked.T9 : Bool × List (List Nat × List Nat) := (true, [([], []), ([0], [0]), ([], []), ([], []), ([2, 3], [2, 3]), ([4], [4]), ([5], [5]), ([6], [6]), ([1, 7], [1, 7]), ([0, 1, 2, 3, 4, 5, 6, 7, 8], []), ([9, 8, 8, 0, 1, 2, 3, 4, 5, 6, 7, 8], [8, 9])])
def q6_Asked.B9 : List Nat := [0, 1, 0, 0, 12, 28, 60, 124, 255, 511, 1023]
theorem q6_Asked.tab9 : rtab .any (opsOf Tryd.f23 9) = q6_Asked.T9 := by kernel_rfl
theorem q6_Asked.bits9 : waitsOk q6_Asked.T9.2 q6_Asked.B9 = true := by kernel_rfl
def q6_Asked.T11 : Bool × List (List Nat × List Nat) := (true, [([], []), ([0], [0]), ([], []), ([], []), ([2, 3], [2, 3]), ([4], [4]), ([5], [5]), ([6], [6]), ([1, 7], [1, 7]), ([0, 1, 2, 3, 4, 5, 6, 7, 8], []), ([9, 8, 8, 0, 1, 2, 3, 4, 5, 6, 7, 8], [8, 9])])
def q6_Asked.B11 : List Nat := [0, 1, 0, 0, 12, 28, 60, 124, 255, 511, 1023]
theorem q6_Asked.tab11 : rtab .any (opsOf Tryd.f23 11) = q6_Asked.T11 := by kernel_rfl
theorem q6_Asked.bits11 : waitsOk q6_Asked.T11.2 q6_Asked.B11 = true := by kernel_rfl
set_option maxHeartbeats 8000000 in
set_option maxRecDepth 100000 in
theorem q6_Asked.calls (k : Nat) (A0 : Option Addr) (c0 : Nat) (l0 : List (S49)) (r1 : List ByteArray) (r2 : List ByteArray) (r3 : Bool) (w : World) (hr0 : Kd.C k49 w A0 l0.length l0) (hc0 : l0.length <= c0) (h : q6_Asked.f k l0 = some (r1, r2, r3)) :
  Calls Tryd.prog 23 #[.slice A0 l0.length c0] w fun e w' => ∃ v0_ v1_ : Value, e = .returned (.tuple #[.agg #[v0_, v1_], .bool r3]) /\ Kd.R Kd.string 9 w' w.heap.size (fun k_ => some k_ ≠ (v1_ : Value).ownBlock) v0_ r1 /\ Kd.R Kd.string 9 w' w.heap.size (fun k_ => some k_ ≠ (v0_ : Value).ownBlock) v1_ r2 /\ Below w.heap.size w w' := by
 have hu25 := Tryd.underlying25
 have HR0 := Asd.mk hr0
 have HC0 := Asd.mk hc0
 clear hr0 hc0
 have HB := Asd.mk (Below.refl w.heap.size w)
 have H : ((q6_texts.f k l0).bind fun bt339 => (if bt339.2 = true then (q6_Asked.l0 k l0 bt339.1 0 ([] : List ByteArray) ([] : List ByteArray)) else (some (([] : List ByteArray), ([] : List ByteArray), false)))) = some (r1, r2, r3) := h
 clear h
 replace H := Option.bind_eq_some_iff.mp H
 obtain ⟨⟨t339, t340⟩, A20, H⟩ := H
 replace H : (if t340 = true then (q6_Asked.l0 k l0 t339 0 ([] : List ByteArray) ([] : List ByteArray)) else (some (([] : List ByteArray), ([] : List ByteArray), false))) = some (r1, r2, r3) := H
 have A2 := Asd.mk A20
 clear A20
 by_cases c3 : t340 = true
 ·subst c3
  have H1 : (q6_Asked.l0 k l0 t339 0 ([] : List ByteArray) ([] : List ByteArray)) = some (r1, r2, r3) := by rw [if_pos rfl] at H; exact H
  clear H
  have H := H1
  clear H1
  have H' := Asd.mk H
  clear H
  go_enter Tryd.func23, Tryd.ntmps23
  go_wp2_with (first | ((with_reducible refine gate_dst (N := 2) rfl ?_); refine box_event ?hg (N := 2) ?hd (cs := #[.slice none 0 0, .slice none 0 0]) (t := 25) ?hr ?_; (case hd => rfl); (case hg => rfl); (case hr => first | (go_simp; done) | (go_simp; rfl)); intro gb337 hg w4 hbox hb; have n0_ := Asd.mk (below_step (by repeat (first | (with_reducible first | exact HB.out | apply bal | apply pbN | apply bd1) | exact HB.out)) hb); have n1_ := Asd.mk (hbox); have n2_ := Asd.mk ((by rw [hg]; exact (below_size (by repeat (first | (with_reducible first | exact HB.out | apply bal | apply pbN | apply bd1) | exact HB.out))) : w.heap.size <= gb337)); have n3_ := Asd.mk ((by rw [hg]; exact (below_size (by repeat (first | (with_reducible first | exact HB.out | apply bal | apply pbN | apply bd1) | exact HB.out))) : w.heap.size <= gb337)); clear HB; have HB := n0_; have BK337 := n1_; have GW337 := n2_; have GE337 := n3_; clear n0_ n1_ n2_ n3_; clear hb hbox hg) | ((with_reducible refine gate_dst (N := 4) rfl ?_); refine box_event ?hg (N := 4) ?hd (cs := #[.slice none 0 0, .slice none 0 0]) (t := 25) ?hr ?_; (case hd => rfl); (case hg => rfl); (case hr => first | (go_simp; done) | (go_simp; rfl)); intro gb338 hg w5 hbox hb; have n0_ := Asd.mk (blk_below (g := gb337) (o := .cells #[.slice none 0 0, .slice none 0 0] 25 (0, 0)) (by (with_reducible repeat (first | refine blk_drewN ?_ _ | refine blk_drew ?_ | refine blk_alloc ?_ _)); exact BK337.out) hb); have n1_ := Asd.mk (below_step (by repeat (first | (with_reducible first | exact HB.out | apply bal | apply pbN | apply bd1 | refine below_set ?_ GE337.out) | exact HB.out)) hb); have n2_ := Asd.mk (hbox); have n3_ := Asd.mk ((by rw [hg]; exact (below_size (by repeat (first | (with_reducible first | exact HB.out | apply bal | apply pbN | apply bd1 | refine below_set ?_ GE337.out) | exact HB.out))) : w.heap.size <= gb338)); have n4_ := Asd.mk ((by rw [hg]; exact (below_size (by repeat (first | (with_reducible first | exact HB.out | apply bal | apply pbN | apply bd1 | refine below_set ?_ GE337.out) | exact HB.out))) : w.heap.size <= gb338)); have n5_ := Asd.mk ((by rw [hg]; exact Nat.ne_of_lt (blk_lt (g := gb337) (o := .cells #[.slice none 0 0, .slice none 0 0] 25 (0, 0)) (by (with_reducible repeat (first | refine blk_drewN ?_ _ | refine blk_drew ?_ | refine blk_alloc ?_ _)); exact BK337.out)) : gb337 ≠ gb338)); have n6_ := Asd.mk ((by rw [hg]; exact Nat.ne_of_gt (blk_lt (g := gb337) (o := .cells #[.slice none 0 0, .slice none 0 0] 25 (0, 0)) (by (with_reducible repeat (first | refine blk_drewN ?_ _ | refine blk_drew ?_ | refine blk_alloc ?_ _)); exact BK337.out)) : gb338 ≠ gb337)); clear BK337; clear HB; have BK337 := n0_; have HB := n1_; have BK338 := n2_; have GW338 := n3_; have GE338 := n4_; have NB337_338 := n5_; have NB338_337 := n6_; clear n0_ n1_ n2_ n3_ n4_ n5_ n6_; clear hb hbox hg) | ((with_reducible refine gate_callee (f := 50) rfl ?_); refine goesL_ (some 12) rfl rfl Tryd.func50 (by kernel_rfl) rfl #[.slice A0 l0.length c0] rfl (by (try simp only [List.map_toArray, List.map_cons, List.map_nil]); first | done | rfl | (simp only [List.length_drop, List.length_take]; rfl)) ?_; (with_reducible refine (q6_texts.calls k _ _ l0 t339 true _ ?side1 ?side2 A2.out).mono ?_); (case side1 => repeat (first | exact (Kd.C_below HR0.out HB.out) | (with_reducible refine Kd.C_alloc ?_ _) | (with_reducible refine Kd.C_drewN ?_ _) | (with_reducible refine Kd.C_drew ?_))); (case side2 => exact HC0.out); rintro e w6 ⟨v341, rfl, ho0, hb⟩; refine ⟨_, rfl, ?_⟩; have n0_ := Asd.mk (Kd.R_lower ho0 (below_size (by repeat (first | (with_reducible first | exact HB.out | apply bal | apply pbN | apply bd1 | refine below_set ?_ GE337.out | refine below_set ?_ GE338.out) | exact HB.out)))); have n1_ := Asd.mk (blk_below (g := gb337) (o := .cells #[.slice none 0 0, .slice none 0 0] 25 (0, 0)) (by (with_reducible repeat (first | refine blk_drewN ?_ _ | refine blk_drew ?_ | refine blk_alloc ?_ _)); exact BK337.out) hb); have n2_ := Asd.mk (blk_below (g := gb338) (o := .cells #[.slice none 0 0, .slice none 0 0] 25 (0, 0)) (by (with_reducible repeat (first | refine blk_drewN ?_ _ | refine blk_drew ?_ | refine blk_alloc ?_ _)); exact BK338.out) hb); have n3_ := Asd.mk (below_step (by repeat (first | (with_reducible first | exact HB.out | apply bal | apply pbN | apply bd1 | refine below_set ?_ GE337.out | refine below_set ?_ GE338.out) | exact HB.out)) hb); clear BK337; clear BK338; clear HB; have HO342 := n0_; have BK337 := n1_; have BK338 := n2_; have HB := n3_; clear n0_ n1_ n2_ n3_; (try clear hb); (try clear hb2); (try clear hk); (try clear hi); (try clear ho0)))
  go_loopg [7] k (fun kq v7 w' => ∃ (x7_1 : Int) (x339000_1 : List ByteArray) (x339001_1 : List ByteArray) (u339000 : Value) (u339001 : Value), v7 = .int .i64 x7_1 /\ Asd (q6_Asked.l0 kq l0 t339 x7_1 x339000_1 x339001_1 = some (r1, r2, r3)) /\ Asd (kq <= k) /\ Asd (Kd.R Kd.string 9 w' w.heap.size (fun k_ => some k_ ≠ (u339000 : Value).ownBlock /\ some k_ ≠ (u339001 : Value).ownBlock) v341 t339) /\ Asd (Kd.R Kd.string 9 w' w.heap.size (fun k_ => some k_ ≠ (v341 : Value).ownBlock /\ some k_ ≠ (u339001 : Value).ownBlock) u339000 x339000_1) /\ Asd (Kd.R Kd.string 9 w' w.heap.size (fun k_ => some k_ ≠ (v341 : Value).ownBlock /\ some k_ ≠ (u339000 : Value).ownBlock) u339001 x339001_1) /\ Asd (w'.heap[gb337]? = some (.cells #[(.slice none 0 0), (.slice none 0 0)] 25 (0, 0))) /\ Asd (w'.heap[gb338]? = some (.cells #[u339000, u339001] 25 (0, 0))) /\ Asd (Below w.heap.size w w'))
  case atStart => exact ⟨(0), (([] : List ByteArray)), (([] : List ByteArray)), (.slice none 0 0), (.slice none 0 0), (by first | rfl | (simp; done) | (simp [*]; done)), H', ⟨Nat.le_refl _⟩, ⟨by (with_reducible repeat (first | apply Kd.R_alloc | apply Kd.R_drewN | apply Kd.R_drew)); exact Kd.R_mono HO342.out (fun _ hk => ⟨(by simp [Value.ownBlock]), (by simp [Value.ownBlock])⟩)⟩, ⟨by first | exact Kd.R_nil _ _ _ _ _ | exact Kd.N_nil _ _ _ _ _ | exact Kd.V_nil _ _ _ _ _ | exact Kd.Q_nil _ _ _ _ _ | exact Kd.S_nil _ _ _ _ _⟩, ⟨by first | exact Kd.R_nil _ _ _ _ _ | exact Kd.N_nil _ _ _ _ _ | exact Kd.V_nil _ _ _ _ _ | exact Kd.Q_nil _ _ _ _ _ | exact Kd.S_nil _ _ _ _ _⟩, ⟨by (with_reducible repeat (first | refine blk_drewN ?_ _ | refine blk_drew ?_ | refine blk_alloc ?_ _)); exact BK337.out⟩, ⟨by (with_reducible repeat (first | refine blk_drewN ?_ _ | refine blk_drew ?_ | refine blk_alloc ?_ _)); exact BK338.out⟩, ⟨by repeat (first | (with_reducible first | exact HB.out | apply bal | apply pbN | apply bd1 | refine below_set ?_ GE337.out | refine below_set ?_ GE338.out) | exact HB.out)⟩⟩
  case round =>
   clear H'
   try clear c2
   try clear p2
   try clear c3
   try clear c5
   obtain ⟨x7_1, x339000_1, x339001_1, u339000, u339001, rfl, HA, HK1, HO_5, HO_339000, HO_339001, BK337, BK338, HB⟩ := hrel
   cases gk with
   | zero => exact absurd HA.out (by simp [q6_Asked.l0])
   | succ k1 =>
    have H := HA.out
    clear HA
    simp only [q6_Asked.l0] at H
    by_cases c7 : x7_1 < (t339.length : Int)
    ·rw [if_pos c7] at H
     have c7b0 : decide (x7_1 < (t339.length : Int)) = true := decide_eq_true c7
     clear c7
     have HC8 := Asd.mk H
     clear H
     obtain ⟨Ao9, co9, eo9⟩ := Kd.R_slice HO_5.out
     subst eo9
     go_upto_region 8 with (fail)
     go_cut [37] (fun v37 wc => ∃ (kq : Nat) (x37_7 : Bool), v37 = .bool x37_7 /\ Asd (q6_Asked.j1 kq l0 t339 x7_1 x37_7 x339000_1 x339001_1 = some (r1, r2, r3)) /\ Asd (kq <= k1) /\ Asd (Kd.R Kd.string 9 wc w.heap.size (fun k_ => some k_ ≠ (u339000 : Value).ownBlock /\ some k_ ≠ (u339001 : Value).ownBlock) (.slice Ao9 t339.length co9) t339) /\ Asd (Kd.R Kd.string 9 wc w.heap.size (fun k_ => some k_ ≠ ((.slice Ao9 t339.length co9) : Value).ownBlock /\ some k_ ≠ (u339001 : Value).ownBlock) u339000 x339000_1) /\ Asd (Kd.R Kd.string 9 wc w.heap.size (fun k_ => some k_ ≠ ((.slice Ao9 t339.length co9) : Value).ownBlock /\ some k_ ≠ (u339000 : Value).ownBlock) u339001 x339001_1) /\ Asd (wc.heap[gb337]? = some (.cells #[(.slice none 0 0), (.slice none 0 0)] 25 (0, 0))) /\ Asd (wc.heap[gb338]? = some (.cells #[u339000, u339001] 25 (0, 0))) /\ Asd (Below w.heap.size w wc))
     case first =>
      have H := HC8.out
      clear HC8
      by_cases c10 : 0 <= x7_1
      ·rw [if_pos c10] at H
       have c10b0 : decide (0 <= x7_1) = true := decide_eq_true c10
       clear c10
       (first | rw [c10b0] | (simp only [i64_w, i32_w]; rw [c10b0]) | skip)
       by_cases c11 : ((rdOf ByteArray.empty t339 x7_1).size : Int) > 5
       ·rw [if_pos c11] at H
        have c11b0 : decide (5 < ((rdOf ByteArray.empty t339 x7_1).size : Int)) = true := decide_eq_true c11
        have c11b1 : decide (5 < (rdOf ByteArray.empty t339 x7_1).size) = true := decide_eq_true (by omega)
        clear c11
        by_cases c12 : 0 <= 5
        ·rw [if_pos c12] at H
         have c12b0 := eq_true c12
         have c12b1 : decide (0 <= 5) = true := decide_eq_true c12
         clear c12
         by_cases c13 : 5 <= ((rdOf ByteArray.empty t339 x7_1).size : Int)
         ·rw [if_pos c13] at H
          have c13b0 := eq_true c13
          have c13b1 : decide (5 <= ((rdOf ByteArray.empty t339 x7_1).size : Int)) = true := decide_eq_true c13
          clear c13
          have H' := Asd.mk H
          clear H
          have p343 : 0 <= (x7_1 : Int) := of_decide_eq_true (by first | (with_reducible assumption) | assumption)
          have q343 : x7_1 < (t339.length : Int) := of_decide_eq_true (by first | (with_reducible assumption) | assumption)
          obtain ⟨ad343, e343, hx343_0⟩ := Kd.at_string (Kd.R_reads' HO_5.out).2.2 x7_1 p343 q343
          cases e343
          replace p343 := eq_true p343
          replace q343 := eq_true q343
          have p344 : 0 <= (x7_1 : Int) := of_decide_eq_true (by first | (with_reducible assumption) | assumption)
          have q344 : x7_1 < (t339.length : Int) := of_decide_eq_true (by first | (with_reducible assumption) | assumption)
          obtain ⟨ad344, e344, hx344_0⟩ := Kd.at_string (Kd.R_reads' HO_5.out).2.2 x7_1 p344 q344
          obtain rfl : ad343 = ad344 := (by injection e344)
          replace p344 := eq_true p344
          replace q344 := eq_true q344
          go_wp2
          go_meet
          case rel => exact ⟨_, ((((rdOf ByteArray.empty t339 x7_1).extract 0 5).toList == ([119, 97, 110, 116, 32] : List UInt8))), (by first | rfl | (simp; done) | (simp [*]; done)), H', ⟨by have := HK1.out; first | omega | exact Nat.le_refl _⟩, ⟨by (with_reducible repeat (first | apply Kd.R_alloc | apply Kd.R_drewN | apply Kd.R_drew)); exact HO_5.out⟩, ⟨by (with_reducible repeat (first | apply Kd.R_alloc | apply Kd.R_drewN | apply Kd.R_drew)); exact HO_339000.out⟩, ⟨by (with_reducible repeat (first | apply Kd.R_alloc | apply Kd.R_drewN | apply Kd.R_drew)); exact HO_339001.out⟩, ⟨by (with_reducible repeat (first | refine blk_drewN ?_ _ | refine blk_drew ?_ | refine blk_alloc ?_ _)); exact BK337.out⟩, ⟨by (with_reducible repeat (first | refine blk_drewN ?_ _ | refine blk_drew ?_ | refine blk_alloc ?_ _)); exact BK338.out⟩, ⟨by repeat (first | (with_reducible first | exact HB.out | apply bal | apply pbN | apply bd1 | refine below_set ?_ GE337.out | refine below_set ?_ GE338.out) | exact HB.out)⟩⟩
         ·rw [if_neg c13] at H
          exact absurd H (by simp)
        ·rw [if_neg c12] at H
         exact absurd H (by simp)
       ·rw [if_neg c11] at H
        have c11b0 : decide (5 < ((rdOf ByteArray.empty t339 x7_1).size : Int)) = false := decide_eq_false c11
        have c11b1 : decide (5 < (rdOf ByteArray.empty t339 x7_1).size) = false := decide_eq_false (by omega)
        clear c11
        have H' := Asd.mk H
        clear H
        have p343 : 0 <= (x7_1 : Int) := of_decide_eq_true (by first | (with_reducible assumption) | assumption)
        have q343 : x7_1 < (t339.length : Int) := of_decide_eq_true (by first | (with_reducible assumption) | assumption)
        obtain ⟨ad343, e343, hx343_0⟩ := Kd.at_string (Kd.R_reads' HO_5.out).2.2 x7_1 p343 q343
        cases e343
        replace p343 := eq_true p343
        replace q343 := eq_true q343
        go_wp2
        go_meet
        case rel => exact ⟨_, (false), (by first | rfl | (simp; done) | (simp [*]; done)), H', ⟨by have := HK1.out; first | omega | exact Nat.le_refl _⟩, ⟨by (with_reducible repeat (first | apply Kd.R_alloc | apply Kd.R_drewN | apply Kd.R_drew)); exact HO_5.out⟩, ⟨by (with_reducible repeat (first | apply Kd.R_alloc | apply Kd.R_drewN | apply Kd.R_drew)); exact HO_339000.out⟩, ⟨by (with_reducible repeat (first | apply Kd.R_alloc | apply Kd.R_drewN | apply Kd.R_drew)); exact HO_339001.out⟩, ⟨by (with_reducible repeat (first | refine blk_drewN ?_ _ | refine blk_drew ?_ | refine blk_alloc ?_ _)); exact BK337.out⟩, ⟨by (with_reducible repeat (first | refine blk_drewN ?_ _ | refine blk_drew ?_ | refine blk_alloc ?_ _)); exact BK338.out⟩, ⟨by repeat (first | (with_reducible first | exact HB.out | apply bal | apply pbN | apply bd1 | refine below_set ?_ GE337.out | refine below_set ?_ GE338.out) | exact HB.out)⟩⟩
      ·rw [if_neg c10] at H
       exact absurd H (by simp)
     case rest =>
      clear HC8
      try clear c1
      try clear c2
      try clear p2
      try clear c3
      try clear p3
      try clear q3
      try clear hx3
      try clear c5
      try clear c7
      try clear c7b0
      try clear c10
      try clear c10b0
      try clear c11
      try clear c11b0
      try clear c11b1
      try clear c12
      try clear c12b0
      try clear c12b1
      try clear c13
      try clear c13b0
      try clear c13b1
      try clear hx343_0
      try clear hx344_0
      try clear p2
      try clear p343
      try clear p344
      try clear q343
      try clear q344
      obtain ⟨kq, x37_7, rfl, HA, HJ7, HO_5, HO_339000, HO_339001, BK337, BK338, HB⟩ := hcut
      cases kq with
      | zero => exact absurd HA.out (by simp [q6_Asked.j1])
      | succ kj7 =>
       have H := HA.out
       clear HA
       simp only [q6_Asked.j1] at H
       by_cases c14 : x37_7 = true
       ·subst c14
        have H1 : (if 0 <= x7_1 then (if x7_1 < (t339.length : Int) then (if 5 <= ((rdOf ByteArray.empty t339 x7_1).size : Int) then (if x339000_1.length < 8796093022208 then (q6_Asked.l0 kj7 l0 t339 (wrap64 (x7_1 + 1)) (x339000_1 ++ [(rdOf ByteArray.empty t339 x7_1).extract 5 (rdOf ByteArray.empty t339 x7_1).size]) x339001_1) else (none)) else (none)) else (none)) else (none)) = some (r1, r2, r3) := by rw [if_pos rfl] at H; exact H
        clear H
        have H := H1
        clear H1
        by_cases c15 : 0 <= x7_1
        ·rw [if_pos c15] at H
         have c15b0 : decide (0 <= x7_1) = true := decide_eq_true c15
         clear c15
         by_cases c16 : x7_1 < (t339.length : Int)
         ·rw [if_pos c16] at H
          have c16b0 : decide (x7_1 < (t339.length : Int)) = true := decide_eq_true c16
          clear c16
          by_cases c17 : 5 <= ((rdOf ByteArray.empty t339 x7_1).size : Int)
          ·rw [if_pos c17] at H
           have c17b0 := eq_true c17
           have c17b1 : decide (5 <= ((rdOf ByteArray.empty t339 x7_1).size : Int)) = true := decide_eq_true c17
           clear c17
           by_cases c18 : x339000_1.length < 8796093022208
           ·rw [if_pos c18] at H
            have LMc18 := Asd.mk c18
            clear c18
            obtain ⟨y346, hy346⟩ : ∃ y_ : List ByteArray, y_ = (x339000_1 ++ [(rdOf ByteArray.empty t339 x7_1).extract 5 (rdOf ByteArray.empty t339 x7_1).size]) := ⟨_, rfl⟩
            replace H : (q6_Asked.l0 kj7 l0 t339 (wrap64 (x7_1 + 1)) y346 x339001_1) = some (r1, r2, r3) := by first | (rw [hy346]; with_reducible exact H) | (have H2_ := (Option.bind_some _ _).symm.trans H; rw [hy346]; with_reducible exact H2_) | (have H2_ := (Option.bind_some _ _).symm.trans H; with_reducible exact H2_) | with_reducible exact H | (rw [hy346]; exact H) | exact H
            have Ny346 := Asd.mk hy346
            clear hy346
            have H' := Asd.mk H
            clear H
            try go_wp2
            have n0_ := Asd.mk (Kd.R_drew HO_5.out)
            have n1_ := Asd.mk (Kd.R_drew HO_339000.out)
            have n2_ := Asd.mk (Kd.R_drew HO_339001.out)
            have n3_ := Asd.mk (blk_drew BK337.out)
            have n4_ := Asd.mk (blk_drew BK338.out)
            have n5_ := Asd.mk (bd1 HB.out)
            clear HO_5
            clear HO_339000
            clear HO_339001
            clear BK337
            clear BK338
            clear HB
            have HO_5 := n0_
            have HO_339000 := n1_
            have HO_339001 := n2_
            have BK337 := n3_
            have BK338 := n4_
            have HB := n5_
            clear n0_ n1_ n2_ n3_ n4_ n5_
            have p345 : 0 <= (x7_1 : Int) := of_decide_eq_true (by first | (with_reducible assumption) | assumption)
            have q345 : x7_1 < (t339.length : Int) := of_decide_eq_true (by first | (with_reducible assumption) | assumption)
            obtain ⟨ad345, e345, hx345_0⟩ := Kd.at_string (Kd.R_reads' HO_5.out).2.2 x7_1 p345 q345
            cases e345
            replace p345 := eq_true p345
            replace q345 := eq_true q345
            refine start_ (n := 11) (S := fun w' => w'.cell? ⟨gb338, 0, none⟩ = some (u339000) /\ w'.cell? ⟨gb338, 1, none⟩ = some (u339001) /\ w'.cell? (ad345.add (x7_1).toNat) = some (.string (rdOf ByteArray.empty t339 x7_1))) (ds := [8, 10]) (bA 11 0) (by kernel_rfl) rfl rfl ⟨(blk_cell BK338.out 0).trans rfl, (blk_cell BK338.out 1).trans rfl, hx345_0⟩ (fun hHeld => ?_); refine with_tabW q6_Asked.tab9 q6_Asked.bits9 (fun HT_ HW_ => ?_)
            generalize wc.drew = w19 at HO_5 HO_339000 HO_339001 BK337 BK338 HB hx345_0 hHeld ⊢
            refine pure_ (i := 0) (N := some 38) (v := ?_) (a' := ?_) (bA 11 1) rfl rfl (any_of HT_.out (by kernel_rfl)) (fun _ _ _ h => h) (Or.inl ⟨by rfl, ?_⟩) ?_ ?_
            rotate_left
            ·intro w'
             go_simp
             with_reducible rfl
            rotate_left
            ·simp only [Act.put, zA, zB, zC, i64_w, i32_w]
             rfl
            refine pure_ (i := 2) (N := some 40) (v := ?_) (a' := ?_) (bA 11 5) rfl rfl (any_of HT_.out (by kernel_rfl)) (fun _ _ _ h => h) (Or.inl ⟨by rfl, ?_⟩) ?_ ?_
            rotate_left
            ·intro w'
             go_simp
             with_reducible rfl
            rotate_left
            ·simp only [Act.put, zA, zB, zC, i64_w, i32_w]
             rfl
            refine pure_ (i := 3) (N := some 41) (v := ?_) (a' := ?_) (bA 11 13) rfl rfl (any_of HT_.out (by kernel_rfl)) (fun _ _ _ h => h) (Or.inl ⟨by rfl, ?_⟩) ?_ ?_
            rotate_left
            ·intro w'
             go_simp
             with_reducible rfl
            rotate_left
            ·simp only [Act.put, zA, zB, zC, i64_w, i32_w]
             rfl
            refine pure_ (i := 4) (N := some 42) (v := ?_) (a' := ?_) (bA 11 29) rfl rfl (any_of HT_.out (by kernel_rfl)) (fun _ _ _ h => h) (Or.inl ⟨by rfl, ?_⟩) ?_ ?_
            rotate_left
            ·intro w'
             go_simp
             with_reducible rfl
            rotate_left
            ·simp only [Act.put, zA, zB, zC, i64_w, i32_w]
             rfl
            refine take_ (i := 1) (N := some 39) (v := ?_) (a' := ?_) (bA 11 31) rfl rfl (take_ofW HT_.out HW_.out (by kernel_rfl)) (fun _ _ _ h => h) (Or.inl ⟨by rfl, ?_⟩) hHeld ?_ ?_
            rotate_left
            ·rintro w' ⟨s0, s1, s2⟩
             go_simp
             with_reducible rfl
            rotate_left
            ·simp only [Act.put, zA, zB, zC, i64_w, i32_w]
             rfl
            refine take_ (i := 5) (N := some 43) (v := ?_) (a' := ?_) (bA 11 63) rfl rfl (take_ofW HT_.out HW_.out (by kernel_rfl)) (fun _ _ _ h => h) (Or.inl ⟨by rfl, ?_⟩) hHeld ?_ ?_
            rotate_left
            ·rintro w' ⟨s0, s1, s2⟩
             go_simp
             with_reducible rfl
            rotate_left
            ·simp only [Act.put, zA, zB, zC, i64_w, i32_w]
             rfl
            refine pure_ (i := 6) (N := some 44) (v := ?_) (a' := ?_) (bA 11 127) rfl rfl (any_of HT_.out (by kernel_rfl)) (fun _ _ _ h => h) (Or.inl ⟨by rfl, ?_⟩) ?_ ?_
            rotate_left
            ·intro w'
             go_simp
             with_reducible rfl
            rotate_left
            ·simp only [Act.put, zA, zB, zC, i64_w, i32_w]
             rfl
            refine one_ (i := 7) (N := some 45) (bA 11 255) rfl rfl (one_of HT_.out (by kernel_rfl)) (by decide) (fun K hK => ?_)
            refine value_ (w1 := ?_) (v := ?_) (by rfl) rfl ?_ ?_
            rotate_left 2
            ·go_simp
             constructor
             ·rfl
             ·rfl
            refine hK.out _ _ ⟨(blk_cell (blk_alloc BK338.out _) 0).trans rfl, (blk_cell (blk_alloc BK338.out _) 1).trans rfl, (World.cell?_alloc_lt _ _ _ (World.block_lt_of_cell? _ _ (hHeld.2.2))).trans (hHeld.2.2)⟩ (fun hHeld => ?_)
            clear hK K
            refine norm_ (a' := ?_) ?_ ?_
            rotate_left
            ·show Act.put _ (some 45) _ = _
             simp only [Act.put, zA, zB, zC, i64_w, i32_w]
             rfl
            refine last_ (i := 8) (N := some 46) (bA 11 511) rfl rfl (one_of HT_.out (by kernel_rfl)) (by decide) (fun K hK => ?_)
            refine Kd.R_append_step Kd.string (w0 := w) w.heap.size (by rfl) (.tmp 39) (.tmp 45) 23 9 (.string ⟨#[]⟩) 16 rfl Tryd.underlying23 info9 rfl (by decide) (by omega) u339000 x339000_1 ((rdOf ByteArray.empty t339 x7_1).extract 5 (rdOf ByteArray.empty t339 x7_1).size) [.string ((rdOf ByteArray.empty t339 x7_1).extract 5 (rdOf ByteArray.empty t339 x7_1).size)] (fun k_ => some k_ ≠ (.slice (some ad345) t339.length co9 : Value).ownBlock /\ some k_ ≠ (u339001 : Value).ownBlock) (fun _ => False) rfl rfl ?aP (fun _ hk => hk.elim) ?aF ?aO ?aB ?aS ?aL ?_
            (case aP => exact rfl)
            (case aB => exact (by repeat (first | (with_reducible first | exact HB.out | apply bal | apply pbN | apply bd1 | refine below_set ?_ GE337.out | refine below_set ?_ GE338.out) | exact HB.out)))
            (case aF => exact (fun k_ hk => ⟨Kd.fresh' (Kd.R_lt (by (with_reducible repeat (first | apply Kd.R_alloc | apply Kd.R_drewN | apply Kd.R_drew)); exact HO_5.out)) k_ hk, Kd.fresh' (Kd.R_lt (by (with_reducible repeat (first | apply Kd.R_alloc | apply Kd.R_drewN | apply Kd.R_drew)); exact HO_339001.out)) k_ hk⟩))
            (case aO => exact (by (with_reducible repeat (first | apply Kd.R_alloc | apply Kd.R_drewN | apply Kd.R_drew)); exact HO_339000.out))
            (case aS => exact (below_size (by repeat (first | (with_reducible first | exact HB.out | apply bal | apply pbN | apply bd1 | refine below_set ?_ GE337.out | refine below_set ?_ GE338.out) | exact HB.out))))
            (case aL => have := LMc18.out; omega)
            intro v347 w20 ho hb hg hat
            rw [<- Ny346.out] at ho
            have n0_ := Asd.mk (Kd.R_after (ok := (fun k_ => some k_ ≠ (u339001 : Value).ownBlock)) (by (with_reducible repeat (first | apply Kd.R_alloc | apply Kd.R_drewN | apply Kd.R_drew)); exact Kd.R_mono HO_5.out (fun _ hk => ⟨hk.2, hk.1⟩)) hg hat)
            have n1_ := Asd.mk (Kd.R_after (ok := (fun k_ => some k_ ≠ (.slice (some ad345) t339.length co9 : Value).ownBlock)) (by (with_reducible repeat (first | apply Kd.R_alloc | apply Kd.R_drewN | apply Kd.R_drew)); exact HO_339001.out) hg hat)
            have n2_ := Asd.mk (blk_grown (g := gb337) (o := .cells #[.slice none 0 0, .slice none 0 0] 25 (0, 0)) (by (with_reducible repeat (first | refine blk_drewN ?_ _ | refine blk_drew ?_ | refine blk_alloc ?_ _)); exact BK337.out) hg (Kd.R_ne HO_339000.out BK337.out (by decide)))
            have n3_ := Asd.mk (blk_grown (g := gb338) (o := .cells #[u339000, u339001] 25 (0, 0)) (by (with_reducible repeat (first | refine blk_drewN ?_ _ | refine blk_drew ?_ | refine blk_alloc ?_ _)); exact BK338.out) hg (Kd.R_ne HO_339000.out BK338.out (by decide)))
            have n4_ := Asd.mk (hb)
            have n5_ := Asd.mk (ho)
            clear HO_5
            clear HO_339001
            clear BK337
            clear BK338
            clear HB
            clear HO_339000
            have HO_5 := n0_
            have HO_339001 := n1_
            have BK337 := n2_
            have BK338 := n3_
            have HB := n4_
            have HO348 := n5_
            clear n0_ n1_ n2_ n3_ n4_ n5_
            clear ho hb hg hat
            obtain ⟨Ao21, co21, eo21⟩ := Kd.R_slice HO348.out
            (first | subst eo21 | (injection eo21 with f1_ f2_ f3_; have f4_ := f1_.symm; have f5_ := f3_.symm; clear f1_ f2_ f3_; subst f4_; subst f5_))
            refine hK.out _ _ ?_
            clear hK K
            refine norm_ (a' := ?_) ?_ ?_
            rotate_left
            ·show Act.put _ (some 46) _ = _
             simp only [Act.put, zA, zB, zC, i64_w, i32_w]
             rfl
            refine pure_ (i := 9) (N := some 47) (v := ?_) (a' := ?_) (bA 11 1023) rfl rfl (any_of HT_.out (by kernel_rfl)) (fun _ _ _ h => h) (Or.inl ⟨by rfl, ?_⟩) ?_ ?_
            rotate_left
            ·intro w'
             go_simp
             with_reducible rfl
            rotate_left
            ·simp only [Act.put, zA, zB, zC, i64_w, i32_w]
             rfl
            refine last_ (i := 10) (N := none) (bA 11 2047) rfl rfl (one_of HT_.out (by kernel_rfl)) (by decide) (fun K hK => ?_)
            have hs22 : w20.cell? ⟨gb338, 0, none⟩ = some (u339000) := (blk_cell BK338.out 0).trans rfl
            have hfs22 := blk_frozen BK338.out 0
            have hns22_0 := NB337_338.out
            have hms22_0 := NB338_337.out
            refine skip_ (w1 := ?_) (by rfl) rfl ?_ ?_
            rotate_left
            ·go_simp
             rfl
            refine hK.out _ _ ?_
            clear hK K
            refine done_ (done_of HT_.out (by kernel_rfl)) ?_
            try go_wp2
            go_roundg kj7
            case measure => have := HK1.out; have := HJ7.out; omega
            case rel => exact ⟨(wrap64 (x7_1 + 1)), (y346), (x339001_1), (.slice Ao21 y346.length co21), (u339001), (by first | rfl | (simp; done) | (simp [*]; done)), H', ⟨by have := HK1.out; have := HJ7.out; omega⟩, ⟨by (with_reducible repeat (first | apply Kd.R_alloc | apply Kd.R_drewN | apply Kd.R_drew)); exact Kd.R_mono (Kd.R_far (p := ⟨gb338, 0, none⟩) (Kd.R_types HO_5.out BK338.out (by decide)) (fun _ hk => hk.2) (.slice Ao21 y346.length co21)) (fun _ hk => ⟨hk.1.2, hk.1.1⟩)⟩, ⟨by (with_reducible repeat (first | apply Kd.R_alloc | apply Kd.R_drewN | apply Kd.R_drew)); exact Kd.R_mono (Kd.R_far (p := ⟨gb338, 0, none⟩) (Kd.R_types HO348.out BK338.out (by decide)) (fun _ hk => hk.2) (.slice Ao21 y346.length co21)) (fun _ hk => ⟨hk.1.1, hk.1.2⟩)⟩, ⟨by (with_reducible repeat (first | apply Kd.R_alloc | apply Kd.R_drewN | apply Kd.R_drew)); exact Kd.R_mono (Kd.R_far (p := ⟨gb338, 0, none⟩) (Kd.R_types HO_339001.out BK338.out (by decide)) (fun _ hk => hk.2) (.slice Ao21 y346.length co21)) (fun _ hk => ⟨hk.1.1, hk.1.2⟩)⟩, ⟨by (with_reducible repeat (first | refine blk_drewN ?_ _ | refine blk_drew ?_ | refine blk_alloc ?_ _)); refine blk_far ?_ NB337_338.out _; (with_reducible repeat (first | refine blk_drewN ?_ _ | refine blk_drew ?_ | refine blk_alloc ?_ _)); exact BK337.out⟩, ⟨by (with_reducible repeat (first | refine blk_drewN ?_ _ | refine blk_drew ?_ | refine blk_alloc ?_ _)); refine blk_put (cs := #[u339000, u339001]) ?_ 0 _ rfl; (with_reducible repeat (first | refine blk_drewN ?_ _ | refine blk_drew ?_ | refine blk_alloc ?_ _)); exact BK338.out⟩, ⟨by repeat (first | (with_reducible first | exact HB.out | apply bal | apply pbN | apply bd1 | refine below_set ?_ GE337.out | refine below_set ?_ GE338.out) | exact HB.out)⟩⟩
           ·rw [if_neg c18] at H
            exact absurd H (by simp)
          ·rw [if_neg c17] at H
           exact absurd H (by simp)
         ·rw [if_neg c16] at H
          exact absurd H (by simp)
        ·rw [if_neg c15] at H
         exact absurd H (by simp)
       ·replace c14 := Bool.eq_false_iff.mpr c14
        subst c14
        have H1 : (if 0 <= x7_1 then (if x7_1 < (t339.length : Int) then (if ((rdOf ByteArray.empty t339 x7_1).size : Int) > 5 then (if 0 <= 5 then (if 5 <= ((rdOf ByteArray.empty t339 x7_1).size : Int) then (if ((rdOf ByteArray.empty t339 x7_1).extract 0 5).toList = ([104, 97, 118, 101, 32] : List UInt8) then (if x339001_1.length < 8796093022208 then (q6_Asked.l0 kj7 l0 t339 (wrap64 (x7_1 + 1)) x339000_1 (x339001_1 ++ [(rdOf ByteArray.empty t339 x7_1).extract 5 (rdOf ByteArray.empty t339 x7_1).size])) else (none)) else (q6_Asked.l0 kj7 l0 t339 (wrap64 (x7_1 + 1)) x339000_1 x339001_1)) else (none)) else (none)) else (q6_Asked.l0 kj7 l0 t339 (wrap64 (x7_1 + 1)) x339000_1 x339001_1)) else (none)) else (none)) = some (r1, r2, r3) := by rw [if_neg (show ¬ (false = true) by decide)] at H; exact H
        clear H
        have H := H1
        clear H1
        by_cases c23 : 0 <= x7_1
        ·rw [if_pos c23] at H
         have c23b0 : decide (0 <= x7_1) = true := decide_eq_true c23
         clear c23
         by_cases c24 : x7_1 < (t339.length : Int)
         ·rw [if_pos c24] at H
          have c24b0 : decide (x7_1 < (t339.length : Int)) = true := decide_eq_true c24
          clear c24
          by_cases c25 : ((rdOf ByteArray.empty t339 x7_1).size : Int) > 5
          ·rw [if_pos c25] at H
           have c25b0 : decide (5 < ((rdOf ByteArray.empty t339 x7_1).size : Int)) = true := decide_eq_true c25
           have c25b1 : decide (5 < (rdOf ByteArray.empty t339 x7_1).size) = true := decide_eq_true (by omega)
           clear c25
           by_cases c26 : 0 <= 5
           ·rw [if_pos c26] at H
            have c26b0 := eq_true c26
            have c26b1 : decide (0 <= 5) = true := decide_eq_true c26
            clear c26
            by_cases c27 : 5 <= ((rdOf ByteArray.empty t339 x7_1).size : Int)
            ·rw [if_pos c27] at H
             have c27b0 := eq_true c27
             have c27b1 : decide (5 <= ((rdOf ByteArray.empty t339 x7_1).size : Int)) = true := decide_eq_true c27
             clear c27
             by_cases c28 : ((rdOf ByteArray.empty t339 x7_1).extract 0 5).toList = ([104, 97, 118, 101, 32] : List UInt8)
             ·rw [if_pos c28] at H
              have c28b0 : (((rdOf ByteArray.empty t339 x7_1).extract 0 5).toList == ([104, 97, 118, 101, 32] : List UInt8)) = true := beq_iff_eq.mpr c28
              have c28b1 : (((rdOf ByteArray.empty t339 x7_1).extract 0 5).toList != ([104, 97, 118, 101, 32] : List UInt8)) = false := bne_eq_false_iff_eq.mpr c28
              clear c28
              have c29b0 := eq_true (of_decide_eq_true (by first | (with_reducible assumption) | assumption) : 5 <= ((rdOf ByteArray.empty t339 x7_1).size : Int))
              by_cases c30 : x339001_1.length < 8796093022208
              ·rw [if_pos c30] at H
               have LMc30 := Asd.mk c30
               clear c30
               obtain ⟨y352, hy352⟩ : ∃ y_ : List ByteArray, y_ = (x339001_1 ++ [(rdOf ByteArray.empty t339 x7_1).extract 5 (rdOf ByteArray.empty t339 x7_1).size]) := ⟨_, rfl⟩
               replace H : (q6_Asked.l0 kj7 l0 t339 (wrap64 (x7_1 + 1)) x339000_1 y352) = some (r1, r2, r3) := by first | (rw [hy352]; with_reducible exact H) | (have H2_ := (Option.bind_some _ _).symm.trans H; rw [hy352]; with_reducible exact H2_) | (have H2_ := (Option.bind_some _ _).symm.trans H; with_reducible exact H2_) | with_reducible exact H | (rw [hy352]; exact H) | exact H
               have Ny352 := Asd.mk hy352
               clear hy352
               have H' := Asd.mk H
               clear H
               have p349 : 0 <= (x7_1 : Int) := of_decide_eq_true (by first | (with_reducible assumption) | assumption)
               have q349 : x7_1 < (t339.length : Int) := of_decide_eq_true (by first | (with_reducible assumption) | assumption)
               obtain ⟨ad349, e349, hx349_0⟩ := Kd.at_string (Kd.R_reads' HO_5.out).2.2 x7_1 p349 q349
               cases e349
               replace p349 := eq_true p349
               replace q349 := eq_true q349
               have p350 : 0 <= (x7_1 : Int) := of_decide_eq_true (by first | (with_reducible assumption) | assumption)
               have q350 : x7_1 < (t339.length : Int) := of_decide_eq_true (by first | (with_reducible assumption) | assumption)
               obtain ⟨ad350, e350, hx350_0⟩ := Kd.at_string (Kd.R_reads' HO_5.out).2.2 x7_1 p350 q350
               obtain rfl : ad349 = ad350 := (by injection e350)
               replace p350 := eq_true p350
               replace q350 := eq_true q350
               try go_wp2
               have n0_ := Asd.mk (Kd.R_drew HO_5.out)
               have n1_ := Asd.mk (Kd.R_drew HO_339000.out)
               have n2_ := Asd.mk (Kd.R_drew HO_339001.out)
               have n3_ := Asd.mk (blk_drew BK337.out)
               have n4_ := Asd.mk (blk_drew BK338.out)
               have n5_ := Asd.mk (bd1 HB.out)
               clear HO_5
               clear HO_339000
               clear HO_339001
               clear BK337
               clear BK338
               clear HB
               have HO_5 := n0_
               have HO_339000 := n1_
               have HO_339001 := n2_
               have BK337 := n3_
               have BK338 := n4_
               have HB := n5_
               clear n0_ n1_ n2_ n3_ n4_ n5_
               have p351 : 0 <= (x7_1 : Int) := of_decide_eq_true (by first | (with_reducible assumption) | assumption)
               have q351 : x7_1 < (t339.length : Int) := of_decide_eq_true (by first | (with_reducible assumption) | assumption)
               obtain ⟨ad351, e351, hx351_0⟩ := Kd.at_string (Kd.R_reads' HO_5.out).2.2 x7_1 p351 q351
               obtain rfl : ad349 = ad351 := (by injection e351)
               replace p351 := eq_true p351
               replace q351 := eq_true q351
               refine start_ (n := 11) (S := fun w' => w'.cell? ⟨gb338, 0, none⟩ = some (u339000) /\ w'.cell? ⟨gb338, 1, none⟩ = some (u339001) /\ w'.cell? (ad349.add (x7_1).toNat) = some (.string (rdOf ByteArray.empty t339 x7_1))) (ds := [8, 10]) (bA 11 0) (by kernel_rfl) rfl rfl ⟨(blk_cell BK338.out 0).trans rfl, (blk_cell BK338.out 1).trans rfl, hx351_0⟩ (fun hHeld => ?_); refine with_tabW q6_Asked.tab11 q6_Asked.bits11 (fun HT_ HW_ => ?_)
               generalize wc.drew = w31 at HO_5 HO_339000 HO_339001 BK337 BK338 HB hx351_0 hHeld ⊢
               refine pure_ (i := 0) (N := some 62) (v := ?_) (a' := ?_) (bA 11 1) rfl rfl (any_of HT_.out (by kernel_rfl)) (fun _ _ _ h => h) (Or.inl ⟨by rfl, ?_⟩) ?_ ?_
               rotate_left
               ·intro w'
                go_simp
                with_reducible rfl
               rotate_left
               ·simp only [Act.put, zA, zB, zC, i64_w, i32_w]
                rfl
               refine pure_ (i := 2) (N := some 64) (v := ?_) (a' := ?_) (bA 11 5) rfl rfl (any_of HT_.out (by kernel_rfl)) (fun _ _ _ h => h) (Or.inl ⟨by rfl, ?_⟩) ?_ ?_
               rotate_left
               ·intro w'
                go_simp
                with_reducible rfl
               rotate_left
               ·simp only [Act.put, zA, zB, zC, i64_w, i32_w]
                rfl
               refine pure_ (i := 3) (N := some 65) (v := ?_) (a' := ?_) (bA 11 13) rfl rfl (any_of HT_.out (by kernel_rfl)) (fun _ _ _ h => h) (Or.inl ⟨by rfl, ?_⟩) ?_ ?_
               rotate_left
               ·intro w'
                go_simp
                with_reducible rfl
               rotate_left
               ·simp only [Act.put, zA, zB, zC, i64_w, i32_w]
                rfl
               refine pure_ (i := 4) (N := some 66) (v := ?_) (a' := ?_) (bA 11 29) rfl rfl (any_of HT_.out (by kernel_rfl)) (fun _ _ _ h => h) (Or.inl ⟨by rfl, ?_⟩) ?_ ?_
               rotate_left
               ·intro w'
                go_simp
                with_reducible rfl
               rotate_left
               ·simp only [Act.put, zA, zB, zC, i64_w, i32_w]
                rfl
               refine take_ (i := 1) (N := some 63) (v := ?_) (a' := ?_) (bA 11 31) rfl rfl (take_ofW HT_.out HW_.out (by kernel_rfl)) (fun _ _ _ h => h) (Or.inl ⟨by rfl, ?_⟩) hHeld ?_ ?_
               rotate_left
               ·rintro w' ⟨s0, s1, s2⟩
                go_simp
                with_reducible rfl
               rotate_left
               ·simp only [Act.put, zA, zB, zC, i64_w, i32_w]
                rfl
               refine take_ (i := 5) (N := some 67) (v := ?_) (a' := ?_) (bA 11 63) rfl rfl (take_ofW HT_.out HW_.out (by kernel_rfl)) (fun _ _ _ h => h) (Or.inl ⟨by rfl, ?_⟩) hHeld ?_ ?_
               rotate_left
               ·rintro w' ⟨s0, s1, s2⟩
                go_simp
                with_reducible rfl
               rotate_left
               ·simp only [Act.put, zA, zB, zC, i64_w, i32_w]
                rfl
               refine pure_ (i := 6) (N := some 68) (v := ?_) (a' := ?_) (bA 11 127) rfl rfl (any_of HT_.out (by kernel_rfl)) (fun _ _ _ h => h) (Or.inl ⟨by rfl, ?_⟩) ?_ ?_
               rotate_left
               ·intro w'
                go_simp
                with_reducible rfl
               rotate_left
               ·simp only [Act.put, zA, zB, zC, i64_w, i32_w]
                rfl
               refine one_ (i := 7) (N := some 69) (bA 11 255) rfl rfl (one_of HT_.out (by kernel_rfl)) (by decide) (fun K hK => ?_)
               refine value_ (w1 := ?_) (v := ?_) (by rfl) rfl ?_ ?_
               rotate_left 2
               ·go_simp
                constructor
                ·rfl
                ·rfl
               refine hK.out _ _ ⟨(blk_cell (blk_alloc BK338.out _) 0).trans rfl, (blk_cell (blk_alloc BK338.out _) 1).trans rfl, (World.cell?_alloc_lt _ _ _ (World.block_lt_of_cell? _ _ (hHeld.2.2))).trans (hHeld.2.2)⟩ (fun hHeld => ?_)
               clear hK K
               refine norm_ (a' := ?_) ?_ ?_
               rotate_left
               ·show Act.put _ (some 69) _ = _
                simp only [Act.put, zA, zB, zC, i64_w, i32_w]
                rfl
               refine last_ (i := 8) (N := some 70) (bA 11 511) rfl rfl (one_of HT_.out (by kernel_rfl)) (by decide) (fun K hK => ?_)
               refine Kd.R_append_step Kd.string (w0 := w) w.heap.size (by rfl) (.tmp 63) (.tmp 69) 23 9 (.string ⟨#[]⟩) 16 rfl Tryd.underlying23 info9 rfl (by decide) (by omega) u339001 x339001_1 ((rdOf ByteArray.empty t339 x7_1).extract 5 (rdOf ByteArray.empty t339 x7_1).size) [.string ((rdOf ByteArray.empty t339 x7_1).extract 5 (rdOf ByteArray.empty t339 x7_1).size)] (fun k_ => some k_ ≠ (.slice (some ad349) t339.length co9 : Value).ownBlock /\ some k_ ≠ (u339000 : Value).ownBlock) (fun _ => False) rfl rfl ?aP (fun _ hk => hk.elim) ?aF ?aO ?aB ?aS ?aL ?_
               (case aP => exact rfl)
               (case aB => exact (by repeat (first | (with_reducible first | exact HB.out | apply bal | apply pbN | apply bd1 | refine below_set ?_ GE337.out | refine below_set ?_ GE338.out) | exact HB.out)))
               (case aF => exact (fun k_ hk => ⟨Kd.fresh' (Kd.R_lt (by (with_reducible repeat (first | apply Kd.R_alloc | apply Kd.R_drewN | apply Kd.R_drew)); exact HO_5.out)) k_ hk, Kd.fresh' (Kd.R_lt (by (with_reducible repeat (first | apply Kd.R_alloc | apply Kd.R_drewN | apply Kd.R_drew)); exact HO_339000.out)) k_ hk⟩))
               (case aO => exact (by (with_reducible repeat (first | apply Kd.R_alloc | apply Kd.R_drewN | apply Kd.R_drew)); exact HO_339001.out))
               (case aS => exact (below_size (by repeat (first | (with_reducible first | exact HB.out | apply bal | apply pbN | apply bd1 | refine below_set ?_ GE337.out | refine below_set ?_ GE338.out) | exact HB.out))))
               (case aL => have := LMc30.out; omega)
               intro v353 w32 ho hb hg hat
               rw [<- Ny352.out] at ho
               have n0_ := Asd.mk (Kd.R_after (ok := (fun k_ => some k_ ≠ (u339000 : Value).ownBlock)) (by (with_reducible repeat (first | apply Kd.R_alloc | apply Kd.R_drewN | apply Kd.R_drew)); exact HO_5.out) hg hat)
               have n1_ := Asd.mk (Kd.R_after (ok := (fun k_ => some k_ ≠ (.slice (some ad349) t339.length co9 : Value).ownBlock)) (by (with_reducible repeat (first | apply Kd.R_alloc | apply Kd.R_drewN | apply Kd.R_drew)); exact HO_339000.out) hg hat)
               have n2_ := Asd.mk (blk_grown (g := gb337) (o := .cells #[.slice none 0 0, .slice none 0 0] 25 (0, 0)) (by (with_reducible repeat (first | refine blk_drewN ?_ _ | refine blk_drew ?_ | refine blk_alloc ?_ _)); exact BK337.out) hg (Kd.R_ne HO_339001.out BK337.out (by decide)))
               have n3_ := Asd.mk (blk_grown (g := gb338) (o := .cells #[u339000, u339001] 25 (0, 0)) (by (with_reducible repeat (first | refine blk_drewN ?_ _ | refine blk_drew ?_ | refine blk_alloc ?_ _)); exact BK338.out) hg (Kd.R_ne HO_339001.out BK338.out (by decide)))
               have n4_ := Asd.mk (hb)
               have n5_ := Asd.mk (ho)
               clear HO_5
               clear HO_339000
               clear BK337
               clear BK338
               clear HB
               clear HO_339001
               have HO_5 := n0_
               have HO_339000 := n1_
               have BK337 := n2_
               have BK338 := n3_
               have HB := n4_
               have HO354 := n5_
               clear n0_ n1_ n2_ n3_ n4_ n5_
               clear ho hb hg hat
               obtain ⟨Ao33, co33, eo33⟩ := Kd.R_slice HO354.out
               (first | subst eo33 | (injection eo33 with f1_ f2_ f3_; have f4_ := f1_.symm; have f5_ := f3_.symm; clear f1_ f2_ f3_; subst f4_; subst f5_))
               refine hK.out _ _ ?_
               clear hK K
               refine norm_ (a' := ?_) ?_ ?_
               rotate_left
               ·show Act.put _ (some 70) _ = _
                simp only [Act.put, zA, zB, zC, i64_w, i32_w]
                rfl
               refine pure_ (i := 9) (N := some 71) (v := ?_) (a' := ?_) (bA 11 1023) rfl rfl (any_of HT_.out (by kernel_rfl)) (fun _ _ _ h => h) (Or.inl ⟨by rfl, ?_⟩) ?_ ?_
               rotate_left
               ·intro w'
                go_simp
                with_reducible rfl
               rotate_left
               ·simp only [Act.put, zA, zB, zC, i64_w, i32_w]
                rfl
               refine last_ (i := 10) (N := none) (bA 11 2047) rfl rfl (one_of HT_.out (by kernel_rfl)) (by decide) (fun K hK => ?_)
               have hs34 : w32.cell? ⟨gb338, 1, none⟩ = some (u339001) := (blk_cell BK338.out 1).trans rfl
               have hfs34 := blk_frozen BK338.out 1
               have hns34_0 := NB337_338.out
               have hms34_0 := NB338_337.out
               refine skip_ (w1 := ?_) (by rfl) rfl ?_ ?_
               rotate_left
               ·go_simp
                rfl
               refine hK.out _ _ ?_
               clear hK K
               refine done_ (done_of HT_.out (by kernel_rfl)) ?_
               try go_wp2
               go_roundg kj7
               case measure => have := HK1.out; have := HJ7.out; omega
               case rel => exact ⟨(wrap64 (x7_1 + 1)), (x339000_1), (y352), (u339000), (.slice Ao33 y352.length co33), (by first | rfl | (simp; done) | (simp [*]; done)), H', ⟨by have := HK1.out; have := HJ7.out; omega⟩, ⟨by (with_reducible repeat (first | apply Kd.R_alloc | apply Kd.R_drewN | apply Kd.R_drew)); exact Kd.R_mono (Kd.R_far (p := ⟨gb338, 1, none⟩) (Kd.R_types HO_5.out BK338.out (by decide)) (fun _ hk => hk.2) (.slice Ao33 y352.length co33)) (fun _ hk => ⟨hk.1.1, hk.1.2⟩)⟩, ⟨by (with_reducible repeat (first | apply Kd.R_alloc | apply Kd.R_drewN | apply Kd.R_drew)); exact Kd.R_mono (Kd.R_far (p := ⟨gb338, 1, none⟩) (Kd.R_types HO_339000.out BK338.out (by decide)) (fun _ hk => hk.2) (.slice Ao33 y352.length co33)) (fun _ hk => ⟨hk.1.1, hk.1.2⟩)⟩, ⟨by (with_reducible repeat (first | apply Kd.R_alloc | apply Kd.R_drewN | apply Kd.R_drew)); exact Kd.R_mono (Kd.R_far (p := ⟨gb338, 1, none⟩) (Kd.R_types HO354.out BK338.out (by decide)) (fun _ hk => hk.2) (.slice Ao33 y352.length co33)) (fun _ hk => ⟨hk.1.1, hk.1.2⟩)⟩, ⟨by (with_reducible repeat (first | refine blk_drewN ?_ _ | refine blk_drew ?_ | refine blk_alloc ?_ _)); refine blk_far ?_ NB337_338.out _; (with_reducible repeat (first | refine blk_drewN ?_ _ | refine blk_drew ?_ | refine blk_alloc ?_ _)); exact BK337.out⟩, ⟨by (with_reducible repeat (first | refine blk_drewN ?_ _ | refine blk_drew ?_ | refine blk_alloc ?_ _)); refine blk_put (cs := #[u339000, u339001]) ?_ 1 _ rfl; (with_reducible repeat (first | refine blk_drewN ?_ _ | refine blk_drew ?_ | refine blk_alloc ?_ _)); exact BK338.out⟩, ⟨by repeat (first | (with_reducible first | exact HB.out | apply bal | apply pbN | apply bd1 | refine below_set ?_ GE337.out | refine below_set ?_ GE338.out) | exact HB.out)⟩⟩
              ·rw [if_neg c30] at H
               exact absurd H (by simp)
             ·rw [if_neg c28] at H
              have c28b0 : (((rdOf ByteArray.empty t339 x7_1).extract 0 5).toList == ([104, 97, 118, 101, 32] : List UInt8)) = false := beq_eq_false_iff_ne.mpr c28
              have c28b1 : (((rdOf ByteArray.empty t339 x7_1).extract 0 5).toList != ([104, 97, 118, 101, 32] : List UInt8)) = true := bne_iff_ne.mpr c28
              have H' := Asd.mk H
              clear H
              have p349 : 0 <= (x7_1 : Int) := of_decide_eq_true (by first | (with_reducible assumption) | assumption)
              have q349 : x7_1 < (t339.length : Int) := of_decide_eq_true (by first | (with_reducible assumption) | assumption)
              obtain ⟨ad349, e349, hx349_0⟩ := Kd.at_string (Kd.R_reads' HO_5.out).2.2 x7_1 p349 q349
              cases e349
              replace p349 := eq_true p349
              replace q349 := eq_true q349
              have p350 : 0 <= (x7_1 : Int) := of_decide_eq_true (by first | (with_reducible assumption) | assumption)
              have q350 : x7_1 < (t339.length : Int) := of_decide_eq_true (by first | (with_reducible assumption) | assumption)
              obtain ⟨ad350, e350, hx350_0⟩ := Kd.at_string (Kd.R_reads' HO_5.out).2.2 x7_1 p350 q350
              obtain rfl : ad349 = ad350 := (by injection e350)
              replace p350 := eq_true p350
              replace q350 := eq_true q350
              go_wp2
              go_roundg kj7
              case measure => have := HK1.out; have := HJ7.out; omega
              case rel => exact ⟨(wrap64 (x7_1 + 1)), (x339000_1), (x339001_1), (u339000), (u339001), (by first | rfl | (simp; done) | (simp [*]; done)), H', ⟨by have := HK1.out; have := HJ7.out; omega⟩, ⟨by (with_reducible repeat (first | apply Kd.R_alloc | apply Kd.R_drewN | apply Kd.R_drew)); exact HO_5.out⟩, ⟨by (with_reducible repeat (first | apply Kd.R_alloc | apply Kd.R_drewN | apply Kd.R_drew)); exact HO_339000.out⟩, ⟨by (with_reducible repeat (first | apply Kd.R_alloc | apply Kd.R_drewN | apply Kd.R_drew)); exact HO_339001.out⟩, ⟨by (with_reducible repeat (first | refine blk_drewN ?_ _ | refine blk_drew ?_ | refine blk_alloc ?_ _)); exact BK337.out⟩, ⟨by (with_reducible repeat (first | refine blk_drewN ?_ _ | refine blk_drew ?_ | refine blk_alloc ?_ _)); exact BK338.out⟩, ⟨by repeat (first | (with_reducible first | exact HB.out | apply bal | apply pbN | apply bd1 | refine below_set ?_ GE337.out | refine below_set ?_ GE338.out) | exact HB.out)⟩⟩
            ·rw [if_neg c27] at H
             exact absurd H (by simp)
           ·rw [if_neg c26] at H
            exact absurd H (by simp)
          ·rw [if_neg c25] at H
           have c25b0 : decide (5 < ((rdOf ByteArray.empty t339 x7_1).size : Int)) = false := decide_eq_false c25
           have c25b1 : decide (5 < (rdOf ByteArray.empty t339 x7_1).size) = false := decide_eq_false (by omega)
           clear c25
           have H' := Asd.mk H
           clear H
           have p349 : 0 <= (x7_1 : Int) := of_decide_eq_true (by first | (with_reducible assumption) | assumption)
           have q349 : x7_1 < (t339.length : Int) := of_decide_eq_true (by first | (with_reducible assumption) | assumption)
           obtain ⟨ad349, e349, hx349_0⟩ := Kd.at_string (Kd.R_reads' HO_5.out).2.2 x7_1 p349 q349
           cases e349
           replace p349 := eq_true p349
           replace q349 := eq_true q349
           go_wp2
           go_roundg kj7
           case measure => have := HK1.out; have := HJ7.out; omega
           case rel => exact ⟨(wrap64 (x7_1 + 1)), (x339000_1), (x339001_1), (u339000), (u339001), (by first | rfl | (simp; done) | (simp [*]; done)), H', ⟨by have := HK1.out; have := HJ7.out; omega⟩, ⟨by (with_reducible repeat (first | apply Kd.R_alloc | apply Kd.R_drewN | apply Kd.R_drew)); exact HO_5.out⟩, ⟨by (with_reducible repeat (first | apply Kd.R_alloc | apply Kd.R_drewN | apply Kd.R_drew)); exact HO_339000.out⟩, ⟨by (with_reducible repeat (first | apply Kd.R_alloc | apply Kd.R_drewN | apply Kd.R_drew)); exact HO_339001.out⟩, ⟨by (with_reducible repeat (first | refine blk_drewN ?_ _ | refine blk_drew ?_ | refine blk_alloc ?_ _)); exact BK337.out⟩, ⟨by (with_reducible repeat (first | refine blk_drewN ?_ _ | refine blk_drew ?_ | refine blk_alloc ?_ _)); exact BK338.out⟩, ⟨by repeat (first | (with_reducible first | exact HB.out | apply bal | apply pbN | apply bd1 | refine below_set ?_ GE337.out | refine below_set ?_ GE338.out) | exact HB.out)⟩⟩
         ·rw [if_neg c24] at H
          exact absurd H (by simp)
        ·rw [if_neg c23] at H
         exact absurd H (by simp)
    ·rw [if_neg c7] at H
     have c7b0 : decide (x7_1 < (t339.length : Int)) = false := decide_eq_false c7
     clear c7
     replace H := Option.bind_eq_some_iff.mp H
     obtain ⟨⟨t355, t358⟩, A350, H⟩ := H
     replace H : (if t358 = true then ((q5_Same.f k1 t355 l0).bind fun t359 => (if t359 = true then (some (x339000_1, x339001_1, true)) else (some (([] : List ByteArray), ([] : List ByteArray), false)))) else (some (([] : List ByteArray), ([] : List ByteArray), false))) = some (r1, r2, r3) := H
     have A35 := Asd.mk A350
     clear A350
     by_cases c36 : t358 = true
     ·subst c36
      have H1 : ((q5_Same.f k1 t355 l0).bind fun t359 => (if t359 = true then (some (x339000_1, x339001_1, true)) else (some (([] : List ByteArray), ([] : List ByteArray), false)))) = some (r1, r2, r3) := by rw [if_pos rfl] at H; exact H
      clear H
      have H := H1
      clear H1
      replace H := Option.bind_eq_some_iff.mp H
      obtain ⟨t359, A370, H⟩ := H
      replace H : (if t359 = true then (some (x339000_1, x339001_1, true)) else (some (([] : List ByteArray), ([] : List ByteArray), false))) = some (r1, r2, r3) := H
      have A37 := Asd.mk A370
      clear A370
      by_cases c38 : t359 = true
      ·subst c38
       have H1 : (some (x339000_1, x339001_1, true)) = some (r1, r2, r3) := by rw [if_pos rfl] at H; exact H
       clear H
       have H := H1
       clear H1
       simp only [Option.some.injEq, Prod.mk.injEq] at H
       obtain ⟨rfl, rfl, rfl⟩ := H
       obtain ⟨Ao39, co39, eo39⟩ := Kd.R_slice HO_5.out
       subst eo39
       have hnb40 := NB338_337.out
       have hnc40 := NB337_338.out
       have hcz41_0 : wr.cell? ⟨gb338, 0, none⟩ = some (u339000) := (blk_cell BK338.out 0).trans rfl
       have hcz41_1 : wr.cell? ⟨gb338, 1, none⟩ = some (u339001) := (blk_cell BK338.out 1).trans rfl
       have hfz41_0 := blk_frozen BK338.out 0
       have hfz41_1 := blk_frozen BK338.out 1
       obtain ⟨Ao42, co42, eo42⟩ := Kd.R_slice HO_339000.out
       subst eo42
       obtain ⟨Ao43, co43, eo43⟩ := Kd.R_slice HO_339001.out
       subst eo43
       go_wp2_with (first | ((with_reducible refine gate_callee (f := 16) rfl ?_); refine goesL_ (some 74) rfl rfl Tryd.func16 (by kernel_rfl) rfl #[.agg #[.slice Ao42 x339000_1.length co42, .slice Ao43 x339001_1.length co43]] rfl (by (try simp only [List.map_toArray, List.map_cons, List.map_nil]); first | done | rfl | (simp only [List.length_drop, List.length_take]; rfl)) ?_; (with_reducible refine (q6_Ask.calls k1 _ _ x339000_1 _ _ x339001_1 t355 true _ ?side1 ?side2 ?side3 ?side4 A35.out).mono ?_); (case side1 => repeat (first | exact (Kd.R_reads' HO_339000.out).2.2 | (with_reducible refine Kd.C_alloc ?_ _) | (with_reducible refine Kd.C_drewN ?_ _) | (with_reducible refine Kd.C_drew ?_))); (case side2 => exact (Kd.R_reads' HO_339000.out).2.1); (case side3 => repeat (first | exact (Kd.R_reads' HO_339001.out).2.2 | (with_reducible refine Kd.C_alloc ?_ _) | (with_reducible refine Kd.C_drewN ?_ _) | (with_reducible refine Kd.C_drew ?_))); (case side4 => exact (Kd.R_reads' HO_339001.out).2.1); rintro e w44 ⟨v356, rfl, ho0, hb⟩; refine ⟨_, rfl, ?_⟩; have n0_ := Asd.mk (Kd.R_below (by (with_reducible repeat (first | apply Kd.R_alloc | apply Kd.R_drewN | apply Kd.R_drew)); exact HO_5.out) hb); have n1_ := Asd.mk (Kd.R_below (by (with_reducible repeat (first | apply Kd.R_alloc | apply Kd.R_drewN | apply Kd.R_drew)); exact HO_339000.out) hb); have n2_ := Asd.mk (Kd.R_below (by (with_reducible repeat (first | apply Kd.R_alloc | apply Kd.R_drewN | apply Kd.R_drew)); exact HO_339001.out) hb); have n3_ := Asd.mk (Kd.R_lower ho0 (below_size (by repeat (first | (with_reducible first | exact HB.out | apply bal | apply pbN | apply bd1 | refine below_set ?_ GE337.out | refine below_set ?_ GE338.out) | exact HB.out)))); have n4_ := Asd.mk (blk_below (g := gb337) (o := .cells #[.slice none 0 0, .slice none 0 0] 25 (0, 0)) (by (with_reducible repeat (first | refine blk_drewN ?_ _ | refine blk_drew ?_ | refine blk_alloc ?_ _)); exact BK337.out) hb); have n5_ := Asd.mk (blk_below (g := gb338) (o := .cells #[.slice Ao42 x339000_1.length co42, .slice Ao43 x339001_1.length co43] 25 (0, 0)) (by (with_reducible repeat (first | refine blk_drewN ?_ _ | refine blk_drew ?_ | refine blk_alloc ?_ _)); exact BK338.out) hb); have n6_ := Asd.mk (below_step (by repeat (first | (with_reducible first | exact HB.out | apply bal | apply pbN | apply bd1 | refine below_set ?_ GE337.out | refine below_set ?_ GE338.out) | exact HB.out)) hb); clear HO_5; clear HO_339000; clear HO_339001; clear BK337; clear BK338; clear HB; have HO_5 := n0_; have HO_339000 := n1_; have HO_339001 := n2_; have HO357 := n3_; have BK337 := n4_; have BK338 := n5_; have HB := n6_; clear n0_ n1_ n2_ n3_ n4_ n5_ n6_; (try clear hb); (try clear hb2); (try clear hk); (try clear hi); (try clear ho0); obtain ⟨Ao45, co45, eo45⟩ := Kd.R_slice HO357.out; subst eo45) | (go_at_call 19; (with_reducible refine (q5_Same.calls k1 _ _ t355 _ _ l0 true _ ?side1 ?side2 ?side3 ?side4 A37.out).mono ?_); (case side1 => repeat (first | exact (Kd.R_reads' HO357.out).2.2 | (with_reducible refine Kd.C_alloc ?_ _) | (with_reducible refine Kd.C_drewN ?_ _) | (with_reducible refine Kd.C_drew ?_))); (case side2 => exact (Kd.R_reads' HO357.out).2.1); (case side3 => repeat (first | exact (Kd.C_below HR0.out HB.out) | (with_reducible refine Kd.C_alloc ?_ _) | (with_reducible refine Kd.C_drewN ?_ _) | (with_reducible refine Kd.C_drew ?_))); (case side4 => exact HC0.out); rintro e w' ⟨rfl, ⟨nd, rfl⟩⟩; (try (rw [drewN_self w44]; generalize hq_ : World.drewN w44 _ = w44; have n0_ : Asd (Kd.R k49 49 w44 w.heap.size (fun _ => True) (.slice Ao45 t355.length co45) t355) := ⟨by rw [<- hq_]; exact (by (with_reducible repeat (first | apply Kd.R_alloc | apply Kd.R_drewN | apply Kd.R_drew)); exact HO357.out)⟩; have n1_ : Asd (Kd.R Kd.string 9 w44 w.heap.size (fun k_ => some k_ ≠ (.slice Ao43 x339001_1.length co43 : Value).ownBlock /\ some k_ ≠ (.slice Ao39 t339.length co39 : Value).ownBlock) (.slice Ao42 x339000_1.length co42) x339000_1) := ⟨by rw [<- hq_]; exact (by (with_reducible repeat (first | apply Kd.R_alloc | apply Kd.R_drewN | apply Kd.R_drew)); exact Kd.R_mono HO_339000.out (fun _ hk => ⟨hk.2, hk.1⟩))⟩; have n2_ : Asd (Kd.R Kd.string 9 w44 w.heap.size (fun k_ => some k_ ≠ (.slice Ao42 x339000_1.length co42 : Value).ownBlock /\ some k_ ≠ (.slice Ao39 t339.length co39 : Value).ownBlock) (.slice Ao43 x339001_1.length co43) x339001_1) := ⟨by rw [<- hq_]; exact (by (with_reducible repeat (first | apply Kd.R_alloc | apply Kd.R_drewN | apply Kd.R_drew)); exact Kd.R_mono HO_339001.out (fun _ hk => ⟨hk.2, hk.1⟩))⟩; have n3_ : Asd (Kd.R Kd.string 9 w44 w.heap.size (fun k_ => some k_ ≠ (.slice Ao42 x339000_1.length co42 : Value).ownBlock /\ some k_ ≠ (.slice Ao43 x339001_1.length co43 : Value).ownBlock) (.slice Ao39 t339.length co39) t339) := ⟨by rw [<- hq_]; exact (by (with_reducible repeat (first | apply Kd.R_alloc | apply Kd.R_drewN | apply Kd.R_drew)); exact HO_5.out)⟩; have n4_ : Asd (w44.heap[gb337]? = some (.cells #[.slice none 0 0, .slice none 0 0] 25 (0, 0))) := ⟨by rw [<- hq_]; exact (by (with_reducible repeat (first | refine blk_drewN ?_ _ | refine blk_drew ?_ | refine blk_alloc ?_ _)); exact BK337.out)⟩; have n5_ : Asd (w44.heap[gb338]? = some (.cells #[.slice Ao42 x339000_1.length co42, .slice Ao43 x339001_1.length co43] 25 (0, 0))) := ⟨by rw [<- hq_]; exact (by (with_reducible repeat (first | refine blk_drewN ?_ _ | refine blk_drew ?_ | refine blk_alloc ?_ _)); exact BK338.out)⟩; have n6_ : Asd (Below w.heap.size w w44) := ⟨by rw [<- hq_]; exact (by repeat (first | (with_reducible first | exact HB.out | apply bal | apply pbN | apply bd1 | refine below_set ?_ GE337.out | refine below_set ?_ GE338.out) | exact HB.out))⟩; clear HO357 HO_339000 HO_339001 HO_5 BK337 BK338 HB hq_; have HO357 := n0_; have HO_339000 := n1_; have HO_339001 := n2_; have HO_5 := n3_; have BK337 := n4_; have BK338 := n5_; have HB := n6_; clear n0_ n1_ n2_ n3_ n4_ n5_ n6_)); have hcz46_0 : w44.cell? ⟨gb338, 0, none⟩ = some (.slice Ao42 x339000_1.length co42) := (blk_cell BK338.out 0).trans rfl; have hcz46_1 : w44.cell? ⟨gb338, 1, none⟩ = some (.slice Ao43 x339001_1.length co43) := (blk_cell BK338.out 1).trans rfl; have hfz46_0 := blk_frozen BK338.out 0; have hfz46_1 := blk_frozen BK338.out 1; have hcz47_0 : w44.cell? ⟨gb337, 0, none⟩ = some (.slice none 0 0) := (blk_cell BK337.out 0).trans rfl; have hcz47_1 : w44.cell? ⟨gb337, 1, none⟩ = some (.slice none 0 0) := (blk_cell BK337.out 1).trans rfl; have hfz47_0 := blk_frozen BK337.out 0; have hfz47_1 := blk_frozen BK337.out 1))
       refine bodyPost_ret (results_ct rfl _ _ gb337 25 #[.slice Ao42 x339000_1.length co42, .slice Ao43 x339001_1.length co43] (0, 0) _ rfl (by (with_reducible repeat (first | refine blk_drewN ?_ _ | refine blk_drew ?_ | refine blk_alloc ?_ _)); refine blk_put (cs := #[.slice Ao42 x339000_1.length co42, .slice none 0 0]) ?_ 1 _ rfl; (with_reducible repeat (first | refine blk_drewN ?_ _ | refine blk_drew ?_ | refine blk_alloc ?_ _)); refine blk_put (cs := #[.slice none 0 0, .slice none 0 0]) ?_ 0 _ rfl; (with_reducible repeat (first | refine blk_drewN ?_ _ | refine blk_drew ?_ | refine blk_alloc ?_ _)); exact BK337.out) Tryd.underlying25 rfl (by kernel_rfl)) rfl ?_
       exact ⟨_, _, by first | rfl | (simp [errW_none, errW_some] <;> rfl) | (simp [*, errW_none, errW_some] <;> rfl), by (with_reducible repeat (first | apply Kd.R_alloc | apply Kd.R_drewN | apply Kd.R_drew)); exact Kd.R_mono (Kd.R_far (p := ⟨gb337, 1, none⟩) (Kd.R_far (p := ⟨gb337, 0, none⟩) (Kd.R_types HO_339000.out BK337.out (by decide)) (fun _ hk => hk.2) (.slice Ao42 x339000_1.length co42)) (fun _ hk => hk.2) (.slice Ao43 x339001_1.length co43)) (fun _ hk => by first | exact hk.1.2 | exact hk.1.1 | exact hk.1.2 | exact hk.1.1.1 | exact hk.1.1.2 | exact hk.1.2.1 | exact hk.1.2.2 | exact hk.2), by (with_reducible repeat (first | apply Kd.R_alloc | apply Kd.R_drewN | apply Kd.R_drew)); exact Kd.R_mono (Kd.R_far (p := ⟨gb337, 1, none⟩) (Kd.R_far (p := ⟨gb337, 0, none⟩) (Kd.R_types HO_339001.out BK337.out (by decide)) (fun _ hk => hk.2) (.slice Ao42 x339000_1.length co42)) (fun _ hk => hk.2) (.slice Ao43 x339001_1.length co43)) (fun _ hk => by first | exact hk.1.2 | exact hk.1.1 | exact hk.1.2 | exact hk.1.1.1 | exact hk.1.1.2 | exact hk.1.2.1 | exact hk.1.2.2 | exact hk.2), by repeat (first | (with_reducible first | exact HB.out | apply bal | apply pbN | apply bd1 | refine below_set ?_ GE337.out | refine below_set ?_ GE338.out) | exact HB.out)⟩
      ·replace c38 := Bool.eq_false_iff.mpr c38
       subst c38
       have H1 : (some (([] : List ByteArray), ([] : List ByteArray), false)) = some (r1, r2, r3) := by rw [if_neg (show ¬ (false = true) by decide)] at H; exact H
       clear H
       have H := H1
       clear H1
       simp only [Option.some.injEq, Prod.mk.injEq] at H
       obtain ⟨rfl, rfl, rfl⟩ := H
       obtain ⟨Ao48, co48, eo48⟩ := Kd.R_slice HO_5.out
       subst eo48
       have hnb49 := NB338_337.out
       have hnc49 := NB337_338.out
       have hcz50_0 : wr.cell? ⟨gb338, 0, none⟩ = some (u339000) := (blk_cell BK338.out 0).trans rfl
       have hcz50_1 : wr.cell? ⟨gb338, 1, none⟩ = some (u339001) := (blk_cell BK338.out 1).trans rfl
       have hfz50_0 := blk_frozen BK338.out 0
       have hfz50_1 := blk_frozen BK338.out 1
       obtain ⟨Ao51, co51, eo51⟩ := Kd.R_slice HO_339000.out
       subst eo51
       obtain ⟨Ao52, co52, eo52⟩ := Kd.R_slice HO_339001.out
       subst eo52
       go_wp2_with (first | ((with_reducible refine gate_callee (f := 16) rfl ?_); refine goesL_ (some 74) rfl rfl Tryd.func16 (by kernel_rfl) rfl #[.agg #[.slice Ao51 x339000_1.length co51, .slice Ao52 x339001_1.length co52]] rfl (by (try simp only [List.map_toArray, List.map_cons, List.map_nil]); first | done | rfl | (simp only [List.length_drop, List.length_take]; rfl)) ?_; (with_reducible refine (q6_Ask.calls k1 _ _ x339000_1 _ _ x339001_1 t355 true _ ?side1 ?side2 ?side3 ?side4 A35.out).mono ?_); (case side1 => repeat (first | exact (Kd.R_reads' HO_339000.out).2.2 | (with_reducible refine Kd.C_alloc ?_ _) | (with_reducible refine Kd.C_drewN ?_ _) | (with_reducible refine Kd.C_drew ?_))); (case side2 => exact (Kd.R_reads' HO_339000.out).2.1); (case side3 => repeat (first | exact (Kd.R_reads' HO_339001.out).2.2 | (with_reducible refine Kd.C_alloc ?_ _) | (with_reducible refine Kd.C_drewN ?_ _) | (with_reducible refine Kd.C_drew ?_))); (case side4 => exact (Kd.R_reads' HO_339001.out).2.1); rintro e w53 ⟨v356, rfl, ho0, hb⟩; refine ⟨_, rfl, ?_⟩; have n0_ := Asd.mk (Kd.R_below (by (with_reducible repeat (first | apply Kd.R_alloc | apply Kd.R_drewN | apply Kd.R_drew)); exact HO_5.out) hb); have n1_ := Asd.mk (Kd.R_below (by (with_reducible repeat (first | apply Kd.R_alloc | apply Kd.R_drewN | apply Kd.R_drew)); exact HO_339000.out) hb); have n2_ := Asd.mk (Kd.R_below (by (with_reducible repeat (first | apply Kd.R_alloc | apply Kd.R_drewN | apply Kd.R_drew)); exact HO_339001.out) hb); have n3_ := Asd.mk (Kd.R_lower ho0 (below_size (by repeat (first | (with_reducible first | exact HB.out | apply bal | apply pbN | apply bd1 | refine below_set ?_ GE337.out | refine below_set ?_ GE338.out) | exact HB.out)))); have n4_ := Asd.mk (blk_below (g := gb337) (o := .cells #[.slice none 0 0, .slice none 0 0] 25 (0, 0)) (by (with_reducible repeat (first | refine blk_drewN ?_ _ | refine blk_drew ?_ | refine blk_alloc ?_ _)); exact BK337.out) hb); have n5_ := Asd.mk (blk_below (g := gb338) (o := .cells #[.slice Ao51 x339000_1.length co51, .slice Ao52 x339001_1.length co52] 25 (0, 0)) (by (with_reducible repeat (first | refine blk_drewN ?_ _ | refine blk_drew ?_ | refine blk_alloc ?_ _)); exact BK338.out) hb); have n6_ := Asd.mk (below_step (by repeat (first | (with_reducible first | exact HB.out | apply bal | apply pbN | apply bd1 | refine below_set ?_ GE337.out | refine below_set ?_ GE338.out) | exact HB.out)) hb); clear HO_5; clear HO_339000; clear HO_339001; clear BK337; clear BK338; clear HB; have HO_5 := n0_; have HO_339000 := n1_; have HO_339001 := n2_; have HO357 := n3_; have BK337 := n4_; have BK338 := n5_; have HB := n6_; clear n0_ n1_ n2_ n3_ n4_ n5_ n6_; (try clear hb); (try clear hb2); (try clear hk); (try clear hi); (try clear ho0); obtain ⟨Ao54, co54, eo54⟩ := Kd.R_slice HO357.out; subst eo54) | (go_at_call 19; (with_reducible refine (q5_Same.calls k1 _ _ t355 _ _ l0 false _ ?side1 ?side2 ?side3 ?side4 A37.out).mono ?_); (case side1 => repeat (first | exact (Kd.R_reads' HO357.out).2.2 | (with_reducible refine Kd.C_alloc ?_ _) | (with_reducible refine Kd.C_drewN ?_ _) | (with_reducible refine Kd.C_drew ?_))); (case side2 => exact (Kd.R_reads' HO357.out).2.1); (case side3 => repeat (first | exact (Kd.C_below HR0.out HB.out) | (with_reducible refine Kd.C_alloc ?_ _) | (with_reducible refine Kd.C_drewN ?_ _) | (with_reducible refine Kd.C_drew ?_))); (case side4 => exact HC0.out); rintro e w' ⟨rfl, ⟨nd, rfl⟩⟩; (try (rw [drewN_self w53]; generalize hq_ : World.drewN w53 _ = w53; have n0_ : Asd (Kd.R k49 49 w53 w.heap.size (fun _ => True) (.slice Ao54 t355.length co54) t355) := ⟨by rw [<- hq_]; exact (by (with_reducible repeat (first | apply Kd.R_alloc | apply Kd.R_drewN | apply Kd.R_drew)); exact HO357.out)⟩; have n1_ : Asd (Kd.R Kd.string 9 w53 w.heap.size (fun k_ => some k_ ≠ (.slice Ao52 x339001_1.length co52 : Value).ownBlock /\ some k_ ≠ (.slice Ao48 t339.length co48 : Value).ownBlock) (.slice Ao51 x339000_1.length co51) x339000_1) := ⟨by rw [<- hq_]; exact (by (with_reducible repeat (first | apply Kd.R_alloc | apply Kd.R_drewN | apply Kd.R_drew)); exact Kd.R_mono HO_339000.out (fun _ hk => ⟨hk.2, hk.1⟩))⟩; have n2_ : Asd (Kd.R Kd.string 9 w53 w.heap.size (fun k_ => some k_ ≠ (.slice Ao51 x339000_1.length co51 : Value).ownBlock /\ some k_ ≠ (.slice Ao48 t339.length co48 : Value).ownBlock) (.slice Ao52 x339001_1.length co52) x339001_1) := ⟨by rw [<- hq_]; exact (by (with_reducible repeat (first | apply Kd.R_alloc | apply Kd.R_drewN | apply Kd.R_drew)); exact Kd.R_mono HO_339001.out (fun _ hk => ⟨hk.2, hk.1⟩))⟩; have n3_ : Asd (Kd.R Kd.string 9 w53 w.heap.size (fun k_ => some k_ ≠ (.slice Ao51 x339000_1.length co51 : Value).ownBlock /\ some k_ ≠ (.slice Ao52 x339001_1.length co52 : Value).ownBlock) (.slice Ao48 t339.length co48) t339) := ⟨by rw [<- hq_]; exact (by (with_reducible repeat (first | apply Kd.R_alloc | apply Kd.R_drewN | apply Kd.R_drew)); exact HO_5.out)⟩; have n4_ : Asd (w53.heap[gb337]? = some (.cells #[.slice none 0 0, .slice none 0 0] 25 (0, 0))) := ⟨by rw [<- hq_]; exact (by (with_reducible repeat (first | refine blk_drewN ?_ _ | refine blk_drew ?_ | refine blk_alloc ?_ _)); exact BK337.out)⟩; have n5_ : Asd (w53.heap[gb338]? = some (.cells #[.slice Ao51 x339000_1.length co51, .slice Ao52 x339001_1.length co52] 25 (0, 0))) := ⟨by rw [<- hq_]; exact (by (with_reducible repeat (first | refine blk_drewN ?_ _ | refine blk_drew ?_ | refine blk_alloc ?_ _)); exact BK338.out)⟩; have n6_ : Asd (Below w.heap.size w w53) := ⟨by rw [<- hq_]; exact (by repeat (first | (with_reducible first | exact HB.out | apply bal | apply pbN | apply bd1 | refine below_set ?_ GE337.out | refine below_set ?_ GE338.out) | exact HB.out))⟩; clear HO357 HO_339000 HO_339001 HO_5 BK337 BK338 HB hq_; have HO357 := n0_; have HO_339000 := n1_; have HO_339001 := n2_; have HO_5 := n3_; have BK337 := n4_; have BK338 := n5_; have HB := n6_; clear n0_ n1_ n2_ n3_ n4_ n5_ n6_)); have hcz55_0 : w53.cell? ⟨gb337, 0, none⟩ = some (.slice none 0 0) := (blk_cell BK337.out 0).trans rfl; have hcz55_1 : w53.cell? ⟨gb337, 1, none⟩ = some (.slice none 0 0) := (blk_cell BK337.out 1).trans rfl; have hfz55_0 := blk_frozen BK337.out 0; have hfz55_1 := blk_frozen BK337.out 1))
       refine bodyPost_ret (results_ct rfl _ _ gb337 25 #[.slice none 0 0, .slice none 0 0] (0, 0) _ rfl (by (with_reducible repeat (first | refine blk_drewN ?_ _ | refine blk_drew ?_ | refine blk_alloc ?_ _)); refine blk_put (cs := #[.slice none 0 0, .slice none 0 0]) ?_ 1 _ rfl; (with_reducible repeat (first | refine blk_drewN ?_ _ | refine blk_drew ?_ | refine blk_alloc ?_ _)); refine blk_put (cs := #[.slice none 0 0, .slice none 0 0]) ?_ 0 _ rfl; (with_reducible repeat (first | refine blk_drewN ?_ _ | refine blk_drew ?_ | refine blk_alloc ?_ _)); exact BK337.out) Tryd.underlying25 rfl (by kernel_rfl)) rfl ?_
       exact ⟨_, _, by first | rfl | (simp [errW_none, errW_some] <;> rfl) | (simp [*, errW_none, errW_some] <;> rfl), by first | exact Kd.R_nil _ _ _ _ _ | exact Kd.N_nil _ _ _ _ _ | exact Kd.V_nil _ _ _ _ _ | exact Kd.Q_nil _ _ _ _ _ | exact Kd.S_nil _ _ _ _ _, by first | exact Kd.R_nil _ _ _ _ _ | exact Kd.N_nil _ _ _ _ _ | exact Kd.V_nil _ _ _ _ _ | exact Kd.Q_nil _ _ _ _ _ | exact Kd.S_nil _ _ _ _ _, by repeat (first | (with_reducible first | exact HB.out | apply bal | apply pbN | apply bd1 | refine below_set ?_ GE337.out | refine below_set ?_ GE338.out) | exact HB.out)⟩
     ·replace c36 := Bool.eq_false_iff.mpr c36
      subst c36
      have H1 : (some (([] : List ByteArray), ([] : List ByteArray), false)) = some (r1, r2, r3) := by rw [if_neg (show ¬ (false = true) by decide)] at H; exact H
      clear H
      have H := H1
      clear H1
      simp only [Option.some.injEq, Prod.mk.injEq] at H
      obtain ⟨rfl, rfl, rfl⟩ := H
      obtain ⟨Ao56, co56, eo56⟩ := Kd.R_slice HO_5.out
      subst eo56
      have hnb57 := NB338_337.out
      have hnc57 := NB337_338.out
      have hcz58_0 : wr.cell? ⟨gb338, 0, none⟩ = some (u339000) := (blk_cell BK338.out 0).trans rfl
      have hcz58_1 : wr.cell? ⟨gb338, 1, none⟩ = some (u339001) := (blk_cell BK338.out 1).trans rfl
      have hfz58_0 := blk_frozen BK338.out 0
      have hfz58_1 := blk_frozen BK338.out 1
      obtain ⟨Ao59, co59, eo59⟩ := Kd.R_slice HO_339000.out
      subst eo59
      obtain ⟨Ao60, co60, eo60⟩ := Kd.R_slice HO_339001.out
      subst eo60
      go_wp2_with (first | ((with_reducible refine gate_callee (f := 16) rfl ?_); refine goesL_ (some 74) rfl rfl Tryd.func16 (by kernel_rfl) rfl #[.agg #[.slice Ao59 x339000_1.length co59, .slice Ao60 x339001_1.length co60]] rfl (by (try simp only [List.map_toArray, List.map_cons, List.map_nil]); first | done | rfl | (simp only [List.length_drop, List.length_take]; rfl)) ?_; (with_reducible refine (q6_Ask.calls k1 _ _ x339000_1 _ _ x339001_1 t355 false _ ?side1 ?side2 ?side3 ?side4 A35.out).mono ?_); (case side1 => repeat (first | exact (Kd.R_reads' HO_339000.out).2.2 | (with_reducible refine Kd.C_alloc ?_ _) | (with_reducible refine Kd.C_drewN ?_ _) | (with_reducible refine Kd.C_drew ?_))); (case side2 => exact (Kd.R_reads' HO_339000.out).2.1); (case side3 => repeat (first | exact (Kd.R_reads' HO_339001.out).2.2 | (with_reducible refine Kd.C_alloc ?_ _) | (with_reducible refine Kd.C_drewN ?_ _) | (with_reducible refine Kd.C_drew ?_))); (case side4 => exact (Kd.R_reads' HO_339001.out).2.1); rintro e w61 ⟨v356, rfl, ho0, hb⟩; refine ⟨_, rfl, ?_⟩; have n0_ := Asd.mk (Kd.R_below (by (with_reducible repeat (first | apply Kd.R_alloc | apply Kd.R_drewN | apply Kd.R_drew)); exact HO_5.out) hb); have n1_ := Asd.mk (Kd.R_below (by (with_reducible repeat (first | apply Kd.R_alloc | apply Kd.R_drewN | apply Kd.R_drew)); exact HO_339000.out) hb); have n2_ := Asd.mk (Kd.R_below (by (with_reducible repeat (first | apply Kd.R_alloc | apply Kd.R_drewN | apply Kd.R_drew)); exact HO_339001.out) hb); have n3_ := Asd.mk (Kd.R_lower ho0 (below_size (by repeat (first | (with_reducible first | exact HB.out | apply bal | apply pbN | apply bd1 | refine below_set ?_ GE337.out | refine below_set ?_ GE338.out) | exact HB.out)))); have n4_ := Asd.mk (blk_below (g := gb337) (o := .cells #[.slice none 0 0, .slice none 0 0] 25 (0, 0)) (by (with_reducible repeat (first | refine blk_drewN ?_ _ | refine blk_drew ?_ | refine blk_alloc ?_ _)); exact BK337.out) hb); have n5_ := Asd.mk (blk_below (g := gb338) (o := .cells #[.slice Ao59 x339000_1.length co59, .slice Ao60 x339001_1.length co60] 25 (0, 0)) (by (with_reducible repeat (first | refine blk_drewN ?_ _ | refine blk_drew ?_ | refine blk_alloc ?_ _)); exact BK338.out) hb); have n6_ := Asd.mk (below_step (by repeat (first | (with_reducible first | exact HB.out | apply bal | apply pbN | apply bd1 | refine below_set ?_ GE337.out | refine below_set ?_ GE338.out) | exact HB.out)) hb); clear HO_5; clear HO_339000; clear HO_339001; clear BK337; clear BK338; clear HB; have HO_5 := n0_; have HO_339000 := n1_; have HO_339001 := n2_; have HO357 := n3_; have BK337 := n4_; have BK338 := n5_; have HB := n6_; clear n0_ n1_ n2_ n3_ n4_ n5_ n6_; (try clear hb); (try clear hb2); (try clear hk); (try clear hi); (try clear ho0); have hcz62_0 : w61.cell? ⟨gb337, 0, none⟩ = some (.slice none 0 0) := (blk_cell BK337.out 0).trans rfl; have hcz62_1 : w61.cell? ⟨gb337, 1, none⟩ = some (.slice none 0 0) := (blk_cell BK337.out 1).trans rfl; have hfz62_0 := blk_frozen BK337.out 0; have hfz62_1 := blk_frozen BK337.out 1))
      refine bodyPost_ret (results_ct rfl _ _ gb337 25 #[.slice none 0 0, .slice none 0 0] (0, 0) _ rfl (by (with_reducible repeat (first | refine blk_drewN ?_ _ | refine blk_drew ?_ | refine blk_alloc ?_ _)); refine blk_put (cs := #[.slice none 0 0, .slice none 0 0]) ?_ 1 _ rfl; (with_reducible repeat (first | refine blk_drewN ?_ _ | refine blk_drew ?_ | refine blk_alloc ?_ _)); refine blk_put (cs := #[.slice none 0 0, .slice none 0 0]) ?_ 0 _ rfl; (with_reducible repeat (first | refine blk_drewN ?_ _ | refine blk_drew ?_ | refine blk_alloc ?_ _)); exact BK337.out) Tryd.underlying25 rfl (by kernel_rfl)) rfl ?_
      exact ⟨_, _, by first | rfl | (simp [errW_none, errW_some] <;> rfl) | (simp [*, errW_none, errW_some] <;> rfl), by first | exact Kd.R_nil _ _ _ _ _ | exact Kd.N_nil _ _ _ _ _ | exact Kd.V_nil _ _ _ _ _ | exact Kd.Q_nil _ _ _ _ _ | exact Kd.S_nil _ _ _ _ _, by first | exact Kd.R_nil _ _ _ _ _ | exact Kd.N_nil _ _ _ _ _ | exact Kd.V_nil _ _ _ _ _ | exact Kd.Q_nil _ _ _ _ _ | exact Kd.S_nil _ _ _ _ _, by repeat (first | (with_reducible first | exact HB.out | apply bal | apply pbN | apply bd1 | refine below_set ?_ GE337.out | refine below_set ?_ GE338.out) | exact HB.out)⟩
 ·replace c3 := Bool.eq_false_iff.mpr c3
  subst c3
  have H1 : (some (([] : List ByteArray), ([] : List ByteArray), false)) = some (r1, r2, r3) := by rw [if_neg (show ¬ (false = true) by decide)] at H; exact H
  clear H
  have H := H1
  clear H1
  simp only [Option.some.injEq, Prod.mk.injEq] at H
  obtain ⟨rfl, rfl, rfl⟩ := H
  go_enter Tryd.func23, Tryd.ntmps23
  go_wp2_with (first | ((with_reducible refine gate_dst (N := 2) rfl ?_); refine box_event ?hg (N := 2) ?hd (cs := #[.slice none 0 0, .slice none 0 0]) (t := 25) ?hr ?_; (case hd => rfl); (case hg => rfl); (case hr => first | (go_simp; done) | (go_simp; rfl)); intro gb337 hg w63 hbox hb; have n0_ := Asd.mk (below_step (by repeat (first | (with_reducible first | exact HB.out | apply bal | apply pbN | apply bd1) | exact HB.out)) hb); have n1_ := Asd.mk (hbox); have n2_ := Asd.mk ((by rw [hg]; exact (below_size (by repeat (first | (with_reducible first | exact HB.out | apply bal | apply pbN | apply bd1) | exact HB.out))) : w.heap.size <= gb337)); have n3_ := Asd.mk ((by rw [hg]; exact (below_size (by repeat (first | (with_reducible first | exact HB.out | apply bal | apply pbN | apply bd1) | exact HB.out))) : w.heap.size <= gb337)); clear HB; have HB := n0_; have BK337 := n1_; have GW337 := n2_; have GE337 := n3_; clear n0_ n1_ n2_ n3_; clear hb hbox hg) | ((with_reducible refine gate_dst (N := 4) rfl ?_); refine box_event ?hg (N := 4) ?hd (cs := #[.slice none 0 0, .slice none 0 0]) (t := 25) ?hr ?_; (case hd => rfl); (case hg => rfl); (case hr => first | (go_simp; done) | (go_simp; rfl)); intro gb338 hg w64 hbox hb; have n0_ := Asd.mk (blk_below (g := gb337) (o := .cells #[.slice none 0 0, .slice none 0 0] 25 (0, 0)) (by (with_reducible repeat (first | refine blk_drewN ?_ _ | refine blk_drew ?_ | refine blk_alloc ?_ _)); exact BK337.out) hb); have n1_ := Asd.mk (below_step (by repeat (first | (with_reducible first | exact HB.out | apply bal | apply pbN | apply bd1 | refine below_set ?_ GE337.out) | exact HB.out)) hb); have n2_ := Asd.mk (hbox); have n3_ := Asd.mk ((by rw [hg]; exact (below_size (by repeat (first | (with_reducible first | exact HB.out | apply bal | apply pbN | apply bd1 | refine below_set ?_ GE337.out) | exact HB.out))) : w.heap.size <= gb338)); have n4_ := Asd.mk ((by rw [hg]; exact (below_size (by repeat (first | (with_reducible first | exact HB.out | apply bal | apply pbN | apply bd1 | refine below_set ?_ GE337.out) | exact HB.out))) : w.heap.size <= gb338)); have n5_ := Asd.mk ((by rw [hg]; exact Nat.ne_of_lt (blk_lt (g := gb337) (o := .cells #[.slice none 0 0, .slice none 0 0] 25 (0, 0)) (by (with_reducible repeat (first | refine blk_drewN ?_ _ | refine blk_drew ?_ | refine blk_alloc ?_ _)); exact BK337.out)) : gb337 ≠ gb338)); have n6_ := Asd.mk ((by rw [hg]; exact Nat.ne_of_gt (blk_lt (g := gb337) (o := .cells #[.slice none 0 0, .slice none 0 0] 25 (0, 0)) (by (with_reducible repeat (first | refine blk_drewN ?_ _ | refine blk_drew ?_ | refine blk_alloc ?_ _)); exact BK337.out)) : gb338 ≠ gb337)); clear BK337; clear HB; have BK337 := n0_; have HB := n1_; have BK338 := n2_; have GW338 := n3_; have GE338 := n4_; have NB337_338 := n5_; have NB338_337 := n6_; clear n0_ n1_ n2_ n3_ n4_ n5_ n6_; clear hb hbox hg) | ((with_reducible refine gate_callee (f := 50) rfl ?_); refine goesL_ (some 12) rfl rfl Tryd.func50 (by kernel_rfl) rfl #[.slice A0 l0.length c0] rfl (by (try simp only [List.map_toArray, List.map_cons, List.map_nil]); first | done | rfl | (simp only [List.length_drop, List.length_take]; rfl)) ?_; (with_reducible refine (q6_texts.calls k _ _ l0 t339 false _ ?side1 ?side2 A2.out).mono ?_); (case side1 => repeat (first | exact (Kd.C_below HR0.out HB.out) | (with_reducible refine Kd.C_alloc ?_ _) | (with_reducible refine Kd.C_drewN ?_ _) | (with_reducible refine Kd.C_drew ?_))); (case side2 => exact HC0.out); rintro e w65 ⟨v341, rfl, ho0, hb⟩; refine ⟨_, rfl, ?_⟩; have n0_ := Asd.mk (Kd.R_lower ho0 (below_size (by repeat (first | (with_reducible first | exact HB.out | apply bal | apply pbN | apply bd1 | refine below_set ?_ GE337.out | refine below_set ?_ GE338.out) | exact HB.out)))); have n1_ := Asd.mk (blk_below (g := gb337) (o := .cells #[.slice none 0 0, .slice none 0 0] 25 (0, 0)) (by (with_reducible repeat (first | refine blk_drewN ?_ _ | refine blk_drew ?_ | refine blk_alloc ?_ _)); exact BK337.out) hb); have n2_ := Asd.mk (blk_below (g := gb338) (o := .cells #[.slice none 0 0, .slice none 0 0] 25 (0, 0)) (by (with_reducible repeat (first | refine blk_drewN ?_ _ | refine blk_drew ?_ | refine blk_alloc ?_ _)); exact BK338.out) hb); have n3_ := Asd.mk (below_step (by repeat (first | (with_reducible first | exact HB.out | apply bal | apply pbN | apply bd1 | refine below_set ?_ GE337.out | refine below_set ?_ GE338.out) | exact HB.out)) hb); clear BK337; clear BK338; clear HB; have HO342 := n0_; have BK337 := n1_; have BK338 := n2_; have HB := n3_; clear n0_ n1_ n2_ n3_; (try clear hb); (try clear hb2); (try clear hk); (try clear hi); (try clear ho0); have hnb66 := NB338_337.out; have hnc66 := NB337_338.out; have hcz67_0 : w65.cell? ⟨gb338, 0, none⟩ = some (.slice none 0 0) := (blk_cell BK338.out 0).trans rfl; have hcz67_1 : w65.cell? ⟨gb338, 1, none⟩ = some (.slice none 0 0) := (blk_cell BK338.out 1).trans rfl; have hfz67_0 := blk_frozen BK338.out 0; have hfz67_1 := blk_frozen BK338.out 1; have hcz68_0 : w65.cell? ⟨gb337, 0, none⟩ = some (.slice none 0 0) := (blk_cell BK337.out 0).trans rfl; have hcz68_1 : w65.cell? ⟨gb337, 1, none⟩ = some (.slice none 0 0) := (blk_cell BK337.out 1).trans rfl; have hfz68_0 := blk_frozen BK337.out 0; have hfz68_1 := blk_frozen BK337.out 1))
  refine bodyPost_ret (results_ct rfl _ _ gb337 25 #[.slice none 0 0, .slice none 0 0] (0, 0) _ rfl (by (with_reducible repeat (first | refine blk_drewN ?_ _ | refine blk_drew ?_ | refine blk_alloc ?_ _)); refine blk_put (cs := #[.slice none 0 0, .slice none 0 0]) ?_ 1 _ rfl; (with_reducible repeat (first | refine blk_drewN ?_ _ | refine blk_drew ?_ | refine blk_alloc ?_ _)); refine blk_put (cs := #[.slice none 0 0, .slice none 0 0]) ?_ 0 _ rfl; (with_reducible repeat (first | refine blk_drewN ?_ _ | refine blk_drew ?_ | refine blk_alloc ?_ _)); exact BK337.out) Tryd.underlying25 rfl (by kernel_rfl)) rfl ?_
  exact ⟨_, _, by first | rfl | (simp [errW_none, errW_some] <;> rfl) | (simp [*, errW_none, errW_some] <;> rfl), by first | exact Kd.R_nil _ _ _ _ _ | exact Kd.N_nil _ _ _ _ _ | exact Kd.V_nil _ _ _ _ _ | exact Kd.Q_nil _ _ _ _ _ | exact Kd.S_nil _ _ _ _ _, by first | exact Kd.R_nil _ _ _ _ _ | exact Kd.N_nil _ _ _ _ _ | exact Kd.V_nil _ _ _ _ _ | exact Kd.Q_nil _ _ _ _ _ | exact Kd.S_nil _ _ _ _ _, by repeat (first | (with_reducible first | exact HB.out | apply bal | apply pbN | apply bd1 | refine below_set ?_ GE337.out | refine below_set ?_ GE338.out) | exact HB.out)⟩
end Go.Proofs.YtmmionafcmnfoaaDoor.Print
