/- The calls of a law, as a plain function, printed by a program. -/
import Derived.Test.YtmmionafcmnfoaaDoorPTellA
namespace Go.Proofs.YtmmionafcmnfoaaDoor.Print
open Go.RowKit Go.Proofs.YtmmionafcmnfoaaDoorW.PrintWords Go.Proofs.YtmmionafcmnfoaaDoorW.PrintLast Go.Proofs.YtmmionafcmnfoaaDoorW.PrintMore Go.Proofs.YtmmionafcmnfoaaDoor.Conv
attribute [local go_sem] max2_int min2_int max_two min_two max_three min_three max_four min_four
set_option linter.unusedVariables false
set_option linter.unusedSimpArgs false
mutual
def q6_Push.j0 : Nat -> List (S65) -> List ByteArray -> Bool -> Option ((List (S49)) × Bool)
 | 0, _, _, _ => none
 | k + 1, x0, x4, x13 => if x13 = true then (some (([] : List (S49)), false)) else (q6_Push.l0 k x0 x4 0)
def q6_Push.l0 : Nat -> List (S65) -> List ByteArray -> Int -> Option ((List (S49)) × Bool)
 | 0, _, _, _ => none
 | k + 1, x0, x4, x5 => if x5 < (x0.length : Int) then (if 0 <= x5 then ((q9_Named.f k ((rd_T65 x0 x5).f0)).bind fun t297 => (if t297 = true then ((q6_may.f k ((rd_T65 x0 x5).f1)).bind fun t299 => (if t299 = true then ((q6_may.f k ((rd_T65 x0 x5).f2)).bind fun t301 => (if t301 = true then (if ((rd_T65 x0 x5).f1).toList = ([] : List UInt8) then (q6_Push.j2 k x0 x4 x5 (((rd_T65 x0 x5).f2).toList == ([] : List UInt8))) else (q6_Push.j2 k x0 x4 x5 false)) else (q6_Push.j2 k x0 x4 x5 true))) else (q6_Push.j2 k x0 x4 x5 true))) else (q6_Push.j2 k x0 x4 x5 true))) else (none)) else ((q6_ends.f k x4).bind fun t293 => (some (t293, true)))
def q6_Push.j2 : Nat -> List (S65) -> List ByteArray -> Int -> Bool -> Option ((List (S49)) × Bool)
 | 0, _, _, _, _ => none
 | k + 1, x0, x4, x5, x60 => if x60 = true then (some (([] : List (S49)), false)) else (if 0 <= x5 then (if x5 < (x0.length : Int) then ((q6_dash.f ((rd_T65 x0 x5).f1)).bind fun t305 => (if t305.size + 1 <= 9223372036854775807 then ((q6_dash.f ((rd_T65 x0 x5).f2)).bind fun t307 => (if (t305 ++ (⟨#[32]⟩ : ByteArray)).size + t307.size <= 9223372036854775807 then (if ((t305 ++ (⟨#[32]⟩ : ByteArray)) ++ t307).size + 1 <= 9223372036854775807 then (if (((t305 ++ (⟨#[32]⟩ : ByteArray)) ++ t307) ++ (⟨#[32]⟩ : ByteArray)).size + ((rd_T65 x0 x5).f0).size <= 9223372036854775807 then (if x4.length < 8796093022208 then (q6_Push.l0 k x0 (x4 ++ [(((t305 ++ (⟨#[32]⟩ : ByteArray)) ++ t307) ++ (⟨#[32]⟩ : ByteArray)) ++ ((rd_T65 x0 x5).f0)]) (wrap64 (x5 + 1))) else (none)) else (none)) else (none)) else (none))) else (none))) else (none)) else (none))
end
def q6_Push.f (k : Nat) (l0 : List (S65)) : Option ((List (S49)) × Bool) := if (l0.length : Int) < 1 then (q6_Push.j0 k l0 ([] : List ByteArray) true) else (q6_Push.j0 k l0 ([] : List ByteArray) (decide ((l0.length : Int) > 16)))
def q6_Push.T9 : Bool × List (List Nat × List Nat) := (true, [([], []), ([], []), ([], []), ([1, 2], [1, 2]), ([3], [3]), ([4], [4]), ([5], [5]), ([6], [6]), ([], []), ([], []), ([8, 9], [8, 9]), ([10], [10]), ([11], [11]), ([12, 6], [12]), ([7, 13], [7, 13]), ([14], [14]), ([], []), ([], []), ([16, 17], [16, 17]), ([18], [18]), ([19], [19]), ([15, 20], [15, 20]), ([21], [21]), ([0, 22, 13], [0, 22]), ([23, 23, 0, 1, 2, 3, 4, 5, 6, 7, 8, 9, 10, 11, 12, 13, 14, 15, 16, 17, 18, 19, 20, 21, 22, 23], [0, 23])])
def q6_Push.B9 : List Nat := [0, 0, 0, 6, 14, 30, 62, 126, 0, 0, 768, 1792, 3840, 8062, 16382, 32766, 0, 0, 196608, 458752, 983040, 2097150, 4194302, 8388607, 16777215]
theorem q6_Push.tab9 : rtab .any (opsOf Tryd.f18 9) = q6_Push.T9 := by kernel_rfl
theorem q6_Push.bits9 : waitsOk q6_Push.T9.2 q6_Push.B9 = true := by kernel_rfl
set_option maxHeartbeats 8000000 in
set_option maxRecDepth 100000 in
theorem q6_Push.calls (k : Nat) (A0 : Option Addr) (c0 : Nat) (l0 : List (S65)) (r1 : List (S49)) (r2 : Bool) (w : World) (hr0 : Kd.C k65 w A0 l0.length l0) (hc0 : l0.length <= c0) (h : q6_Push.f k l0 = some (r1, r2)) :
  Calls Tryd.prog 18 #[.slice A0 l0.length c0] w fun e w' => ∃ v0_ : Value, e = .returned (.tuple #[v0_, .bool r2]) /\ Kd.R k49 49 w' w.heap.size (fun _ => True) v0_ r1 /\ Below w.heap.size w w' := by
 have HR0 := Asd.mk hr0
 have HC0 := Asd.mk hc0
 clear hr0 hc0
 have HB := Asd.mk (Below.refl w.heap.size w)
 have H : (if (l0.length : Int) < 1 then (q6_Push.j0 k l0 ([] : List ByteArray) true) else (q6_Push.j0 k l0 ([] : List ByteArray) (decide ((l0.length : Int) > 16)))) = some (r1, r2) := h
 clear h
 have HC2 := Asd.mk H
 clear H
 go_enter Tryd.func18, Tryd.ntmps18
 go_upto_region 2 with (fail)
 go_cut [13] (fun v13 wc => ∃ (kq : Nat) (x13_1 : Bool), v13 = .bool x13_1 /\ Asd (q6_Push.j0 kq l0 ([] : List ByteArray) x13_1 = some (r1, r2)) /\ Asd (kq <= k) /\ Asd (Kd.R Kd.string 9 wc w.heap.size (fun _ => True) (.slice none 0 0) ([] : List ByteArray)) /\ Asd (Below w.heap.size w wc))
 case first =>
  have H := HC2.out
  clear HC2
  by_cases c3 : (l0.length : Int) < 1
  ·rw [if_pos c3] at H
   have c3b0 : decide ((l0.length : Int) < 1) = true := decide_eq_true c3
   have c3b1 : decide (l0.length < 1) = true := decide_eq_true (by omega)
   clear c3
   (first | rw [c3b0] | (simp only [i64_w, i32_w]; rw [c3b0]) | skip)
   have H' := Asd.mk H
   clear H
   go_wp2
   go_meet
   case rel => exact ⟨_, (true), (by first | rfl | (simp; done) | (simp [*]; done)), H', ⟨by first | omega | exact Nat.le_refl _⟩, ⟨by first | exact Kd.R_nil _ _ _ _ _ | exact Kd.N_nil _ _ _ _ _ | exact Kd.V_nil _ _ _ _ _ | exact Kd.Q_nil _ _ _ _ _ | exact Kd.S_nil _ _ _ _ _⟩, ⟨by repeat (first | (with_reducible first | exact HB.out | apply bal | apply pbN | apply bd1) | exact HB.out)⟩⟩
  ·rw [if_neg c3] at H
   have c3b0 : decide ((l0.length : Int) < 1) = false := decide_eq_false c3
   have c3b1 : decide (l0.length < 1) = false := decide_eq_false (by omega)
   clear c3
   (first | rw [c3b0] | (simp only [i64_w, i32_w]; rw [c3b0]) | skip)
   have H' := Asd.mk H
   clear H
   go_wp2
   go_meet
   case rel => exact ⟨_, (decide ((l0.length : Int) > 16)), (by first | rfl | (simp; done) | (simp [*]; done)), H', ⟨by first | omega | exact Nat.le_refl _⟩, ⟨by first | exact Kd.R_nil _ _ _ _ _ | exact Kd.N_nil _ _ _ _ _ | exact Kd.V_nil _ _ _ _ _ | exact Kd.Q_nil _ _ _ _ _ | exact Kd.S_nil _ _ _ _ _⟩, ⟨by repeat (first | (with_reducible first | exact HB.out | apply bal | apply pbN | apply bd1) | exact HB.out)⟩⟩
 case rest =>
  clear HC2
  try clear c1
  try clear p2
  try clear c3
  try clear c3b0
  try clear c3b1
  obtain ⟨kq, x13_1, rfl, HA, HJ1, HO_4, HB⟩ := hcut
  cases kq with
  | zero => exact absurd HA.out (by simp [q6_Push.j0])
  | succ kj1 =>
   have H := HA.out
   clear HA
   simp only [q6_Push.j0] at H
   by_cases c4 : x13_1 = true
   ·subst c4
    have H1 : (some (([] : List (S49)), false)) = some (r1, r2) := by rw [if_pos rfl] at H; exact H
    clear H
    have H := H1
    clear H1
    simp only [Option.some.injEq, Prod.mk.injEq] at H
    obtain ⟨rfl, rfl⟩ := H
    go_wp2
    go_ret2
    exact ⟨_, by first | rfl | (simp [errW_none, errW_some] <;> rfl) | (simp [*, errW_none, errW_some] <;> rfl), by first | exact Kd.R_nil _ _ _ _ _ | exact Kd.N_nil _ _ _ _ _ | exact Kd.V_nil _ _ _ _ _ | exact Kd.Q_nil _ _ _ _ _ | exact Kd.S_nil _ _ _ _ _, by repeat (first | (with_reducible first | exact HB.out | apply bal | apply pbN | apply bd1) | exact HB.out)⟩
   ·replace c4 := Bool.eq_false_iff.mpr c4
    subst c4
    have H1 : (q6_Push.l0 kj1 l0 ([] : List ByteArray) 0) = some (r1, r2) := by rw [if_neg (show ¬ (false = true) by decide)] at H; exact H
    clear H
    have H := H1
    clear H1
    have H' := Asd.mk H
    clear H
    go_wp2
    go_loopg [4, 5] kj1 (fun kq v4 v5 w' => ∃ (x4_2 : List ByteArray) (x5_2 : Int), v5 = .int .i64 x5_2 /\ Asd (q6_Push.l0 kq l0 x4_2 x5_2 = some (r1, r2)) /\ Asd (kq <= kj1) /\ Asd (Kd.R Kd.string 9 w' w.heap.size (fun _ => True) v4 x4_2) /\ Asd (Below w.heap.size w w'))
    case atStart => exact ⟨(([] : List ByteArray)), (0), (by first | rfl | (simp; done) | (simp [*]; done)), H', ⟨Nat.le_refl _⟩, ⟨by (with_reducible repeat (first | apply Kd.R_alloc | apply Kd.R_drewN | apply Kd.R_drew)); exact HO_4.out⟩, ⟨by repeat (first | (with_reducible first | exact HB.out | apply bal | apply pbN | apply bd1) | exact HB.out)⟩⟩
    case round =>
     clear H'
     try clear c1
     try clear p2
     try clear c3
     try clear c3b0
     try clear c3b1
     try clear c4
     try clear p2
     obtain ⟨x4_2, x5_2, rfl, HA, HK2, HO_4, HB⟩ := hrel
     cases gk with
     | zero => exact absurd HA.out (by simp [q6_Push.l0])
     | succ k2 =>
      have H := HA.out
      clear HA
      simp only [q6_Push.l0] at H
      by_cases c5 : x5_2 < (l0.length : Int)
      ·rw [if_pos c5] at H
       have c5b0 : decide (x5_2 < (l0.length : Int)) = true := decide_eq_true c5
       clear c5
       have HC6 := Asd.mk H
       clear H
       go_upto_region 7 with (fail)
       go_cut [60] (fun v60 wc => ∃ (kq : Nat) (x60_5 : Bool), v60 = .bool x60_5 /\ Asd (q6_Push.j2 kq l0 x4_2 x5_2 x60_5 = some (r1, r2)) /\ Asd (kq <= k2) /\ Asd (Kd.R Kd.string 9 wc w.heap.size (fun _ => True) u4 x4_2) /\ Asd (Below w.heap.size w wc))
       case first =>
        have H := HC6.out
        clear HC6
        by_cases c7 : 0 <= x5_2
        ·rw [if_pos c7] at H
         have c7b0 : decide (0 <= x5_2) = true := decide_eq_true c7
         clear c7
         (first | rw [c7b0] | (simp only [i64_w, i32_w]; rw [c7b0]) | skip)
         replace H := Option.bind_eq_some_iff.mp H
         obtain ⟨t297, A80, H⟩ := H
         replace H : (if t297 = true then ((q6_may.f k2 ((rd_T65 l0 x5_2).f1)).bind fun t299 => (if t299 = true then ((q6_may.f k2 ((rd_T65 l0 x5_2).f2)).bind fun t301 => (if t301 = true then (if ((rd_T65 l0 x5_2).f1).toList = ([] : List UInt8) then (q6_Push.j2 k2 l0 x4_2 x5_2 (((rd_T65 l0 x5_2).f2).toList == ([] : List UInt8))) else (q6_Push.j2 k2 l0 x4_2 x5_2 false)) else (q6_Push.j2 k2 l0 x4_2 x5_2 true))) else (q6_Push.j2 k2 l0 x4_2 x5_2 true))) else (q6_Push.j2 k2 l0 x4_2 x5_2 true)) = some (r1, r2) := H
         have A8 := Asd.mk A80
         clear A80
         by_cases c9 : t297 = true
         ·subst c9
          have H1 : ((q6_may.f k2 ((rd_T65 l0 x5_2).f1)).bind fun t299 => (if t299 = true then ((q6_may.f k2 ((rd_T65 l0 x5_2).f2)).bind fun t301 => (if t301 = true then (if ((rd_T65 l0 x5_2).f1).toList = ([] : List UInt8) then (q6_Push.j2 k2 l0 x4_2 x5_2 (((rd_T65 l0 x5_2).f2).toList == ([] : List UInt8))) else (q6_Push.j2 k2 l0 x4_2 x5_2 false)) else (q6_Push.j2 k2 l0 x4_2 x5_2 true))) else (q6_Push.j2 k2 l0 x4_2 x5_2 true))) = some (r1, r2) := by rw [if_pos rfl] at H; exact H
          clear H
          have H := H1
          clear H1
          replace H := Option.bind_eq_some_iff.mp H
          obtain ⟨t299, A100, H⟩ := H
          replace H : (if t299 = true then ((q6_may.f k2 ((rd_T65 l0 x5_2).f2)).bind fun t301 => (if t301 = true then (if ((rd_T65 l0 x5_2).f1).toList = ([] : List UInt8) then (q6_Push.j2 k2 l0 x4_2 x5_2 (((rd_T65 l0 x5_2).f2).toList == ([] : List UInt8))) else (q6_Push.j2 k2 l0 x4_2 x5_2 false)) else (q6_Push.j2 k2 l0 x4_2 x5_2 true))) else (q6_Push.j2 k2 l0 x4_2 x5_2 true)) = some (r1, r2) := H
          have A10 := Asd.mk A100
          clear A100
          by_cases c11 : t299 = true
          ·subst c11
           have H1 : ((q6_may.f k2 ((rd_T65 l0 x5_2).f2)).bind fun t301 => (if t301 = true then (if ((rd_T65 l0 x5_2).f1).toList = ([] : List UInt8) then (q6_Push.j2 k2 l0 x4_2 x5_2 (((rd_T65 l0 x5_2).f2).toList == ([] : List UInt8))) else (q6_Push.j2 k2 l0 x4_2 x5_2 false)) else (q6_Push.j2 k2 l0 x4_2 x5_2 true))) = some (r1, r2) := by rw [if_pos rfl] at H; exact H
           clear H
           have H := H1
           clear H1
           replace H := Option.bind_eq_some_iff.mp H
           obtain ⟨t301, A120, H⟩ := H
           replace H : (if t301 = true then (if ((rd_T65 l0 x5_2).f1).toList = ([] : List UInt8) then (q6_Push.j2 k2 l0 x4_2 x5_2 (((rd_T65 l0 x5_2).f2).toList == ([] : List UInt8))) else (q6_Push.j2 k2 l0 x4_2 x5_2 false)) else (q6_Push.j2 k2 l0 x4_2 x5_2 true)) = some (r1, r2) := H
           have A12 := Asd.mk A120
           clear A120
           by_cases c13 : t301 = true
           ·subst c13
            have H1 : (if ((rd_T65 l0 x5_2).f1).toList = ([] : List UInt8) then (q6_Push.j2 k2 l0 x4_2 x5_2 (((rd_T65 l0 x5_2).f2).toList == ([] : List UInt8))) else (q6_Push.j2 k2 l0 x4_2 x5_2 false)) = some (r1, r2) := by rw [if_pos rfl] at H; exact H
            clear H
            have H := H1
            clear H1
            by_cases c14 : ((rd_T65 l0 x5_2).f1).toList = ([] : List UInt8)
            ·rw [if_pos c14] at H
             have c14b0 : (((rd_T65 l0 x5_2).f1).toList == ([] : List UInt8)) = true := beq_iff_eq.mpr c14
             have c14b1 : (((rd_T65 l0 x5_2).f1).toList != ([] : List UInt8)) = false := bne_eq_false_iff_eq.mpr c14
             clear c14
             have H' := Asd.mk H
             clear H
             have p296 : 0 <= (x5_2 : Int) := of_decide_eq_true (by first | (with_reducible assumption) | assumption)
             have q296 : x5_2 < (l0.length : Int) := of_decide_eq_true (by first | (with_reducible assumption) | assumption)
             obtain ⟨ad296, e296, hx296_0, hx296_1, hx296_2⟩ := at_T65 HR0.out x5_2 p296 q296
             cases e296
             replace hx296_0 := (HB.out.cell (World.block_lt_of_cell? w _ hx296_0)).trans hx296_0
             replace hx296_1 := (HB.out.cell (World.block_lt_of_cell? w _ hx296_1)).trans hx296_1
             replace hx296_2 := (HB.out.cell (World.block_lt_of_cell? w _ hx296_2)).trans hx296_2
             replace p296 := eq_true p296
             replace q296 := eq_true q296
             go_wp2_with (first | ((with_reducible refine gate_callee (f := 36) rfl ?_); refine goesL_ (some 25) rfl rfl Tryd.func36 (by kernel_rfl) rfl #[.string ((rd_T65 l0 x5_2).f0)] rfl (by (try simp only [List.map_toArray, List.map_cons, List.map_nil]); first | done | rfl | (simp only [List.length_drop, List.length_take]; rfl)) ?_; (with_reducible refine (q9_Named.calls k2 ((rd_T65 l0 x5_2).f0) true _ A8.out).mono ?_); rintro e w15 ⟨rfl, hb⟩; refine ⟨_, rfl, ?_⟩; have n0_ := Asd.mk (Kd.R_below (by (with_reducible repeat (first | apply Kd.R_alloc | apply Kd.R_drewN | apply Kd.R_drew)); exact HO_4.out) hb); have n1_ := Asd.mk (below_step (by repeat (first | (with_reducible first | exact HB.out | apply bal | apply pbN | apply bd1) | exact HB.out)) hb); clear HO_4; clear HB; have HO_4 := n0_; have HB := n1_; clear n0_ n1_; (try clear hb); (try clear hb2); (try clear hk); (try clear hi); have p298 : 0 <= (x5_2 : Int) := of_decide_eq_true (by first | (with_reducible assumption) | assumption); have q298 : x5_2 < (l0.length : Int) := of_decide_eq_true (by first | (with_reducible assumption) | assumption); obtain ⟨ad298, e298, hx298_0, hx298_1, hx298_2⟩ := at_T65 HR0.out x5_2 p298 q298; obtain rfl : ad296 = ad298 := (by injection e298); replace hx298_0 := (HB.out.cell (World.block_lt_of_cell? w _ hx298_0)).trans hx298_0; replace hx298_1 := (HB.out.cell (World.block_lt_of_cell? w _ hx298_1)).trans hx298_1; replace hx298_2 := (HB.out.cell (World.block_lt_of_cell? w _ hx298_2)).trans hx298_2; replace p298 := eq_true p298; replace q298 := eq_true q298) | (go_at_call 44; (with_reducible refine (q6_may.calls k2 ((rd_T65 l0 x5_2).f1) true _ A10.out).mono ?_); rintro e w' ⟨rfl, ⟨nd, rfl⟩⟩; have p300 : 0 <= (x5_2 : Int) := of_decide_eq_true (by first | (with_reducible assumption) | assumption); have q300 : x5_2 < (l0.length : Int) := of_decide_eq_true (by first | (with_reducible assumption) | assumption); obtain ⟨ad300, e300, hx300_0, hx300_1, hx300_2⟩ := at_T65 HR0.out x5_2 p300 q300; obtain rfl : ad296 = ad300 := (by injection e300); replace hx300_0 := (HB.out.cell (World.block_lt_of_cell? w _ hx300_0)).trans hx300_0; replace hx300_1 := (HB.out.cell (World.block_lt_of_cell? w _ hx300_1)).trans hx300_1; replace hx300_2 := (HB.out.cell (World.block_lt_of_cell? w _ hx300_2)).trans hx300_2; replace p300 := eq_true p300; replace q300 := eq_true q300) | (go_at_call 44; (with_reducible refine (q6_may.calls k2 ((rd_T65 l0 x5_2).f2) true _ A12.out).mono ?_); rintro e w' ⟨rfl, ⟨nd, rfl⟩⟩; have p302 : 0 <= (x5_2 : Int) := of_decide_eq_true (by first | (with_reducible assumption) | assumption); have q302 : x5_2 < (l0.length : Int) := of_decide_eq_true (by first | (with_reducible assumption) | assumption); obtain ⟨ad302, e302, hx302_0, hx302_1, hx302_2⟩ := at_T65 HR0.out x5_2 p302 q302; obtain rfl : ad296 = ad302 := (by injection e302); replace hx302_0 := (HB.out.cell (World.block_lt_of_cell? w _ hx302_0)).trans hx302_0; replace hx302_1 := (HB.out.cell (World.block_lt_of_cell? w _ hx302_1)).trans hx302_1; replace hx302_2 := (HB.out.cell (World.block_lt_of_cell? w _ hx302_2)).trans hx302_2; replace p302 := eq_true p302; replace q302 := eq_true q302; have p303 : 0 <= (x5_2 : Int) := of_decide_eq_true (by first | (with_reducible assumption) | assumption); have q303 : x5_2 < (l0.length : Int) := of_decide_eq_true (by first | (with_reducible assumption) | assumption); obtain ⟨ad303, e303, hx303_0, hx303_1, hx303_2⟩ := at_T65 HR0.out x5_2 p303 q303; obtain rfl : ad296 = ad303 := (by injection e303); replace hx303_0 := (HB.out.cell (World.block_lt_of_cell? w _ hx303_0)).trans hx303_0; replace hx303_1 := (HB.out.cell (World.block_lt_of_cell? w _ hx303_1)).trans hx303_1; replace hx303_2 := (HB.out.cell (World.block_lt_of_cell? w _ hx303_2)).trans hx303_2; replace p303 := eq_true p303; replace q303 := eq_true q303))
             go_meet
             case rel => exact ⟨_, ((((rd_T65 l0 x5_2).f2).toList == ([] : List UInt8))), (by first | rfl | (simp; done) | (simp [*]; done)), H', ⟨by have := HJ1.out; have := HK2.out; first | omega | exact Nat.le_refl _⟩, ⟨by (with_reducible repeat (first | apply Kd.R_alloc | apply Kd.R_drewN | apply Kd.R_drew)); exact HO_4.out⟩, ⟨by repeat (first | (with_reducible first | exact HB.out | apply bal | apply pbN | apply bd1) | exact HB.out)⟩⟩
            ·rw [if_neg c14] at H
             have c14b0 : (((rd_T65 l0 x5_2).f1).toList == ([] : List UInt8)) = false := beq_eq_false_iff_ne.mpr c14
             have c14b1 : (((rd_T65 l0 x5_2).f1).toList != ([] : List UInt8)) = true := bne_iff_ne.mpr c14
             have H' := Asd.mk H
             clear H
             have p296 : 0 <= (x5_2 : Int) := of_decide_eq_true (by first | (with_reducible assumption) | assumption)
             have q296 : x5_2 < (l0.length : Int) := of_decide_eq_true (by first | (with_reducible assumption) | assumption)
             obtain ⟨ad296, e296, hx296_0, hx296_1, hx296_2⟩ := at_T65 HR0.out x5_2 p296 q296
             cases e296
             replace hx296_0 := (HB.out.cell (World.block_lt_of_cell? w _ hx296_0)).trans hx296_0
             replace hx296_1 := (HB.out.cell (World.block_lt_of_cell? w _ hx296_1)).trans hx296_1
             replace hx296_2 := (HB.out.cell (World.block_lt_of_cell? w _ hx296_2)).trans hx296_2
             replace p296 := eq_true p296
             replace q296 := eq_true q296
             go_wp2_with (first | ((with_reducible refine gate_callee (f := 36) rfl ?_); refine goesL_ (some 25) rfl rfl Tryd.func36 (by kernel_rfl) rfl #[.string ((rd_T65 l0 x5_2).f0)] rfl (by (try simp only [List.map_toArray, List.map_cons, List.map_nil]); first | done | rfl | (simp only [List.length_drop, List.length_take]; rfl)) ?_; (with_reducible refine (q9_Named.calls k2 ((rd_T65 l0 x5_2).f0) true _ A8.out).mono ?_); rintro e w16 ⟨rfl, hb⟩; refine ⟨_, rfl, ?_⟩; have n0_ := Asd.mk (Kd.R_below (by (with_reducible repeat (first | apply Kd.R_alloc | apply Kd.R_drewN | apply Kd.R_drew)); exact HO_4.out) hb); have n1_ := Asd.mk (below_step (by repeat (first | (with_reducible first | exact HB.out | apply bal | apply pbN | apply bd1) | exact HB.out)) hb); clear HO_4; clear HB; have HO_4 := n0_; have HB := n1_; clear n0_ n1_; (try clear hb); (try clear hb2); (try clear hk); (try clear hi); have p298 : 0 <= (x5_2 : Int) := of_decide_eq_true (by first | (with_reducible assumption) | assumption); have q298 : x5_2 < (l0.length : Int) := of_decide_eq_true (by first | (with_reducible assumption) | assumption); obtain ⟨ad298, e298, hx298_0, hx298_1, hx298_2⟩ := at_T65 HR0.out x5_2 p298 q298; obtain rfl : ad296 = ad298 := (by injection e298); replace hx298_0 := (HB.out.cell (World.block_lt_of_cell? w _ hx298_0)).trans hx298_0; replace hx298_1 := (HB.out.cell (World.block_lt_of_cell? w _ hx298_1)).trans hx298_1; replace hx298_2 := (HB.out.cell (World.block_lt_of_cell? w _ hx298_2)).trans hx298_2; replace p298 := eq_true p298; replace q298 := eq_true q298) | (go_at_call 44; (with_reducible refine (q6_may.calls k2 ((rd_T65 l0 x5_2).f1) true _ A10.out).mono ?_); rintro e w' ⟨rfl, ⟨nd, rfl⟩⟩; have p300 : 0 <= (x5_2 : Int) := of_decide_eq_true (by first | (with_reducible assumption) | assumption); have q300 : x5_2 < (l0.length : Int) := of_decide_eq_true (by first | (with_reducible assumption) | assumption); obtain ⟨ad300, e300, hx300_0, hx300_1, hx300_2⟩ := at_T65 HR0.out x5_2 p300 q300; obtain rfl : ad296 = ad300 := (by injection e300); replace hx300_0 := (HB.out.cell (World.block_lt_of_cell? w _ hx300_0)).trans hx300_0; replace hx300_1 := (HB.out.cell (World.block_lt_of_cell? w _ hx300_1)).trans hx300_1; replace hx300_2 := (HB.out.cell (World.block_lt_of_cell? w _ hx300_2)).trans hx300_2; replace p300 := eq_true p300; replace q300 := eq_true q300) | (go_at_call 44; (with_reducible refine (q6_may.calls k2 ((rd_T65 l0 x5_2).f2) true _ A12.out).mono ?_); rintro e w' ⟨rfl, ⟨nd, rfl⟩⟩; have p302 : 0 <= (x5_2 : Int) := of_decide_eq_true (by first | (with_reducible assumption) | assumption); have q302 : x5_2 < (l0.length : Int) := of_decide_eq_true (by first | (with_reducible assumption) | assumption); obtain ⟨ad302, e302, hx302_0, hx302_1, hx302_2⟩ := at_T65 HR0.out x5_2 p302 q302; obtain rfl : ad296 = ad302 := (by injection e302); replace hx302_0 := (HB.out.cell (World.block_lt_of_cell? w _ hx302_0)).trans hx302_0; replace hx302_1 := (HB.out.cell (World.block_lt_of_cell? w _ hx302_1)).trans hx302_1; replace hx302_2 := (HB.out.cell (World.block_lt_of_cell? w _ hx302_2)).trans hx302_2; replace p302 := eq_true p302; replace q302 := eq_true q302))
             go_meet
             case rel => exact ⟨_, (false), (by first | rfl | (simp; done) | (simp [*]; done)), H', ⟨by have := HJ1.out; have := HK2.out; first | omega | exact Nat.le_refl _⟩, ⟨by (with_reducible repeat (first | apply Kd.R_alloc | apply Kd.R_drewN | apply Kd.R_drew)); exact HO_4.out⟩, ⟨by repeat (first | (with_reducible first | exact HB.out | apply bal | apply pbN | apply bd1) | exact HB.out)⟩⟩
           ·replace c13 := Bool.eq_false_iff.mpr c13
            subst c13
            have H1 : (q6_Push.j2 k2 l0 x4_2 x5_2 true) = some (r1, r2) := by rw [if_neg (show ¬ (false = true) by decide)] at H; exact H
            clear H
            have H := H1
            clear H1
            have H' := Asd.mk H
            clear H
            have p296 : 0 <= (x5_2 : Int) := of_decide_eq_true (by first | (with_reducible assumption) | assumption)
            have q296 : x5_2 < (l0.length : Int) := of_decide_eq_true (by first | (with_reducible assumption) | assumption)
            obtain ⟨ad296, e296, hx296_0, hx296_1, hx296_2⟩ := at_T65 HR0.out x5_2 p296 q296
            cases e296
            replace hx296_0 := (HB.out.cell (World.block_lt_of_cell? w _ hx296_0)).trans hx296_0
            replace hx296_1 := (HB.out.cell (World.block_lt_of_cell? w _ hx296_1)).trans hx296_1
            replace hx296_2 := (HB.out.cell (World.block_lt_of_cell? w _ hx296_2)).trans hx296_2
            replace p296 := eq_true p296
            replace q296 := eq_true q296
            go_wp2_with (first | ((with_reducible refine gate_callee (f := 36) rfl ?_); refine goesL_ (some 25) rfl rfl Tryd.func36 (by kernel_rfl) rfl #[.string ((rd_T65 l0 x5_2).f0)] rfl (by (try simp only [List.map_toArray, List.map_cons, List.map_nil]); first | done | rfl | (simp only [List.length_drop, List.length_take]; rfl)) ?_; (with_reducible refine (q9_Named.calls k2 ((rd_T65 l0 x5_2).f0) true _ A8.out).mono ?_); rintro e w17 ⟨rfl, hb⟩; refine ⟨_, rfl, ?_⟩; have n0_ := Asd.mk (Kd.R_below (by (with_reducible repeat (first | apply Kd.R_alloc | apply Kd.R_drewN | apply Kd.R_drew)); exact HO_4.out) hb); have n1_ := Asd.mk (below_step (by repeat (first | (with_reducible first | exact HB.out | apply bal | apply pbN | apply bd1) | exact HB.out)) hb); clear HO_4; clear HB; have HO_4 := n0_; have HB := n1_; clear n0_ n1_; (try clear hb); (try clear hb2); (try clear hk); (try clear hi); have p298 : 0 <= (x5_2 : Int) := of_decide_eq_true (by first | (with_reducible assumption) | assumption); have q298 : x5_2 < (l0.length : Int) := of_decide_eq_true (by first | (with_reducible assumption) | assumption); obtain ⟨ad298, e298, hx298_0, hx298_1, hx298_2⟩ := at_T65 HR0.out x5_2 p298 q298; obtain rfl : ad296 = ad298 := (by injection e298); replace hx298_0 := (HB.out.cell (World.block_lt_of_cell? w _ hx298_0)).trans hx298_0; replace hx298_1 := (HB.out.cell (World.block_lt_of_cell? w _ hx298_1)).trans hx298_1; replace hx298_2 := (HB.out.cell (World.block_lt_of_cell? w _ hx298_2)).trans hx298_2; replace p298 := eq_true p298; replace q298 := eq_true q298) | (go_at_call 44; (with_reducible refine (q6_may.calls k2 ((rd_T65 l0 x5_2).f1) true _ A10.out).mono ?_); rintro e w' ⟨rfl, ⟨nd, rfl⟩⟩; have p300 : 0 <= (x5_2 : Int) := of_decide_eq_true (by first | (with_reducible assumption) | assumption); have q300 : x5_2 < (l0.length : Int) := of_decide_eq_true (by first | (with_reducible assumption) | assumption); obtain ⟨ad300, e300, hx300_0, hx300_1, hx300_2⟩ := at_T65 HR0.out x5_2 p300 q300; obtain rfl : ad296 = ad300 := (by injection e300); replace hx300_0 := (HB.out.cell (World.block_lt_of_cell? w _ hx300_0)).trans hx300_0; replace hx300_1 := (HB.out.cell (World.block_lt_of_cell? w _ hx300_1)).trans hx300_1; replace hx300_2 := (HB.out.cell (World.block_lt_of_cell? w _ hx300_2)).trans hx300_2; replace p300 := eq_true p300; replace q300 := eq_true q300) | (go_at_call 44; (with_reducible refine (q6_may.calls k2 ((rd_T65 l0 x5_2).f2) false _ A12.out).mono ?_); rintro e w' ⟨rfl, ⟨nd, rfl⟩⟩))
            go_meet
            case rel => exact ⟨_, (true), (by first | rfl | (simp; done) | (simp [*]; done)), H', ⟨by have := HJ1.out; have := HK2.out; first | omega | exact Nat.le_refl _⟩, ⟨by (with_reducible repeat (first | apply Kd.R_alloc | apply Kd.R_drewN | apply Kd.R_drew)); exact HO_4.out⟩, ⟨by repeat (first | (with_reducible first | exact HB.out | apply bal | apply pbN | apply bd1) | exact HB.out)⟩⟩
          ·replace c11 := Bool.eq_false_iff.mpr c11
           subst c11
           have H1 : (q6_Push.j2 k2 l0 x4_2 x5_2 true) = some (r1, r2) := by rw [if_neg (show ¬ (false = true) by decide)] at H; exact H
           clear H
           have H := H1
           clear H1
           have H' := Asd.mk H
           clear H
           have p296 : 0 <= (x5_2 : Int) := of_decide_eq_true (by first | (with_reducible assumption) | assumption)
           have q296 : x5_2 < (l0.length : Int) := of_decide_eq_true (by first | (with_reducible assumption) | assumption)
           obtain ⟨ad296, e296, hx296_0, hx296_1, hx296_2⟩ := at_T65 HR0.out x5_2 p296 q296
           cases e296
           replace hx296_0 := (HB.out.cell (World.block_lt_of_cell? w _ hx296_0)).trans hx296_0
           replace hx296_1 := (HB.out.cell (World.block_lt_of_cell? w _ hx296_1)).trans hx296_1
           replace hx296_2 := (HB.out.cell (World.block_lt_of_cell? w _ hx296_2)).trans hx296_2
           replace p296 := eq_true p296
           replace q296 := eq_true q296
           go_wp2_with (first | ((with_reducible refine gate_callee (f := 36) rfl ?_); refine goesL_ (some 25) rfl rfl Tryd.func36 (by kernel_rfl) rfl #[.string ((rd_T65 l0 x5_2).f0)] rfl (by (try simp only [List.map_toArray, List.map_cons, List.map_nil]); first | done | rfl | (simp only [List.length_drop, List.length_take]; rfl)) ?_; (with_reducible refine (q9_Named.calls k2 ((rd_T65 l0 x5_2).f0) true _ A8.out).mono ?_); rintro e w18 ⟨rfl, hb⟩; refine ⟨_, rfl, ?_⟩; have n0_ := Asd.mk (Kd.R_below (by (with_reducible repeat (first | apply Kd.R_alloc | apply Kd.R_drewN | apply Kd.R_drew)); exact HO_4.out) hb); have n1_ := Asd.mk (below_step (by repeat (first | (with_reducible first | exact HB.out | apply bal | apply pbN | apply bd1) | exact HB.out)) hb); clear HO_4; clear HB; have HO_4 := n0_; have HB := n1_; clear n0_ n1_; (try clear hb); (try clear hb2); (try clear hk); (try clear hi); have p298 : 0 <= (x5_2 : Int) := of_decide_eq_true (by first | (with_reducible assumption) | assumption); have q298 : x5_2 < (l0.length : Int) := of_decide_eq_true (by first | (with_reducible assumption) | assumption); obtain ⟨ad298, e298, hx298_0, hx298_1, hx298_2⟩ := at_T65 HR0.out x5_2 p298 q298; obtain rfl : ad296 = ad298 := (by injection e298); replace hx298_0 := (HB.out.cell (World.block_lt_of_cell? w _ hx298_0)).trans hx298_0; replace hx298_1 := (HB.out.cell (World.block_lt_of_cell? w _ hx298_1)).trans hx298_1; replace hx298_2 := (HB.out.cell (World.block_lt_of_cell? w _ hx298_2)).trans hx298_2; replace p298 := eq_true p298; replace q298 := eq_true q298) | (go_at_call 44; (with_reducible refine (q6_may.calls k2 ((rd_T65 l0 x5_2).f1) false _ A10.out).mono ?_); rintro e w' ⟨rfl, ⟨nd, rfl⟩⟩))
           go_meet
           case rel => exact ⟨_, (true), (by first | rfl | (simp; done) | (simp [*]; done)), H', ⟨by have := HJ1.out; have := HK2.out; first | omega | exact Nat.le_refl _⟩, ⟨by (with_reducible repeat (first | apply Kd.R_alloc | apply Kd.R_drewN | apply Kd.R_drew)); exact HO_4.out⟩, ⟨by repeat (first | (with_reducible first | exact HB.out | apply bal | apply pbN | apply bd1) | exact HB.out)⟩⟩
         ·replace c9 := Bool.eq_false_iff.mpr c9
          subst c9
          have H1 : (q6_Push.j2 k2 l0 x4_2 x5_2 true) = some (r1, r2) := by rw [if_neg (show ¬ (false = true) by decide)] at H; exact H
          clear H
          have H := H1
          clear H1
          have H' := Asd.mk H
          clear H
          have p296 : 0 <= (x5_2 : Int) := of_decide_eq_true (by first | (with_reducible assumption) | assumption)
          have q296 : x5_2 < (l0.length : Int) := of_decide_eq_true (by first | (with_reducible assumption) | assumption)
          obtain ⟨ad296, e296, hx296_0, hx296_1, hx296_2⟩ := at_T65 HR0.out x5_2 p296 q296
          cases e296
          replace hx296_0 := (HB.out.cell (World.block_lt_of_cell? w _ hx296_0)).trans hx296_0
          replace hx296_1 := (HB.out.cell (World.block_lt_of_cell? w _ hx296_1)).trans hx296_1
          replace hx296_2 := (HB.out.cell (World.block_lt_of_cell? w _ hx296_2)).trans hx296_2
          replace p296 := eq_true p296
          replace q296 := eq_true q296
          go_wp2_with (first | ((with_reducible refine gate_callee (f := 36) rfl ?_); refine goesL_ (some 25) rfl rfl Tryd.func36 (by kernel_rfl) rfl #[.string ((rd_T65 l0 x5_2).f0)] rfl (by (try simp only [List.map_toArray, List.map_cons, List.map_nil]); first | done | rfl | (simp only [List.length_drop, List.length_take]; rfl)) ?_; (with_reducible refine (q9_Named.calls k2 ((rd_T65 l0 x5_2).f0) false _ A8.out).mono ?_); rintro e w19 ⟨rfl, hb⟩; refine ⟨_, rfl, ?_⟩; have n0_ := Asd.mk (Kd.R_below (by (with_reducible repeat (first | apply Kd.R_alloc | apply Kd.R_drewN | apply Kd.R_drew)); exact HO_4.out) hb); have n1_ := Asd.mk (below_step (by repeat (first | (with_reducible first | exact HB.out | apply bal | apply pbN | apply bd1) | exact HB.out)) hb); clear HO_4; clear HB; have HO_4 := n0_; have HB := n1_; clear n0_ n1_; (try clear hb); (try clear hb2); (try clear hk); (try clear hi)))
          go_meet
          case rel => exact ⟨_, (true), (by first | rfl | (simp; done) | (simp [*]; done)), H', ⟨by have := HJ1.out; have := HK2.out; first | omega | exact Nat.le_refl _⟩, ⟨by (with_reducible repeat (first | apply Kd.R_alloc | apply Kd.R_drewN | apply Kd.R_drew)); exact HO_4.out⟩, ⟨by repeat (first | (with_reducible first | exact HB.out | apply bal | apply pbN | apply bd1) | exact HB.out)⟩⟩
        ·rw [if_neg c7] at H
         exact absurd H (by simp)
       case rest =>
        clear HC6
        try clear c1
        try clear p2
        try clear q2
        try clear hx2
        try clear c3
        try clear c3b0
        try clear c3b1
        try clear p3
        try clear q3
        try clear hx3
        try clear c4
        try clear c5
        try clear c5b0
        try clear c7
        try clear c7b0
        try clear c9
        try clear c11
        try clear c13
        try clear c14
        try clear c14b0
        try clear c14b1
        try clear c18
        try clear hx296_0
        try clear hx296_1
        try clear hx296_2
        try clear hx298_0
        try clear hx298_1
        try clear hx298_2
        try clear hx300_0
        try clear hx300_1
        try clear hx300_2
        try clear hx302_0
        try clear hx302_1
        try clear hx302_2
        try clear hx303_0
        try clear hx303_1
        try clear hx303_2
        try clear p2
        try clear p296
        try clear p298
        try clear p300
        try clear p302
        try clear p303
        try clear q296
        try clear q298
        try clear q300
        try clear q302
        try clear q303
        obtain ⟨kq, x60_5, rfl, HA, HJ5, HO_4, HB⟩ := hcut
        cases kq with
        | zero => exact absurd HA.out (by simp [q6_Push.j2])
        | succ kj5 =>
         have H := HA.out
         clear HA
         simp only [q6_Push.j2] at H
         by_cases c20 : x60_5 = true
         ·subst c20
          have H1 : (some (([] : List (S49)), false)) = some (r1, r2) := by rw [if_pos rfl] at H; exact H
          clear H
          have H := H1
          clear H1
          simp only [Option.some.injEq, Prod.mk.injEq] at H
          obtain ⟨rfl, rfl⟩ := H
          go_wp2
          go_ret2
          exact ⟨_, by first | rfl | (simp [errW_none, errW_some] <;> rfl) | (simp [*, errW_none, errW_some] <;> rfl), by first | exact Kd.R_nil _ _ _ _ _ | exact Kd.N_nil _ _ _ _ _ | exact Kd.V_nil _ _ _ _ _ | exact Kd.Q_nil _ _ _ _ _ | exact Kd.S_nil _ _ _ _ _, by repeat (first | (with_reducible first | exact HB.out | apply bal | apply pbN | apply bd1) | exact HB.out)⟩
         ·replace c20 := Bool.eq_false_iff.mpr c20
          subst c20
          have H1 : (if 0 <= x5_2 then (if x5_2 < (l0.length : Int) then ((q6_dash.f ((rd_T65 l0 x5_2).f1)).bind fun t305 => (if t305.size + 1 <= 9223372036854775807 then ((q6_dash.f ((rd_T65 l0 x5_2).f2)).bind fun t307 => (if (t305 ++ (⟨#[32]⟩ : ByteArray)).size + t307.size <= 9223372036854775807 then (if ((t305 ++ (⟨#[32]⟩ : ByteArray)) ++ t307).size + 1 <= 9223372036854775807 then (if (((t305 ++ (⟨#[32]⟩ : ByteArray)) ++ t307) ++ (⟨#[32]⟩ : ByteArray)).size + ((rd_T65 l0 x5_2).f0).size <= 9223372036854775807 then (if x4_2.length < 8796093022208 then (q6_Push.l0 kj5 l0 (x4_2 ++ [(((t305 ++ (⟨#[32]⟩ : ByteArray)) ++ t307) ++ (⟨#[32]⟩ : ByteArray)) ++ ((rd_T65 l0 x5_2).f0)]) (wrap64 (x5_2 + 1))) else (none)) else (none)) else (none)) else (none))) else (none))) else (none)) else (none)) = some (r1, r2) := by rw [if_neg (show ¬ (false = true) by decide)] at H; exact H
          clear H
          have H := H1
          clear H1
          by_cases c21 : 0 <= x5_2
          ·rw [if_pos c21] at H
           have c21b0 : decide (0 <= x5_2) = true := decide_eq_true c21
           clear c21
           by_cases c22 : x5_2 < (l0.length : Int)
           ·rw [if_pos c22] at H
            have c22b0 : decide (x5_2 < (l0.length : Int)) = true := decide_eq_true c22
            clear c22
            replace H := Option.bind_eq_some_iff.mp H
            obtain ⟨t305, A230, H⟩ := H
            replace H : (if t305.size + 1 <= 9223372036854775807 then ((q6_dash.f ((rd_T65 l0 x5_2).f2)).bind fun t307 => (if (t305 ++ (⟨#[32]⟩ : ByteArray)).size + t307.size <= 9223372036854775807 then (if ((t305 ++ (⟨#[32]⟩ : ByteArray)) ++ t307).size + 1 <= 9223372036854775807 then (if (((t305 ++ (⟨#[32]⟩ : ByteArray)) ++ t307) ++ (⟨#[32]⟩ : ByteArray)).size + ((rd_T65 l0 x5_2).f0).size <= 9223372036854775807 then (if x4_2.length < 8796093022208 then (q6_Push.l0 kj5 l0 (x4_2 ++ [(((t305 ++ (⟨#[32]⟩ : ByteArray)) ++ t307) ++ (⟨#[32]⟩ : ByteArray)) ++ ((rd_T65 l0 x5_2).f0)]) (wrap64 (x5_2 + 1))) else (none)) else (none)) else (none)) else (none))) else (none)) = some (r1, r2) := H
            have A23 := Asd.mk A230
            clear A230
            by_cases c24 : t305.size + 1 <= 9223372036854775807
            ·rw [if_pos c24] at H
             have c24b0 := eq_true c24
             have c24b1 : decide (t305.size + 1 <= 9223372036854775807) = true := decide_eq_true c24
             try have c24b2 : (9223372036854775807 < t305.size + 1) = False := eq_false (Nat.not_lt.2 c24)
             replace H := Option.bind_eq_some_iff.mp H
             obtain ⟨t307, A250, H⟩ := H
             replace H : (if (t305 ++ (⟨#[32]⟩ : ByteArray)).size + t307.size <= 9223372036854775807 then (if ((t305 ++ (⟨#[32]⟩ : ByteArray)) ++ t307).size + 1 <= 9223372036854775807 then (if (((t305 ++ (⟨#[32]⟩ : ByteArray)) ++ t307) ++ (⟨#[32]⟩ : ByteArray)).size + ((rd_T65 l0 x5_2).f0).size <= 9223372036854775807 then (if x4_2.length < 8796093022208 then (q6_Push.l0 kj5 l0 (x4_2 ++ [(((t305 ++ (⟨#[32]⟩ : ByteArray)) ++ t307) ++ (⟨#[32]⟩ : ByteArray)) ++ ((rd_T65 l0 x5_2).f0)]) (wrap64 (x5_2 + 1))) else (none)) else (none)) else (none)) else (none)) = some (r1, r2) := H
             have A25 := Asd.mk A250
             clear A250
             by_cases c26 : (t305 ++ (⟨#[32]⟩ : ByteArray)).size + t307.size <= 9223372036854775807
             ·rw [if_pos c26] at H
              have c26b0 := eq_true c26
              have c26b1 : decide ((t305 ++ (⟨#[32]⟩ : ByteArray)).size + t307.size <= 9223372036854775807) = true := decide_eq_true c26
              try have c26b2 : (9223372036854775807 < (t305 ++ (⟨#[32]⟩ : ByteArray)).size + t307.size) = False := eq_false (Nat.not_lt.2 c26)
              try have c26b3 : (9223372036854775807 < t305.size + 1 + t307.size) = False := eq_false (Nat.not_lt.2 (by have e_ := c26; simp only [ByteArray.size_append] at e_; exact e_))
              by_cases c27 : ((t305 ++ (⟨#[32]⟩ : ByteArray)) ++ t307).size + 1 <= 9223372036854775807
              ·rw [if_pos c27] at H
               have c27b0 := eq_true c27
               have c27b1 : decide (((t305 ++ (⟨#[32]⟩ : ByteArray)) ++ t307).size + 1 <= 9223372036854775807) = true := decide_eq_true c27
               try have c27b2 : (9223372036854775807 < ((t305 ++ (⟨#[32]⟩ : ByteArray)) ++ t307).size + 1) = False := eq_false (Nat.not_lt.2 c27)
               try have c27b3 : (9223372036854775807 < t305.size + 1 + t307.size + 1) = False := eq_false (Nat.not_lt.2 (by have e_ := c27; simp only [ByteArray.size_append] at e_; exact e_))
               by_cases c28 : (((t305 ++ (⟨#[32]⟩ : ByteArray)) ++ t307) ++ (⟨#[32]⟩ : ByteArray)).size + ((rd_T65 l0 x5_2).f0).size <= 9223372036854775807
               ·rw [if_pos c28] at H
                have c28b0 := eq_true c28
                have c28b1 : decide ((((t305 ++ (⟨#[32]⟩ : ByteArray)) ++ t307) ++ (⟨#[32]⟩ : ByteArray)).size + ((rd_T65 l0 x5_2).f0).size <= 9223372036854775807) = true := decide_eq_true c28
                try have c28b2 : (9223372036854775807 < (((t305 ++ (⟨#[32]⟩ : ByteArray)) ++ t307) ++ (⟨#[32]⟩ : ByteArray)).size + ((rd_T65 l0 x5_2).f0).size) = False := eq_false (Nat.not_lt.2 c28)
                try have c28b3 : (9223372036854775807 < t305.size + 1 + t307.size + 1 + ((rd_T65 l0 x5_2).f0).size) = False := eq_false (Nat.not_lt.2 (by have e_ := c28; simp only [ByteArray.size_append] at e_; exact e_))
                by_cases c29 : x4_2.length < 8796093022208
                ·rw [if_pos c29] at H
                 have LMc29 := Asd.mk c29
                 clear c29
                 obtain ⟨y309, hy309⟩ : ∃ y_ : List ByteArray, y_ = (x4_2 ++ [(((t305 ++ (⟨#[32]⟩ : ByteArray)) ++ t307) ++ (⟨#[32]⟩ : ByteArray)) ++ ((rd_T65 l0 x5_2).f0)]) := ⟨_, rfl⟩
                 replace H : (q6_Push.l0 kj5 l0 y309 (wrap64 (x5_2 + 1))) = some (r1, r2) := by first | (rw [hy309]; with_reducible exact H) | (have H2_ := (Option.bind_some _ _).symm.trans H; rw [hy309]; with_reducible exact H2_) | (have H2_ := (Option.bind_some _ _).symm.trans H; with_reducible exact H2_) | with_reducible exact H | (rw [hy309]; exact H) | exact H
                 have Ny309 := Asd.mk hy309
                 clear hy309
                 have H' := Asd.mk H
                 clear H
                 try go_wp2
                 have n0_ := Asd.mk (Kd.R_drew HO_4.out)
                 have n1_ := Asd.mk (bd1 HB.out)
                 clear HO_4
                 clear HB
                 have HO_4 := n0_
                 have HB := n1_
                 clear n0_ n1_
                 have p304 : 0 <= (x5_2 : Int) := of_decide_eq_true (by first | (with_reducible assumption) | assumption)
                 have q304 : x5_2 < (l0.length : Int) := of_decide_eq_true (by first | (with_reducible assumption) | assumption)
                 obtain ⟨ad304, e304, hx304_0, hx304_1, hx304_2⟩ := at_T65 HR0.out x5_2 p304 q304
                 have hw304_2 := hx304_2
                 have hw304_1 := hx304_1
                 have hw304_0 := hx304_0
                 cases e304
                 replace hx304_0 := (HB.out.cell (World.block_lt_of_cell? w _ hx304_0)).trans hx304_0
                 replace hx304_1 := (HB.out.cell (World.block_lt_of_cell? w _ hx304_1)).trans hx304_1
                 replace hx304_2 := (HB.out.cell (World.block_lt_of_cell? w _ hx304_2)).trans hx304_2
                 replace p304 := eq_true p304
                 replace q304 := eq_true q304
                 have p306 : 0 <= (x5_2 : Int) := of_decide_eq_true (by first | (with_reducible assumption) | assumption)
                 have q306 : x5_2 < (l0.length : Int) := of_decide_eq_true (by first | (with_reducible assumption) | assumption)
                 obtain ⟨ad306, e306, hx306_0, hx306_1, hx306_2⟩ := at_T65 HR0.out x5_2 p306 q306
                 have hw306_2 := hx306_2
                 have hw306_1 := hx306_1
                 have hw306_0 := hx306_0
                 obtain rfl : ad304 = ad306 := (by injection e306)
                 replace hx306_0 := (HB.out.cell (World.block_lt_of_cell? w _ hx306_0)).trans hx306_0
                 replace hx306_1 := (HB.out.cell (World.block_lt_of_cell? w _ hx306_1)).trans hx306_1
                 replace hx306_2 := (HB.out.cell (World.block_lt_of_cell? w _ hx306_2)).trans hx306_2
                 replace p306 := eq_true p306
                 replace q306 := eq_true q306
                 have p308 : 0 <= (x5_2 : Int) := of_decide_eq_true (by first | (with_reducible assumption) | assumption)
                 have q308 : x5_2 < (l0.length : Int) := of_decide_eq_true (by first | (with_reducible assumption) | assumption)
                 obtain ⟨ad308, e308, hx308_0, hx308_1, hx308_2⟩ := at_T65 HR0.out x5_2 p308 q308
                 have hw308_2 := hx308_2
                 have hw308_1 := hx308_1
                 have hw308_0 := hx308_0
                 obtain rfl : ad304 = ad308 := (by injection e308)
                 replace hx308_0 := (HB.out.cell (World.block_lt_of_cell? w _ hx308_0)).trans hx308_0
                 replace hx308_1 := (HB.out.cell (World.block_lt_of_cell? w _ hx308_1)).trans hx308_1
                 replace hx308_2 := (HB.out.cell (World.block_lt_of_cell? w _ hx308_2)).trans hx308_2
                 replace p308 := eq_true p308
                 replace q308 := eq_true q308
                 refine start_ (n := 25) (S := fun w' => w'.cell? (ad304.add ((x5_2).toNat * 3)) = some (.string ((rd_T65 l0 x5_2).f0)) /\ w'.cell? ⟨(ad304.add ((x5_2).toNat * 3)).block, (ad304.add ((x5_2).toNat * 3)).off + 1, none⟩ = some (.string ((rd_T65 l0 x5_2).f1)) /\ w'.cell? ⟨(ad304.add ((x5_2).toNat * 3)).block, (ad304.add ((x5_2).toNat * 3)).off + 2, none⟩ = some (.string ((rd_T65 l0 x5_2).f2)) /\ w'.cell? (ad304.add ((x5_2).toNat * 3)) = some (.string ((rd_T65 l0 x5_2).f0)) /\ w'.cell? ⟨(ad304.add ((x5_2).toNat * 3)).block, (ad304.add ((x5_2).toNat * 3)).off + 1, none⟩ = some (.string ((rd_T65 l0 x5_2).f1)) /\ w'.cell? ⟨(ad304.add ((x5_2).toNat * 3)).block, (ad304.add ((x5_2).toNat * 3)).off + 2, none⟩ = some (.string ((rd_T65 l0 x5_2).f2)) /\ w'.cell? (ad304.add ((x5_2).toNat * 3)) = some (.string ((rd_T65 l0 x5_2).f0)) /\ w'.cell? ⟨(ad304.add ((x5_2).toNat * 3)).block, (ad304.add ((x5_2).toNat * 3)).off + 1, none⟩ = some (.string ((rd_T65 l0 x5_2).f1)) /\ w'.cell? ⟨(ad304.add ((x5_2).toNat * 3)).block, (ad304.add ((x5_2).toNat * 3)).off + 2, none⟩ = some (.string ((rd_T65 l0 x5_2).f2))) (ds := []) (bA 25 0) (by kernel_rfl) rfl rfl ⟨((HB.out.cell (World.block_lt_of_cell? w _ hw304_0)).trans hw304_0), ((HB.out.cell (World.block_lt_of_cell? w _ hw304_1)).trans hw304_1), ((HB.out.cell (World.block_lt_of_cell? w _ hw304_2)).trans hw304_2), ((HB.out.cell (World.block_lt_of_cell? w _ hw306_0)).trans hw306_0), ((HB.out.cell (World.block_lt_of_cell? w _ hw306_1)).trans hw306_1), ((HB.out.cell (World.block_lt_of_cell? w _ hw306_2)).trans hw306_2), ((HB.out.cell (World.block_lt_of_cell? w _ hw308_0)).trans hw308_0), ((HB.out.cell (World.block_lt_of_cell? w _ hw308_1)).trans hw308_1), ((HB.out.cell (World.block_lt_of_cell? w _ hw308_2)).trans hw308_2)⟩ (fun hHeld => ?_); refine with_tabW q6_Push.tab9 q6_Push.bits9 (fun HT_ HW_ => ?_)
                 generalize wc.drew = w30 at HO_4 HB hx304_0 hx304_1 hx304_2 hx306_0 hx306_1 hx306_2 hx308_0 hx308_1 hx308_2 hHeld ⊢
                 refine pure_ (i := 0) (N := some 61) (v := ?_) (a' := ?_) (bA 25 1) rfl rfl (any_of HT_.out (by kernel_rfl)) (fun _ _ _ h => h) (Or.inl ⟨by rfl, ?_⟩) ?_ ?_
                 rotate_left
                 ·intro w'
                  go_simp
                  with_reducible rfl
                 rotate_left
                 ·simp only [Act.put, zA, zB, zC, i64_w, i32_w]
                  rfl
                 refine pure_ (i := 1) (N := some 62) (v := ?_) (a' := ?_) (bA 25 3) rfl rfl (any_of HT_.out (by kernel_rfl)) (fun _ _ _ h => h) (Or.inl ⟨by rfl, ?_⟩) ?_ ?_
                 rotate_left
                 ·intro w'
                  go_simp
                  with_reducible rfl
                 rotate_left
                 ·simp only [Act.put, zA, zB, zC, i64_w, i32_w]
                  rfl
                 refine pure_ (i := 2) (N := some 63) (v := ?_) (a' := ?_) (bA 25 7) rfl rfl (any_of HT_.out (by kernel_rfl)) (fun _ _ _ h => h) (Or.inl ⟨by rfl, ?_⟩) ?_ ?_
                 rotate_left
                 ·intro w'
                  go_simp
                  with_reducible rfl
                 rotate_left
                 ·simp only [Act.put, zA, zB, zC, i64_w, i32_w]
                  rfl
                 refine pure_ (i := 3) (N := some 64) (v := ?_) (a' := ?_) (bA 25 15) rfl rfl (any_of HT_.out (by kernel_rfl)) (fun _ _ _ h => h) (Or.inl ⟨by rfl, ?_⟩) ?_ ?_
                 rotate_left
                 ·intro w'
                  go_simp
                  with_reducible rfl
                 rotate_left
                 ·simp only [Act.put, zA, zB, zC, i64_w, i32_w]
                  rfl
                 refine pure_ (i := 4) (N := some 65) (v := ?_) (a' := ?_) (bA 25 31) rfl rfl (any_of HT_.out (by kernel_rfl)) (fun _ _ _ h => h) (Or.inl ⟨by rfl, ?_⟩) ?_ ?_
                 rotate_left
                 ·intro w'
                  go_simp
                  with_reducible rfl
                 rotate_left
                 ·simp only [Act.put, zA, zB, zC, i64_w, i32_w]
                  rfl
                 refine pure_ (i := 8) (N := some 69) (v := ?_) (a' := ?_) (bA 25 287) rfl rfl (any_of HT_.out (by kernel_rfl)) (fun _ _ _ h => h) (Or.inl ⟨by rfl, ?_⟩) ?_ ?_
                 rotate_left
                 ·intro w'
                  go_simp
                  with_reducible rfl
                 rotate_left
                 ·simp only [Act.put, zA, zB, zC, i64_w, i32_w]
                  rfl
                 refine pure_ (i := 9) (N := some 70) (v := ?_) (a' := ?_) (bA 25 799) rfl rfl (any_of HT_.out (by kernel_rfl)) (fun _ _ _ h => h) (Or.inl ⟨by rfl, ?_⟩) ?_ ?_
                 rotate_left
                 ·intro w'
                  go_simp
                  with_reducible rfl
                 rotate_left
                 ·simp only [Act.put, zA, zB, zC, i64_w, i32_w]
                  rfl
                 refine pure_ (i := 10) (N := some 71) (v := ?_) (a' := ?_) (bA 25 1823) rfl rfl (any_of HT_.out (by kernel_rfl)) (fun _ _ _ h => h) (Or.inl ⟨by rfl, ?_⟩) ?_ ?_
                 rotate_left
                 ·intro w'
                  go_simp
                  with_reducible rfl
                 rotate_left
                 ·simp only [Act.put, zA, zB, zC, i64_w, i32_w]
                  rfl
                 refine pure_ (i := 11) (N := some 72) (v := ?_) (a' := ?_) (bA 25 3871) rfl rfl (any_of HT_.out (by kernel_rfl)) (fun _ _ _ h => h) (Or.inl ⟨by rfl, ?_⟩) ?_ ?_
                 rotate_left
                 ·intro w'
                  go_simp
                  with_reducible rfl
                 rotate_left
                 ·simp only [Act.put, zA, zB, zC, i64_w, i32_w]
                  rfl
                 refine pure_ (i := 16) (N := some 77) (v := ?_) (a' := ?_) (bA 25 69407) rfl rfl (any_of HT_.out (by kernel_rfl)) (fun _ _ _ h => h) (Or.inl ⟨by rfl, ?_⟩) ?_ ?_
                 rotate_left
                 ·intro w'
                  go_simp
                  with_reducible rfl
                 rotate_left
                 ·simp only [Act.put, zA, zB, zC, i64_w, i32_w]
                  rfl
                 refine pure_ (i := 17) (N := some 78) (v := ?_) (a' := ?_) (bA 25 200479) rfl rfl (any_of HT_.out (by kernel_rfl)) (fun _ _ _ h => h) (Or.inl ⟨by rfl, ?_⟩) ?_ ?_
                 rotate_left
                 ·intro w'
                  go_simp
                  with_reducible rfl
                 rotate_left
                 ·simp only [Act.put, zA, zB, zC, i64_w, i32_w]
                  rfl
                 refine pure_ (i := 18) (N := some 79) (v := ?_) (a' := ?_) (bA 25 462623) rfl rfl (any_of HT_.out (by kernel_rfl)) (fun _ _ _ h => h) (Or.inl ⟨by rfl, ?_⟩) ?_ ?_
                 rotate_left
                 ·intro w'
                  go_simp
                  with_reducible rfl
                 rotate_left
                 ·simp only [Act.put, zA, zB, zC, i64_w, i32_w]
                  rfl
                 refine pure_ (i := 19) (N := some 80) (v := ?_) (a' := ?_) (bA 25 986911) rfl rfl (any_of HT_.out (by kernel_rfl)) (fun _ _ _ h => h) (Or.inl ⟨by rfl, ?_⟩) ?_ ?_
                 rotate_left
                 ·intro w'
                  go_simp
                  with_reducible rfl
                 rotate_left
                 ·simp only [Act.put, zA, zB, zC, i64_w, i32_w]
                  rfl
                 refine take_ (i := 5) (N := some 66) (v := ?_) (a' := ?_) (bA 25 986943) rfl rfl (take_ofW HT_.out HW_.out (by kernel_rfl)) (fun _ _ _ h => h) (Or.inl ⟨by rfl, ?_⟩) hHeld ?_ ?_
                 rotate_left
                 ·rintro w' ⟨s0, s1, s2, s3, s4, s5, s6, s7, s8⟩
                  go_simp
                  with_reducible rfl
                 rotate_left
                 ·simp only [Act.put, zA, zB, zC, i64_w, i32_w]
                  rfl
                 refine take_ (i := 12) (N := some 73) (v := ?_) (a' := ?_) (bA 25 991039) rfl rfl (take_ofW HT_.out HW_.out (by kernel_rfl)) (fun _ _ _ h => h) (Or.inl ⟨by rfl, ?_⟩) hHeld ?_ ?_
                 rotate_left
                 ·rintro w' ⟨s0, s1, s2, s3, s4, s5, s6, s7, s8⟩
                  go_simp
                  with_reducible rfl
                 rotate_left
                 ·simp only [Act.put, zA, zB, zC, i64_w, i32_w]
                  rfl
                 refine take_ (i := 20) (N := some 81) (v := ?_) (a' := ?_) (bA 25 2039615) rfl rfl (take_ofW HT_.out HW_.out (by kernel_rfl)) (fun _ _ _ h => h) (Or.inl ⟨by rfl, ?_⟩) hHeld ?_ ?_
                 rotate_left
                 ·rintro w' ⟨s0, s1, s2, s3, s4, s5, s6, s7, s8⟩
                  go_simp
                  with_reducible rfl
                 rotate_left
                 ·simp only [Act.put, zA, zB, zC, i64_w, i32_w]
                  rfl
                 refine one_ (i := 6) (N := some 67) (bA 25 2039679) rfl rfl (one_of HT_.out (by kernel_rfl)) (by decide) (fun K hK => ?_)
                 refine goes_ Tryd.func45 (by kernel_rfl) rfl #[.string ((rd_T65 l0 x5_2).f1)] (by rfl) rfl rfl (by (try simp only [List.map_toArray, List.map_cons, List.map_nil]); first | done | rfl | (simp only [List.length_drop, List.length_take]; rfl)) ?_
                 with_reducible refine (q6_dash.calls ((rd_T65 l0 x5_2).f1) t305 _ A23.out).mono ?_
                 rintro e w' ⟨rfl, ⟨nd, rfl⟩⟩
                 refine ⟨_, rfl, ?_⟩
                 refine hK.out _ _ ⟨((HB.out.cell (World.block_lt_of_cell? w _ hw304_0)).trans hw304_0), ((HB.out.cell (World.block_lt_of_cell? w _ hw304_1)).trans hw304_1), ((HB.out.cell (World.block_lt_of_cell? w _ hw304_2)).trans hw304_2), ((HB.out.cell (World.block_lt_of_cell? w _ hw306_0)).trans hw306_0), ((HB.out.cell (World.block_lt_of_cell? w _ hw306_1)).trans hw306_1), ((HB.out.cell (World.block_lt_of_cell? w _ hw306_2)).trans hw306_2), ((HB.out.cell (World.block_lt_of_cell? w _ hw308_0)).trans hw308_0), ((HB.out.cell (World.block_lt_of_cell? w _ hw308_1)).trans hw308_1), ((HB.out.cell (World.block_lt_of_cell? w _ hw308_2)).trans hw308_2)⟩ (fun hHeld => ?_)
                 clear hK K
                 refine norm_ (a' := ?_) ?_ ?_
                 rotate_left
                 ·show Act.put _ (some 67) _ = _
                  simp only [Act.put, zA, zB, zC, i64_w, i32_w]
                  rfl
                 refine pure_ (i := 7) (N := some 68) (v := ?_) (a' := ?_) (bA 25 2039807) rfl rfl (any_of HT_.out (by kernel_rfl)) (fun _ _ _ h => h) (Or.inl ⟨by rfl, ?_⟩) ?_ ?_
                 rotate_left
                 ·intro w'
                  go_simp
                  with_reducible rfl
                 rotate_left
                 ·simp only [Act.put, zA, zB, zC, i64_w, i32_w]
                  rfl
                 refine one_ (i := 13) (N := some 74) (bA 25 2047999) rfl rfl (one_of HT_.out (by kernel_rfl)) (by decide) (fun K hK => ?_)
                 refine goes_ Tryd.func45 (by kernel_rfl) rfl #[.string ((rd_T65 l0 x5_2).f2)] (by rfl) rfl rfl (by (try simp only [List.map_toArray, List.map_cons, List.map_nil]); first | done | rfl | (simp only [List.length_drop, List.length_take]; rfl)) ?_
                 with_reducible refine (q6_dash.calls ((rd_T65 l0 x5_2).f2) t307 _ A25.out).mono ?_
                 rintro e w' ⟨rfl, ⟨nd, rfl⟩⟩
                 refine ⟨_, rfl, ?_⟩
                 refine hK.out _ _ ⟨((HB.out.cell (World.block_lt_of_cell? w _ hw304_0)).trans hw304_0), ((HB.out.cell (World.block_lt_of_cell? w _ hw304_1)).trans hw304_1), ((HB.out.cell (World.block_lt_of_cell? w _ hw304_2)).trans hw304_2), ((HB.out.cell (World.block_lt_of_cell? w _ hw306_0)).trans hw306_0), ((HB.out.cell (World.block_lt_of_cell? w _ hw306_1)).trans hw306_1), ((HB.out.cell (World.block_lt_of_cell? w _ hw306_2)).trans hw306_2), ((HB.out.cell (World.block_lt_of_cell? w _ hw308_0)).trans hw308_0), ((HB.out.cell (World.block_lt_of_cell? w _ hw308_1)).trans hw308_1), ((HB.out.cell (World.block_lt_of_cell? w _ hw308_2)).trans hw308_2)⟩ (fun hHeld => ?_)
                 clear hK K
                 refine norm_ (a' := ?_) ?_ ?_
                 rotate_left
                 ·show Act.put _ (some 74) _ = _
                  simp only [Act.put, zA, zB, zC, i64_w, i32_w]
                  rfl
                 refine pure_ (i := 14) (N := some 75) (v := ?_) (a' := ?_) (bA 25 2064383) rfl rfl (any_of HT_.out (by kernel_rfl)) (fun _ _ _ h => h) (Or.inl ⟨by rfl, ?_⟩) ?_ ?_
                 rotate_left
                 ·intro w'
                  go_simp
                  with_reducible rfl
                 rotate_left
                 ·simp only [Act.put, zA, zB, zC, i64_w, i32_w]
                  rfl
                 refine pure_ (i := 15) (N := some 76) (v := ?_) (a' := ?_) (bA 25 2097151) rfl rfl (any_of HT_.out (by kernel_rfl)) (fun _ _ _ h => h) (Or.inl ⟨by rfl, ?_⟩) ?_ ?_
                 rotate_left
                 ·intro w'
                  go_simp
                  with_reducible rfl
                 rotate_left
                 ·simp only [Act.put, zA, zB, zC, i64_w, i32_w]
                  rfl
                 refine pure_ (i := 21) (N := some 82) (v := ?_) (a' := ?_) (bA 25 4194303) rfl rfl (any_of HT_.out (by kernel_rfl)) (fun _ _ _ h => h) (Or.inl ⟨by rfl, ?_⟩) ?_ ?_
                 rotate_left
                 ·intro w'
                  go_simp
                  with_reducible rfl
                 rotate_left
                 ·simp only [Act.put, zA, zB, zC, i64_w, i32_w]
                  rfl
                 refine one_ (i := 22) (N := some 83) (bA 25 8388607) rfl rfl (one_of HT_.out (by kernel_rfl)) (by decide) (fun K hK => ?_)
                 refine value_ (w1 := ?_) (v := ?_) (by rfl) rfl ?_ ?_
                 rotate_left 2
                 ·go_simp
                  constructor
                  ·rfl
                  ·rfl
                 refine hK.out _ _ ⟨(World.cell?_alloc_lt _ _ _ (World.block_lt_of_cell? _ _ (((HB.out.cell (World.block_lt_of_cell? w _ hw304_0)).trans hw304_0)))).trans (((HB.out.cell (World.block_lt_of_cell? w _ hw304_0)).trans hw304_0)), (World.cell?_alloc_lt _ _ _ (World.block_lt_of_cell? _ _ (((HB.out.cell (World.block_lt_of_cell? w _ hw304_1)).trans hw304_1)))).trans (((HB.out.cell (World.block_lt_of_cell? w _ hw304_1)).trans hw304_1)), (World.cell?_alloc_lt _ _ _ (World.block_lt_of_cell? _ _ (((HB.out.cell (World.block_lt_of_cell? w _ hw304_2)).trans hw304_2)))).trans (((HB.out.cell (World.block_lt_of_cell? w _ hw304_2)).trans hw304_2)), (World.cell?_alloc_lt _ _ _ (World.block_lt_of_cell? _ _ (((HB.out.cell (World.block_lt_of_cell? w _ hw306_0)).trans hw306_0)))).trans (((HB.out.cell (World.block_lt_of_cell? w _ hw306_0)).trans hw306_0)), (World.cell?_alloc_lt _ _ _ (World.block_lt_of_cell? _ _ (((HB.out.cell (World.block_lt_of_cell? w _ hw306_1)).trans hw306_1)))).trans (((HB.out.cell (World.block_lt_of_cell? w _ hw306_1)).trans hw306_1)), (World.cell?_alloc_lt _ _ _ (World.block_lt_of_cell? _ _ (((HB.out.cell (World.block_lt_of_cell? w _ hw306_2)).trans hw306_2)))).trans (((HB.out.cell (World.block_lt_of_cell? w _ hw306_2)).trans hw306_2)), (World.cell?_alloc_lt _ _ _ (World.block_lt_of_cell? _ _ (((HB.out.cell (World.block_lt_of_cell? w _ hw308_0)).trans hw308_0)))).trans (((HB.out.cell (World.block_lt_of_cell? w _ hw308_0)).trans hw308_0)), (World.cell?_alloc_lt _ _ _ (World.block_lt_of_cell? _ _ (((HB.out.cell (World.block_lt_of_cell? w _ hw308_1)).trans hw308_1)))).trans (((HB.out.cell (World.block_lt_of_cell? w _ hw308_1)).trans hw308_1)), (World.cell?_alloc_lt _ _ _ (World.block_lt_of_cell? _ _ (((HB.out.cell (World.block_lt_of_cell? w _ hw308_2)).trans hw308_2)))).trans (((HB.out.cell (World.block_lt_of_cell? w _ hw308_2)).trans hw308_2))⟩ (fun hHeld => ?_)
                 clear hK K
                 refine norm_ (a' := ?_) ?_ ?_
                 rotate_left
                 ·show Act.put _ (some 83) _ = _
                  simp only [Act.put, zA, zB, zC, i64_w, i32_w]
                  rfl
                 refine one_ (i := 23) (N := some 84) (bA 25 16777215) rfl rfl (one_of HT_.out (by kernel_rfl)) (by decide) (fun K hK => ?_)
                 refine Kd.R_append_step Kd.string (w0 := w) w.heap.size (by rfl) (.tmp 61) (.tmp 83) 23 9 (.string ⟨#[]⟩) 16 rfl Tryd.underlying23 info9 rfl (by decide) (by omega) u4 x4_2 ((((t305 ++ (⟨#[32]⟩ : ByteArray)) ++ t307) ++ (⟨#[32]⟩ : ByteArray)) ++ ((rd_T65 l0 x5_2).f0)) [.string ((((t305 ++ (⟨#[32]⟩ : ByteArray)) ++ t307) ++ (⟨#[32]⟩ : ByteArray)) ++ ((rd_T65 l0 x5_2).f0))] (fun _ => True) (fun _ => False) rfl rfl ?aP (fun _ hk => hk.elim) ?aF ?aO ?aB ?aS ?aL ?_
                 (case aP => exact rfl)
                 (case aB => exact (by repeat (first | (with_reducible first | exact HB.out | apply bal | apply pbN | apply bd1) | exact HB.out)))
                 (case aF => exact (fun _ _ => trivial))
                 (case aO => exact (by (with_reducible repeat (first | apply Kd.R_alloc | apply Kd.R_drewN | apply Kd.R_drew)); exact HO_4.out))
                 (case aS => exact (below_size (by repeat (first | (with_reducible first | exact HB.out | apply bal | apply pbN | apply bd1) | exact HB.out))))
                 (case aL => have := LMc29.out; omega)
                 intro v310 w31 ho hb hg hat
                 rw [<- Ny309.out] at ho
                 have n0_ := Asd.mk (hb)
                 have n1_ := Asd.mk (ho)
                 clear HB
                 clear HO_4
                 have HB := n0_
                 have HO311 := n1_
                 clear n0_ n1_
                 clear ho hb hg hat
                 refine hK.out _ _ ⟨((HB.out.cell (World.block_lt_of_cell? w _ hw304_0)).trans hw304_0), ((HB.out.cell (World.block_lt_of_cell? w _ hw304_1)).trans hw304_1), ((HB.out.cell (World.block_lt_of_cell? w _ hw304_2)).trans hw304_2), ((HB.out.cell (World.block_lt_of_cell? w _ hw306_0)).trans hw306_0), ((HB.out.cell (World.block_lt_of_cell? w _ hw306_1)).trans hw306_1), ((HB.out.cell (World.block_lt_of_cell? w _ hw306_2)).trans hw306_2), ((HB.out.cell (World.block_lt_of_cell? w _ hw308_0)).trans hw308_0), ((HB.out.cell (World.block_lt_of_cell? w _ hw308_1)).trans hw308_1), ((HB.out.cell (World.block_lt_of_cell? w _ hw308_2)).trans hw308_2)⟩ (fun hHeld => ?_)
                 clear hK K
                 refine norm_ (a' := ?_) ?_ ?_
                 rotate_left
                 ·show Act.put _ (some 84) _ = _
                  simp only [Act.put, zA, zB, zC, i64_w, i32_w]
                  rfl
                 refine pure_ (i := 24) (N := some 4) (v := ?_) (a' := ?_) (bA 25 33554431) rfl rfl (any_of HT_.out (by kernel_rfl)) (fun _ _ _ h => h) (Or.inl ⟨by rfl, ?_⟩) ?_ ?_
                 rotate_left
                 ·intro w'
                  go_simp
                  with_reducible rfl
                 rotate_left
                 ·simp only [Act.put, zA, zB, zC, i64_w, i32_w]
                  rfl
                 refine done_ (done_of HT_.out (by kernel_rfl)) ?_
                 try go_wp2
                 go_roundg kj5
                 case measure => have := HJ1.out; have := HK2.out; have := HJ5.out; omega
                 case rel => exact ⟨(y309), (wrap64 (x5_2 + 1)), (by first | rfl | (simp; done) | (simp [*]; done)), H', ⟨by have := HJ1.out; have := HK2.out; have := HJ5.out; omega⟩, ⟨by (with_reducible repeat (first | apply Kd.R_alloc | apply Kd.R_drewN | apply Kd.R_drew)); exact HO311.out⟩, ⟨by repeat (first | (with_reducible first | exact HB.out | apply bal | apply pbN | apply bd1) | exact HB.out)⟩⟩
                ·rw [if_neg c29] at H
                 exact absurd H (by simp)
               ·rw [if_neg c28] at H
                exact absurd H (by simp)
              ·rw [if_neg c27] at H
               exact absurd H (by simp)
             ·rw [if_neg c26] at H
              exact absurd H (by simp)
            ·rw [if_neg c24] at H
             exact absurd H (by simp)
           ·rw [if_neg c22] at H
            exact absurd H (by simp)
          ·rw [if_neg c21] at H
           exact absurd H (by simp)
      ·rw [if_neg c5] at H
       have c5b0 : decide (x5_2 < (l0.length : Int)) = false := decide_eq_false c5
       clear c5
       replace H := Option.bind_eq_some_iff.mp H
       obtain ⟨t293, A320, H⟩ := H
       replace H : (some (t293, true)) = some (r1, r2) := H
       have A32 := Asd.mk A320
       clear A320
       simp only [Option.some.injEq, Prod.mk.injEq] at H
       obtain ⟨rfl, rfl⟩ := H
       obtain ⟨Ao33, co33, eo33⟩ := Kd.R_slice HO_4.out
       subst eo33
       go_wp2_with (first | ((with_reducible refine gate_callee (f := 38) rfl ?_); refine goesL_ (some 86) rfl rfl Tryd.func38 (by kernel_rfl) rfl #[.slice Ao33 x4_2.length co33] rfl (by (try simp only [List.map_toArray, List.map_cons, List.map_nil]); first | done | rfl | (simp only [List.length_drop, List.length_take]; rfl)) ?_; (with_reducible refine (q6_ends.calls k2 _ _ x4_2 t293 _ ?side1 ?side2 A32.out).mono ?_); (case side1 => repeat (first | exact (Kd.R_reads' HO_4.out).2.2 | (with_reducible refine Kd.C_alloc ?_ _) | (with_reducible refine Kd.C_drewN ?_ _) | (with_reducible refine Kd.C_drew ?_))); (case side2 => exact (Kd.R_reads' HO_4.out).2.1); rintro e w34 ⟨v294, rfl, ho0, hb⟩; refine ⟨_, rfl, ?_⟩; have n0_ := Asd.mk (Kd.R_below (by (with_reducible repeat (first | apply Kd.R_alloc | apply Kd.R_drewN | apply Kd.R_drew)); exact HO_4.out) hb); have n1_ := Asd.mk (Kd.R_lower ho0 (below_size (by repeat (first | (with_reducible first | exact HB.out | apply bal | apply pbN | apply bd1) | exact HB.out)))); have n2_ := Asd.mk (below_step (by repeat (first | (with_reducible first | exact HB.out | apply bal | apply pbN | apply bd1) | exact HB.out)) hb); clear HO_4; clear HB; have HO_4 := n0_; have HO295 := n1_; have HB := n2_; clear n0_ n1_ n2_; (try clear hb); (try clear hb2); (try clear hk); (try clear hi); (try clear ho0)))
       go_ret2
       exact ⟨_, by first | rfl | (simp [errW_none, errW_some] <;> rfl) | (simp [*, errW_none, errW_some] <;> rfl), by (with_reducible repeat (first | apply Kd.R_alloc | apply Kd.R_drewN | apply Kd.R_drew)); exact HO295.out, by repeat (first | (with_reducible first | exact HB.out | apply bal | apply pbN | apply bd1) | exact HB.out)⟩
end Go.Proofs.YtmmionafcmnfoaaDoor.Print
