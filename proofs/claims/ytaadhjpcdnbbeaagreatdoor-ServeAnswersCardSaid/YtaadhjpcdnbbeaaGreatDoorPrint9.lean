/- Functions of the program as plain functions, and proofs that the program's calls tell what these tell. Written by a program. -/
import Derived.Test.YtaadhjpcdnbbeaaGreatDoorPrint0
import Derived.Test.YtaadhjpcdnbbeaaGreatDoorPrint6
import Derived.Test.YtaadhjpcdnbbeaaGreatDoorPrint7
import Derived.Test.YtaadhjpcdnbbeaaGreatDoorPrint8
namespace Go.Proofs.YtaadhjpcdnbbeaaGreatDoor.Print
open Go.RowKit Go.Proofs.YtaadhjpcdnbbeaaGreatDoorW.PrintWords Go.Proofs.YtaadhjpcdnbbeaaGreatDoorW.PrintLast Go.Proofs.YtaadhjpcdnbbeaaGreatDoorW.PrintMore Go.Proofs.YtaadhjpcdnbbeaaGreatDoor.Conv
attribute [local go_sem] max2_int min2_int max_two min_two max_three min_three max_four min_four
set_option linter.unusedVariables false
set_option linter.unusedSimpArgs false
def serve_Got.j0 : Nat -> List (S60) -> Bool -> Option (List Int × Int × Bool)
 | 0, _, _ => none
 | k + 1, x5, x27 => if x27 = true then (some (([] : List Int), 0, false)) else (if 0 < (x5.length : Int) then (if ((rd_T60 x5 0).f1).toList = ([112, 97, 99, 107, 10] : List UInt8) then (if 1 <= (x5.length : Int) then ((line_Join.f k (x5.drop 1)).bind fun t239 => ((line_Parts.f t239).bind fun t242 => ((api_Line_33.f k t242 (x5.drop 1)).bind fun t249 => (if t249 = true then (some (t239, 0, true)) else (some (([] : List Int), 0, false)))))) else (none)) else ((serve_failure.f k ((rd_T60 x5 0).f1)).bind fun t251 => (if t251 = 0 then (some (([] : List Int), 0, false)) else (if (x5.length : Int) > 2 then (some (([] : List Int), 0, false)) else (if 1 < (x5.length : Int) then (if ((rd_T60 x5 1).f0 = true) then (some (([] : List Int), t251, true)) else (some (([] : List Int), 0, false))) else (none)))))) else (none))
def serve_Got.f (k : Nat) (l0 : List Int) : Option (List Int × Int × Bool) := (line_Cut.f k l0).bind fun bt227 => (if bt227.2.2 = 0 then (if (bt227.2.1.length : Int) > 0 then (serve_Got.j0 k bt227.1 true) else (serve_Got.j0 k bt227.1 (decide ((bt227.1.length : Int) < 2)))) else (serve_Got.j0 k bt227.1 true))
set_option maxHeartbeats 8000000 in
set_option maxRecDepth 100000 in
theorem serve_Got.calls (k : Nat) (A0 : Option Addr) (c0 : Nat) (l0 : List Int) (r1 : List Int) (r2 : Int) (r3 : Bool) (w : World) (hr0 : Kd.C (Kd.int .u8) w A0 l0.length l0) (hc0 : l0.length <= c0) (h : serve_Got.f k l0 = some (r1, r2, r3)) :
  Calls Tryz.prog 17 #[.slice A0 l0.length c0] w fun e w' => ∃ v0_ : Value, e = .returned (.tuple #[v0_, .int .i64 r2, .bool r3]) /\ Kd.R (Kd.int .u8) 5 w' w.heap.size (fun _ => True) v0_ r1 /\ Below w.heap.size w w' := by
 have HR0 := Asd.mk hr0
 have HC0 := Asd.mk hc0
 clear hr0 hc0
 have HB := Asd.mk (Below.refl w.heap.size w)
 have H : ((line_Cut.f k l0).bind fun bt227 => (if bt227.2.2 = 0 then (if (bt227.2.1.length : Int) > 0 then (serve_Got.j0 k bt227.1 true) else (serve_Got.j0 k bt227.1 (decide ((bt227.1.length : Int) < 2)))) else (serve_Got.j0 k bt227.1 true))) = some (r1, r2, r3) := h
 clear h
 replace H := Option.bind_eq_some_iff.mp H
 obtain ⟨⟨t227, t228, t229⟩, A20, H⟩ := H
 replace H : (if t229 = 0 then (if (t228.length : Int) > 0 then (serve_Got.j0 k t227 true) else (serve_Got.j0 k t227 (decide ((t227.length : Int) < 2)))) else (serve_Got.j0 k t227 true)) = some (r1, r2, r3) := H
 have A2 := Asd.mk A20
 clear A20
 have HC3 := Asd.mk H
 clear H
 go_enter Tryz.func17, Tryz.ntmps17
 go_upto_region 2 with (first | ((with_reducible refine gate_callee (f := 23) rfl ?_); refine goesL_ (some 12) rfl rfl Tryz.func23 (by kernel_rfl) rfl #[.slice A0 l0.length c0] rfl (by (try simp only [List.map_toArray, List.map_cons, List.map_nil]); first | done | rfl | (simp only [List.length_drop, List.length_take]; rfl)) ?_; (with_reducible refine (line_Cut.calls k _ _ l0 t227 t228 t229 _ ?side1 ?side2 A2.out).mono ?_); (case side1 => repeat (first | exact HR0.out | (with_reducible refine Kd.C_alloc ?_ _) | (with_reducible refine Kd.C_drewN ?_ _) | (with_reducible refine Kd.C_drew ?_))); (case side2 => exact HC0.out); rintro e w4 ⟨v230, v232, rfl, ho0, ho1, hb⟩; refine ⟨_, rfl, ?_⟩; have n0_ := Asd.mk (Kd.R_lower ho0 (below_size (by repeat (first | (with_reducible first | exact HB.out | apply bal | apply pbN | apply bd1) | exact HB.out)))); have n1_ := Asd.mk (Kd.R_lower ho1 (below_size (by repeat (first | (with_reducible first | exact HB.out | apply bal | apply pbN | apply bd1) | exact HB.out)))); have n2_ := Asd.mk (below_step (by repeat (first | (with_reducible first | exact HB.out | apply bal | apply pbN | apply bd1) | exact HB.out)) hb); clear HB; have HO231 := n0_; have HO233 := n1_; have HB := n2_; clear n0_ n1_ n2_; (try clear hb); (try clear hb2); (try clear hk); (try clear hi); (try clear ho0); (try clear ho1)))
 (try simp only [Act.put, zA, zB, zC])
 go_cut [27] (fun v27 wc => ∃ (kq : Nat) (x27_2 : Bool), v27 = .bool x27_2 /\ Asd (serve_Got.j0 kq t227 x27_2 = some (r1, r2, r3)) /\ Asd (kq <= k) /\ Asd (Kd.R k60 60 wc w.heap.size (fun _ => True) v230 t227) /\ Asd (Below w.heap.size w wc))
 case first =>
  have H := HC3.out
  clear HC3
  by_cases c5 : t229 = 0
  ·rw [if_pos c5] at H
   have c5b0 : (t229 == 0) = true := beq_iff_eq.mpr c5
   have c5b1 : (t229 != 0) = false := bne_eq_false_iff_eq.mpr c5
   clear c5
   (first | rw [c5b0] | (simp only [i64_w, i32_w]; rw [c5b0]) | skip)
   by_cases c6 : (t228.length : Int) > 0
   ·rw [if_pos c6] at H
    have c6b0 : decide (0 < (t228.length : Int)) = true := decide_eq_true c6
    have c6b1 : decide (0 < t228.length) = true := decide_eq_true (by omega)
    clear c6
    have H' := Asd.mk H
    clear H
    obtain ⟨Ao7, co7, eo7⟩ := Kd.R_slice HO233.out
    subst eo7
    go_wp2
    go_meet
    case rel => exact ⟨_, (true), (by first | rfl | (simp; done) | (simp [*]; done)), H', ⟨by first | omega | exact Nat.le_refl _⟩, ⟨by (with_reducible repeat (first | apply Kd.R_alloc | apply Kd.R_drewN | apply Kd.R_drew)); exact HO231.out⟩, ⟨by repeat (first | (with_reducible first | exact HB.out | apply bal | apply pbN | apply bd1) | exact HB.out)⟩⟩
   ·rw [if_neg c6] at H
    have c6b0 : decide (0 < (t228.length : Int)) = false := decide_eq_false c6
    have c6b1 : decide (0 < t228.length) = false := decide_eq_false (by omega)
    clear c6
    have H' := Asd.mk H
    clear H
    obtain ⟨Ao8, co8, eo8⟩ := Kd.R_slice HO233.out
    subst eo8
    obtain ⟨Ao9, co9, eo9⟩ := Kd.R_slice HO231.out
    subst eo9
    go_wp2
    go_meet
    case rel => exact ⟨_, (decide ((t227.length : Int) < 2)), (by first | rfl | (simp; done) | (simp [*]; done)), H', ⟨by first | omega | exact Nat.le_refl _⟩, ⟨by (with_reducible repeat (first | apply Kd.R_alloc | apply Kd.R_drewN | apply Kd.R_drew)); exact HO231.out⟩, ⟨by repeat (first | (with_reducible first | exact HB.out | apply bal | apply pbN | apply bd1) | exact HB.out)⟩⟩
  ·rw [if_neg c5] at H
   have c5b0 : (t229 == 0) = false := beq_eq_false_iff_ne.mpr c5
   have c5b1 : (t229 != 0) = true := bne_iff_ne.mpr c5
   (first | rw [c5b0] | (simp only [i64_w, i32_w]; rw [c5b0]) | skip)
   have H' := Asd.mk H
   clear H
   go_wp2
   go_meet
   case rel => exact ⟨_, (true), (by first | rfl | (simp; done) | (simp [*]; done)), H', ⟨by first | omega | exact Nat.le_refl _⟩, ⟨by (with_reducible repeat (first | apply Kd.R_alloc | apply Kd.R_drewN | apply Kd.R_drew)); exact HO231.out⟩, ⟨by repeat (first | (with_reducible first | exact HB.out | apply bal | apply pbN | apply bd1) | exact HB.out)⟩⟩
 case rest =>
  clear HC3
  try clear c1
  try clear c2
  try clear p2
  try clear c5
  try clear c5b0
  try clear c5b1
  try clear c6
  try clear c6b0
  try clear c6b1
  obtain ⟨kq, x27_2, rfl, HA, HJ2, HO_5, HB⟩ := hcut
  cases kq with
  | zero => exact absurd HA.out (by simp [serve_Got.j0])
  | succ kj2 =>
   have H := HA.out
   clear HA
   simp only [serve_Got.j0] at H
   by_cases c10 : x27_2 = true
   ·subst c10
    have H1 : (some (([] : List Int), 0, false)) = some (r1, r2, r3) := by rw [if_pos rfl] at H; exact H
    clear H
    have H := H1
    clear H1
    simp only [Option.some.injEq, Prod.mk.injEq] at H
    obtain ⟨rfl, rfl, rfl⟩ := H
    go_wp2
    go_ret3
    exact ⟨_, by first | rfl | (simp [errW_none, errW_some] <;> rfl) | (simp [*, errW_none, errW_some] <;> rfl), by first | exact Kd.R_nil _ _ _ _ _ | exact Kd.N_nil _ _ _ _ _ | exact Kd.V_nil _ _ _ _ _ | exact Kd.Q_nil _ _ _ _ _ | exact Kd.S_nil _ _ _ _ _, by repeat (first | (with_reducible first | exact HB.out | apply bal | apply pbN | apply bd1) | exact HB.out)⟩
   ·replace c10 := Bool.eq_false_iff.mpr c10
    subst c10
    have H1 : (if 0 < (t227.length : Int) then (if ((rd_T60 t227 0).f1).toList = ([112, 97, 99, 107, 10] : List UInt8) then (if 1 <= (t227.length : Int) then ((line_Join.f kj2 (t227.drop 1)).bind fun t239 => ((line_Parts.f t239).bind fun t242 => ((api_Line_33.f kj2 t242 (t227.drop 1)).bind fun t249 => (if t249 = true then (some (t239, 0, true)) else (some (([] : List Int), 0, false)))))) else (none)) else ((serve_failure.f kj2 ((rd_T60 t227 0).f1)).bind fun t251 => (if t251 = 0 then (some (([] : List Int), 0, false)) else (if (t227.length : Int) > 2 then (some (([] : List Int), 0, false)) else (if 1 < (t227.length : Int) then (if ((rd_T60 t227 1).f0 = true) then (some (([] : List Int), t251, true)) else (some (([] : List Int), 0, false))) else (none)))))) else (none)) = some (r1, r2, r3) := by rw [if_neg (show ¬ (false = true) by decide)] at H; exact H
    clear H
    have H := H1
    clear H1
    by_cases c11 : 0 < (t227.length : Int)
    ·rw [if_pos c11] at H
     have c11b0 : decide (0 < (t227.length : Int)) = true := decide_eq_true c11
     have c11b1 : decide (0 < t227.length) = true := decide_eq_true (by omega)
     clear c11
     by_cases c12 : ((rd_T60 t227 0).f1).toList = ([112, 97, 99, 107, 10] : List UInt8)
     ·rw [if_pos c12] at H
      have c12b0 : (((rd_T60 t227 0).f1).toList == ([112, 97, 99, 107, 10] : List UInt8)) = true := beq_iff_eq.mpr c12
      have c12b1 : (((rd_T60 t227 0).f1).toList != ([112, 97, 99, 107, 10] : List UInt8)) = false := bne_eq_false_iff_eq.mpr c12
      clear c12
      by_cases c13 : 1 <= (t227.length : Int)
      ·rw [if_pos c13] at H
       have c13b0 := eq_true c13
       have c13b1 : decide (1 <= (t227.length : Int)) = true := decide_eq_true c13
       clear c13
       obtain ⟨y235, hy235⟩ : ∃ y_ : List (S60), y_ = (t227.drop 1) := ⟨_, rfl⟩
       replace H : ((line_Join.f kj2 y235).bind fun t239 => ((line_Parts.f t239).bind fun t242 => ((api_Line_33.f kj2 t242 (t227.drop 1)).bind fun t249 => (if t249 = true then (some (t239, 0, true)) else (some (([] : List Int), 0, false)))))) = some (r1, r2, r3) := by first | (rw [hy235]; with_reducible exact H) | (have H2_ := (Option.bind_some _ _).symm.trans H; rw [hy235]; with_reducible exact H2_) | (have H2_ := (Option.bind_some _ _).symm.trans H; with_reducible exact H2_) | with_reducible exact H | (rw [hy235]; exact H) | exact H
       have Ny235 := Asd.mk hy235
       clear hy235
       replace H := Option.bind_eq_some_iff.mp H
       obtain ⟨t239, A140, H⟩ := H
       replace H : ((line_Parts.f t239).bind fun t242 => ((api_Line_33.f kj2 t242 (t227.drop 1)).bind fun t249 => (if t249 = true then (some (t239, 0, true)) else (some (([] : List Int), 0, false))))) = some (r1, r2, r3) := H
       have A14 := Asd.mk A140
       clear A140
       replace H := Option.bind_eq_some_iff.mp H
       obtain ⟨t242, A150, H⟩ := H
       replace H : ((api_Line_33.f kj2 t242 (t227.drop 1)).bind fun t249 => (if t249 = true then (some (t239, 0, true)) else (some (([] : List Int), 0, false)))) = some (r1, r2, r3) := H
       have A15 := Asd.mk A150
       clear A150
       have c16b0 := eq_true (of_decide_eq_true (by first | (with_reducible assumption) | assumption) : 1 <= (t227.length : Int))
       obtain ⟨y245, hy245⟩ : ∃ y_ : List (S60), y_ = (t227.drop 1) := ⟨_, rfl⟩
       replace H : ((api_Line_33.f kj2 t242 y245).bind fun t249 => (if t249 = true then (some (t239, 0, true)) else (some (([] : List Int), 0, false)))) = some (r1, r2, r3) := by first | (rw [hy245]; with_reducible exact H) | (have H2_ := (Option.bind_some _ _).symm.trans H; rw [hy245]; with_reducible exact H2_) | (have H2_ := (Option.bind_some _ _).symm.trans H; with_reducible exact H2_) | with_reducible exact H | (rw [hy245]; exact H) | exact H
       have Ny245 := Asd.mk hy245
       clear hy245
       replace H := Option.bind_eq_some_iff.mp H
       obtain ⟨t249, A170, H⟩ := H
       replace H : (if t249 = true then (some (t239, 0, true)) else (some (([] : List Int), 0, false))) = some (r1, r2, r3) := H
       have A17 := Asd.mk A170
       clear A170
       by_cases c18 : t249 = true
       ·subst c18
        have H1 : (some (t239, 0, true)) = some (r1, r2, r3) := by rw [if_pos rfl] at H; exact H
        clear H
        have H := H1
        clear H1
        simp only [Option.some.injEq, Prod.mk.injEq] at H
        obtain ⟨rfl, rfl, rfl⟩ := H
        obtain ⟨Ao19, co19, eo19⟩ := Kd.R_slice HO_5.out
        subst eo19
        have p234 : 0 <= (0 : Int) := (by omega)
        have q234 : 0 < (t227.length : Int) := of_decide_eq_true (by first | (with_reducible assumption) | assumption)
        obtain ⟨ad234, e234, hx234_0, hx234_1⟩ := at_T60 (Kd.R_reads' HO_5.out).2.2 0 p234 q234
        cases e234
        have qi234 : (0 < t227.length) = True := eq_true (by omega)
        (try rw [show ((0 : Int)).toNat = 0 from rfl] at hx234_0)
        (try rw [show 0 * 2 = 0 from rfl] at hx234_0)
        (try rw [Addr.add_zero'] at hx234_0)
        (try rw [show ((0 : Int)).toNat = 0 from rfl] at hx234_1)
        (try rw [show 0 * 2 = 0 from rfl] at hx234_1)
        (try rw [Addr.add_zero'] at hx234_1)
        replace p234 := eq_true p234
        replace q234 := eq_true q234
        have q20 : (1 : Int) <= ((t227.length : Int) : Int) := of_decide_eq_true (by first | (with_reducible assumption) | assumption)
        obtain ⟨i020, hi020, _, hsz20, _⟩ := info_parts info60
        have hroom20 : t227.length <= co19 := (Kd.R_reads' HO_5.out).2.1
        have hC20 : Kd.C k60 _ (some ad234) t227.length t227 := (Kd.R_reads' HO_5.out).2.2
        have hcut20 := cut_from (P := Tryz.prog) 37 60 .i64 Tryz.underlying37 hi020 2 hsz20 (some ad234) t227.length co19 1 (by omega) q20
        have hr20 := Kd.C_drop (m := (1 : Int).toNat) (c := co19) hC20 (by omega) hroom20
        obtain ⟨A20, hA20⟩ : ∃ A1, A1 = (if co19 = (1 : Int).toNat then (some ad234) else ((some ad234) : Option Addr).map (·.add ((1 : Int).toNat * 2))) := ⟨_, rfl⟩
        obtain ⟨c20, hc20⟩ : ∃ c1, c1 = co19 - (1 : Int).toNat := ⟨_, rfl⟩
        have hy20 : y235.length = t227.length - (1 : Int).toNat := (by rw [Ny235.out, List.length_drop] <;> omega)
        rw [show (t227).drop (1 : Int).toNat = y235 from Ny235.out.symm] at hr20
        replace hr20 : Kd.C k60 _ A20 y235.length y235 := (by rw [hA20]; exact hr20)
        rw [<- hy20, <- hA20, <- hc20] at hcut20
        have HR238 := Asd.mk hr20
        have HC238 := Asd.mk (show y235.length <= c20 from by rw [hy20, hc20]; exact Nat.sub_le_sub_right hroom20 _)
        clear hr20 hC20 hroom20 hi020 hsz20 hc20
        have KY20 := Asd.mk hy20
        have KA20 := Asd.mk hA20
        clear hy20 hA20
        have KL20 := Asd.mk (show 1 <= t227.length from by omega)
        replace q20 := eq_true q20
        try go_wp2_with (first | ((with_reducible refine gate_callee (f := 32) rfl ?_); refine goesL_ (some 35) rfl rfl Tryz.func32 (by kernel_rfl) rfl #[.slice A20 y235.length c20] rfl (by (try simp only [List.map_toArray, List.map_cons, List.map_nil]); first | done | rfl | (simp only [List.length_drop, List.length_take]; rfl)) ?_; (with_reducible refine (line_Join.calls kj2 _ _ y235 t239 _ ?side1 ?side2 A14.out).mono ?_); (case side1 => repeat (first | exact (by repeat (first | (with_reducible exact HR238.out) | (with_reducible refine Kd.C_alloc ?_ _) | (with_reducible refine Kd.C_drewN ?_ _) | (with_reducible refine Kd.C_drew ?_) | exact HR238.out)) | (with_reducible refine Kd.C_alloc ?_ _) | (with_reducible refine Kd.C_drewN ?_ _) | (with_reducible refine Kd.C_drew ?_))); (case side2 => exact HC238.out); rintro e w21 ⟨v240, rfl, ho0, hb⟩; refine ⟨_, rfl, ?_⟩; have n0_ := Asd.mk (Kd.R_below (by (with_reducible repeat (first | apply Kd.R_alloc | apply Kd.R_drewN | apply Kd.R_drew)); exact HO_5.out) hb); have n1_ := Asd.mk (Kd.R_lower ho0 (below_size (by repeat (first | (with_reducible first | exact HB.out | apply bal | apply pbN | apply bd1) | exact HB.out)))); have n2_ := Asd.mk (Kd.C_below (by repeat (first | (with_reducible exact HR238.out) | (with_reducible refine Kd.C_alloc ?_ _) | (with_reducible refine Kd.C_drewN ?_ _) | (with_reducible refine Kd.C_drew ?_) | exact HR238.out)) hb); have n3_ := Asd.mk (below_step (by repeat (first | (with_reducible first | exact HB.out | apply bal | apply pbN | apply bd1) | exact HB.out)) hb); clear HO_5; clear HR238; clear HB; have HO_5 := n0_; have HO241 := n1_; have HR238 := n2_; have HB := n3_; clear n0_ n1_ n2_ n3_; (try clear hb); (try clear hb2); (try clear hk); (try clear hi); (try clear ho0)))
        have n0_ := Asd.mk (Kd.R_drew HO_5.out)
        have n1_ := Asd.mk (Kd.R_drew HO241.out)
        have n2_ := Asd.mk (Kd.C_drew HR238.out)
        have n3_ := Asd.mk (bd1 HB.out)
        clear HO_5
        clear HO241
        clear HR238
        clear HB
        have HO_5 := n0_
        have HO241 := n1_
        have HR238 := n2_
        have HB := n3_
        clear n0_ n1_ n2_ n3_
        have q23 : (1 : Int) <= ((t227.length : Int) : Int) := of_decide_eq_true (by first | (with_reducible assumption) | assumption)
        obtain ⟨i023, hi023, _, hsz23, _⟩ := info_parts info60
        have hroom23 : t227.length <= co19 := (Kd.R_reads' HO_5.out).2.1
        have hC23 : Kd.C k60 _ (some ad234) t227.length t227 := (Kd.R_reads' HO_5.out).2.2
        try clear hcut20
        have hcut23 := cut_from (P := Tryz.prog) 37 60 .i64 Tryz.underlying37 hi023 2 hsz23 (some ad234) t227.length co19 1 (by omega) q23
        have hr23 := Kd.C_drop (m := (1 : Int).toNat) (c := co19) hC23 (by omega) hroom23
        obtain ⟨A23, hA23⟩ : ∃ A1, A1 = (if co19 = (1 : Int).toNat then (some ad234) else ((some ad234) : Option Addr).map (·.add ((1 : Int).toNat * 2))) := ⟨_, rfl⟩
        obtain ⟨c23, hc23⟩ : ∃ c1, c1 = co19 - (1 : Int).toNat := ⟨_, rfl⟩
        have hy23 : y245.length = t227.length - (1 : Int).toNat := (by rw [Ny245.out, List.length_drop] <;> omega)
        rw [show (t227).drop (1 : Int).toNat = y245 from Ny245.out.symm] at hr23
        replace hr23 : Kd.C k60 _ A23 y245.length y245 := (by rw [hA23]; exact hr23)
        rw [<- hy23, <- hA23, <- hc23] at hcut23
        have HR248 := Asd.mk hr23
        have HC248 := Asd.mk (show y245.length <= c23 from by rw [hy23, hc23]; exact Nat.sub_le_sub_right hroom23 _)
        clear hr23 hC23 hroom23 hi023 hsz23 hc23
        have KY23 := Asd.mk hy23
        have KA23 := Asd.mk hA23
        clear hy23 hA23
        have KL23 := Asd.mk (show 1 <= t227.length from by omega)
        replace q23 := eq_true q23
        obtain ⟨Ao24, co24, eo24⟩ := Kd.R_slice HO241.out
        (first | subst eo24 | (injection eo24 with f1_ f2_ f3_; have f4_ := f1_.symm; have f5_ := f3_.symm; clear f1_ f2_ f3_; subst f4_; subst f5_))
        refine start_ (n := 5) (S := fun w' => True) (ds := []) (bA 5 0) (by kernel_rfl) rfl rfl trivial (fun hHeld => ?_)
        generalize w21.drew = w22 at HO_5 HO241 HR238 HB HR248 hHeld ⊢
        refine pure_ (i := 0) (N := some 36) (v := ?_) (a' := ?_) (bA 5 1) rfl rfl (by kernel_rfl) (fun _ _ _ h => h) (Or.inl ⟨by rfl, ?_⟩) ?_ ?_
        rotate_left
        ·intro w'
         go_simp
         with_reducible rfl
        rotate_left
        ·simp only [Act.put, zA, zB, zC, i64_w, i32_w]
         rfl
        refine pure_ (i := 2) (N := some 38) (v := ?_) (a' := ?_) (bA 5 5) rfl rfl (by kernel_rfl) (fun _ _ _ h => h) (Or.inl ⟨by rfl, ?_⟩) ?_ ?_
        rotate_left
        ·intro w'
         go_simp
         with_reducible rfl
        rotate_left
        ·simp only [Act.put, zA, zB, zC, i64_w, i32_w]
         rfl
        refine pure_ (i := 3) (N := some 39) (v := ?_) (a' := ?_) (bA 5 13) rfl rfl (by kernel_rfl) (fun _ _ _ h => h) (Or.inl ⟨by rfl, ?_⟩) ?_ ?_
        rotate_left
        ·intro w'
         go_simp
         with_reducible rfl
        rotate_left
        ·simp only [Act.put, zA, zB, zC, i64_w, i32_w]
         rfl
        refine one_ (i := 1) (N := some 37) (bA 5 15) rfl rfl (by kernel_rfl) (by decide) (fun K hK => ?_)
        refine goes_ Tryz.func31 (by kernel_rfl) rfl #[.slice Ao24 t239.length co24] (by rfl) rfl rfl (by (try simp only [List.map_toArray, List.map_cons, List.map_nil]); first | done | rfl | (simp only [List.length_drop, List.length_take]; rfl)) ?_
        with_reducible refine (line_Parts.calls _ _ t239 t242 _ ?side1 ?side2 A15.out).mono ?_
        (case side1 => repeat (first | exact (Kd.R_reads' HO241.out).2.2 | (with_reducible refine Kd.C_alloc ?_ _) | (with_reducible refine Kd.C_drewN ?_ _) | (with_reducible refine Kd.C_drew ?_)))
        (case side2 => exact (Kd.R_reads' HO241.out).2.1)
        rintro e w25 ⟨v243, rfl, ho0, hb⟩
        refine ⟨_, rfl, ?_⟩
        have n0_ := Asd.mk (Kd.R_elder' (by (with_reducible repeat (first | apply Kd.R_alloc | apply Kd.R_drewN | apply Kd.R_drew)); exact HO_5.out) (Kd.R_base ho0) hb)
        have n1_ := Asd.mk (Kd.R_below (by (with_reducible repeat (first | apply Kd.R_alloc | apply Kd.R_drewN | apply Kd.R_drew)); exact HO241.out) hb)
        have n2_ := Asd.mk (Kd.R_lower (Kd.R_new' ho0 (Kd.R_lt (by (with_reducible repeat (first | apply Kd.R_alloc | apply Kd.R_drewN | apply Kd.R_drew)); exact HO_5.out))) (below_size (by repeat (first | (with_reducible first | exact HB.out | apply bal | apply pbN | apply bd1) | exact HB.out))))
        have n3_ := Asd.mk (Kd.C_below (by repeat (first | (with_reducible exact HR238.out) | (with_reducible refine Kd.C_alloc ?_ _) | (with_reducible refine Kd.C_drewN ?_ _) | (with_reducible refine Kd.C_drew ?_) | exact HR238.out)) hb)
        have n4_ := Asd.mk (Kd.C_below (by repeat (first | (with_reducible exact HR248.out) | (with_reducible refine Kd.C_alloc ?_ _) | (with_reducible refine Kd.C_drewN ?_ _) | (with_reducible refine Kd.C_drew ?_) | exact HR248.out)) hb)
        have n5_ := Asd.mk (below_step (by repeat (first | (with_reducible first | exact HB.out | apply bal | apply pbN | apply bd1) | exact HB.out)) hb)
        clear HO_5
        clear HO241
        clear HR238
        clear HR248
        clear HB
        have HO_5 := n0_
        have HO241 := n1_
        have HO244 := n2_
        have HR238 := n3_
        have HR248 := n4_
        have HB := n5_
        clear n0_ n1_ n2_ n3_ n4_ n5_
        (try clear hb)
        (try clear hb2)
        (try clear hk)
        (try clear hi)
        (try clear ho0)
        obtain ⟨Ao26, co26, eo26⟩ := Kd.R_slice HO244.out
        (first | subst eo26 | (injection eo26 with f1_ f2_ f3_; have f4_ := f1_.symm; have f5_ := f3_.symm; clear f1_ f2_ f3_; subst f4_; subst f5_))
        refine hK.out _ _ trivial (fun hHeld => ?_)
        clear hK K
        refine norm_ (a' := ?_) ?_ ?_
        rotate_left
        ·show Act.put _ (some 37) _ = _
         simp only [Act.put, zA, zB, zC, i64_w, i32_w]
         rfl
        refine one_ (i := 4) (N := some 40) (bA 5 31) rfl rfl (by kernel_rfl) (by decide) (fun K hK => ?_)
        refine goes_ Tryz.func33 (by kernel_rfl) rfl #[.slice Ao26 t242.length co26, .slice A23 y245.length c23] (by rfl) rfl rfl (by (try simp only [List.map_toArray, List.map_cons, List.map_nil]); first | done | rfl | (simp only [List.length_drop, List.length_take]; rfl)) ?_
        with_reducible refine (api_Line_33.calls kj2 _ _ t242 _ _ y245 true _ ?side1 ?side2 ?side3 ?side4 A17.out).mono ?_
        (case side1 => repeat (first | exact (Kd.R_reads' HO244.out).2.2 | (with_reducible refine Kd.C_alloc ?_ _) | (with_reducible refine Kd.C_drewN ?_ _) | (with_reducible refine Kd.C_drew ?_)))
        (case side2 => exact (Kd.R_reads' HO244.out).2.1)
        (case side3 => repeat (first | exact (by repeat (first | (with_reducible exact HR248.out) | (with_reducible refine Kd.C_alloc ?_ _) | (with_reducible refine Kd.C_drewN ?_ _) | (with_reducible refine Kd.C_drew ?_) | exact HR248.out)) | (with_reducible refine Kd.C_alloc ?_ _) | (with_reducible refine Kd.C_drewN ?_ _) | (with_reducible refine Kd.C_drew ?_)))
        (case side4 => exact HC248.out)
        rintro e w' ⟨rfl, ⟨nd, rfl⟩⟩
        refine ⟨_, rfl, ?_⟩
        refine hK.out _ _ trivial (fun hHeld => ?_)
        clear hK K
        refine norm_ (a' := ?_) ?_ ?_
        rotate_left
        ·show Act.put _ (some 40) _ = _
         simp only [Act.put, zA, zB, zC, i64_w, i32_w]
         rfl
        refine done_ (by kernel_rfl) ?_
        try go_wp2
        go_ret3
        exact ⟨_, by first | rfl | (simp [errW_none, errW_some] <;> rfl) | (simp [*, errW_none, errW_some] <;> rfl), by (with_reducible repeat (first | apply Kd.R_alloc | apply Kd.R_drewN | apply Kd.R_drew)); exact HO241.out, by repeat (first | (with_reducible first | exact HB.out | apply bal | apply pbN | apply bd1) | exact HB.out)⟩
       ·replace c18 := Bool.eq_false_iff.mpr c18
        subst c18
        have H1 : (some (([] : List Int), 0, false)) = some (r1, r2, r3) := by rw [if_neg (show ¬ (false = true) by decide)] at H; exact H
        clear H
        have H := H1
        clear H1
        simp only [Option.some.injEq, Prod.mk.injEq] at H
        obtain ⟨rfl, rfl, rfl⟩ := H
        obtain ⟨Ao27, co27, eo27⟩ := Kd.R_slice HO_5.out
        subst eo27
        have p234 : 0 <= (0 : Int) := (by omega)
        have q234 : 0 < (t227.length : Int) := of_decide_eq_true (by first | (with_reducible assumption) | assumption)
        obtain ⟨ad234, e234, hx234_0, hx234_1⟩ := at_T60 (Kd.R_reads' HO_5.out).2.2 0 p234 q234
        cases e234
        have qi234 : (0 < t227.length) = True := eq_true (by omega)
        (try rw [show ((0 : Int)).toNat = 0 from rfl] at hx234_0)
        (try rw [show 0 * 2 = 0 from rfl] at hx234_0)
        (try rw [Addr.add_zero'] at hx234_0)
        (try rw [show ((0 : Int)).toNat = 0 from rfl] at hx234_1)
        (try rw [show 0 * 2 = 0 from rfl] at hx234_1)
        (try rw [Addr.add_zero'] at hx234_1)
        replace p234 := eq_true p234
        replace q234 := eq_true q234
        have q28 : (1 : Int) <= ((t227.length : Int) : Int) := of_decide_eq_true (by first | (with_reducible assumption) | assumption)
        obtain ⟨i028, hi028, _, hsz28, _⟩ := info_parts info60
        have hroom28 : t227.length <= co27 := (Kd.R_reads' HO_5.out).2.1
        have hC28 : Kd.C k60 _ (some ad234) t227.length t227 := (Kd.R_reads' HO_5.out).2.2
        try clear hcut23
        have hcut28 := cut_from (P := Tryz.prog) 37 60 .i64 Tryz.underlying37 hi028 2 hsz28 (some ad234) t227.length co27 1 (by omega) q28
        have hr28 := Kd.C_drop (m := (1 : Int).toNat) (c := co27) hC28 (by omega) hroom28
        obtain ⟨A28, hA28⟩ : ∃ A1, A1 = (if co27 = (1 : Int).toNat then (some ad234) else ((some ad234) : Option Addr).map (·.add ((1 : Int).toNat * 2))) := ⟨_, rfl⟩
        obtain ⟨c28, hc28⟩ : ∃ c1, c1 = co27 - (1 : Int).toNat := ⟨_, rfl⟩
        have hy28 : y235.length = t227.length - (1 : Int).toNat := (by rw [Ny235.out, List.length_drop] <;> omega)
        rw [show (t227).drop (1 : Int).toNat = y235 from Ny235.out.symm] at hr28
        replace hr28 : Kd.C k60 _ A28 y235.length y235 := (by rw [hA28]; exact hr28)
        rw [<- hy28, <- hA28, <- hc28] at hcut28
        have HR238 := Asd.mk hr28
        have HC238 := Asd.mk (show y235.length <= c28 from by rw [hy28, hc28]; exact Nat.sub_le_sub_right hroom28 _)
        clear hr28 hC28 hroom28 hi028 hsz28 hc28
        have KY28 := Asd.mk hy28
        have KA28 := Asd.mk hA28
        clear hy28 hA28
        have KL28 := Asd.mk (show 1 <= t227.length from by omega)
        replace q28 := eq_true q28
        try go_wp2_with (first | ((with_reducible refine gate_callee (f := 32) rfl ?_); refine goesL_ (some 35) rfl rfl Tryz.func32 (by kernel_rfl) rfl #[.slice A28 y235.length c28] rfl (by (try simp only [List.map_toArray, List.map_cons, List.map_nil]); first | done | rfl | (simp only [List.length_drop, List.length_take]; rfl)) ?_; (with_reducible refine (line_Join.calls kj2 _ _ y235 t239 _ ?side1 ?side2 A14.out).mono ?_); (case side1 => repeat (first | exact (by repeat (first | (with_reducible exact HR238.out) | (with_reducible refine Kd.C_alloc ?_ _) | (with_reducible refine Kd.C_drewN ?_ _) | (with_reducible refine Kd.C_drew ?_) | exact HR238.out)) | (with_reducible refine Kd.C_alloc ?_ _) | (with_reducible refine Kd.C_drewN ?_ _) | (with_reducible refine Kd.C_drew ?_))); (case side2 => exact HC238.out); rintro e w29 ⟨v240, rfl, ho0, hb⟩; refine ⟨_, rfl, ?_⟩; have n0_ := Asd.mk (Kd.R_below (by (with_reducible repeat (first | apply Kd.R_alloc | apply Kd.R_drewN | apply Kd.R_drew)); exact HO_5.out) hb); have n1_ := Asd.mk (Kd.R_lower ho0 (below_size (by repeat (first | (with_reducible first | exact HB.out | apply bal | apply pbN | apply bd1) | exact HB.out)))); have n2_ := Asd.mk (Kd.C_below (by repeat (first | (with_reducible exact HR238.out) | (with_reducible refine Kd.C_alloc ?_ _) | (with_reducible refine Kd.C_drewN ?_ _) | (with_reducible refine Kd.C_drew ?_) | exact HR238.out)) hb); have n3_ := Asd.mk (below_step (by repeat (first | (with_reducible first | exact HB.out | apply bal | apply pbN | apply bd1) | exact HB.out)) hb); clear HO_5; clear HR238; clear HB; have HO_5 := n0_; have HO241 := n1_; have HR238 := n2_; have HB := n3_; clear n0_ n1_ n2_ n3_; (try clear hb); (try clear hb2); (try clear hk); (try clear hi); (try clear ho0)))
        have n0_ := Asd.mk (Kd.R_drew HO_5.out)
        have n1_ := Asd.mk (Kd.R_drew HO241.out)
        have n2_ := Asd.mk (Kd.C_drew HR238.out)
        have n3_ := Asd.mk (bd1 HB.out)
        clear HO_5
        clear HO241
        clear HR238
        clear HB
        have HO_5 := n0_
        have HO241 := n1_
        have HR238 := n2_
        have HB := n3_
        clear n0_ n1_ n2_ n3_
        have q31 : (1 : Int) <= ((t227.length : Int) : Int) := of_decide_eq_true (by first | (with_reducible assumption) | assumption)
        obtain ⟨i031, hi031, _, hsz31, _⟩ := info_parts info60
        have hroom31 : t227.length <= co27 := (Kd.R_reads' HO_5.out).2.1
        have hC31 : Kd.C k60 _ (some ad234) t227.length t227 := (Kd.R_reads' HO_5.out).2.2
        try clear hcut28
        have hcut31 := cut_from (P := Tryz.prog) 37 60 .i64 Tryz.underlying37 hi031 2 hsz31 (some ad234) t227.length co27 1 (by omega) q31
        have hr31 := Kd.C_drop (m := (1 : Int).toNat) (c := co27) hC31 (by omega) hroom31
        obtain ⟨A31, hA31⟩ : ∃ A1, A1 = (if co27 = (1 : Int).toNat then (some ad234) else ((some ad234) : Option Addr).map (·.add ((1 : Int).toNat * 2))) := ⟨_, rfl⟩
        obtain ⟨c31, hc31⟩ : ∃ c1, c1 = co27 - (1 : Int).toNat := ⟨_, rfl⟩
        have hy31 : y245.length = t227.length - (1 : Int).toNat := (by rw [Ny245.out, List.length_drop] <;> omega)
        rw [show (t227).drop (1 : Int).toNat = y245 from Ny245.out.symm] at hr31
        replace hr31 : Kd.C k60 _ A31 y245.length y245 := (by rw [hA31]; exact hr31)
        rw [<- hy31, <- hA31, <- hc31] at hcut31
        have HR248 := Asd.mk hr31
        have HC248 := Asd.mk (show y245.length <= c31 from by rw [hy31, hc31]; exact Nat.sub_le_sub_right hroom31 _)
        clear hr31 hC31 hroom31 hi031 hsz31 hc31
        have KY31 := Asd.mk hy31
        have KA31 := Asd.mk hA31
        clear hy31 hA31
        have KL31 := Asd.mk (show 1 <= t227.length from by omega)
        replace q31 := eq_true q31
        obtain ⟨Ao32, co32, eo32⟩ := Kd.R_slice HO241.out
        (first | subst eo32 | (injection eo32 with f1_ f2_ f3_; have f4_ := f1_.symm; have f5_ := f3_.symm; clear f1_ f2_ f3_; subst f4_; subst f5_))
        refine start_ (n := 5) (S := fun w' => True) (ds := []) (bA 5 0) (by kernel_rfl) rfl rfl trivial (fun hHeld => ?_)
        generalize w29.drew = w30 at HO_5 HO241 HR238 HB HR248 hHeld ⊢
        refine pure_ (i := 0) (N := some 36) (v := ?_) (a' := ?_) (bA 5 1) rfl rfl (by kernel_rfl) (fun _ _ _ h => h) (Or.inl ⟨by rfl, ?_⟩) ?_ ?_
        rotate_left
        ·intro w'
         go_simp
         with_reducible rfl
        rotate_left
        ·simp only [Act.put, zA, zB, zC, i64_w, i32_w]
         rfl
        refine pure_ (i := 2) (N := some 38) (v := ?_) (a' := ?_) (bA 5 5) rfl rfl (by kernel_rfl) (fun _ _ _ h => h) (Or.inl ⟨by rfl, ?_⟩) ?_ ?_
        rotate_left
        ·intro w'
         go_simp
         with_reducible rfl
        rotate_left
        ·simp only [Act.put, zA, zB, zC, i64_w, i32_w]
         rfl
        refine pure_ (i := 3) (N := some 39) (v := ?_) (a' := ?_) (bA 5 13) rfl rfl (by kernel_rfl) (fun _ _ _ h => h) (Or.inl ⟨by rfl, ?_⟩) ?_ ?_
        rotate_left
        ·intro w'
         go_simp
         with_reducible rfl
        rotate_left
        ·simp only [Act.put, zA, zB, zC, i64_w, i32_w]
         rfl
        refine one_ (i := 1) (N := some 37) (bA 5 15) rfl rfl (by kernel_rfl) (by decide) (fun K hK => ?_)
        refine goes_ Tryz.func31 (by kernel_rfl) rfl #[.slice Ao32 t239.length co32] (by rfl) rfl rfl (by (try simp only [List.map_toArray, List.map_cons, List.map_nil]); first | done | rfl | (simp only [List.length_drop, List.length_take]; rfl)) ?_
        with_reducible refine (line_Parts.calls _ _ t239 t242 _ ?side1 ?side2 A15.out).mono ?_
        (case side1 => repeat (first | exact (Kd.R_reads' HO241.out).2.2 | (with_reducible refine Kd.C_alloc ?_ _) | (with_reducible refine Kd.C_drewN ?_ _) | (with_reducible refine Kd.C_drew ?_)))
        (case side2 => exact (Kd.R_reads' HO241.out).2.1)
        rintro e w33 ⟨v243, rfl, ho0, hb⟩
        refine ⟨_, rfl, ?_⟩
        have n0_ := Asd.mk (Kd.R_elder' (by (with_reducible repeat (first | apply Kd.R_alloc | apply Kd.R_drewN | apply Kd.R_drew)); exact HO_5.out) (Kd.R_base ho0) hb)
        have n1_ := Asd.mk (Kd.R_below (by (with_reducible repeat (first | apply Kd.R_alloc | apply Kd.R_drewN | apply Kd.R_drew)); exact HO241.out) hb)
        have n2_ := Asd.mk (Kd.R_lower (Kd.R_new' ho0 (Kd.R_lt (by (with_reducible repeat (first | apply Kd.R_alloc | apply Kd.R_drewN | apply Kd.R_drew)); exact HO_5.out))) (below_size (by repeat (first | (with_reducible first | exact HB.out | apply bal | apply pbN | apply bd1) | exact HB.out))))
        have n3_ := Asd.mk (Kd.C_below (by repeat (first | (with_reducible exact HR238.out) | (with_reducible refine Kd.C_alloc ?_ _) | (with_reducible refine Kd.C_drewN ?_ _) | (with_reducible refine Kd.C_drew ?_) | exact HR238.out)) hb)
        have n4_ := Asd.mk (Kd.C_below (by repeat (first | (with_reducible exact HR248.out) | (with_reducible refine Kd.C_alloc ?_ _) | (with_reducible refine Kd.C_drewN ?_ _) | (with_reducible refine Kd.C_drew ?_) | exact HR248.out)) hb)
        have n5_ := Asd.mk (below_step (by repeat (first | (with_reducible first | exact HB.out | apply bal | apply pbN | apply bd1) | exact HB.out)) hb)
        clear HO_5
        clear HO241
        clear HR238
        clear HR248
        clear HB
        have HO_5 := n0_
        have HO241 := n1_
        have HO244 := n2_
        have HR238 := n3_
        have HR248 := n4_
        have HB := n5_
        clear n0_ n1_ n2_ n3_ n4_ n5_
        (try clear hb)
        (try clear hb2)
        (try clear hk)
        (try clear hi)
        (try clear ho0)
        obtain ⟨Ao34, co34, eo34⟩ := Kd.R_slice HO244.out
        (first | subst eo34 | (injection eo34 with f1_ f2_ f3_; have f4_ := f1_.symm; have f5_ := f3_.symm; clear f1_ f2_ f3_; subst f4_; subst f5_))
        refine hK.out _ _ trivial (fun hHeld => ?_)
        clear hK K
        refine norm_ (a' := ?_) ?_ ?_
        rotate_left
        ·show Act.put _ (some 37) _ = _
         simp only [Act.put, zA, zB, zC, i64_w, i32_w]
         rfl
        refine one_ (i := 4) (N := some 40) (bA 5 31) rfl rfl (by kernel_rfl) (by decide) (fun K hK => ?_)
        refine goes_ Tryz.func33 (by kernel_rfl) rfl #[.slice Ao34 t242.length co34, .slice A31 y245.length c31] (by rfl) rfl rfl (by (try simp only [List.map_toArray, List.map_cons, List.map_nil]); first | done | rfl | (simp only [List.length_drop, List.length_take]; rfl)) ?_
        with_reducible refine (api_Line_33.calls kj2 _ _ t242 _ _ y245 false _ ?side1 ?side2 ?side3 ?side4 A17.out).mono ?_
        (case side1 => repeat (first | exact (Kd.R_reads' HO244.out).2.2 | (with_reducible refine Kd.C_alloc ?_ _) | (with_reducible refine Kd.C_drewN ?_ _) | (with_reducible refine Kd.C_drew ?_)))
        (case side2 => exact (Kd.R_reads' HO244.out).2.1)
        (case side3 => repeat (first | exact (by repeat (first | (with_reducible exact HR248.out) | (with_reducible refine Kd.C_alloc ?_ _) | (with_reducible refine Kd.C_drewN ?_ _) | (with_reducible refine Kd.C_drew ?_) | exact HR248.out)) | (with_reducible refine Kd.C_alloc ?_ _) | (with_reducible refine Kd.C_drewN ?_ _) | (with_reducible refine Kd.C_drew ?_)))
        (case side4 => exact HC248.out)
        rintro e w' ⟨rfl, ⟨nd, rfl⟩⟩
        refine ⟨_, rfl, ?_⟩
        refine hK.out _ _ trivial (fun hHeld => ?_)
        clear hK K
        refine norm_ (a' := ?_) ?_ ?_
        rotate_left
        ·show Act.put _ (some 40) _ = _
         simp only [Act.put, zA, zB, zC, i64_w, i32_w]
         rfl
        refine done_ (by kernel_rfl) ?_
        try go_wp2
        go_ret3
        exact ⟨_, by first | rfl | (simp [errW_none, errW_some] <;> rfl) | (simp [*, errW_none, errW_some] <;> rfl), by first | exact Kd.R_nil _ _ _ _ _ | exact Kd.N_nil _ _ _ _ _ | exact Kd.V_nil _ _ _ _ _ | exact Kd.Q_nil _ _ _ _ _ | exact Kd.S_nil _ _ _ _ _, by repeat (first | (with_reducible first | exact HB.out | apply bal | apply pbN | apply bd1) | exact HB.out)⟩
      ·rw [if_neg c13] at H
       exact absurd H (by simp)
     ·rw [if_neg c12] at H
      have c12b0 : (((rd_T60 t227 0).f1).toList == ([112, 97, 99, 107, 10] : List UInt8)) = false := beq_eq_false_iff_ne.mpr c12
      have c12b1 : (((rd_T60 t227 0).f1).toList != ([112, 97, 99, 107, 10] : List UInt8)) = true := bne_iff_ne.mpr c12
      replace H := Option.bind_eq_some_iff.mp H
      obtain ⟨t251, A350, H⟩ := H
      replace H : (if t251 = 0 then (some (([] : List Int), 0, false)) else (if (t227.length : Int) > 2 then (some (([] : List Int), 0, false)) else (if 1 < (t227.length : Int) then (if ((rd_T60 t227 1).f0 = true) then (some (([] : List Int), t251, true)) else (some (([] : List Int), 0, false))) else (none)))) = some (r1, r2, r3) := H
      have A35 := Asd.mk A350
      clear A350
      by_cases c36 : t251 = 0
      ·rw [if_pos c36] at H
       have c36b0 : (t251 == 0) = true := beq_iff_eq.mpr c36
       have c36b1 : (t251 != 0) = false := bne_eq_false_iff_eq.mpr c36
       clear c36
       simp only [Option.some.injEq, Prod.mk.injEq] at H
       obtain ⟨rfl, rfl, rfl⟩ := H
       obtain ⟨Ao37, co37, eo37⟩ := Kd.R_slice HO_5.out
       subst eo37
       have p234 : 0 <= (0 : Int) := (by omega)
       have q234 : 0 < (t227.length : Int) := of_decide_eq_true (by first | (with_reducible assumption) | assumption)
       obtain ⟨ad234, e234, hx234_0, hx234_1⟩ := at_T60 (Kd.R_reads' HO_5.out).2.2 0 p234 q234
       cases e234
       have qi234 : (0 < t227.length) = True := eq_true (by omega)
       (try rw [show ((0 : Int)).toNat = 0 from rfl] at hx234_0)
       (try rw [show 0 * 2 = 0 from rfl] at hx234_0)
       (try rw [Addr.add_zero'] at hx234_0)
       (try rw [show ((0 : Int)).toNat = 0 from rfl] at hx234_1)
       (try rw [show 0 * 2 = 0 from rfl] at hx234_1)
       (try rw [Addr.add_zero'] at hx234_1)
       replace p234 := eq_true p234
       replace q234 := eq_true q234
       have p250 : 0 <= (0 : Int) := (by omega)
       have q250 : 0 < (t227.length : Int) := of_decide_eq_true (by first | (with_reducible assumption) | assumption)
       obtain ⟨ad250, e250, hx250_0, hx250_1⟩ := at_T60 (Kd.R_reads' HO_5.out).2.2 0 p250 q250
       obtain rfl : ad234 = ad250 := (by injection e250)
       have qi250 : (0 < t227.length) = True := eq_true (by omega)
       (try rw [show ((0 : Int)).toNat = 0 from rfl] at hx250_0)
       (try rw [show 0 * 2 = 0 from rfl] at hx250_0)
       (try rw [Addr.add_zero'] at hx250_0)
       (try rw [show ((0 : Int)).toNat = 0 from rfl] at hx250_1)
       (try rw [show 0 * 2 = 0 from rfl] at hx250_1)
       (try rw [Addr.add_zero'] at hx250_1)
       replace p250 := eq_true p250
       replace q250 := eq_true q250
       go_wp2_with (first | ((with_reducible refine gate_callee (f := 34) rfl ?_); refine goesL_ (some 46) rfl rfl Tryz.func34 (by kernel_rfl) rfl #[.string ((rd_T60 t227 0).f1)] rfl (by (try simp only [List.map_toArray, List.map_cons, List.map_nil]); first | done | rfl | (simp only [List.length_drop, List.length_take]; rfl)) ?_; (with_reducible refine (serve_failure.calls kj2 ((rd_T60 t227 0).f1) t251 _ A35.out).mono ?_); rintro e w' ⟨rfl, ⟨nd, rfl⟩⟩; refine ⟨_, rfl, ?_⟩))
       go_ret3
       exact ⟨_, by first | rfl | (simp [errW_none, errW_some] <;> rfl) | (simp [*, errW_none, errW_some] <;> rfl), by first | exact Kd.R_nil _ _ _ _ _ | exact Kd.N_nil _ _ _ _ _ | exact Kd.V_nil _ _ _ _ _ | exact Kd.Q_nil _ _ _ _ _ | exact Kd.S_nil _ _ _ _ _, by repeat (first | (with_reducible first | exact HB.out | apply bal | apply pbN | apply bd1) | exact HB.out)⟩
      ·rw [if_neg c36] at H
       have c36b0 : (t251 == 0) = false := beq_eq_false_iff_ne.mpr c36
       have c36b1 : (t251 != 0) = true := bne_iff_ne.mpr c36
       by_cases c38 : (t227.length : Int) > 2
       ·rw [if_pos c38] at H
        have c38b0 : decide (2 < (t227.length : Int)) = true := decide_eq_true c38
        have c38b1 : decide (2 < t227.length) = true := decide_eq_true (by omega)
        clear c38
        simp only [Option.some.injEq, Prod.mk.injEq] at H
        obtain ⟨rfl, rfl, rfl⟩ := H
        obtain ⟨Ao39, co39, eo39⟩ := Kd.R_slice HO_5.out
        subst eo39
        have p234 : 0 <= (0 : Int) := (by omega)
        have q234 : 0 < (t227.length : Int) := of_decide_eq_true (by first | (with_reducible assumption) | assumption)
        obtain ⟨ad234, e234, hx234_0, hx234_1⟩ := at_T60 (Kd.R_reads' HO_5.out).2.2 0 p234 q234
        cases e234
        have qi234 : (0 < t227.length) = True := eq_true (by omega)
        (try rw [show ((0 : Int)).toNat = 0 from rfl] at hx234_0)
        (try rw [show 0 * 2 = 0 from rfl] at hx234_0)
        (try rw [Addr.add_zero'] at hx234_0)
        (try rw [show ((0 : Int)).toNat = 0 from rfl] at hx234_1)
        (try rw [show 0 * 2 = 0 from rfl] at hx234_1)
        (try rw [Addr.add_zero'] at hx234_1)
        replace p234 := eq_true p234
        replace q234 := eq_true q234
        have p250 : 0 <= (0 : Int) := (by omega)
        have q250 : 0 < (t227.length : Int) := of_decide_eq_true (by first | (with_reducible assumption) | assumption)
        obtain ⟨ad250, e250, hx250_0, hx250_1⟩ := at_T60 (Kd.R_reads' HO_5.out).2.2 0 p250 q250
        obtain rfl : ad234 = ad250 := (by injection e250)
        have qi250 : (0 < t227.length) = True := eq_true (by omega)
        (try rw [show ((0 : Int)).toNat = 0 from rfl] at hx250_0)
        (try rw [show 0 * 2 = 0 from rfl] at hx250_0)
        (try rw [Addr.add_zero'] at hx250_0)
        (try rw [show ((0 : Int)).toNat = 0 from rfl] at hx250_1)
        (try rw [show 0 * 2 = 0 from rfl] at hx250_1)
        (try rw [Addr.add_zero'] at hx250_1)
        replace p250 := eq_true p250
        replace q250 := eq_true q250
        go_wp2_with (first | ((with_reducible refine gate_callee (f := 34) rfl ?_); refine goesL_ (some 46) rfl rfl Tryz.func34 (by kernel_rfl) rfl #[.string ((rd_T60 t227 0).f1)] rfl (by (try simp only [List.map_toArray, List.map_cons, List.map_nil]); first | done | rfl | (simp only [List.length_drop, List.length_take]; rfl)) ?_; (with_reducible refine (serve_failure.calls kj2 ((rd_T60 t227 0).f1) t251 _ A35.out).mono ?_); rintro e w' ⟨rfl, ⟨nd, rfl⟩⟩; refine ⟨_, rfl, ?_⟩))
        go_ret3
        exact ⟨_, by first | rfl | (simp [errW_none, errW_some] <;> rfl) | (simp [*, errW_none, errW_some] <;> rfl), by first | exact Kd.R_nil _ _ _ _ _ | exact Kd.N_nil _ _ _ _ _ | exact Kd.V_nil _ _ _ _ _ | exact Kd.Q_nil _ _ _ _ _ | exact Kd.S_nil _ _ _ _ _, by repeat (first | (with_reducible first | exact HB.out | apply bal | apply pbN | apply bd1) | exact HB.out)⟩
       ·rw [if_neg c38] at H
        have c38b0 : decide (2 < (t227.length : Int)) = false := decide_eq_false c38
        have c38b1 : decide (2 < t227.length) = false := decide_eq_false (by omega)
        clear c38
        by_cases c40 : 1 < (t227.length : Int)
        ·rw [if_pos c40] at H
         have c40b0 : decide (1 < (t227.length : Int)) = true := decide_eq_true c40
         have c40b1 : decide (1 < t227.length) = true := decide_eq_true (by omega)
         clear c40
         obtain ⟨bq41, hbq41⟩ : ∃ b_ : Bool, b_ = ((rd_T60 t227 1).f0) := ⟨_, rfl⟩
         replace H : (if (bq41 = true) then (some (([] : List Int), t251, true)) else (some (([] : List Int), 0, false))) = some (r1, r2, r3) := by rw [<- hbq41] at H; exact H
         have Nbq41 := Asd.mk hbq41
         clear hbq41
         by_cases c42 : (bq41 = true)
         ·subst c42
          have H1 : (some (([] : List Int), t251, true)) = some (r1, r2, r3) := by rw [if_pos rfl] at H; exact H
          clear H
          have H := H1
          clear H1
          simp only [Option.some.injEq, Prod.mk.injEq] at H
          obtain ⟨rfl, rfl, rfl⟩ := H
          obtain ⟨Ao43, co43, eo43⟩ := Kd.R_slice HO_5.out
          subst eo43
          have p234 : 0 <= (0 : Int) := (by omega)
          have q234 : 0 < (t227.length : Int) := of_decide_eq_true (by first | (with_reducible assumption) | assumption)
          obtain ⟨ad234, e234, hx234_0, hx234_1⟩ := at_T60 (Kd.R_reads' HO_5.out).2.2 0 p234 q234
          (try rw [<- Nbq41.out] at hx234_0)
          cases e234
          have qi234 : (0 < t227.length) = True := eq_true (by omega)
          (try rw [show ((0 : Int)).toNat = 0 from rfl] at hx234_0)
          (try rw [show 0 * 2 = 0 from rfl] at hx234_0)
          (try rw [Addr.add_zero'] at hx234_0)
          (try rw [show ((0 : Int)).toNat = 0 from rfl] at hx234_1)
          (try rw [show 0 * 2 = 0 from rfl] at hx234_1)
          (try rw [Addr.add_zero'] at hx234_1)
          replace p234 := eq_true p234
          replace q234 := eq_true q234
          have p250 : 0 <= (0 : Int) := (by omega)
          have q250 : 0 < (t227.length : Int) := of_decide_eq_true (by first | (with_reducible assumption) | assumption)
          obtain ⟨ad250, e250, hx250_0, hx250_1⟩ := at_T60 (Kd.R_reads' HO_5.out).2.2 0 p250 q250
          (try rw [<- Nbq41.out] at hx250_0)
          obtain rfl : ad234 = ad250 := (by injection e250)
          have qi250 : (0 < t227.length) = True := eq_true (by omega)
          (try rw [show ((0 : Int)).toNat = 0 from rfl] at hx250_0)
          (try rw [show 0 * 2 = 0 from rfl] at hx250_0)
          (try rw [Addr.add_zero'] at hx250_0)
          (try rw [show ((0 : Int)).toNat = 0 from rfl] at hx250_1)
          (try rw [show 0 * 2 = 0 from rfl] at hx250_1)
          (try rw [Addr.add_zero'] at hx250_1)
          replace p250 := eq_true p250
          replace q250 := eq_true q250
          go_wp2_with (first | ((with_reducible refine gate_callee (f := 34) rfl ?_); refine goesL_ (some 46) rfl rfl Tryz.func34 (by kernel_rfl) rfl #[.string ((rd_T60 t227 0).f1)] rfl (by (try simp only [List.map_toArray, List.map_cons, List.map_nil]); first | done | rfl | (simp only [List.length_drop, List.length_take]; rfl)) ?_; (with_reducible refine (serve_failure.calls kj2 ((rd_T60 t227 0).f1) t251 _ A35.out).mono ?_); rintro e w' ⟨rfl, ⟨nd, rfl⟩⟩; refine ⟨_, rfl, ?_⟩; have p252 : 0 <= (1 : Int) := (by omega); have q252 : 1 < (t227.length : Int) := of_decide_eq_true (by first | (with_reducible assumption) | assumption); obtain ⟨ad252, e252, hx252_0, hx252_1⟩ := at_T60 (Kd.R_reads' HO_5.out).2.2 1 p252 q252; (try rw [<- Nbq41.out] at hx252_0); obtain rfl : ad234 = ad252 := (by injection e252); (try simp only [show (1 : Int).toNat = 1 from rfl, Nat.reduceMul, Nat.reduceEqDiff, Go.Addr.add, ↓reduceIte] at hx252_0); (try simp only [show (1 : Int).toNat = 1 from rfl, Nat.reduceMul, Nat.reduceEqDiff, Go.Addr.add, ↓reduceIte] at hx252_1); have qi252 : (1 < t227.length) = True := eq_true (by omega); (try rw [show ((1 : Int)).toNat = 1 from rfl] at hx252_0); (try rw [show 1 * 2 = 2 from rfl] at hx252_0); (try rw [show ((1 : Int)).toNat = 1 from rfl] at hx252_1); (try rw [show 1 * 2 = 2 from rfl] at hx252_1); replace p252 := eq_true p252; replace q252 := eq_true q252))
          go_ret3
          exact ⟨_, by first | rfl | (simp [errW_none, errW_some] <;> rfl) | (simp [*, errW_none, errW_some] <;> rfl), by first | exact Kd.R_nil _ _ _ _ _ | exact Kd.N_nil _ _ _ _ _ | exact Kd.V_nil _ _ _ _ _ | exact Kd.Q_nil _ _ _ _ _ | exact Kd.S_nil _ _ _ _ _, by repeat (first | (with_reducible first | exact HB.out | apply bal | apply pbN | apply bd1) | exact HB.out)⟩
         ·replace c42 := Bool.eq_false_iff.mpr c42
          subst c42
          have H1 : (some (([] : List Int), 0, false)) = some (r1, r2, r3) := by rw [if_neg (show ¬ (false = true) by decide)] at H; exact H
          clear H
          have H := H1
          clear H1
          simp only [Option.some.injEq, Prod.mk.injEq] at H
          obtain ⟨rfl, rfl, rfl⟩ := H
          obtain ⟨Ao44, co44, eo44⟩ := Kd.R_slice HO_5.out
          subst eo44
          have p234 : 0 <= (0 : Int) := (by omega)
          have q234 : 0 < (t227.length : Int) := of_decide_eq_true (by first | (with_reducible assumption) | assumption)
          obtain ⟨ad234, e234, hx234_0, hx234_1⟩ := at_T60 (Kd.R_reads' HO_5.out).2.2 0 p234 q234
          (try rw [<- Nbq41.out] at hx234_0)
          cases e234
          have qi234 : (0 < t227.length) = True := eq_true (by omega)
          (try rw [show ((0 : Int)).toNat = 0 from rfl] at hx234_0)
          (try rw [show 0 * 2 = 0 from rfl] at hx234_0)
          (try rw [Addr.add_zero'] at hx234_0)
          (try rw [show ((0 : Int)).toNat = 0 from rfl] at hx234_1)
          (try rw [show 0 * 2 = 0 from rfl] at hx234_1)
          (try rw [Addr.add_zero'] at hx234_1)
          replace p234 := eq_true p234
          replace q234 := eq_true q234
          have p250 : 0 <= (0 : Int) := (by omega)
          have q250 : 0 < (t227.length : Int) := of_decide_eq_true (by first | (with_reducible assumption) | assumption)
          obtain ⟨ad250, e250, hx250_0, hx250_1⟩ := at_T60 (Kd.R_reads' HO_5.out).2.2 0 p250 q250
          (try rw [<- Nbq41.out] at hx250_0)
          obtain rfl : ad234 = ad250 := (by injection e250)
          have qi250 : (0 < t227.length) = True := eq_true (by omega)
          (try rw [show ((0 : Int)).toNat = 0 from rfl] at hx250_0)
          (try rw [show 0 * 2 = 0 from rfl] at hx250_0)
          (try rw [Addr.add_zero'] at hx250_0)
          (try rw [show ((0 : Int)).toNat = 0 from rfl] at hx250_1)
          (try rw [show 0 * 2 = 0 from rfl] at hx250_1)
          (try rw [Addr.add_zero'] at hx250_1)
          replace p250 := eq_true p250
          replace q250 := eq_true q250
          go_wp2_with (first | ((with_reducible refine gate_callee (f := 34) rfl ?_); refine goesL_ (some 46) rfl rfl Tryz.func34 (by kernel_rfl) rfl #[.string ((rd_T60 t227 0).f1)] rfl (by (try simp only [List.map_toArray, List.map_cons, List.map_nil]); first | done | rfl | (simp only [List.length_drop, List.length_take]; rfl)) ?_; (with_reducible refine (serve_failure.calls kj2 ((rd_T60 t227 0).f1) t251 _ A35.out).mono ?_); rintro e w' ⟨rfl, ⟨nd, rfl⟩⟩; refine ⟨_, rfl, ?_⟩; have p252 : 0 <= (1 : Int) := (by omega); have q252 : 1 < (t227.length : Int) := of_decide_eq_true (by first | (with_reducible assumption) | assumption); obtain ⟨ad252, e252, hx252_0, hx252_1⟩ := at_T60 (Kd.R_reads' HO_5.out).2.2 1 p252 q252; (try rw [<- Nbq41.out] at hx252_0); obtain rfl : ad234 = ad252 := (by injection e252); (try simp only [show (1 : Int).toNat = 1 from rfl, Nat.reduceMul, Nat.reduceEqDiff, Go.Addr.add, ↓reduceIte] at hx252_0); (try simp only [show (1 : Int).toNat = 1 from rfl, Nat.reduceMul, Nat.reduceEqDiff, Go.Addr.add, ↓reduceIte] at hx252_1); have qi252 : (1 < t227.length) = True := eq_true (by omega); (try rw [show ((1 : Int)).toNat = 1 from rfl] at hx252_0); (try rw [show 1 * 2 = 2 from rfl] at hx252_0); (try rw [show ((1 : Int)).toNat = 1 from rfl] at hx252_1); (try rw [show 1 * 2 = 2 from rfl] at hx252_1); replace p252 := eq_true p252; replace q252 := eq_true q252))
          go_ret3
          exact ⟨_, by first | rfl | (simp [errW_none, errW_some] <;> rfl) | (simp [*, errW_none, errW_some] <;> rfl), by first | exact Kd.R_nil _ _ _ _ _ | exact Kd.N_nil _ _ _ _ _ | exact Kd.V_nil _ _ _ _ _ | exact Kd.Q_nil _ _ _ _ _ | exact Kd.S_nil _ _ _ _ _, by repeat (first | (with_reducible first | exact HB.out | apply bal | apply pbN | apply bd1) | exact HB.out)⟩
        ·rw [if_neg c40] at H
         exact absurd H (by simp)
    ·rw [if_neg c11] at H
     exact absurd H (by simp)
def q2_three.f (a0 : Int) (a1 : Int) (a2 : Int) : Option (Int) := some (Go.bits .xor .u32 (Go.bits .xor .u32 a0 a1) a2)
set_option maxHeartbeats 8000000 in
set_option maxRecDepth 100000 in
theorem q2_three.calls (a0 : Int) (a1 : Int) (a2 : Int) (r : Int) (w : World) (h : q2_three.f a0 a1 a2 = some r) :
  Calls Tryz.prog 74 #[.int .u32 a0, .int .u32 a1, .int .u32 a2] w fun e w' => e = .returned (.int .u32 r) /\ Drawn0 w w' := by
 have H : (some (Go.bits .xor .u32 (Go.bits .xor .u32 a0 a1) a2)) = some r := h
 clear h
 obtain rfl := Option.some.inj H
 go_enter Tryz.func74, Tryz.ntmps74
 go_wp2
 go_ret
 exact ⟨by first | rfl | (simp; done) | (simp [*]; done), by repeat (first | exact Drawn0.refl _ | apply Drawn0.step)⟩
def q2_turn.f (a0 : Int) (a1 : Int) : Option (Int) := if 0 <= a1 then (if 0 <= (wrap64 (32 - a1)) then (some (((shr .u32 a0 a1) + (shl .u32 a0 (wrap64 (32 - a1)))) % 4294967296)) else (none)) else (none)
set_option maxHeartbeats 8000000 in
set_option maxRecDepth 100000 in
theorem q2_turn.calls (a0 : Int) (a1 : Int) (r : Int) (w : World) (h : q2_turn.f a0 a1 = some r) :
  Calls Tryz.prog 75 #[.int .u32 a0, .int .i64 a1] w fun e w' => e = .returned (.int .u32 r) /\ Drawn0 w w' := by
 have H : (if 0 <= a1 then (if 0 <= (wrap64 (32 - a1)) then (some (((shr .u32 a0 a1) + (shl .u32 a0 (wrap64 (32 - a1)))) % 4294967296)) else (none)) else (none)) = some r := h
 clear h
 by_cases c3 : 0 <= a1
 ·rw [if_pos c3] at H
  have c3b0 := eq_true c3
  have c3b1 : decide (0 <= a1) = true := decide_eq_true c3
  clear c3
  obtain ⟨ji4, hji4⟩ : ∃ j_ : Int, (shr .u32 a0 a1) = j_ := ⟨_, rfl⟩
  replace H : (if 0 <= (wrap64 (32 - a1)) then (some (((ji4) + (shl .u32 a0 (wrap64 (32 - a1)))) % 4294967296)) else (none)) = some r := by first | (rw [hji4] at H; exact H) | (simp only [hji4] at H ⊢; exact H)
  have hji4_ : (a0 / 2 ^ min a1.toNat 32) = ji4 := hji4
  have hji4z : a1 <= 32 -> (a0 / 2 ^ a1.toNat) = ji4 := shr_small hji4
  obtain ⟨ji5, hji5⟩ : ∃ j_ : Int, (wrap64 (32 - a1)) = j_ := ⟨_, rfl⟩
  replace H : (if 0 <= (ji5) then (some (((ji4) + (shl .u32 a0 (ji5))) % 4294967296)) else (none)) = some r := by first | (rw [hji5] at H; exact H) | (simp only [hji5] at H ⊢; exact H)
  have hji5w : (IntKind.i64.wrap (32 - a1)) = ji5 := (i64_w _).trans hji5
  by_cases c6 : 0 <= (ji5)
  ·rw [if_pos c6] at H
   have c6b0 := eq_true c6
   have c6b1 : decide (0 <= (ji5)) = true := decide_eq_true c6
   clear c6
   obtain ⟨ji7, hji7⟩ : ∃ j_ : Int, (shl .u32 a0 (ji5)) = j_ := ⟨_, rfl⟩
   replace H : (some (((ji4) + (ji7)) % 4294967296)) = some r := by first | (rw [hji7] at H; exact H) | (simp only [hji7] at H ⊢; exact H)
   have hji7_ : (IntKind.u32.wrap (a0 * 2 ^ min (ji5).toNat 32)) = ji7 := hji7
   have hji7z : (ji5) <= 32 -> (IntKind.u32.wrap (a0 * 2 ^ (ji5).toNat)) = ji7 := shl_small hji7
   obtain rfl := Option.some.inj H
   go_enter Tryz.func75, Tryz.ntmps75
   go_wp2
   repeat (go_quiet (fail); try go_wp2)
   go_ret
   exact ⟨by first | rfl | (simp; done) | (simp only [<- hji4, <- hji5, <- hji7] <;> (first | rfl | simp)) | (simp [*]; done), by repeat (first | exact Drawn0.refl _ | apply Drawn0.step)⟩
  ·rw [if_neg c6] at H
   exact absurd H (by simp)
 ·rw [if_neg c3] at H
  exact absurd H (by simp)
def q2_digit.f (a0 : Int) : Option (Int) := if a0 < 10 then (some ((48 + a0) % 256)) else (some ((((97 + a0) % 256) - 10) % 256))
set_option maxHeartbeats 8000000 in
set_option maxRecDepth 100000 in
theorem q2_digit.calls (a0 : Int) (r : Int) (w : World) (h : q2_digit.f a0 = some r) :
  Calls Tryz.prog 38 #[.int .u8 a0] w fun e w' => e = .returned (.int .u8 r) /\ Drawn0 w w' := by
 have H : (if a0 < 10 then (some ((48 + a0) % 256)) else (some ((((97 + a0) % 256) - 10) % 256))) = some r := h
 clear h
 by_cases c2 : a0 < 10
 ·rw [if_pos c2] at H
  have c2b0 : decide (a0 < 10) = true := decide_eq_true c2
  clear c2
  obtain rfl := Option.some.inj H
  go_enter Tryz.func38, Tryz.ntmps38
  go_wp2
  go_ret
  exact ⟨by first | rfl | (simp; done) | (simp [*]; done), by repeat (first | exact Drawn0.refl _ | apply Drawn0.step)⟩
 ·rw [if_neg c2] at H
  have c2b0 : decide (a0 < 10) = false := decide_eq_false c2
  clear c2
  obtain rfl := Option.some.inj H
  go_enter Tryz.func38, Tryz.ntmps38
  go_wp2
  go_ret
  exact ⟨by first | rfl | (simp; done) | (simp [*]; done), by repeat (first | exact Drawn0.refl _ | apply Drawn0.step)⟩
end Go.Proofs.YtaadhjpcdnbbeaaGreatDoor.Print
