/- Functions of the program as plain functions, and proofs that the program's calls tell what these tell. Written by a program. -/
import Derived.Test.YtlfenakgphmepaaGreatDoorPrint0
namespace Go.Proofs.YtlfenakgphmepaaGreatDoor.Print
open Go.RowKit YtlfenakgphmepaaGreatDoorW.PrintWords YtlfenakgphmepaaGreatDoorW.PrintLast YtlfenakgphmepaaGreatDoorW.PrintMore YtlfenakgphmepaaGreatDoor.Conv
attribute [local go_sem] max2_int min2_int max_two min_two max_three min_three max_four min_four
set_option linter.unusedVariables false
set_option linter.unusedSimpArgs false
def sacristyref10_split.l0 : Nat -> ByteArray -> Int -> List ByteArray -> Int -> Int -> Option (List ByteArray)
 | 0, _, _, _, _, _ => none
 | k + 1, x0, x1, x5, x6, x7 => if x7 <= (x0.size : Int) then (if x7 = (x0.size : Int) then (if 0 <= x6 then (if x6 <= x7 then (if x5.length < 8796093022208 then (sacristyref10_split.l0 k x0 x1 (x5 ++ [x0.extract (x6 : Int).toNat (x7 : Int).toNat]) (wrap64 (x7 + 1)) (wrap64 (x7 + 1))) else (none)) else (none)) else (none)) else (if 0 <= x7 then (if x7 < (x0.size : Int) then (if (bt x0 x7) = x1 then (if 0 <= x6 then (if x6 <= x7 then (if x5.length < 8796093022208 then (sacristyref10_split.l0 k x0 x1 (x5 ++ [x0.extract (x6 : Int).toNat (x7 : Int).toNat]) (wrap64 (x7 + 1)) (wrap64 (x7 + 1))) else (none)) else (none)) else (none)) else (sacristyref10_split.l0 k x0 x1 x5 x6 (wrap64 (x7 + 1)))) else (none)) else (none))) else (some x5)
def sacristyref10_split.f (k : Nat) (a0 : ByteArray) (a1 : Int) : Option (List ByteArray) := sacristyref10_split.l0 k a0 a1 ([] : List ByteArray) 0 0
set_option maxHeartbeats 8000000 in
set_option maxRecDepth 100000 in
theorem sacristyref10_split.calls (k : Nat) (a0 : ByteArray) (a1 : Int) (r : List ByteArray) (w : World) (h : sacristyref10_split.f k a0 a1 = some r) :
  Calls Tryz.prog 36 #[.string a0, .int .u8 a1] w fun e w' => ∃ v0_ : Value, e = .returned (v0_) /\ Kd.R Kd.string 9 w' w.heap.size (fun _ => True) v0_ r /\ Below w.heap.size w w' := by
 have HB := am (Below.refl w.heap.size w)
 have H : (sacristyref10_split.l0 k a0 a1 ([] : List ByteArray) 0 0) = some r := h
 clear h
 have H' := am H
 clear H
 go_enter Tryz.func36, Tryz.ntmps36
 go_wp2
 go_loopg [5, 6, 7] k (fun kq v5 v6 v7 w' => ∃ (x5_1 : List ByteArray) (x6_1 : Int) (x7_1 : Int), v6 = .int .i64 x6_1 /\ v7 = .int .i64 x7_1 /\ Asd (sacristyref10_split.l0 kq a0 a1 x5_1 x6_1 x7_1 = some r) /\ Asd (kq <= k) /\ Asd (Kd.R Kd.string 9 w' w.heap.size (fun _ => True) v5 x5_1) /\ Asd (Below w.heap.size w w'))
 case atStart => exact ⟨(([] : List ByteArray)), (0), (0), (ez), (ez), H', ⟨Nat.le_refl _⟩, ⟨by first | exact Kd.R_nil _ _ _ _ _ | exact Kd.N_nil _ _ _ _ _ | exact Kd.V_nil _ _ _ _ _ | exact Kd.Q_nil _ _ _ _ _ | exact Kd.S_nil _ _ _ _ _⟩, ⟨bz HB.out⟩⟩
 case round =>
  clear H'
  obtain ⟨x5_1, x6_1, x7_1, rfl, rfl, HA, HK1, HO_5, HB⟩ := hrel
  cases gk with
  | zero => exact absurd HA.out (by simp [sacristyref10_split.l0])
  | succ k1 =>
   have H := HA.out
   clear HA
   simp only [sacristyref10_split.l0] at H
   by_cases c3 : x7_1 <= (a0.size : Int)
   ·rw [if_pos c3] at H
    have c3b0 : decide (x7_1 <= (a0.size : Int)) = true := dt c3
    clear c3
    by_cases c4 : x7_1 = (a0.size : Int)
    ·rw [if_pos c4] at H
     have c4b0 : (x7_1 == (a0.size : Int)) = true := beq_iff_eq.mpr c4
     have c4b1 : (x7_1 != (a0.size : Int)) = false := bne_eq_false_iff_eq.mpr c4
     clear c4
     by_cases c5 : 0 <= x6_1
     ·rw [if_pos c5] at H
      have c5b0 := eq_true c5
      have c5b1 : decide (0 <= x6_1) = true := dt c5
      clear c5
      by_cases c6 : x6_1 <= x7_1
      ·rw [if_pos c6] at H
       have c6b0 := eq_true c6
       have c6b1 : decide (x6_1 <= x7_1) = true := dt c6
       clear c6
       have c7b0 := eq_true (dz : x7_1 <= (a0.size : Int))
       by_cases c8 : x5_1.length < 8796093022208
       ·rw [if_pos c8] at H
        have LMc8 := am c8
        clear c8
        obtain ⟨y220, hy220⟩ : ∃ y_ : List ByteArray, y_ = (x5_1 ++ [a0.extract (x6_1 : Int).toNat (x7_1 : Int).toNat]) := ⟨_, rfl⟩
        replace H : (sacristyref10_split.l0 k1 a0 a1 y220 (wrap64 (x7_1 + 1)) (wrap64 (x7_1 + 1))) = some r := by first | (rw [hy220]; with_reducible exact H) | (have H2_ := (Option.bind_some _ _).symm.trans H; rw [hy220]; with_reducible exact H2_) | (have H2_ := (Option.bind_some _ _).symm.trans H; with_reducible exact H2_) | with_reducible exact H | (rw [hy220]; exact H) | exact H
        have Ny220 := am hy220
        clear hy220
        have H' := am H
        clear H
        go_wp2_with (first | ((with_reducible refine gate_builtin (b := .append) (xs := #[.tmp 25, .tmp 30]) rfl ?_); at_builtin; refine Kd.R_append Kd.string (w0 := w) w.heap.size rfl (.tmp 25) (.tmp 30) 22 9 (.string ⟨#[]⟩) 16 rfl Tryz.underlying22 info9 rfl (by decide) (by omega) u5 x5_1 (a0.extract (x6_1 : Int).toNat (x7_1 : Int).toNat) [.string (a0.extract (x6_1 : Int).toNat (x7_1 : Int).toNat)] (fun _ => True) (fun _ => False) rfl rfl ?aP (fun _ hk => hk.elim) ?aF ?aO ?aB ?aS ?aL ?_; (case aP => exact rfl); (case aB => exact (bz HB.out)); (case aF => exact (fun _ _ => trivial)); (case aO => exact (by (with_reducible repeat (first | apply Kd.R_alloc | apply Kd.R_drewN | apply Kd.R_drew)); exact HO_5.out)); (case aS => exact (qZ (bz HB.out))); (case aL => have := LMc8.out; omega); intro v221 w9 ho hb hg hat; rw [<- Ny220.out] at ho; have n0_ := am (hb); have n1_ := am (ho); clear HB; clear HO_5; have HB := n0_; have HO222 := n1_; clear n0_ n1_; clear ho hb hg hat))
        go_roundg k1
        case measure => have := HK1.out; omega
        case rel => exact ⟨(y220), (wrap64 (x7_1 + 1)), (wrap64 (x7_1 + 1)), (ez), (ez), H', ⟨by have := HK1.out; omega⟩, ⟨by (with_reducible repeat (first | apply Kd.R_alloc | apply Kd.R_drewN | apply Kd.R_drew)); exact HO222.out⟩, ⟨bz HB.out⟩⟩
       ·rw [if_neg c8] at H
        exact absurd H (by simp)
      ·rw [if_neg c6] at H
       exact absurd H (by simp)
     ·rw [if_neg c5] at H
      exact absurd H (by simp)
    ·rw [if_neg c4] at H
     have c4b0 : (x7_1 == (a0.size : Int)) = false := beq_eq_false_iff_ne.mpr c4
     have c4b1 : (x7_1 != (a0.size : Int)) = true := bne_iff_ne.mpr c4
     by_cases c10 : 0 <= x7_1
     ·rw [if_pos c10] at H
      have c10b0 : decide (0 <= x7_1) = true := dt c10
      clear c10
      by_cases c11 : x7_1 < (a0.size : Int)
      ·rw [if_pos c11] at H
       have c11b0 : decide (x7_1 < (a0.size : Int)) = true := dt c11
       clear c11
       by_cases c13 : (bt a0 x7_1) = a1
       ·rw [if_pos c13] at H
        have c13b0 : ((bt a0 x7_1) == a1) = true := beq_iff_eq.mpr c13
        have c13b1 : ((bt a0 x7_1) != a1) = false := bne_eq_false_iff_eq.mpr c13
        clear c13
        by_cases c14 : 0 <= x6_1
        ·rw [if_pos c14] at H
         have c14b0 := eq_true c14
         have c14b1 : decide (0 <= x6_1) = true := dt c14
         clear c14
         by_cases c15 : x6_1 <= x7_1
         ·rw [if_pos c15] at H
          have c15b0 := eq_true c15
          have c15b1 : decide (x6_1 <= x7_1) = true := dt c15
          clear c15
          have c16b0 := eq_true (dz : x7_1 <= (a0.size : Int))
          by_cases c17 : x5_1.length < 8796093022208
          ·rw [if_pos c17] at H
           have LMc17 := am c17
           clear c17
           obtain ⟨y223, hy223⟩ : ∃ y_ : List ByteArray, y_ = (x5_1 ++ [a0.extract (x6_1 : Int).toNat (x7_1 : Int).toNat]) := ⟨_, rfl⟩
           replace H : (sacristyref10_split.l0 k1 a0 a1 y223 (wrap64 (x7_1 + 1)) (wrap64 (x7_1 + 1))) = some r := by first | (rw [hy223]; with_reducible exact H) | (have H2_ := (Option.bind_some _ _).symm.trans H; rw [hy223]; with_reducible exact H2_) | (have H2_ := (Option.bind_some _ _).symm.trans H; with_reducible exact H2_) | with_reducible exact H | (rw [hy223]; exact H) | exact H
           have Ny223 := am hy223
           clear hy223
           have H' := am H
           clear H
           have p12 : 0 <= (x7_1 : Int) := dz
           have q12 : x7_1 < (a0.size : Int) := dz
           have hx12 := bt_at a0 x7_1
           replace p12 := eq_true p12
           replace q12 := eq_true q12
           go_wp2_with (first | ((with_reducible refine gate_builtin (b := .append) (xs := #[.tmp 25, .tmp 30]) rfl ?_); at_builtin; refine Kd.R_append Kd.string (w0 := w) w.heap.size rfl (.tmp 25) (.tmp 30) 22 9 (.string ⟨#[]⟩) 16 rfl Tryz.underlying22 info9 rfl (by decide) (by omega) u5 x5_1 (a0.extract (x6_1 : Int).toNat (x7_1 : Int).toNat) [.string (a0.extract (x6_1 : Int).toNat (x7_1 : Int).toNat)] (fun _ => True) (fun _ => False) rfl rfl ?aP (fun _ hk => hk.elim) ?aF ?aO ?aB ?aS ?aL ?_; (case aP => exact rfl); (case aB => exact (bz HB.out)); (case aF => exact (fun _ _ => trivial)); (case aO => exact (by (with_reducible repeat (first | apply Kd.R_alloc | apply Kd.R_drewN | apply Kd.R_drew)); exact HO_5.out)); (case aS => exact (qZ (bz HB.out))); (case aL => have := LMc17.out; omega); intro v224 w18 ho hb hg hat; rw [<- Ny223.out] at ho; have n0_ := am (hb); have n1_ := am (ho); clear HB; clear HO_5; have HB := n0_; have HO225 := n1_; clear n0_ n1_; clear ho hb hg hat))
           go_roundg k1
           case measure => have := HK1.out; omega
           case rel => exact ⟨(y223), (wrap64 (x7_1 + 1)), (wrap64 (x7_1 + 1)), (ez), (ez), H', ⟨by have := HK1.out; omega⟩, ⟨by (with_reducible repeat (first | apply Kd.R_alloc | apply Kd.R_drewN | apply Kd.R_drew)); exact HO225.out⟩, ⟨bz HB.out⟩⟩
          ·rw [if_neg c17] at H
           exact absurd H (by simp)
         ·rw [if_neg c15] at H
          exact absurd H (by simp)
        ·rw [if_neg c14] at H
         exact absurd H (by simp)
       ·rw [if_neg c13] at H
        have c13b0 : ((bt a0 x7_1) == a1) = false := beq_eq_false_iff_ne.mpr c13
        have c13b1 : ((bt a0 x7_1) != a1) = true := bne_iff_ne.mpr c13
        have H' := am H
        clear H
        have p12 : 0 <= (x7_1 : Int) := dz
        have q12 : x7_1 < (a0.size : Int) := dz
        have hx12 := bt_at a0 x7_1
        replace p12 := eq_true p12
        replace q12 := eq_true q12
        go_wp2
        go_roundg k1
        case measure => have := HK1.out; omega
        case rel => exact ⟨(x5_1), (x6_1), (wrap64 (x7_1 + 1)), (ez), (ez), H', ⟨by have := HK1.out; omega⟩, ⟨by (with_reducible repeat (first | apply Kd.R_alloc | apply Kd.R_drewN | apply Kd.R_drew)); exact HO_5.out⟩, ⟨bz HB.out⟩⟩
      ·rw [if_neg c11] at H
       exact absurd H (by simp)
     ·rw [if_neg c10] at H
      exact absurd H (by simp)
   ·rw [if_neg c3] at H
    have c3b0 : decide (x7_1 <= (a0.size : Int)) = false := df c3
    clear c3
    obtain rfl := Option.some.inj H
    go_wp2
    go_ret
    exact ⟨_, ey, by (with_reducible repeat (first | apply Kd.R_alloc | apply Kd.R_drewN | apply Kd.R_drew)); exact HO_5.out, bz HB.out⟩
def sacristyref03_most.f  : Option (Int) := some 1099511627776
set_option maxHeartbeats 8000000 in
set_option maxRecDepth 100000 in
theorem sacristyref03_most.calls  (r : Int) (w : World) (h : sacristyref03_most.f  = some r) :
  Calls Tryz.prog 61 #[] w fun e w' => e = .returned (.int .i64 r) /\ Drawn0 w w' := by
 have H : (some 1099511627776) = some r := h
 clear h
 obtain rfl := Option.some.inj H
 go_enter Tryz.func61, Tryz.ntmps61
 go_wp2
 go_ret
 exact ⟨ez, wz⟩
mutual
def sacristyref03_Decimal.j0 : Nat -> ByteArray -> Int -> Bool -> Option (Int × Bool)
 | 0, _, _, _ => none
 | k + 1, x0, x4, x23 => if x23 = true then (some (0, false)) else (sacristyref03_Decimal.l0 k x0 x4 0)
def sacristyref03_Decimal.l0 : Nat -> ByteArray -> Int -> Int -> Option (Int × Bool)
 | 0, _, _, _ => none
 | k + 1, x0, x4, x5 => if x5 < (x0.size : Int) then (if 0 <= x5 then (if (bt x0 x5) < 48 then (some (0, false)) else (if (bt x0 x5) > 57 then (some (0, false)) else (sacristyref03_Decimal.l0 k x0 (wrap64 ((wrap64 (10 * x4)) + (((bt x0 x5) - 48) % 256))) (wrap64 (x5 + 1))))) else (none)) else ((sacristyref03_most.f).bind fun t226 => (if x4 > t226 then (some (0, false)) else (some (x4, true))))
end
def sacristyref03_Decimal.f (k : Nat) (a0 : ByteArray) : Option (Int × Bool) := if (a0.size : Int) = 0 then (sacristyref03_Decimal.j0 k a0 0 true) else (if (a0.size : Int) > 13 then (sacristyref03_Decimal.j0 k a0 0 true) else (if (a0.size : Int) > 1 then (if 0 < (a0.size : Int) then (sacristyref03_Decimal.j0 k a0 0 ((bt a0 0) == 48)) else (none)) else (sacristyref03_Decimal.j0 k a0 0 false)))
set_option maxHeartbeats 8000000 in
set_option maxRecDepth 100000 in
theorem sacristyref03_Decimal.calls (k : Nat) (a0 : ByteArray) (r1 : Int) (r2 : Bool) (w : World) (h : sacristyref03_Decimal.f k a0 = some (r1, r2)) :
  Calls Tryz.prog 38 #[.string a0] w fun e w' => e = .returned (.tuple #[.int .i64 r1, .bool r2]) /\ Drawn0 w w' := by
 have H : (if (a0.size : Int) = 0 then (sacristyref03_Decimal.j0 k a0 0 true) else (if (a0.size : Int) > 13 then (sacristyref03_Decimal.j0 k a0 0 true) else (if (a0.size : Int) > 1 then (if 0 < (a0.size : Int) then (sacristyref03_Decimal.j0 k a0 0 ((bt a0 0) == 48)) else (none)) else (sacristyref03_Decimal.j0 k a0 0 false)))) = some (r1, r2) := h
 clear h
 have HC2 := am H
 clear H
 go_enter Tryz.func38, Tryz.ntmps38
 go_upto_region 2 with (fail)
 go_cut [23] (fun v23 wc => ∃ (kq : Nat) (x23_1 : Bool), v23 = .bool x23_1 /\ Asd (sacristyref03_Decimal.j0 kq a0 0 x23_1 = some (r1, r2)) /\ Asd (kq <= k) /\ Drawn0 w wc)
 case first =>
  have H := HC2.out
  clear HC2
  by_cases c3 : (a0.size : Int) = 0
  ·rw [if_pos c3] at H
   have c3b0 : ((a0.size : Int) == 0) = true := beq_iff_eq.mpr c3
   have c3b1 : ((a0.size : Int) != 0) = false := bne_eq_false_iff_eq.mpr c3
   clear c3
   (first | rw [c3b0] | (simp only [i64_w, i32_w]; rw [c3b0]) | skip)
   have H' := am H
   clear H
   go_wp2
   go_meet
   case rel => exact ⟨_, (true), (ez), H', ⟨by first | omega | exact Nat.le_refl _⟩, wz⟩
  ·rw [if_neg c3] at H
   have c3b0 : ((a0.size : Int) == 0) = false := beq_eq_false_iff_ne.mpr c3
   have c3b1 : ((a0.size : Int) != 0) = true := bne_iff_ne.mpr c3
   (first | rw [c3b0] | (simp only [i64_w, i32_w]; rw [c3b0]) | skip)
   by_cases c4 : (a0.size : Int) > 13
   ·rw [if_pos c4] at H
    have c4b0 : decide (13 < (a0.size : Int)) = true := dt c4
    have c4b1 : decide (13 < a0.size) = true := dt (by omega)
    clear c4
    have H' := am H
    clear H
    go_wp2
    go_meet
    case rel => exact ⟨_, (true), (ez), H', ⟨by first | omega | exact Nat.le_refl _⟩, wz⟩
   ·rw [if_neg c4] at H
    have c4b0 : decide (13 < (a0.size : Int)) = false := df c4
    have c4b1 : decide (13 < a0.size) = false := df (by omega)
    clear c4
    by_cases c5 : (a0.size : Int) > 1
    ·rw [if_pos c5] at H
     have c5b0 : decide (1 < (a0.size : Int)) = true := dt c5
     have c5b1 : decide (1 < a0.size) = true := dt (by omega)
     clear c5
     by_cases c6 : 0 < (a0.size : Int)
     ·rw [if_pos c6] at H
      have c6b0 : decide (0 < (a0.size : Int)) = true := dt c6
      have c6b1 : decide (0 < a0.size) = true := dt (by omega)
      clear c6
      have H' := am H
      clear H
      have p7 : 0 <= (0 : Int) := (by omega)
      have q7 : 0 < a0.size := (by have : (0 : Int) < (a0.size : Int) := dz; omega)
      have hx7 : ∀ h : 0 < a0.size, ((a0[0]'h).toNat : Int) = bt a0 0 := bt_at a0 0
      clear p7
      have qi7 : (0 < (a0.size : Int)) = True := eq_true (dz)
      replace q7 := eq_true q7
      go_wp2
      go_meet
      case rel => exact ⟨_, (((bt a0 0) == 48)), (ez), H', ⟨by first | omega | exact Nat.le_refl _⟩, wz⟩
     ·rw [if_neg c6] at H
      exact absurd H (by simp)
    ·rw [if_neg c5] at H
     have c5b0 : decide (1 < (a0.size : Int)) = false := df c5
     have c5b1 : decide (1 < a0.size) = false := df (by omega)
     clear c5
     have H' := am H
     clear H
     go_wp2
     go_meet
     case rel => exact ⟨_, (false), (ez), H', ⟨by first | omega | exact Nat.le_refl _⟩, wz⟩
 case rest =>
  clear HC2
  obtain ⟨kq, x23_1, rfl, HA, HJ1, ⟨mc1, rfl⟩⟩ := hcut
  cases kq with
  | zero => exact absurd HA.out (by simp [sacristyref03_Decimal.j0])
  | succ kj1 =>
   have H := HA.out
   clear HA
   simp only [sacristyref03_Decimal.j0] at H
   by_cases c8 : x23_1 = true
   ·subst c8
    have H1 : (some (0, false)) = some (r1, r2) := by rw [if_pos rfl] at H; exact H
    clear H
    have H := H1
    clear H1
    simp only [Option.some.injEq, Prod.mk.injEq] at H
    obtain ⟨rfl, rfl⟩ := H
    go_wp2
    go_ret2
    exact ⟨ez, wz⟩
   ·replace c8 := Bool.eq_false_iff.mpr c8
    subst c8
    have H1 : (sacristyref03_Decimal.l0 kj1 a0 0 0) = some (r1, r2) := by rw [if_neg (show ¬ (false = true) by decide)] at H; exact H
    clear H
    have H := H1
    clear H1
    have H' := am H
    clear H
    go_wp2
    go_loopg [4, 5] kj1 (fun kq v4 v5 w' => ∃ (x4_2 : Int) (x5_2 : Int), v4 = .int .i64 x4_2 /\ v5 = .int .i64 x5_2 /\ Asd (sacristyref03_Decimal.l0 kq a0 x4_2 x5_2 = some (r1, r2)) /\ Asd (kq <= kj1) /\ Drawn0 w w')
    case atStart => exact ⟨(0), (0), (ez), (ez), H', ⟨Nat.le_refl _⟩, wz⟩
    case round =>
     clear H'
     obtain ⟨x4_2, x5_2, rfl, rfl, HA, HK2, ⟨m2, rfl⟩⟩ := hrel
     cases gk with
     | zero => exact absurd HA.out (by simp [sacristyref03_Decimal.l0])
     | succ k2 =>
      have H := HA.out
      clear HA
      simp only [sacristyref03_Decimal.l0] at H
      by_cases c9 : x5_2 < (a0.size : Int)
      ·rw [if_pos c9] at H
       have c9b0 : decide (x5_2 < (a0.size : Int)) = true := dt c9
       clear c9
       by_cases c10 : 0 <= x5_2
       ·rw [if_pos c10] at H
        have c10b0 : decide (0 <= x5_2) = true := dt c10
        clear c10
        by_cases c12 : (bt a0 x5_2) < 48
        ·rw [if_pos c12] at H
         have c12b0 : decide ((bt a0 x5_2) < 48) = true := dt c12
         clear c12
         simp only [Option.some.injEq, Prod.mk.injEq] at H
         obtain ⟨rfl, rfl⟩ := H
         have p11 : 0 <= (x5_2 : Int) := dz
         have q11 : x5_2 < (a0.size : Int) := dz
         have hx11 := bt_at a0 x5_2
         replace p11 := eq_true p11
         replace q11 := eq_true q11
         go_wp2
         go_ret2
         exact ⟨ez, wz⟩
        ·rw [if_neg c12] at H
         have c12b0 : decide ((bt a0 x5_2) < 48) = false := df c12
         clear c12
         by_cases c14 : (bt a0 x5_2) > 57
         ·rw [if_pos c14] at H
          have c14b0 : decide (57 < (bt a0 x5_2)) = true := dt c14
          clear c14
          simp only [Option.some.injEq, Prod.mk.injEq] at H
          obtain ⟨rfl, rfl⟩ := H
          have p11 : 0 <= (x5_2 : Int) := dz
          have q11 : x5_2 < (a0.size : Int) := dz
          have hx11 := bt_at a0 x5_2
          replace p11 := eq_true p11
          replace q11 := eq_true q11
          have p13 : 0 <= (x5_2 : Int) := dz
          have q13 : x5_2 < (a0.size : Int) := dz
          have hx13 := bt_at a0 x5_2
          replace p13 := eq_true p13
          replace q13 := eq_true q13
          go_wp2
          go_ret2
          exact ⟨ez, wz⟩
         ·rw [if_neg c14] at H
          have c14b0 : decide (57 < (bt a0 x5_2)) = false := df c14
          clear c14
          have H' := am H
          clear H
          have p11 : 0 <= (x5_2 : Int) := dz
          have q11 : x5_2 < (a0.size : Int) := dz
          have hx11 := bt_at a0 x5_2
          replace p11 := eq_true p11
          replace q11 := eq_true q11
          have p13 : 0 <= (x5_2 : Int) := dz
          have q13 : x5_2 < (a0.size : Int) := dz
          have hx13 := bt_at a0 x5_2
          replace p13 := eq_true p13
          replace q13 := eq_true q13
          have p15 : 0 <= (x5_2 : Int) := dz
          have q15 : x5_2 < (a0.size : Int) := dz
          have hx15 := bt_at a0 x5_2
          replace p15 := eq_true p15
          replace q15 := eq_true q15
          go_wp2
          go_roundg k2
          case measure => have := HJ1.out; have := HK2.out; omega
          case rel => exact ⟨(wrap64 ((wrap64 (10 * x4_2)) + (((bt a0 x5_2) - 48) % 256))), (wrap64 (x5_2 + 1)), (ez), (ez), H', ⟨by have := HJ1.out; have := HK2.out; omega⟩, wz⟩
       ·rw [if_neg c10] at H
        exact absurd H (by simp)
      ·rw [if_neg c9] at H
       have c9b0 : decide (x5_2 < (a0.size : Int)) = false := df c9
       clear c9
       replace H := Option.bind_eq_some_iff.mp H
       obtain ⟨t226, A160, H⟩ := H
       replace H : (if x4_2 > t226 then (some (0, false)) else (some (x4_2, true))) = some (r1, r2) := H
       have A16 := am A160
       by_cases c17 : x4_2 > t226
       ·rw [if_pos c17] at H
        have c17b0 : decide (t226 < x4_2) = true := dt c17
        clear c17
        simp only [Option.some.injEq, Prod.mk.injEq] at H
        obtain ⟨rfl, rfl⟩ := H
        go_wp2_with (first | ((with_reducible refine gate_callee (f := 61) rfl ?_); refine goesL_ (some 49) rfl rfl Tryz.func61 (by kernel_rfl) rfl #[] rfl mz ?_; (with_reducible refine (sacristyref03_most.calls  t226 _ A16.out).mono ?_); rintro e w' ⟨rfl, ⟨nd, rfl⟩⟩; refine ⟨_, rfl, ?_⟩))
        go_ret2
        exact ⟨ez, wz⟩
       ·rw [if_neg c17] at H
        have c17b0 : decide (t226 < x4_2) = false := df c17
        clear c17
        simp only [Option.some.injEq, Prod.mk.injEq] at H
        obtain ⟨rfl, rfl⟩ := H
        go_wp2_with (first | ((with_reducible refine gate_callee (f := 61) rfl ?_); refine goesL_ (some 49) rfl rfl Tryz.func61 (by kernel_rfl) rfl #[] rfl mz ?_; (with_reducible refine (sacristyref03_most.calls  t226 _ A16.out).mono ?_); rintro e w' ⟨rfl, ⟨nd, rfl⟩⟩; refine ⟨_, rfl, ?_⟩))
        go_ret2
        exact ⟨ez, wz⟩
def sacristyref10_counted.f (k : Nat) (l0 : List ByteArray) (a1 : Int) (a2 : ByteArray) : Option (Int × Bool) := if a1 >= (l0.length : Int) then (some (0, false)) else (if 0 <= a1 then (if a1 < (l0.length : Int) then (if ((rdOf ByteArray.empty l0 a1).size : Int) < (wrap64 ((a2.size : Int) + 1)) then (some (0, false)) else (if 0 <= (a2.size : Int) then (if (a2.size : Int) <= ((rdOf ByteArray.empty l0 a1).size : Int) then (if ((rdOf ByteArray.empty l0 a1).extract 0 ((a2.size : Int) : Int).toNat).toList = a2.toList then (if (a2.size : Int) < ((rdOf ByteArray.empty l0 a1).size : Int) then (if (bt (rdOf ByteArray.empty l0 a1) (a2.size : Int)) = 32 then (if 0 <= (wrap64 ((a2.size : Int) + 1)) then (if (wrap64 ((a2.size : Int) + 1)) <= ((rdOf ByteArray.empty l0 a1).size : Int) then ((sacristyref03_Decimal.f k ((rdOf ByteArray.empty l0 a1).extract ((wrap64 ((a2.size : Int) + 1)) : Int).toNat (rdOf ByteArray.empty l0 a1).size)).bind fun bt231 => (some (bt231.1, bt231.2))) else (none)) else (none)) else (some (0, false))) else (none)) else (some (0, false))) else (none)) else (none))) else (none)) else (none))
set_option maxHeartbeats 8000000 in
set_option maxRecDepth 100000 in
theorem sacristyref10_counted.calls (k : Nat) (A0 : Option Addr) (c0 : Nat) (l0 : List ByteArray) (a1 : Int) (a2 : ByteArray) (r1 : Int) (r2 : Bool) (w : World) (hr0 : Kd.C Kd.string w A0 l0.length l0) (hc0 : l0.length <= c0) (h : sacristyref10_counted.f k l0 a1 a2 = some (r1, r2)) :
  Calls Tryz.prog 37 #[.slice A0 l0.length c0, .int .i64 a1, .string a2] w fun e w' => e = .returned (.tuple #[.int .i64 r1, .bool r2]) /\ Drawn0 w w' := by
 have HR0 := am hr0
 have HC0 := am hc0
 clear hr0 hc0
 have H : (if a1 >= (l0.length : Int) then (some (0, false)) else (if 0 <= a1 then (if a1 < (l0.length : Int) then (if ((rdOf ByteArray.empty l0 a1).size : Int) < (wrap64 ((a2.size : Int) + 1)) then (some (0, false)) else (if 0 <= (a2.size : Int) then (if (a2.size : Int) <= ((rdOf ByteArray.empty l0 a1).size : Int) then (if ((rdOf ByteArray.empty l0 a1).extract 0 ((a2.size : Int) : Int).toNat).toList = a2.toList then (if (a2.size : Int) < ((rdOf ByteArray.empty l0 a1).size : Int) then (if (bt (rdOf ByteArray.empty l0 a1) (a2.size : Int)) = 32 then (if 0 <= (wrap64 ((a2.size : Int) + 1)) then (if (wrap64 ((a2.size : Int) + 1)) <= ((rdOf ByteArray.empty l0 a1).size : Int) then ((sacristyref03_Decimal.f k ((rdOf ByteArray.empty l0 a1).extract ((wrap64 ((a2.size : Int) + 1)) : Int).toNat (rdOf ByteArray.empty l0 a1).size)).bind fun bt231 => (some (bt231.1, bt231.2))) else (none)) else (none)) else (some (0, false))) else (none)) else (some (0, false))) else (none)) else (none))) else (none)) else (none))) = some (r1, r2) := h
 clear h
 by_cases c4 : a1 >= (l0.length : Int)
 ·rw [if_pos c4] at H
  have c4b0 : decide ((l0.length : Int) <= a1) = true := dt c4
  clear c4
  simp only [Option.some.injEq, Prod.mk.injEq] at H
  obtain ⟨rfl, rfl⟩ := H
  go_enter Tryz.func37, Tryz.ntmps37
  go_wp2
  go_ret2
  exact ⟨ez, wz⟩
 ·rw [if_neg c4] at H
  have c4b0 : decide ((l0.length : Int) <= a1) = false := df c4
  clear c4
  by_cases c5 : 0 <= a1
  ·rw [if_pos c5] at H
   have c5b0 : decide (0 <= a1) = true := dt c5
   clear c5
   by_cases c6 : a1 < (l0.length : Int)
   ·rw [if_pos c6] at H
    have c6b0 : decide (a1 < (l0.length : Int)) = true := dt c6
    clear c6
    by_cases c7 : ((rdOf ByteArray.empty l0 a1).size : Int) < (wrap64 ((a2.size : Int) + 1))
    ·rw [if_pos c7] at H
     have c7b0 : decide (((rdOf ByteArray.empty l0 a1).size : Int) < (wrap64 ((a2.size : Int) + 1))) = true := dt c7
     clear c7
     simp only [Option.some.injEq, Prod.mk.injEq] at H
     obtain ⟨rfl, rfl⟩ := H
     have p227 : 0 <= (a1 : Int) := dz
     have q227 : a1 < (l0.length : Int) := dz
     obtain ⟨ad227, e227, hx227_0⟩ := Kd.at_string HR0.out a1 p227 q227
     cases e227
     replace p227 := eq_true p227
     replace q227 := eq_true q227
     go_enter Tryz.func37, Tryz.ntmps37
     go_wp2
     go_ret2
     exact ⟨ez, wz⟩
    ·rw [if_neg c7] at H
     have c7b0 : decide (((rdOf ByteArray.empty l0 a1).size : Int) < (wrap64 ((a2.size : Int) + 1))) = false := df c7
     clear c7
     by_cases c8 : 0 <= (a2.size : Int)
     ·rw [if_pos c8] at H
      have c8b0 := eq_true c8
      have c8b1 : decide (0 <= (a2.size : Int)) = true := dt c8
      clear c8
      by_cases c9 : (a2.size : Int) <= ((rdOf ByteArray.empty l0 a1).size : Int)
      ·rw [if_pos c9] at H
       have c9b0 := eq_true c9
       have c9b1 : decide ((a2.size : Int) <= ((rdOf ByteArray.empty l0 a1).size : Int)) = true := dt c9
       clear c9
       by_cases c10 : ((rdOf ByteArray.empty l0 a1).extract 0 ((a2.size : Int) : Int).toNat).toList = a2.toList
       ·rw [if_pos c10] at H
        have c10b0 : (((rdOf ByteArray.empty l0 a1).extract 0 ((a2.size : Int) : Int).toNat).toList == a2.toList) = true := beq_iff_eq.mpr c10
        (try (have c10b0s := c10b0; simp only [Int.toNat_natCast] at c10b0s))
        have c10b1 : (((rdOf ByteArray.empty l0 a1).extract 0 ((a2.size : Int) : Int).toNat).toList != a2.toList) = false := bne_eq_false_iff_eq.mpr c10
        (try (have c10b1s := c10b1; simp only [Int.toNat_natCast] at c10b1s))
        clear c10
        by_cases c11 : (a2.size : Int) < ((rdOf ByteArray.empty l0 a1).size : Int)
        ·rw [if_pos c11] at H
         have c11b0 : decide ((a2.size : Int) < ((rdOf ByteArray.empty l0 a1).size : Int)) = true := dt c11
         have c11b1 : decide (a2.size < (rdOf ByteArray.empty l0 a1).size) = true := dt (Int.ofNat_lt.mp c11)
         clear c11
         by_cases c13 : (bt (rdOf ByteArray.empty l0 a1) (a2.size : Int)) = 32
         ·rw [if_pos c13] at H
          have c13b0 : ((bt (rdOf ByteArray.empty l0 a1) (a2.size : Int)) == 32) = true := beq_iff_eq.mpr c13
          have c13b1 : ((bt (rdOf ByteArray.empty l0 a1) (a2.size : Int)) != 32) = false := bne_eq_false_iff_eq.mpr c13
          clear c13
          obtain ⟨ji14, hji14⟩ : ∃ j_ : Int, (wrap64 ((a2.size : Int) + 1)) = j_ := ⟨_, rfl⟩
          replace H : (if 0 <= (ji14) then (if (ji14) <= ((rdOf ByteArray.empty l0 a1).size : Int) then ((sacristyref03_Decimal.f k ((rdOf ByteArray.empty l0 a1).extract ((ji14) : Int).toNat (rdOf ByteArray.empty l0 a1).size)).bind fun bt231 => (some (bt231.1, bt231.2))) else (none)) else (none)) = some (r1, r2) := by first | (rw [hji14] at H; exact H) | (simp only [hji14] at H ⊢; exact H)
          (try rw [hji14] at c7b0)
          have hji14w : (IntKind.i64.wrap ((a2.size : Int) + 1)) = ji14 := (i64_w _).trans hji14
          by_cases c15 : 0 <= (ji14)
          ·rw [if_pos c15] at H
           have c15b0 := eq_true c15
           have c15b1 : decide (0 <= (ji14)) = true := dt c15
           clear c15
           by_cases c16 : (ji14) <= ((rdOf ByteArray.empty l0 a1).size : Int)
           ·rw [if_pos c16] at H
            have c16b0 := eq_true c16
            have c16b1 : decide ((ji14) <= ((rdOf ByteArray.empty l0 a1).size : Int)) = true := dt c16
            clear c16
            replace H := Option.bind_eq_some_iff.mp H
            obtain ⟨⟨t231, t232⟩, A170, H⟩ := H
            replace H : (some (t231, t232)) = some (r1, r2) := H
            have A17 := am A170
            simp only [Option.some.injEq, Prod.mk.injEq] at H
            obtain ⟨rfl, rfl⟩ := H
            have p227 : 0 <= (a1 : Int) := dz
            have q227 : a1 < (l0.length : Int) := dz
            obtain ⟨ad227, e227, hx227_0⟩ := Kd.at_string HR0.out a1 p227 q227
            cases e227
            replace p227 := eq_true p227
            replace q227 := eq_true q227
            have p228 : 0 <= (a1 : Int) := dz
            have q228 : a1 < (l0.length : Int) := dz
            obtain ⟨ad228, e228, hx228_0⟩ := Kd.at_string HR0.out a1 p228 q228
            obtain rfl : ad227 = ad228 := (by injection e228)
            replace p228 := eq_true p228
            replace q228 := eq_true q228
            have p229 : 0 <= (a1 : Int) := dz
            have q229 : a1 < (l0.length : Int) := dz
            obtain ⟨ad229, e229, hx229_0⟩ := Kd.at_string HR0.out a1 p229 q229
            obtain rfl : ad227 = ad229 := (by injection e229)
            replace p229 := eq_true p229
            replace q229 := eq_true q229
            have p12 : 0 <= ((a2.size : Int) : Int) := dz
            have q12 : (a2.size : Int) < ((rdOf ByteArray.empty l0 a1).size : Int) := dz
            have hx12 := bt_at (rdOf ByteArray.empty l0 a1) (a2.size : Int)
            have hx12s : ∀ (h : a2.size < (rdOf ByteArray.empty l0 a1).size), ((((rdOf ByteArray.empty l0 a1)[a2.size]).toNat : Nat) : Int) = bt (rdOf ByteArray.empty l0 a1) (a2.size : Int) := fun h => hx12 h
            replace p12 := eq_true p12
            replace q12 := eq_true q12
            have p230 : 0 <= (a1 : Int) := dz
            have q230 : a1 < (l0.length : Int) := dz
            obtain ⟨ad230, e230, hx230_0⟩ := Kd.at_string HR0.out a1 p230 q230
            obtain rfl : ad227 = ad230 := (by injection e230)
            replace p230 := eq_true p230
            replace q230 := eq_true q230
            go_enter Tryz.func37, Tryz.ntmps37
            go_wp2_with (first | ((with_reducible refine gate_callee (f := 38) rfl ?_); refine goesL_ (some 52) rfl rfl Tryz.func38 (by kernel_rfl) rfl #[.string ((rdOf ByteArray.empty l0 a1).extract ((ji14) : Int).toNat (rdOf ByteArray.empty l0 a1).size)] rfl (by (try simp only [List.map_toArray, List.map_cons, List.map_nil]); first | done | (simp only [hji14]; rfl) | rfl | (simp only [List.length_drop, List.length_take]; rfl)) ?_; (with_reducible refine (sacristyref03_Decimal.calls k ((rdOf ByteArray.empty l0 a1).extract ((ji14) : Int).toNat (rdOf ByteArray.empty l0 a1).size) t231 t232 _ A17.out).mono ?_); rintro e w' ⟨rfl, ⟨nd, rfl⟩⟩; refine ⟨_, rfl, ?_⟩))
            go_ret2
            exact ⟨by first | rfl | (simp; done) | (simp only [<- hji14] <;> (first | rfl | simp)) | (simp [*]; done), wz⟩
           ·rw [if_neg c16] at H
            exact absurd H (by simp)
          ·rw [if_neg c15] at H
           exact absurd H (by simp)
         ·rw [if_neg c13] at H
          have c13b0 : ((bt (rdOf ByteArray.empty l0 a1) (a2.size : Int)) == 32) = false := beq_eq_false_iff_ne.mpr c13
          have c13b1 : ((bt (rdOf ByteArray.empty l0 a1) (a2.size : Int)) != 32) = true := bne_iff_ne.mpr c13
          simp only [Option.some.injEq, Prod.mk.injEq] at H
          obtain ⟨rfl, rfl⟩ := H
          have p227 : 0 <= (a1 : Int) := dz
          have q227 : a1 < (l0.length : Int) := dz
          obtain ⟨ad227, e227, hx227_0⟩ := Kd.at_string HR0.out a1 p227 q227
          cases e227
          replace p227 := eq_true p227
          replace q227 := eq_true q227
          have p228 : 0 <= (a1 : Int) := dz
          have q228 : a1 < (l0.length : Int) := dz
          obtain ⟨ad228, e228, hx228_0⟩ := Kd.at_string HR0.out a1 p228 q228
          obtain rfl : ad227 = ad228 := (by injection e228)
          replace p228 := eq_true p228
          replace q228 := eq_true q228
          have p229 : 0 <= (a1 : Int) := dz
          have q229 : a1 < (l0.length : Int) := dz
          obtain ⟨ad229, e229, hx229_0⟩ := Kd.at_string HR0.out a1 p229 q229
          obtain rfl : ad227 = ad229 := (by injection e229)
          replace p229 := eq_true p229
          replace q229 := eq_true q229
          have p12 : 0 <= ((a2.size : Int) : Int) := dz
          have q12 : (a2.size : Int) < ((rdOf ByteArray.empty l0 a1).size : Int) := dz
          have hx12 := bt_at (rdOf ByteArray.empty l0 a1) (a2.size : Int)
          have hx12s : ∀ (h : a2.size < (rdOf ByteArray.empty l0 a1).size), ((((rdOf ByteArray.empty l0 a1)[a2.size]).toNat : Nat) : Int) = bt (rdOf ByteArray.empty l0 a1) (a2.size : Int) := fun h => hx12 h
          replace p12 := eq_true p12
          replace q12 := eq_true q12
          go_enter Tryz.func37, Tryz.ntmps37
          go_wp2
          go_ret2
          exact ⟨ez, wz⟩
        ·rw [if_neg c11] at H
         exact absurd H (by simp)
       ·rw [if_neg c10] at H
        have c10b0 : (((rdOf ByteArray.empty l0 a1).extract 0 ((a2.size : Int) : Int).toNat).toList == a2.toList) = false := beq_eq_false_iff_ne.mpr c10
        (try (have c10b0s := c10b0; simp only [Int.toNat_natCast] at c10b0s))
        have c10b1 : (((rdOf ByteArray.empty l0 a1).extract 0 ((a2.size : Int) : Int).toNat).toList != a2.toList) = true := bne_iff_ne.mpr c10
        (try (have c10b1s := c10b1; simp only [Int.toNat_natCast] at c10b1s))
        simp only [Option.some.injEq, Prod.mk.injEq] at H
        obtain ⟨rfl, rfl⟩ := H
        have p227 : 0 <= (a1 : Int) := dz
        have q227 : a1 < (l0.length : Int) := dz
        obtain ⟨ad227, e227, hx227_0⟩ := Kd.at_string HR0.out a1 p227 q227
        cases e227
        replace p227 := eq_true p227
        replace q227 := eq_true q227
        have p228 : 0 <= (a1 : Int) := dz
        have q228 : a1 < (l0.length : Int) := dz
        obtain ⟨ad228, e228, hx228_0⟩ := Kd.at_string HR0.out a1 p228 q228
        obtain rfl : ad227 = ad228 := (by injection e228)
        replace p228 := eq_true p228
        replace q228 := eq_true q228
        go_enter Tryz.func37, Tryz.ntmps37
        go_wp2
        go_ret2
        exact ⟨ez, wz⟩
      ·rw [if_neg c9] at H
       exact absurd H (by simp)
     ·rw [if_neg c8] at H
      exact absurd H (by simp)
   ·rw [if_neg c6] at H
    exact absurd H (by simp)
  ·rw [if_neg c5] at H
   exact absurd H (by simp)
end Go.Proofs.YtlfenakgphmepaaGreatDoor.Print
