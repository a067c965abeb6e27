/- Functions of the program as plain functions, and proofs that the program's calls tell what these tell. Written by a program. -/
import Derived.Test.YtlfenakgphmepaaGreatDoorPrint0
import Derived.Test.YtlfenakgphmepaaGreatDoorPrint15
namespace Go.Proofs.YtlfenakgphmepaaGreatDoor.Print
open Go.RowKit YtlfenakgphmepaaGreatDoorW.PrintWords YtlfenakgphmepaaGreatDoorW.PrintLast YtlfenakgphmepaaGreatDoorW.PrintMore YtlfenakgphmepaaGreatDoor.Conv
attribute [local go_sem] max2_int min2_int max_two min_two max_three min_three max_four min_four
set_option linter.unusedVariables false
set_option linter.unusedSimpArgs false
mutual
def q9_Get.l0 : Nat -> ByteArray -> List (S83) -> Int -> Option ((List (S83)) × Bool)
 | 0, _, _, _ => none
 | k + 1, x0, x4, x5 => if x5 < (x0.size : Int) then (q9_Get.l1 k x0 x4 x5 x5) else ((q9_Put.f k x4).bind fun bt233 => (if bt233.2 = true then (if bt233.1.toList = x0.toList then (some (x4, true)) else (some (([] : List (S83)), false))) else (some (([] : List (S83)), false))))
def q9_Get.l1 : Nat -> ByteArray -> List (S83) -> Int -> Int -> Option ((List (S83)) × Bool)
 | 0, _, _, _, _ => none
 | k + 1, x0, x4, x5, x6 => if x6 < (x0.size : Int) then (if 0 <= x6 then (if (bt x0 x6) = 10 then (if x6 = (x0.size : Int) then (some (([] : List (S83)), false)) else (if (wrap64 (x6 - x5)) < 65 then (some (([] : List (S83)), false)) else (if 0 <= x5 then (if x5 <= (wrap64 (x5 + 64)) then (if (wrap64 (x5 + 64)) <= (x0.size : Int) then (if 0 <= (wrap64 (x5 + 65)) then (if (wrap64 (x5 + 65)) <= x6 then (if x6 <= (x0.size : Int) then (if x4.length < 4398046511104 then (q9_Get.l0 k x0 (x4 ++ [(⟨x0.extract ((wrap64 (x5 + 65)) : Int).toNat (x6 : Int).toNat, x0.extract (x5 : Int).toNat ((wrap64 (x5 + 64)) : Int).toNat⟩ : S83)]) (wrap64 (x6 + 1))) else (none)) else (none)) else (none)) else (none)) else (none)) else (none)) else (none)))) else (q9_Get.l1 k x0 x4 x5 (wrap64 (x6 + 1)))) else (none)) else (if x6 = (x0.size : Int) then (some (([] : List (S83)), false)) else (if (wrap64 (x6 - x5)) < 65 then (some (([] : List (S83)), false)) else (if 0 <= x5 then (if x5 <= (wrap64 (x5 + 64)) then (if (wrap64 (x5 + 64)) <= (x0.size : Int) then (if 0 <= (wrap64 (x5 + 65)) then (if (wrap64 (x5 + 65)) <= x6 then (if x6 <= (x0.size : Int) then (if x4.length < 4398046511104 then (q9_Get.l0 k x0 (x4 ++ [(⟨x0.extract ((wrap64 (x5 + 65)) : Int).toNat (x6 : Int).toNat, x0.extract (x5 : Int).toNat ((wrap64 (x5 + 64)) : Int).toNat⟩ : S83)]) (wrap64 (x6 + 1))) else (none)) else (none)) else (none)) else (none)) else (none)) else (none)) else (none))))
end
def q9_Get.f (k : Nat) (a0 : ByteArray) : Option ((List (S83)) × Bool) := q9_Get.l0 k a0 ([] : List (S83)) 0
def q9_Get.T9 : Bool × List (List Nat × List Nat) := (true, [([], []), ([], []), ([], []), ([], []), ([3], [3]), ([1, 2, 4], [1, 2, 4]), ([], []), ([], []), ([7], [7]), ([], []), ([6, 8, 9], [6, 8, 9]), ([5, 10], [5, 10]), ([11], [11]), ([0, 12], [0, 12]), ([13, 13, 0, 1, 2, 3, 4, 5, 6, 7, 8, 9, 10, 11, 12, 13], [0, 13])])
def q9_Get.B9 : List Nat := [0, 0, 0, 0, 8, 30, 0, 0, 128, 0, 960, 2046, 4094, 8191, 16383]
theorem q9_Get.tab9 : rtab .any (opsOf Tryz.f39 9) = q9_Get.T9 := by kernel_rfl
theorem q9_Get.bits9 : waitsOk q9_Get.T9.2 q9_Get.B9 = true := by kernel_rfl
set_option maxHeartbeats 8000000 in
set_option maxRecDepth 100000 in
theorem q9_Get.calls (k : Nat) (a0 : ByteArray) (r1 : List (S83)) (r2 : Bool) (w : World) (h : q9_Get.f k a0 = some (r1, r2)) :
  Calls Tryz.prog 39 #[.string a0] w fun e w' => ∃ v0_ : Value, e = .returned (.tuple #[v0_, .bool r2]) /\ Kd.R k83 83 w' w.heap.size (fun _ => True) v0_ r1 /\ Below w.heap.size w w' := by
 have hu83 := Tryz.underlying83
 have HB := am (Below.refl w.heap.size w)
 have H : (q9_Get.l0 k a0 ([] : List (S83)) 0) = some (r1, r2) := h
 clear h
 have H' := am H
 clear H
 go_enter Tryz.func39, Tryz.ntmps39
 go_wp2
 go_loopg [4, 5] k (fun kq v4 v5 w' => ∃ (x4_1 : List (S83)) (x5_1 : Int), v5 = .int .i64 x5_1 /\ Asd (q9_Get.l0 kq a0 x4_1 x5_1 = some (r1, r2)) /\ Asd (kq <= k) /\ Asd (Kd.R k83 83 w' w.heap.size (fun _ => True) v4 x4_1) /\ Asd (Below w.heap.size w w'))
 case atStart => exact ⟨(([] : List (S83))), (0), (ez), H', ⟨Nat.le_refl _⟩, ⟨by first | exact Kd.R_nil _ _ _ _ _ | exact Kd.N_nil _ _ _ _ _ | exact Kd.V_nil _ _ _ _ _ | exact Kd.Q_nil _ _ _ _ _ | exact Kd.S_nil _ _ _ _ _⟩, ⟨bz HB.out⟩⟩
 case round =>
  clear H'
  obtain ⟨x4_1, x5_1, rfl, HA, HK1, HO_4, HB⟩ := hrel
  cases gk with
  | zero => exact absurd HA.out (by simp [q9_Get.l0])
  | succ k1 =>
   have H := HA.out
   clear HA
   simp only [q9_Get.l0] at H
   by_cases c2 : x5_1 < (a0.size : Int)
   ·rw [if_pos c2] at H
    have c2b0 : decide (x5_1 < (a0.size : Int)) = true := dt c2
    clear c2
    have H' := am H
    clear H
    go_wp2
    go_loopg [6] k1 (fun kq v6 w' => ∃ (x6_2 : Int), v6 = .int .i64 x6_2 /\ Asd (q9_Get.l1 kq a0 x4_1 x5_1 x6_2 = some (r1, r2)) /\ Asd (kq <= k1) /\ Asd (Kd.R k83 83 w' w.heap.size (fun _ => True) u4 x4_1) /\ Asd (Below w.heap.size w w'))
    case atStart => exact ⟨(x5_1), (ez), H', ⟨Nat.le_refl _⟩, ⟨by (with_reducible repeat (first | apply Kd.R_alloc | apply Kd.R_drewN | apply Kd.R_drew)); exact HO_4.out⟩, ⟨bz HB.out⟩⟩
    case round =>
     clear H'
     obtain ⟨x6_2, rfl, HA, HK2, HO_4, HB⟩ := hrel
     cases gk with
     | zero => exact absurd HA.out (by simp [q9_Get.l1])
     | succ k2 =>
      have H := HA.out
      clear HA
      simp only [q9_Get.l1] at H
      by_cases c3 : x6_2 < (a0.size : Int)
      ·rw [if_pos c3] at H
       have c3b0 : decide (x6_2 < (a0.size : Int)) = true := dt c3
       clear c3
       by_cases c4 : 0 <= x6_2
       ·rw [if_pos c4] at H
        have c4b0 : decide (0 <= x6_2) = true := dt c4
        clear c4
        by_cases c6 : (bt a0 x6_2) = 10
        ·rw [if_pos c6] at H
         have c6b0 : ((bt a0 x6_2) == 10) = true := beq_iff_eq.mpr c6
         have c6b1 : ((bt a0 x6_2) != 10) = false := bne_eq_false_iff_eq.mpr c6
         clear c6
         by_cases c7 : x6_2 = (a0.size : Int)
         ·rw [if_pos c7] at H
          have c7b0 : (x6_2 == (a0.size : Int)) = true := beq_iff_eq.mpr c7
          have c7b1 : (x6_2 != (a0.size : Int)) = false := bne_eq_false_iff_eq.mpr c7
          clear c7
          simp only [Option.some.injEq, Prod.mk.injEq] at H
          obtain ⟨rfl, rfl⟩ := H
          have p5 : 0 <= (x6_2 : Int) := dz
          have q5 : x6_2 < (a0.size : Int) := dz
          have hx5 := bt_at a0 x6_2
          replace p5 := eq_true p5
          replace q5 := eq_true q5
          go_wp2
          go_ret2
          exact ⟨_, ey, by first | exact Kd.R_nil _ _ _ _ _ | exact Kd.N_nil _ _ _ _ _ | exact Kd.V_nil _ _ _ _ _ | exact Kd.Q_nil _ _ _ _ _ | exact Kd.S_nil _ _ _ _ _, bz HB.out⟩
         ·rw [if_neg c7] at H
          have c7b0 : (x6_2 == (a0.size : Int)) = false := beq_eq_false_iff_ne.mpr c7
          have c7b1 : (x6_2 != (a0.size : Int)) = true := bne_iff_ne.mpr c7
          by_cases c8 : (wrap64 (x6_2 - x5_1)) < 65
          ·rw [if_pos c8] at H
           have c8b0 : decide ((wrap64 (x6_2 - x5_1)) < 65) = true := dt c8
           clear c8
           simp only [Option.some.injEq, Prod.mk.injEq] at H
           obtain ⟨rfl, rfl⟩ := H
           have p5 : 0 <= (x6_2 : Int) := dz
           have q5 : x6_2 < (a0.size : Int) := dz
           have hx5 := bt_at a0 x6_2
           replace p5 := eq_true p5
           replace q5 := eq_true q5
           go_wp2
           go_ret2
           exact ⟨_, ey, by first | exact Kd.R_nil _ _ _ _ _ | exact Kd.N_nil _ _ _ _ _ | exact Kd.V_nil _ _ _ _ _ | exact Kd.Q_nil _ _ _ _ _ | exact Kd.S_nil _ _ _ _ _, bz HB.out⟩
          ·rw [if_neg c8] at H
           have c8b0 : decide ((wrap64 (x6_2 - x5_1)) < 65) = false := df c8
           clear c8
           by_cases c9 : 0 <= x5_1
           ·rw [if_pos c9] at H
            have c9b0 := eq_true c9
            have c9b1 : decide (0 <= x5_1) = true := dt c9
            clear c9
            by_cases c10 : x5_1 <= (wrap64 (x5_1 + 64))
            ·rw [if_pos c10] at H
             have c10b0 := eq_true c10
             have c10b1 : decide (x5_1 <= (wrap64 (x5_1 + 64))) = true := dt c10
             by_cases c11 : (wrap64 (x5_1 + 64)) <= (a0.size : Int)
             ·rw [if_pos c11] at H
              have c11b0 := eq_true c11
              have c11b1 : decide ((wrap64 (x5_1 + 64)) <= (a0.size : Int)) = true := dt c11
              obtain ⟨ji12, hji12⟩ : ∃ j_ : Int, (wrap64 (x5_1 + 65)) = j_ := ⟨_, rfl⟩
              replace H : (if 0 <= (ji12) then (if (ji12) <= x6_2 then (if x6_2 <= (a0.size : Int) then (if x4_1.length < 4398046511104 then (q9_Get.l0 k2 a0 (x4_1 ++ [(⟨a0.extract ((ji12) : Int).toNat (x6_2 : Int).toNat, a0.extract (x5_1 : Int).toNat ((wrap64 (x5_1 + 64)) : Int).toNat⟩ : S83)]) (wrap64 (x6_2 + 1))) else (none)) else (none)) else (none)) else (none)) = some (r1, r2) := by first | (rw [hji12] at H; exact H) | (simp only [hji12] at H ⊢; exact H)
              have hji12w : (IntKind.i64.wrap (x5_1 + 65)) = ji12 := (i64_w _).trans hji12
              by_cases c13 : 0 <= (ji12)
              ·rw [if_pos c13] at H
               have c13b0 := eq_true c13
               have c13b1 : decide (0 <= (ji12)) = true := dt c13
               clear c13
               by_cases c14 : (ji12) <= x6_2
               ·rw [if_pos c14] at H
                have c14b0 := eq_true c14
                have c14b1 : decide ((ji12) <= x6_2) = true := dt c14
                clear c14
                by_cases c15 : x6_2 <= (a0.size : Int)
                ·rw [if_pos c15] at H
                 have c15b0 := eq_true c15
                 have c15b1 : decide (x6_2 <= (a0.size : Int)) = true := dt c15
                 clear c15
                 by_cases c16 : x4_1.length < 4398046511104
                 ·rw [if_pos c16] at H
                  have LMc16 := am c16
                  clear c16
                  obtain ⟨y235, hy235⟩ : ∃ y_ : List (S83), y_ = (x4_1 ++ [(⟨a0.extract ((ji12) : Int).toNat (x6_2 : Int).toNat, a0.extract (x5_1 : Int).toNat ((wrap64 (x5_1 + 64)) : Int).toNat⟩ : S83)]) := ⟨_, rfl⟩
                  replace H : (q9_Get.l0 k2 a0 y235 (wrap64 (x6_2 + 1))) = some (r1, r2) := by first | (rw [hy235]; with_reducible exact H) | (have H2_ := (Option.bind_some _ _).symm.trans H; rw [hy235]; with_reducible exact H2_) | (have H2_ := (Option.bind_some _ _).symm.trans H; with_reducible exact H2_) | with_reducible exact H | (rw [hy235]; exact H) | exact H
                  have Ny235 := am hy235
                  clear hy235
                  have H' := am H
                  clear H
                  have p5 : 0 <= (x6_2 : Int) := dz
                  have q5 : x6_2 < (a0.size : Int) := dz
                  have hx5 := bt_at a0 x6_2
                  replace p5 := eq_true p5
                  replace q5 := eq_true q5
                  try go_wp2
                  have n0_ := am (Kd.R_drew HO_4.out)
                  have n1_ := am (bd1 HB.out)
                  clear HO_4
                  clear HB
                  have HO_4 := n0_
                  have HB := n1_
                  clear n0_ n1_
                  refine start_ (n := 15) (S := fun w' => True) (ds := []) (bA 15 0) (by kernel_rfl) rfl rfl trivial (fun hHeld => ?_); refine with_tabW q9_Get.tab9 q9_Get.bits9 (fun HT_ HW_ => ?_)
                  generalize wr.drew = w17 at HO_4 HB hHeld ⊢
                  refine py_ 0 36 (bA 15 1) HT_.out ?_
                  refine py_ 1 37 (bA 15 3) HT_.out ?_
                  refine py_ 2 38 (bA 15 7) HT_.out ?_
                  refine py_ 3 39 (bA 15 15) HT_.out ?_
                  refine py_ 4 40 (bA 15 31) HT_.out ?_
                  refine py_ 5 41 (bA 15 63) HT_.out ?_
                  refine py_ 6 42 (bA 15 127) HT_.out ?_
                  refine py_ 7 43 (bA 15 255) HT_.out ?_
                  refine py_ 8 44 (bA 15 511) HT_.out ?_
                  refine py_ 9 45 (bA 15 1023) HT_.out ?_
                  refine py_ 10 46 (bA 15 2047) HT_.out ?_
                  refine py_ 11 47 (bA 15 4095) HT_.out ?_
                  refine oz_ 12 48 (bA 15 8191) HT_.out (fun K hK => ?_)
                  refine value_ (w1 := ?_) (v := ?_) (by rfl) rfl ?_ ?_
                  rotate_left 2
                  ·go_simp
                   constructor
                   ·rfl
                   ·rfl
                  refine hK.out _ _ trivial (fun hHeld => ?_)
                  clear hK K
                  refine nz_ 48 ?_
                  refine oz_ 13 49 (bA 15 16383) HT_.out (fun K hK => ?_)
                  refine Kd.R_append_step k83 (w0 := w) w.heap.size (by rfl) (.tmp 36) (.tmp 48) 37 83 (.agg #[(.string ⟨#[]⟩), (.string ⟨#[]⟩)]) 32 rfl Tryz.underlying37 info83 rfl (by decide) (by omega) u4 x4_1 (⟨a0.extract ((ji12) : Int).toNat (x6_2 : Int).toNat, a0.extract (x5_1 : Int).toNat ((wrap64 (x5_1 + 64)) : Int).toNat⟩ : S83) [.string (a0.extract ((ji12) : Int).toNat (x6_2 : Int).toNat), .string (a0.extract (x5_1 : Int).toNat ((wrap64 (x5_1 + 64)) : Int).toNat)] (fun _ => True) (fun _ => False) rfl rfl ?aP (fun _ hk => hk.elim) ?aF ?aO ?aB ?aS ?aL ?_
                  (case aP => exact k83_mkM _ _ _ (⟨a0.extract ((ji12) : Int).toNat (x6_2 : Int).toNat, a0.extract (x5_1 : Int).toNat ((wrap64 (x5_1 + 64)) : Int).toNat⟩ : S83))
                  (case aB => exact (bz HB.out))
                  (case aF => exact (fun _ _ => trivial))
                  (case aO => exact (by (with_reducible repeat (first | apply Kd.R_alloc | apply Kd.R_drewN | apply Kd.R_drew)); exact HO_4.out))
                  (case aS => exact (qZ (bz HB.out)))
                  (case aL => have := LMc16.out; omega)
                  intro v236 w18 ho hb hg hat
                  rw [<- Ny235.out] at ho
                  have n0_ := am (hb)
                  have n1_ := am (ho)
                  clear HB
                  clear HO_4
                  have HB := n0_
                  have HO237 := n1_
                  clear n0_ n1_
                  clear ho hb hg hat
                  refine hK.out _ _ trivial (fun hHeld => ?_)
                  clear hK K
                  refine nz_ 49 ?_
                  refine py_ 14 4 (bA 15 32767) HT_.out ?_
                  refine done_ (done_of HT_.out (by kernel_rfl)) ?_
                  try go_wp2
                  go_roundg k2
                  case measure => have := HK1.out; have := HK2.out; omega
                  case rel => exact ⟨(y235), (wrap64 (x6_2 + 1)), (ez), H', ⟨by have := HK1.out; have := HK2.out; omega⟩, ⟨by (with_reducible repeat (first | apply Kd.R_alloc | apply Kd.R_drewN | apply Kd.R_drew)); exact HO237.out⟩, ⟨bz HB.out⟩⟩
                 ·rw [if_neg c16] at H
                  exact absurd H (by simp)
                ·rw [if_neg c15] at H
                 exact absurd H (by simp)
               ·rw [if_neg c14] at H
                exact absurd H (by simp)
              ·rw [if_neg c13] at H
               exact absurd H (by simp)
             ·rw [if_neg c11] at H
              exact absurd H (by simp)
            ·rw [if_neg c10] at H
             exact absurd H (by simp)
           ·rw [if_neg c9] at H
            exact absurd H (by simp)
        ·rw [if_neg c6] at H
         have c6b0 : ((bt a0 x6_2) == 10) = false := beq_eq_false_iff_ne.mpr c6
         have c6b1 : ((bt a0 x6_2) != 10) = true := bne_iff_ne.mpr c6
         have H' := am H
         clear H
         have p5 : 0 <= (x6_2 : Int) := dz
         have q5 : x6_2 < (a0.size : Int) := dz
         have hx5 := bt_at a0 x6_2
         replace p5 := eq_true p5
         replace q5 := eq_true q5
         go_wp2
         go_roundg k2
         case measure => have := HK1.out; have := HK2.out; omega
         case rel => exact ⟨(wrap64 (x6_2 + 1)), (ez), H', ⟨by have := HK1.out; have := HK2.out; omega⟩, ⟨by (with_reducible repeat (first | apply Kd.R_alloc | apply Kd.R_drewN | apply Kd.R_drew)); exact HO_4.out⟩, ⟨bz HB.out⟩⟩
       ·rw [if_neg c4] at H
        exact absurd H (by simp)
      ·rw [if_neg c3] at H
       have c3b0 : decide (x6_2 < (a0.size : Int)) = false := df c3
       clear c3
       by_cases c19 : x6_2 = (a0.size : Int)
       ·rw [if_pos c19] at H
        have c19b0 : (x6_2 == (a0.size : Int)) = true := beq_iff_eq.mpr c19
        have c19b1 : (x6_2 != (a0.size : Int)) = false := bne_eq_false_iff_eq.mpr c19
        clear c19
        simp only [Option.some.injEq, Prod.mk.injEq] at H
        obtain ⟨rfl, rfl⟩ := H
        go_wp2
        go_ret2
        exact ⟨_, ey, by first | exact Kd.R_nil _ _ _ _ _ | exact Kd.N_nil _ _ _ _ _ | exact Kd.V_nil _ _ _ _ _ | exact Kd.Q_nil _ _ _ _ _ | exact Kd.S_nil _ _ _ _ _, bz HB.out⟩
       ·rw [if_neg c19] at H
        have c19b0 : (x6_2 == (a0.size : Int)) = false := beq_eq_false_iff_ne.mpr c19
        have c19b1 : (x6_2 != (a0.size : Int)) = true := bne_iff_ne.mpr c19
        by_cases c20 : (wrap64 (x6_2 - x5_1)) < 65
        ·rw [if_pos c20] at H
         have c20b0 : decide ((wrap64 (x6_2 - x5_1)) < 65) = true := dt c20
         clear c20
         simp only [Option.some.injEq, Prod.mk.injEq] at H
         obtain ⟨rfl, rfl⟩ := H
         go_wp2
         go_ret2
         exact ⟨_, ey, by first | exact Kd.R_nil _ _ _ _ _ | exact Kd.N_nil _ _ _ _ _ | exact Kd.V_nil _ _ _ _ _ | exact Kd.Q_nil _ _ _ _ _ | exact Kd.S_nil _ _ _ _ _, bz HB.out⟩
        ·rw [if_neg c20] at H
         have c20b0 : decide ((wrap64 (x6_2 - x5_1)) < 65) = false := df c20
         clear c20
         by_cases c21 : 0 <= x5_1
         ·rw [if_pos c21] at H
          have c21b0 := eq_true c21
          have c21b1 : decide (0 <= x5_1) = true := dt c21
          clear c21
          by_cases c22 : x5_1 <= (wrap64 (x5_1 + 64))
          ·rw [if_pos c22] at H
           have c22b0 := eq_true c22
           have c22b1 : decide (x5_1 <= (wrap64 (x5_1 + 64))) = true := dt c22
           by_cases c23 : (wrap64 (x5_1 + 64)) <= (a0.size : Int)
           ·rw [if_pos c23] at H
            have c23b0 := eq_true c23
            have c23b1 : decide ((wrap64 (x5_1 + 64)) <= (a0.size : Int)) = true := dt c23
            obtain ⟨ji24, hji24⟩ : ∃ j_ : Int, (wrap64 (x5_1 + 65)) = j_ := ⟨_, rfl⟩
            replace H : (if 0 <= (ji24) then (if (ji24) <= x6_2 then (if x6_2 <= (a0.size : Int) then (if x4_1.length < 4398046511104 then (q9_Get.l0 k2 a0 (x4_1 ++ [(⟨a0.extract ((ji24) : Int).toNat (x6_2 : Int).toNat, a0.extract (x5_1 : Int).toNat ((wrap64 (x5_1 + 64)) : Int).toNat⟩ : S83)]) (wrap64 (x6_2 + 1))) else (none)) else (none)) else (none)) else (none)) = some (r1, r2) := by first | (rw [hji24] at H; exact H) | (simp only [hji24] at H ⊢; exact H)
            have hji24w : (IntKind.i64.wrap (x5_1 + 65)) = ji24 := (i64_w _).trans hji24
            by_cases c25 : 0 <= (ji24)
            ·rw [if_pos c25] at H
             have c25b0 := eq_true c25
             have c25b1 : decide (0 <= (ji24)) = true := dt c25
             clear c25
             by_cases c26 : (ji24) <= x6_2
             ·rw [if_pos c26] at H
              have c26b0 := eq_true c26
              have c26b1 : decide ((ji24) <= x6_2) = true := dt c26
              clear c26
              by_cases c27 : x6_2 <= (a0.size : Int)
              ·rw [if_pos c27] at H
               have c27b0 := eq_true c27
               have c27b1 : decide (x6_2 <= (a0.size : Int)) = true := dt c27
               clear c27
               by_cases c28 : x4_1.length < 4398046511104
               ·rw [if_pos c28] at H
                have LMc28 := am c28
                clear c28
                obtain ⟨y238, hy238⟩ : ∃ y_ : List (S83), y_ = (x4_1 ++ [(⟨a0.extract ((ji24) : Int).toNat (x6_2 : Int).toNat, a0.extract (x5_1 : Int).toNat ((wrap64 (x5_1 + 64)) : Int).toNat⟩ : S83)]) := ⟨_, rfl⟩
                replace H : (q9_Get.l0 k2 a0 y238 (wrap64 (x6_2 + 1))) = some (r1, r2) := by first | (rw [hy238]; with_reducible exact H) | (have H2_ := (Option.bind_some _ _).symm.trans H; rw [hy238]; with_reducible exact H2_) | (have H2_ := (Option.bind_some _ _).symm.trans H; with_reducible exact H2_) | with_reducible exact H | (rw [hy238]; exact H) | exact H
                have Ny238 := am hy238
                clear hy238
                have H' := am H
                clear H
                try go_wp2
                have n0_ := am (Kd.R_drew HO_4.out)
                have n1_ := am (bd1 HB.out)
                clear HO_4
                clear HB
                have HO_4 := n0_
                have HB := n1_
                clear n0_ n1_
                refine start_ (n := 15) (S := fun w' => True) (ds := []) (bA 15 0) (by kernel_rfl) rfl rfl trivial (fun hHeld => ?_); refine with_tabW q9_Get.tab9 q9_Get.bits9 (fun HT_ HW_ => ?_)
                generalize wr.drew = w29 at HO_4 HB hHeld ⊢
                refine py_ 0 36 (bA 15 1) HT_.out ?_
                refine py_ 1 37 (bA 15 3) HT_.out ?_
                refine py_ 2 38 (bA 15 7) HT_.out ?_
                refine py_ 3 39 (bA 15 15) HT_.out ?_
                refine py_ 4 40 (bA 15 31) HT_.out ?_
                refine py_ 5 41 (bA 15 63) HT_.out ?_
                refine py_ 6 42 (bA 15 127) HT_.out ?_
                refine py_ 7 43 (bA 15 255) HT_.out ?_
                refine py_ 8 44 (bA 15 511) HT_.out ?_
                refine py_ 9 45 (bA 15 1023) HT_.out ?_
                refine py_ 10 46 (bA 15 2047) HT_.out ?_
                refine py_ 11 47 (bA 15 4095) HT_.out ?_
                refine oz_ 12 48 (bA 15 8191) HT_.out (fun K hK => ?_)
                refine value_ (w1 := ?_) (v := ?_) (by rfl) rfl ?_ ?_
                rotate_left 2
                ·go_simp
                 constructor
                 ·rfl
                 ·rfl
                refine hK.out _ _ trivial (fun hHeld => ?_)
                clear hK K
                refine nz_ 48 ?_
                refine oz_ 13 49 (bA 15 16383) HT_.out (fun K hK => ?_)
                refine Kd.R_append_step k83 (w0 := w) w.heap.size (by rfl) (.tmp 36) (.tmp 48) 37 83 (.agg #[(.string ⟨#[]⟩), (.string ⟨#[]⟩)]) 32 rfl Tryz.underlying37 info83 rfl (by decide) (by omega) u4 x4_1 (⟨a0.extract ((ji24) : Int).toNat (x6_2 : Int).toNat, a0.extract (x5_1 : Int).toNat ((wrap64 (x5_1 + 64)) : Int).toNat⟩ : S83) [.string (a0.extract ((ji24) : Int).toNat (x6_2 : Int).toNat), .string (a0.extract (x5_1 : Int).toNat ((wrap64 (x5_1 + 64)) : Int).toNat)] (fun _ => True) (fun _ => False) rfl rfl ?aP (fun _ hk => hk.elim) ?aF ?aO ?aB ?aS ?aL ?_
                (case aP => exact k83_mkM _ _ _ (⟨a0.extract ((ji24) : Int).toNat (x6_2 : Int).toNat, a0.extract (x5_1 : Int).toNat ((wrap64 (x5_1 + 64)) : Int).toNat⟩ : S83))
                (case aB => exact (bz HB.out))
                (case aF => exact (fun _ _ => trivial))
                (case aO => exact (by (with_reducible repeat (first | apply Kd.R_alloc | apply Kd.R_drewN | apply Kd.R_drew)); exact HO_4.out))
                (case aS => exact (qZ (bz HB.out)))
                (case aL => have := LMc28.out; omega)
                intro v239 w30 ho hb hg hat
                rw [<- Ny238.out] at ho
                have n0_ := am (hb)
                have n1_ := am (ho)
                clear HB
                clear HO_4
                have HB := n0_
                have HO240 := n1_
                clear n0_ n1_
                clear ho hb hg hat
                refine hK.out _ _ trivial (fun hHeld => ?_)
                clear hK K
                refine nz_ 49 ?_
                refine py_ 14 4 (bA 15 32767) HT_.out ?_
                refine done_ (done_of HT_.out (by kernel_rfl)) ?_
                try go_wp2
                go_roundg k2
                case measure => have := HK1.out; have := HK2.out; omega
                case rel => exact ⟨(y238), (wrap64 (x6_2 + 1)), (ez), H', ⟨by have := HK1.out; have := HK2.out; omega⟩, ⟨by (with_reducible repeat (first | apply Kd.R_alloc | apply Kd.R_drewN | apply Kd.R_drew)); exact HO240.out⟩, ⟨bz HB.out⟩⟩
               ·rw [if_neg c28] at H
                exact absurd H (by simp)
              ·rw [if_neg c27] at H
               exact absurd H (by simp)
             ·rw [if_neg c26] at H
              exact absurd H (by simp)
            ·rw [if_neg c25] at H
             exact absurd H (by simp)
           ·rw [if_neg c23] at H
            exact absurd H (by simp)
          ·rw [if_neg c22] at H
           exact absurd H (by simp)
         ·rw [if_neg c21] at H
          exact absurd H (by simp)
   ·rw [if_neg c2] at H
    have c2b0 : decide (x5_1 < (a0.size : Int)) = false := df c2
    clear c2
    replace H := Option.bind_eq_some_iff.mp H
    obtain ⟨⟨t233, t234⟩, A310, H⟩ := H
    replace H : (if t234 = true then (if t233.toList = a0.toList then (some (x4_1, true)) else (some (([] : List (S83)), false))) else (some (([] : List (S83)), false))) = some (r1, r2) := H
    have A31 := am A310
    by_cases c32 : t234 = true
    ·subst c32
     have H1 : (if t233.toList = a0.toList then (some (x4_1, true)) else (some (([] : List (S83)), false))) = some (r1, r2) := by rw [if_pos rfl] at H; exact H
     clear H
     have H := H1
     clear H1
     by_cases c33 : t233.toList = a0.toList
     ·rw [if_pos c33] at H
      have c33b0 : (t233.toList == a0.toList) = true := beq_iff_eq.mpr c33
      have c33b1 : (t233.toList != a0.toList) = false := bne_eq_false_iff_eq.mpr c33
      clear c33
      simp only [Option.some.injEq, Prod.mk.injEq] at H
      obtain ⟨rfl, rfl⟩ := H
      obtain ⟨Ao34, co34, eo34⟩ := Kd.R_slice HO_4.out
      subst eo34
      go_wp2_with (first | ((with_reducible refine gate_callee (f := 29) rfl ?_); refine goesL_ (some 54) rfl rfl Tryz.func29 (by kernel_rfl) rfl #[.slice Ao34 x4_1.length co34] rfl mz ?_; (with_reducible refine (q9_Put.calls k1 _ _ x4_1 t233 true _ ?side1 ?side2 A31.out).mono ?_); (case side1 => repeat (first | exact (Kd.R_reads' HO_4.out).2.2 | (with_reducible refine Kd.C_alloc ?_ _) | (with_reducible refine Kd.C_drewN ?_ _) | (with_reducible refine Kd.C_drew ?_))); (case side2 => exact (Kd.R_reads' HO_4.out).2.1); rintro e w35 ⟨rfl, hb⟩; refine ⟨_, rfl, ?_⟩; have n0_ := am (Kd.R_below (by (with_reducible repeat (first | apply Kd.R_alloc | apply Kd.R_drewN | apply Kd.R_drew)); exact HO_4.out) hb); have n1_ := am (qW (bz HB.out) hb); clear HO_4; clear HB; have HO_4 := n0_; have HB := n1_; clear n0_ n1_; (try clear hb); (try clear hb2); (try clear hk); (try clear hi)))
      go_ret2
      exact ⟨_, ey, by (with_reducible repeat (first | apply Kd.R_alloc | apply Kd.R_drewN | apply Kd.R_drew)); exact HO_4.out, bz HB.out⟩
     ·rw [if_neg c33] at H
      have c33b0 : (t233.toList == a0.toList) = false := beq_eq_false_iff_ne.mpr c33
      have c33b1 : (t233.toList != a0.toList) = true := bne_iff_ne.mpr c33
      simp only [Option.some.injEq, Prod.mk.injEq] at H
      obtain ⟨rfl, rfl⟩ := H
      obtain ⟨Ao36, co36, eo36⟩ := Kd.R_slice HO_4.out
      subst eo36
      go_wp2_with (first | ((with_reducible refine gate_callee (f := 29) rfl ?_); refine goesL_ (some 54) rfl rfl Tryz.func29 (by kernel_rfl) rfl #[.slice Ao36 x4_1.length co36] rfl mz ?_; (with_reducible refine (q9_Put.calls k1 _ _ x4_1 t233 true _ ?side1 ?side2 A31.out).mono ?_); (case side1 => repeat (first | exact (Kd.R_reads' HO_4.out).2.2 | (with_reducible refine Kd.C_alloc ?_ _) | (with_reducible refine Kd.C_drewN ?_ _) | (with_reducible refine Kd.C_drew ?_))); (case side2 => exact (Kd.R_reads' HO_4.out).2.1); rintro e w37 ⟨rfl, hb⟩; refine ⟨_, rfl, ?_⟩; have n0_ := am (Kd.R_below (by (with_reducible repeat (first | apply Kd.R_alloc | apply Kd.R_drewN | apply Kd.R_drew)); exact HO_4.out) hb); have n1_ := am (qW (bz HB.out) hb); clear HO_4; clear HB; have HO_4 := n0_; have HB := n1_; clear n0_ n1_; (try clear hb); (try clear hb2); (try clear hk); (try clear hi)))
      go_ret2
      exact ⟨_, ey, by first | exact Kd.R_nil _ _ _ _ _ | exact Kd.N_nil _ _ _ _ _ | exact Kd.V_nil _ _ _ _ _ | exact Kd.Q_nil _ _ _ _ _ | exact Kd.S_nil _ _ _ _ _, bz HB.out⟩
    ·replace c32 := Bool.eq_false_iff.mpr c32
     subst c32
     have H1 : (some (([] : List (S83)), false)) = some (r1, r2) := by rw [if_neg (show ¬ (false = true) by decide)] at H; exact H
     clear H
     have H := H1
     clear H1
     simp only [Option.some.injEq, Prod.mk.injEq] at H
     obtain ⟨rfl, rfl⟩ := H
     obtain ⟨Ao38, co38, eo38⟩ := Kd.R_slice HO_4.out
     subst eo38
     go_wp2_with (first | ((with_reducible refine gate_callee (f := 29) rfl ?_); refine goesL_ (some 54) rfl rfl Tryz.func29 (by kernel_rfl) rfl #[.slice Ao38 x4_1.length co38] rfl mz ?_; (with_reducible refine (q9_Put.calls k1 _ _ x4_1 t233 false _ ?side1 ?side2 A31.out).mono ?_); (case side1 => repeat (first | exact (Kd.R_reads' HO_4.out).2.2 | (with_reducible refine Kd.C_alloc ?_ _) | (with_reducible refine Kd.C_drewN ?_ _) | (with_reducible refine Kd.C_drew ?_))); (case side2 => exact (Kd.R_reads' HO_4.out).2.1); rintro e w39 ⟨rfl, hb⟩; refine ⟨_, rfl, ?_⟩; have n0_ := am (Kd.R_below (by (with_reducible repeat (first | apply Kd.R_alloc | apply Kd.R_drewN | apply Kd.R_drew)); exact HO_4.out) hb); have n1_ := am (qW (bz HB.out) hb); clear HO_4; clear HB; have HO_4 := n0_; have HB := n1_; clear n0_ n1_; (try clear hb); (try clear hb2); (try clear hk); (try clear hi)))
     go_ret2
     exact ⟨_, ey, by first | exact Kd.R_nil _ _ _ _ _ | exact Kd.N_nil _ _ _ _ _ | exact Kd.V_nil _ _ _ _ _ | exact Kd.Q_nil _ _ _ _ _ | exact Kd.S_nil _ _ _ _ _, bz HB.out⟩
def q4_SameTexts.l0 : Nat -> List ByteArray -> List ByteArray -> Int -> Option (Bool)
 | 0, _, _, _ => none
 | k + 1, x0, x1, x5 => if x5 < (x0.length : Int) then (if 0 <= x5 then (if x5 < (x1.length : Int) then (if (rdOf ByteArray.empty x0 x5).toList = (rdOf ByteArray.empty x1 x5).toList then (q4_SameTexts.l0 k x0 x1 (wrap64 (x5 + 1))) else (some false)) else (none)) else (none)) else (some true)
def q4_SameTexts.f (k : Nat) (l0 : List ByteArray) (l1 : List ByteArray) : Option (Bool) := if (l0.length : Int) = (l1.length : Int) then (q4_SameTexts.l0 k l0 l1 0) else (some false)
set_option maxHeartbeats 8000000 in
set_option maxRecDepth 100000 in
theorem q4_SameTexts.calls (k : Nat) (A0 : Option Addr) (c0 : Nat) (l0 : List ByteArray) (A1 : Option Addr) (c1 : Nat) (l1 : List ByteArray) (r : Bool) (w : World) (hr0 : Kd.C Kd.string w A0 l0.length l0) (hc0 : l0.length <= c0) (hr1 : Kd.C Kd.string w A1 l1.length l1) (hc1 : l1.length <= c1) (h : q4_SameTexts.f k l0 l1 = some r) :
  Calls Tryz.prog 45 #[.slice A0 l0.length c0, .slice A1 l1.length c1] w fun e w' => e = .returned (.bool r) /\ Drawn0 w w' := by
 have HR0 := am hr0
 have HC0 := am hc0
 clear hr0 hc0
 have HR1 := am hr1
 have HC1 := am hc1
 clear hr1 hc1
 have H : (if (l0.length : Int) = (l1.length : Int) then (q4_SameTexts.l0 k l0 l1 0) else (some false)) = some r := h
 clear h
 by_cases c3 : (l0.length : Int) = (l1.length : Int)
 ·rw [if_pos c3] at H
  have c3b0 : ((l0.length : Int) == (l1.length : Int)) = true := beq_iff_eq.mpr c3
  have c3b1 : ((l0.length : Int) != (l1.length : Int)) = false := bne_eq_false_iff_eq.mpr c3
  have c3b2 : (l0.length == l1.length) = true := by first | simpa using c3 | (simp at c3 ⊢; omega)
  clear c3
  have H' := am H
  clear H
  go_enter Tryz.func45, Tryz.ntmps45
  go_wp2
  repeat (go_quiet (fail); try go_wp2)
  go_loopg [5] k (fun kq v5 w' => ∃ (x5_1 : Int), v5 = .int .i64 x5_1 /\ Asd (q4_SameTexts.l0 kq l0 l1 x5_1 = some r) /\ Asd (kq <= k) /\ Drawn0 w w')
  case atStart => exact ⟨(0), (ez), H', ⟨Nat.le_refl _⟩, wz⟩
  case round =>
   clear H'
   obtain ⟨x5_1, rfl, HA, HK1, ⟨m1, rfl⟩⟩ := hrel
   cases gk with
   | zero => exact absurd HA.out (by simp [q4_SameTexts.l0])
   | succ k1 =>
    have H := HA.out
    clear HA
    simp only [q4_SameTexts.l0] at H
    by_cases c4 : x5_1 < (l0.length : Int)
    ·rw [if_pos c4] at H
     have c4b0 : decide (x5_1 < (l0.length : Int)) = true := dt c4
     clear c4
     by_cases c5 : 0 <= x5_1
     ·rw [if_pos c5] at H
      have c5b0 : decide (0 <= x5_1) = true := dt c5
      clear c5
      by_cases c6 : x5_1 < (l1.length : Int)
      ·rw [if_pos c6] at H
       have c6b0 : decide (x5_1 < (l1.length : Int)) = true := dt c6
       clear c6
       by_cases c7 : (rdOf ByteArray.empty l0 x5_1).toList = (rdOf ByteArray.empty l1 x5_1).toList
       ·rw [if_pos c7] at H
        have c7b0 : ((rdOf ByteArray.empty l0 x5_1).toList == (rdOf ByteArray.empty l1 x5_1).toList) = true := beq_iff_eq.mpr c7
        have c7b1 : ((rdOf ByteArray.empty l0 x5_1).toList != (rdOf ByteArray.empty l1 x5_1).toList) = false := bne_eq_false_iff_eq.mpr c7
        clear c7
        have H' := am H
        clear H
        have p296 : 0 <= (x5_1 : Int) := dz
        have q296 : x5_1 < (l0.length : Int) := dz
        obtain ⟨ad296, e296, hx296_0⟩ := Kd.at_string HR0.out x5_1 p296 q296
        cases e296
        replace p296 := eq_true p296
        replace q296 := eq_true q296
        have p297 : 0 <= (x5_1 : Int) := dz
        have q297 : x5_1 < (l1.length : Int) := dz
        obtain ⟨ad297, e297, hx297_0⟩ := Kd.at_string HR1.out x5_1 p297 q297
        cases e297
        replace p297 := eq_true p297
        replace q297 := eq_true q297
        go_wp2
        repeat (go_quiet (fail); try go_wp2)
        go_roundg k1
        case measure => have := HK1.out; omega
        case rel => exact ⟨(wrap64 (x5_1 + 1)), (ez), H', ⟨by have := HK1.out; omega⟩, wz⟩
       ·rw [if_neg c7] at H
        have c7b0 : ((rdOf ByteArray.empty l0 x5_1).toList == (rdOf ByteArray.empty l1 x5_1).toList) = false := beq_eq_false_iff_ne.mpr c7
        have c7b1 : ((rdOf ByteArray.empty l0 x5_1).toList != (rdOf ByteArray.empty l1 x5_1).toList) = true := bne_iff_ne.mpr c7
        obtain rfl := Option.some.inj H
        have p296 : 0 <= (x5_1 : Int) := dz
        have q296 : x5_1 < (l0.length : Int) := dz
        obtain ⟨ad296, e296, hx296_0⟩ := Kd.at_string HR0.out x5_1 p296 q296
        cases e296
        replace p296 := eq_true p296
        replace q296 := eq_true q296
        have p297 : 0 <= (x5_1 : Int) := dz
        have q297 : x5_1 < (l1.length : Int) := dz
        obtain ⟨ad297, e297, hx297_0⟩ := Kd.at_string HR1.out x5_1 p297 q297
        cases e297
        replace p297 := eq_true p297
        replace q297 := eq_true q297
        go_wp2
        repeat (go_quiet (fail); try go_wp2)
        go_ret
        exact ⟨ez, wz⟩
      ·rw [if_neg c6] at H
       exact absurd H (by simp)
     ·rw [if_neg c5] at H
      exact absurd H (by simp)
    ·rw [if_neg c4] at H
     have c4b0 : decide (x5_1 < (l0.length : Int)) = false := df c4
     clear c4
     obtain rfl := Option.some.inj H
     go_wp2
     repeat (go_quiet (fail); try go_wp2)
     go_ret
     exact ⟨ez, wz⟩
 ·rw [if_neg c3] at H
  have c3b0 : ((l0.length : Int) == (l1.length : Int)) = false := beq_eq_false_iff_ne.mpr c3
  have c3b1 : ((l0.length : Int) != (l1.length : Int)) = true := bne_iff_ne.mpr c3
  have c3b2 : (l0.length == l1.length) = false := by first | simpa using c3 | (simp at c3 ⊢; omega)
  obtain rfl := Option.some.inj H
  go_enter Tryz.func45, Tryz.ntmps45
  go_wp2
  repeat (go_quiet (fail); try go_wp2)
  go_ret
  exact ⟨ez, wz⟩
end Go.Proofs.YtlfenakgphmepaaGreatDoor.Print
