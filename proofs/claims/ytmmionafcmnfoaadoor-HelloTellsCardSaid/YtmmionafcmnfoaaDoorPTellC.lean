/- The calls of a law, as a plain function, printed by a program. -/
import Derived.Test.YtmmionafcmnfoaaDoorPTellA
import Derived.Test.YtmmionafcmnfoaaDoorPSmA
namespace Go.Proofs.YtmmionafcmnfoaaDoor.Print
open Go.RowKit Go.Proofs.YtmmionafcmnfoaaDoorW.PrintWords Go.Proofs.YtmmionafcmnfoaaDoorW.PrintLast Go.Proofs.YtmmionafcmnfoaaDoorW.PrintMore Go.Proofs.YtmmionafcmnfoaaDoor.Conv
attribute [local go_sem] max2_int min2_int max_two min_two max_three min_three max_four min_four
set_option linter.unusedVariables false
set_option linter.unusedSimpArgs false
mutual
def q6_texts.j0 : Nat -> List (S49) -> List ByteArray -> Bool -> Option (List ByteArray × Bool)
 | 0, _, _, _ => none
 | k + 1, x0, x4, x19 => if x19 = true then (some (([] : List ByteArray), false)) else (q6_texts.l0 k x0 x4 0)
def q6_texts.l0 : Nat -> List (S49) -> List ByteArray -> Int -> Option (List ByteArray × Bool)
 | 0, _, _, _ => none
 | k + 1, x0, x4, x5 => if x5 < (wrap64 ((x0.length : Int) - 1)) then (if 0 <= x5 then (if x5 < (x0.length : Int) then (if (rd_T49 x0 x5).f0 = true then (some (([] : List ByteArray), false)) else (if (((rd_T49 x0 x5).f1).size : Int) = 0 then (some (([] : List ByteArray), false)) else (if 0 <= (wrap64 ((((rd_T49 x0 x5).f1).size : Int) - 1)) then (if (wrap64 ((((rd_T49 x0 x5).f1).size : Int) - 1)) < (((rd_T49 x0 x5).f1).size : Int) then (if (bt ((rd_T49 x0 x5).f1) (wrap64 ((((rd_T49 x0 x5).f1).size : Int) - 1))) = 10 then (if (wrap64 ((((rd_T49 x0 x5).f1).size : Int) - 1)) <= (((rd_T49 x0 x5).f1).size : Int) then (if x4.length < 8796093022208 then (q6_texts.l0 k x0 (x4 ++ [((rd_T49 x0 x5).f1).extract 0 ((wrap64 ((((rd_T49 x0 x5).f1).size : Int) - 1)) : Int).toNat]) (wrap64 (x5 + 1))) else (none)) else (none)) else (some (([] : List ByteArray), false))) else (none)) else (none)))) else (none)) else (none)) else (some (x4, true))
end
def q6_texts.f (k : Nat) (l0 : List (S49)) : Option (List ByteArray × Bool) := if (l0.length : Int) = 0 then (q6_texts.j0 k l0 ([] : List ByteArray) true) else (if 0 <= (wrap64 ((l0.length : Int) - 1)) then (if (wrap64 ((l0.length : Int) - 1)) < (l0.length : Int) then (q6_texts.j0 k l0 ([] : List ByteArray) (!((rd_T49 l0 (wrap64 ((l0.length : Int) - 1))).f0))) else (none)) else (none))
set_option maxHeartbeats 8000000 in
set_option maxRecDepth 100000 in
theorem q6_texts.calls (k : Nat) (A0 : Option Addr) (c0 : Nat) (l0 : List (S49)) (r1 : List ByteArray) (r2 : Bool) (w : World) (hr0 : Kd.C k49 w A0 l0.length l0) (hc0 : l0.length <= c0) (h : q6_texts.f k l0 = some (r1, r2)) :
  Calls Tryd.prog 50 #[.slice A0 l0.length c0] w fun e w' => ∃ v0_ : Value, e = .returned (.tuple #[v0_, .bool r2]) /\ Kd.R Kd.string 9 w' w.heap.size (fun _ => True) v0_ r1 /\ Below w.heap.size w w' := by
 have HR0 := Asd.mk hr0
 have HC0 := Asd.mk hc0
 clear hr0 hc0
 have HB := Asd.mk (Below.refl w.heap.size w)
 have H : (if (l0.length : Int) = 0 then (q6_texts.j0 k l0 ([] : List ByteArray) true) else (if 0 <= (wrap64 ((l0.length : Int) - 1)) then (if (wrap64 ((l0.length : Int) - 1)) < (l0.length : Int) then (q6_texts.j0 k l0 ([] : List ByteArray) (!((rd_T49 l0 (wrap64 ((l0.length : Int) - 1))).f0))) else (none)) else (none))) = some (r1, r2) := h
 clear h
 have HC2 := Asd.mk H
 clear H
 go_enter Tryd.func50, Tryd.ntmps50
 go_upto_region 2 with (fail)
 go_cut [19] (fun v19 wc => ∃ (kq : Nat) (x19_1 : Bool), v19 = .bool x19_1 /\ Asd (q6_texts.j0 kq l0 ([] : List ByteArray) x19_1 = some (r1, r2)) /\ Asd (kq <= k) /\ Asd (Kd.R Kd.string 9 wc w.heap.size (fun _ => True) (.slice none 0 0) ([] : List ByteArray)) /\ Asd (Below w.heap.size w wc))
 case first =>
  have H := HC2.out
  clear HC2
  by_cases c3 : (l0.length : Int) = 0
  ·rw [if_pos c3] at H
   have c3b0 : ((l0.length : Int) == 0) = true := beq_iff_eq.mpr c3
   have c3b1 : ((l0.length : Int) != 0) = false := bne_eq_false_iff_eq.mpr c3
   clear c3
   (first | rw [c3b0] | (simp only [i64_w, i32_w]; rw [c3b0]) | skip)
   have H' := Asd.mk H
   clear H
   go_wp2
   go_meet
   case rel => exact ⟨_, (true), (by first | rfl | (simp; done) | (simp [*]; done)), H', ⟨by first | omega | exact Nat.le_refl _⟩, ⟨by first | exact Kd.R_nil _ _ _ _ _ | exact Kd.N_nil _ _ _ _ _ | exact Kd.V_nil _ _ _ _ _ | exact Kd.Q_nil _ _ _ _ _ | exact Kd.S_nil _ _ _ _ _⟩, ⟨by repeat (first | (with_reducible first | exact HB.out | apply bal | apply pbN | apply bd1) | exact HB.out)⟩⟩
  ·rw [if_neg c3] at H
   have c3b0 : ((l0.length : Int) == 0) = false := beq_eq_false_iff_ne.mpr c3
   have c3b1 : ((l0.length : Int) != 0) = true := bne_iff_ne.mpr c3
   have c3b2 : ¬ (l0 = []) := fun h_ => c3 (by rw [h_]; rfl)
   (first | rw [c3b0] | (simp only [i64_w, i32_w]; rw [c3b0]) | skip)
   obtain ⟨ji4, hji4⟩ : ∃ j_ : Int, (wrap64 ((l0.length : Int) - 1)) = j_ := ⟨_, rfl⟩
   replace H : (if 0 <= (ji4) then (if (ji4) < (l0.length : Int) then (q6_texts.j0 k l0 ([] : List ByteArray) (!((rd_T49 l0 (ji4)).f0))) else (none)) else (none)) = some (r1, r2) := by first | (rw [hji4] at H; exact H) | (simp only [hji4] at H ⊢; exact H)
   have hji4w : (IntKind.i64.wrap ((l0.length : Int) - 1)) = ji4 := (i64_w _).trans hji4
   by_cases c5 : 0 <= (ji4)
   ·rw [if_pos c5] at H
    have c5b0 : decide (0 <= (ji4)) = true := decide_eq_true c5
    clear c5
    by_cases c6 : (ji4) < (l0.length : Int)
    ·rw [if_pos c6] at H
     have c6b0 : decide ((ji4) < (l0.length : Int)) = true := decide_eq_true c6
     clear c6
     have H' := Asd.mk H
     clear H
     have p314 : 0 <= ((ji4) : Int) := of_decide_eq_true (by first | (with_reducible assumption) | assumption)
     have q314 : (ji4) < (l0.length : Int) := of_decide_eq_true (by first | (with_reducible assumption) | assumption)
     obtain ⟨ad314, e314, hx314_0, hx314_1⟩ := at_T49 HR0.out (ji4) p314 q314
     cases e314
     replace hx314_0 := (HB.out.cell (World.block_lt_of_cell? w _ hx314_0)).trans hx314_0
     replace hx314_1 := (HB.out.cell (World.block_lt_of_cell? w _ hx314_1)).trans hx314_1
     replace p314 := eq_true p314
     replace q314 := eq_true q314
     go_wp2
     go_meet
     case rel => exact ⟨_, (!((rd_T49 l0 (ji4)).f0)), (by first | rfl | (simp; done) | (simp only [<- hji4] <;> (first | rfl | simp)) | (simp [*]; done)), H', ⟨by first | omega | exact Nat.le_refl _⟩, ⟨by first | exact Kd.R_nil _ _ _ _ _ | exact Kd.N_nil _ _ _ _ _ | exact Kd.V_nil _ _ _ _ _ | exact Kd.Q_nil _ _ _ _ _ | exact Kd.S_nil _ _ _ _ _⟩, ⟨by repeat (first | (with_reducible first | exact HB.out | apply bal | apply pbN | apply bd1) | exact HB.out)⟩⟩
    ·rw [if_neg c6] at H
     exact absurd H (by simp)
   ·rw [if_neg c5] at H
    exact absurd H (by simp)
 case rest =>
  clear HC2
  try clear p2
  try clear c3
  try clear c3b0
  try clear c3b1
  try clear c3b2
  try clear p3
  try clear q3
  try clear hx3
  try clear c5
  try clear c5b0
  try clear c6
  try clear c6b0
  try clear p6
  try clear hx314_0
  try clear hx314_1
  try clear p314
  try clear q314
  obtain ⟨kq, x19_1, rfl, HA, HJ1, HO_4, HB⟩ := hcut
  cases kq with
  | zero => exact absurd HA.out (by simp [q6_texts.j0])
  | succ kj1 =>
   have H := HA.out
   clear HA
   simp only [q6_texts.j0] at H
   by_cases c7 : x19_1 = true
   ·subst c7
    have H1 : (some (([] : List ByteArray), false)) = some (r1, r2) := by rw [if_pos rfl] at H; exact H
    clear H
    have H := H1
    clear H1
    simp only [Option.some.injEq, Prod.mk.injEq] at H
    obtain ⟨rfl, rfl⟩ := H
    go_wp2
    go_ret2
    exact ⟨_, by first | rfl | (simp [errW_none, errW_some] <;> rfl) | (simp [*, errW_none, errW_some] <;> rfl), by first | exact Kd.R_nil _ _ _ _ _ | exact Kd.N_nil _ _ _ _ _ | exact Kd.V_nil _ _ _ _ _ | exact Kd.Q_nil _ _ _ _ _ | exact Kd.S_nil _ _ _ _ _, by repeat (first | (with_reducible first | exact HB.out | apply bal | apply pbN | apply bd1) | exact HB.out)⟩
   ·replace c7 := Bool.eq_false_iff.mpr c7
    subst c7
    have H1 : (q6_texts.l0 kj1 l0 ([] : List ByteArray) 0) = some (r1, r2) := by rw [if_neg (show ¬ (false = true) by decide)] at H; exact H
    clear H
    have H := H1
    clear H1
    have H' := Asd.mk H
    clear H
    go_wp2
    go_loopg [4, 5] kj1 (fun kq v4 v5 w' => ∃ (x4_2 : List ByteArray) (x5_2 : Int), v5 = .int .i64 x5_2 /\ Asd (q6_texts.l0 kq l0 x4_2 x5_2 = some (r1, r2)) /\ Asd (kq <= kj1) /\ Asd (Kd.R Kd.string 9 w' w.heap.size (fun _ => True) v4 x4_2) /\ Asd (Below w.heap.size w w'))
    case atStart => exact ⟨(([] : List ByteArray)), (0), (by first | rfl | (simp; done) | (simp [*]; done)), H', ⟨Nat.le_refl _⟩, ⟨by (with_reducible repeat (first | apply Kd.R_alloc | apply Kd.R_drewN | apply Kd.R_drew)); exact HO_4.out⟩, ⟨by repeat (first | (with_reducible first | exact HB.out | apply bal | apply pbN | apply bd1) | exact HB.out)⟩⟩
    case round =>
     clear H'
     try clear p2
     try clear c3
     try clear c3b0
     try clear c3b1
     try clear c3b2
     try clear p3
     try clear q3
     try clear hx3
     try clear c5
     try clear c5b0
     try clear c6
     try clear c6b0
     try clear p6
     try clear c7
     try clear hx314_0
     try clear hx314_1
     try clear p2
     try clear p3
     try clear p314
     try clear p6
     try clear q3
     try clear q314
     obtain ⟨x4_2, x5_2, rfl, HA, HK2, HO_4, HB⟩ := hrel
     cases gk with
     | zero => exact absurd HA.out (by simp [q6_texts.l0])
     | succ k2 =>
      have H := HA.out
      clear HA
      simp only [q6_texts.l0] at H
      by_cases c8 : x5_2 < (wrap64 ((l0.length : Int) - 1))
      ·rw [if_pos c8] at H
       have c8b0 : decide (x5_2 < (wrap64 ((l0.length : Int) - 1))) = true := decide_eq_true c8
       clear c8
       by_cases c9 : 0 <= x5_2
       ·rw [if_pos c9] at H
        have c9b0 : decide (0 <= x5_2) = true := decide_eq_true c9
        clear c9
        by_cases c10 : x5_2 < (l0.length : Int)
        ·rw [if_pos c10] at H
         have c10b0 : decide (x5_2 < (l0.length : Int)) = true := decide_eq_true c10
         clear c10
         obtain ⟨bq11, hbq11⟩ : ∃ b_ : Bool, b_ = ((rd_T49 l0 x5_2).f0) := ⟨_, rfl⟩
         replace H : (if bq11 = true then (some (([] : List ByteArray), false)) else (if (((rd_T49 l0 x5_2).f1).size : Int) = 0 then (some (([] : List ByteArray), false)) else (if 0 <= (wrap64 ((((rd_T49 l0 x5_2).f1).size : Int) - 1)) then (if (wrap64 ((((rd_T49 l0 x5_2).f1).size : Int) - 1)) < (((rd_T49 l0 x5_2).f1).size : Int) then (if (bt ((rd_T49 l0 x5_2).f1) (wrap64 ((((rd_T49 l0 x5_2).f1).size : Int) - 1))) = 10 then (if (wrap64 ((((rd_T49 l0 x5_2).f1).size : Int) - 1)) <= (((rd_T49 l0 x5_2).f1).size : Int) then (if x4_2.length < 8796093022208 then (q6_texts.l0 k2 l0 (x4_2 ++ [((rd_T49 l0 x5_2).f1).extract 0 ((wrap64 ((((rd_T49 l0 x5_2).f1).size : Int) - 1)) : Int).toNat]) (wrap64 (x5_2 + 1))) else (none)) else (none)) else (some (([] : List ByteArray), false))) else (none)) else (none)))) = some (r1, r2) := by rw [<- hbq11] at H; exact H
         have Nbq11 := Asd.mk hbq11
         clear hbq11
         by_cases c12 : bq11 = true
         ·subst c12
          have H1 : (some (([] : List ByteArray), false)) = some (r1, r2) := by rw [if_pos rfl] at H; exact H
          clear H
          have H := H1
          clear H1
          simp only [Option.some.injEq, Prod.mk.injEq] at H
          obtain ⟨rfl, rfl⟩ := H
          have p315 : 0 <= (x5_2 : Int) := of_decide_eq_true (by first | (with_reducible assumption) | assumption)
          have q315 : x5_2 < (l0.length : Int) := of_decide_eq_true (by first | (with_reducible assumption) | assumption)
          obtain ⟨ad315, e315, hx315_0, hx315_1⟩ := at_T49 HR0.out x5_2 p315 q315
          (try rw [<- Nbq11.out] at hx315_0)
          cases e315
          replace hx315_0 := (HB.out.cell (World.block_lt_of_cell? w _ hx315_0)).trans hx315_0
          replace hx315_1 := (HB.out.cell (World.block_lt_of_cell? w _ hx315_1)).trans hx315_1
          replace p315 := eq_true p315
          replace q315 := eq_true q315
          have p316 : 0 <= (x5_2 : Int) := of_decide_eq_true (by first | (with_reducible assumption) | assumption)
          have q316 : x5_2 < (l0.length : Int) := of_decide_eq_true (by first | (with_reducible assumption) | assumption)
          obtain ⟨ad316, e316, hx316_0, hx316_1⟩ := at_T49 HR0.out x5_2 p316 q316
          (try rw [<- Nbq11.out] at hx316_0)
          obtain rfl : ad315 = ad316 := (by injection e316)
          replace hx316_0 := (HB.out.cell (World.block_lt_of_cell? w _ hx316_0)).trans hx316_0
          replace hx316_1 := (HB.out.cell (World.block_lt_of_cell? w _ hx316_1)).trans hx316_1
          replace p316 := eq_true p316
          replace q316 := eq_true q316
          go_wp2
          go_ret2
          exact ⟨_, by first | rfl | (simp [errW_none, errW_some] <;> rfl) | (simp [*, errW_none, errW_some] <;> rfl), by first | exact Kd.R_nil _ _ _ _ _ | exact Kd.N_nil _ _ _ _ _ | exact Kd.V_nil _ _ _ _ _ | exact Kd.Q_nil _ _ _ _ _ | exact Kd.S_nil _ _ _ _ _, by repeat (first | (with_reducible first | exact HB.out | apply bal | apply pbN | apply bd1) | exact HB.out)⟩
         ·replace c12 := Bool.eq_false_iff.mpr c12
          subst c12
          have H1 : (if (((rd_T49 l0 x5_2).f1).size : Int) = 0 then (some (([] : List ByteArray), false)) else (if 0 <= (wrap64 ((((rd_T49 l0 x5_2).f1).size : Int) - 1)) then (if (wrap64 ((((rd_T49 l0 x5_2).f1).size : Int) - 1)) < (((rd_T49 l0 x5_2).f1).size : Int) then (if (bt ((rd_T49 l0 x5_2).f1) (wrap64 ((((rd_T49 l0 x5_2).f1).size : Int) - 1))) = 10 then (if (wrap64 ((((rd_T49 l0 x5_2).f1).size : Int) - 1)) <= (((rd_T49 l0 x5_2).f1).size : Int) then (if x4_2.length < 8796093022208 then (q6_texts.l0 k2 l0 (x4_2 ++ [((rd_T49 l0 x5_2).f1).extract 0 ((wrap64 ((((rd_T49 l0 x5_2).f1).size : Int) - 1)) : Int).toNat]) (wrap64 (x5_2 + 1))) else (none)) else (none)) else (some (([] : List ByteArray), false))) else (none)) else (none))) = some (r1, r2) := by rw [if_neg (show ¬ (false = true) by decide)] at H; exact H
          clear H
          have H := H1
          clear H1
          by_cases c13 : (((rd_T49 l0 x5_2).f1).size : Int) = 0
          ·rw [if_pos c13] at H
           have c13b0 : ((((rd_T49 l0 x5_2).f1).size : Int) == 0) = true := beq_iff_eq.mpr c13
           have c13b1 : ((((rd_T49 l0 x5_2).f1).size : Int) != 0) = false := bne_eq_false_iff_eq.mpr c13
           clear c13
           simp only [Option.some.injEq, Prod.mk.injEq] at H
           obtain ⟨rfl, rfl⟩ := H
           have p315 : 0 <= (x5_2 : Int) := of_decide_eq_true (by first | (with_reducible assumption) | assumption)
           have q315 : x5_2 < (l0.length : Int) := of_decide_eq_true (by first | (with_reducible assumption) | assumption)
           obtain ⟨ad315, e315, hx315_0, hx315_1⟩ := at_T49 HR0.out x5_2 p315 q315
           (try rw [<- Nbq11.out] at hx315_0)
           cases e315
           replace hx315_0 := (HB.out.cell (World.block_lt_of_cell? w _ hx315_0)).trans hx315_0
           replace hx315_1 := (HB.out.cell (World.block_lt_of_cell? w _ hx315_1)).trans hx315_1
           replace p315 := eq_true p315
           replace q315 := eq_true q315
           have p316 : 0 <= (x5_2 : Int) := of_decide_eq_true (by first | (with_reducible assumption) | assumption)
           have q316 : x5_2 < (l0.length : Int) := of_decide_eq_true (by first | (with_reducible assumption) | assumption)
           obtain ⟨ad316, e316, hx316_0, hx316_1⟩ := at_T49 HR0.out x5_2 p316 q316
           (try rw [<- Nbq11.out] at hx316_0)
           obtain rfl : ad315 = ad316 := (by injection e316)
           replace hx316_0 := (HB.out.cell (World.block_lt_of_cell? w _ hx316_0)).trans hx316_0
           replace hx316_1 := (HB.out.cell (World.block_lt_of_cell? w _ hx316_1)).trans hx316_1
           replace p316 := eq_true p316
           replace q316 := eq_true q316
           go_wp2
           go_ret2
           exact ⟨_, by first | rfl | (simp [errW_none, errW_some] <;> rfl) | (simp [*, errW_none, errW_some] <;> rfl), by first | exact Kd.R_nil _ _ _ _ _ | exact Kd.N_nil _ _ _ _ _ | exact Kd.V_nil _ _ _ _ _ | exact Kd.Q_nil _ _ _ _ _ | exact Kd.S_nil _ _ _ _ _, by repeat (first | (with_reducible first | exact HB.out | apply bal | apply pbN | apply bd1) | exact HB.out)⟩
          ·rw [if_neg c13] at H
           have c13b0 : ((((rd_T49 l0 x5_2).f1).size : Int) == 0) = false := beq_eq_false_iff_ne.mpr c13
           have c13b1 : ((((rd_T49 l0 x5_2).f1).size : Int) != 0) = true := bne_iff_ne.mpr c13
           obtain ⟨ji14, hji14⟩ : ∃ j_ : Int, (wrap64 ((((rd_T49 l0 x5_2).f1).size : Int) - 1)) = j_ := ⟨_, rfl⟩
           replace H : (if 0 <= (ji14) then (if (ji14) < (((rd_T49 l0 x5_2).f1).size : Int) then (if (bt ((rd_T49 l0 x5_2).f1) (ji14)) = 10 then (if (ji14) <= (((rd_T49 l0 x5_2).f1).size : Int) then (if x4_2.length < 8796093022208 then (q6_texts.l0 k2 l0 (x4_2 ++ [((rd_T49 l0 x5_2).f1).extract 0 ((ji14) : Int).toNat]) (wrap64 (x5_2 + 1))) else (none)) else (none)) else (some (([] : List ByteArray), false))) else (none)) else (none)) = some (r1, r2) := by first | (rw [hji14] at H; exact H) | (simp only [hji14] at H ⊢; exact H)
           have hji14w : (IntKind.i64.wrap ((((rd_T49 l0 x5_2).f1).size : Int) - 1)) = ji14 := (i64_w _).trans hji14
           by_cases c15 : 0 <= (ji14)
           ·rw [if_pos c15] at H
            have c15b0 : decide (0 <= (ji14)) = true := decide_eq_true c15
            clear c15
            by_cases c16 : (ji14) < (((rd_T49 l0 x5_2).f1).size : Int)
            ·rw [if_pos c16] at H
             have c16b0 : decide ((ji14) < (((rd_T49 l0 x5_2).f1).size : Int)) = true := decide_eq_true c16
             clear c16
             by_cases c18 : (bt ((rd_T49 l0 x5_2).f1) (ji14)) = 10
             ·rw [if_pos c18] at H
              have c18b0 : ((bt ((rd_T49 l0 x5_2).f1) (ji14)) == 10) = true := beq_iff_eq.mpr c18
              have c18b1 : ((bt ((rd_T49 l0 x5_2).f1) (ji14)) != 10) = false := bne_eq_false_iff_eq.mpr c18
              clear c18
              have c19b0 := eq_true (of_decide_eq_true (by first | (with_reducible assumption) | assumption) : 0 <= (ji14))
              by_cases c20 : (ji14) <= (((rd_T49 l0 x5_2).f1).size : Int)
              ·rw [if_pos c20] at H
               have c20b0 := eq_true c20
               have c20b1 : decide ((ji14) <= (((rd_T49 l0 x5_2).f1).size : Int)) = true := decide_eq_true c20
               clear c20
               by_cases c21 : x4_2.length < 8796093022208
               ·rw [if_pos c21] at H
                have LMc21 := Asd.mk c21
                clear c21
                obtain ⟨y317, hy317⟩ : ∃ y_ : List ByteArray, y_ = (x4_2 ++ [((rd_T49 l0 x5_2).f1).extract 0 ((ji14) : Int).toNat]) := ⟨_, rfl⟩
                replace H : (q6_texts.l0 k2 l0 y317 (wrap64 (x5_2 + 1))) = some (r1, r2) := by first | (rw [hy317]; with_reducible exact H) | (have H2_ := (Option.bind_some _ _).symm.trans H; rw [hy317]; with_reducible exact H2_) | (have H2_ := (Option.bind_some _ _).symm.trans H; with_reducible exact H2_) | with_reducible exact H | (rw [hy317]; exact H) | exact H
                have Ny317 := Asd.mk hy317
                clear hy317
                have H' := Asd.mk H
                clear H
                have p315 : 0 <= (x5_2 : Int) := of_decide_eq_true (by first | (with_reducible assumption) | assumption)
                have q315 : x5_2 < (l0.length : Int) := of_decide_eq_true (by first | (with_reducible assumption) | assumption)
                obtain ⟨ad315, e315, hx315_0, hx315_1⟩ := at_T49 HR0.out x5_2 p315 q315
                (try rw [<- Nbq11.out] at hx315_0)
                cases e315
                replace hx315_0 := (HB.out.cell (World.block_lt_of_cell? w _ hx315_0)).trans hx315_0
                replace hx315_1 := (HB.out.cell (World.block_lt_of_cell? w _ hx315_1)).trans hx315_1
                replace p315 := eq_true p315
                replace q315 := eq_true q315
                have p316 : 0 <= (x5_2 : Int) := of_decide_eq_true (by first | (with_reducible assumption) | assumption)
                have q316 : x5_2 < (l0.length : Int) := of_decide_eq_true (by first | (with_reducible assumption) | assumption)
                obtain ⟨ad316, e316, hx316_0, hx316_1⟩ := at_T49 HR0.out x5_2 p316 q316
                (try rw [<- Nbq11.out] at hx316_0)
                obtain rfl : ad315 = ad316 := (by injection e316)
                replace hx316_0 := (HB.out.cell (World.block_lt_of_cell? w _ hx316_0)).trans hx316_0
                replace hx316_1 := (HB.out.cell (World.block_lt_of_cell? w _ hx316_1)).trans hx316_1
                replace p316 := eq_true p316
                replace q316 := eq_true q316
                have p17 : 0 <= ((ji14) : Int) := of_decide_eq_true (by first | (with_reducible assumption) | assumption)
                have q17 : (ji14) < (((rd_T49 l0 x5_2).f1).size : Int) := of_decide_eq_true (by first | (with_reducible assumption) | assumption)
                have hx17 := bt_at ((rd_T49 l0 x5_2).f1) (ji14)
                replace p17 := eq_true p17
                replace q17 := eq_true q17
                go_wp2_with (first | ((with_reducible refine gate_builtin (b := .append) (xs := #[.tmp 50, .tmp 56]) rfl ?_); (try (refine gate_guard (by rfl) ?_; dsimp only)); at_builtin; refine Kd.R_append Kd.string (w0 := w) w.heap.size rfl (.tmp 50) (.tmp 56) 23 9 (.string ⟨#[]⟩) 16 rfl Tryd.underlying23 info9 rfl (by decide) (by omega) u4 x4_2 (((rd_T49 l0 x5_2).f1).extract 0 ((ji14) : Int).toNat) [.string (((rd_T49 l0 x5_2).f1).extract 0 ((ji14) : Int).toNat)] (fun _ => True) (fun _ => False) rfl rfl ?aP (fun _ hk => hk.elim) ?aF ?aO ?aB ?aS ?aL ?_; (case aP => exact rfl); (case aB => exact (by repeat (first | (with_reducible first | exact HB.out | apply bal | apply pbN | apply bd1) | exact HB.out))); (case aF => exact (fun _ _ => trivial)); (case aO => exact (by (with_reducible repeat (first | apply Kd.R_alloc | apply Kd.R_drewN | apply Kd.R_drew)); exact HO_4.out)); (case aS => exact (below_size (by repeat (first | (with_reducible first | exact HB.out | apply bal | apply pbN | apply bd1) | exact HB.out)))); (case aL => have := LMc21.out; omega); intro v318 w22 ho hb hg hat; rw [<- Ny317.out] at ho; have n0_ := Asd.mk (hb); have n1_ := Asd.mk (ho); clear HB; clear HO_4; have HB := n0_; have HO319 := n1_; clear n0_ n1_; clear ho hb hg hat))
                go_roundg k2
                case measure => have := HJ1.out; have := HK2.out; omega
                case rel => exact ⟨(y317), (wrap64 (x5_2 + 1)), (by first | rfl | (simp; done) | (simp [*]; done)), H', ⟨by have := HJ1.out; have := HK2.out; omega⟩, ⟨by (with_reducible repeat (first | apply Kd.R_alloc | apply Kd.R_drewN | apply Kd.R_drew)); exact HO319.out⟩, ⟨by repeat (first | (with_reducible first | exact HB.out | apply bal | apply pbN | apply bd1) | exact HB.out)⟩⟩
               ·rw [if_neg c21] at H
                exact absurd H (by simp)
              ·rw [if_neg c20] at H
               exact absurd H (by simp)
             ·rw [if_neg c18] at H
              have c18b0 : ((bt ((rd_T49 l0 x5_2).f1) (ji14)) == 10) = false := beq_eq_false_iff_ne.mpr c18
              have c18b1 : ((bt ((rd_T49 l0 x5_2).f1) (ji14)) != 10) = true := bne_iff_ne.mpr c18
              simp only [Option.some.injEq, Prod.mk.injEq] at H
              obtain ⟨rfl, rfl⟩ := H
              have p315 : 0 <= (x5_2 : Int) := of_decide_eq_true (by first | (with_reducible assumption) | assumption)
              have q315 : x5_2 < (l0.length : Int) := of_decide_eq_true (by first | (with_reducible assumption) | assumption)
              obtain ⟨ad315, e315, hx315_0, hx315_1⟩ := at_T49 HR0.out x5_2 p315 q315
              (try rw [<- Nbq11.out] at hx315_0)
              cases e315
              replace hx315_0 := (HB.out.cell (World.block_lt_of_cell? w _ hx315_0)).trans hx315_0
              replace hx315_1 := (HB.out.cell (World.block_lt_of_cell? w _ hx315_1)).trans hx315_1
              replace p315 := eq_true p315
              replace q315 := eq_true q315
              have p316 : 0 <= (x5_2 : Int) := of_decide_eq_true (by first | (with_reducible assumption) | assumption)
              have q316 : x5_2 < (l0.length : Int) := of_decide_eq_true (by first | (with_reducible assumption) | assumption)
              obtain ⟨ad316, e316, hx316_0, hx316_1⟩ := at_T49 HR0.out x5_2 p316 q316
              (try rw [<- Nbq11.out] at hx316_0)
              obtain rfl : ad315 = ad316 := (by injection e316)
              replace hx316_0 := (HB.out.cell (World.block_lt_of_cell? w _ hx316_0)).trans hx316_0
              replace hx316_1 := (HB.out.cell (World.block_lt_of_cell? w _ hx316_1)).trans hx316_1
              replace p316 := eq_true p316
              replace q316 := eq_true q316
              have p17 : 0 <= ((ji14) : Int) := of_decide_eq_true (by first | (with_reducible assumption) | assumption)
              have q17 : (ji14) < (((rd_T49 l0 x5_2).f1).size : Int) := of_decide_eq_true (by first | (with_reducible assumption) | assumption)
              have hx17 := bt_at ((rd_T49 l0 x5_2).f1) (ji14)
              replace p17 := eq_true p17
              replace q17 := eq_true q17
              go_wp2
              go_ret2
              exact ⟨_, by first | rfl | (simp [errW_none, errW_some] <;> rfl) | (simp only [<- hji14]; first | rfl | (simp [errW_none, errW_some] <;> rfl)) | (simp [*, errW_none, errW_some] <;> rfl), by first | exact Kd.R_nil _ _ _ _ _ | exact Kd.N_nil _ _ _ _ _ | exact Kd.V_nil _ _ _ _ _ | exact Kd.Q_nil _ _ _ _ _ | exact Kd.S_nil _ _ _ _ _, by repeat (first | (with_reducible first | exact HB.out | apply bal | apply pbN | apply bd1) | exact HB.out)⟩
            ·rw [if_neg c16] at H
             exact absurd H (by simp)
           ·rw [if_neg c15] at H
            exact absurd H (by simp)
        ·rw [if_neg c10] at H
         exact absurd H (by simp)
       ·rw [if_neg c9] at H
        exact absurd H (by simp)
      ·rw [if_neg c8] at H
       have c8b0 : decide (x5_2 < (wrap64 ((l0.length : Int) - 1))) = false := decide_eq_false c8
       clear c8
       simp only [Option.some.injEq, Prod.mk.injEq] at H
       obtain ⟨rfl, rfl⟩ := H
       go_wp2
       go_ret2
       exact ⟨_, by first | rfl | (simp [errW_none, errW_some] <;> rfl) | (simp [*, errW_none, errW_some] <;> rfl), by (with_reducible repeat (first | apply Kd.R_alloc | apply Kd.R_drewN | apply Kd.R_drew)); exact HO_4.out, by repeat (first | (with_reducible first | exact HB.out | apply bal | apply pbN | apply bd1) | exact HB.out)⟩
mutual
def q6_Heard.j0 : Nat -> List (S49) -> List ByteArray -> Bool -> Option (ByteArray × (List (S63)) × Bool)
 | 0, _, _, _ => none
 | k + 1, x0, x5, x30 => if x30 = true then (some ((⟨#[]⟩ : ByteArray), ([] : List (S63)), false)) else (if 0 < (x5.length : Int) then (if 14 <= ((rdOf ByteArray.empty x5 0).size : Int) then (q6_Heard.l0 k x0 x5 ((rdOf ByteArray.empty x5 0).extract 14 (rdOf ByteArray.empty x5 0).size) ([] : List (S63)) 1) else (none)) else (none))
def q6_Heard.l0 : Nat -> List (S49) -> List ByteArray -> ByteArray -> List (S63) -> Int -> Option (ByteArray × (List (S63)) × Bool)
 | 0, _, _, _, _, _ => none
 | k + 1, x0, x5, x7, x8, x9 => if x9 < (x5.length : Int) then (if 0 <= x9 then (if ((rdOf ByteArray.empty x5 x9).size : Int) < 65 then (some ((⟨#[]⟩ : ByteArray), ([] : List (S63)), false)) else (if 0 <= 64 then (if 64 <= ((rdOf ByteArray.empty x5 x9).size : Int) then (if 65 <= ((rdOf ByteArray.empty x5 x9).size : Int) then (if x8.length < 4398046511104 then (q6_Heard.l0 k x0 x5 x7 (x8 ++ [(⟨(rdOf ByteArray.empty x5 x9).extract 65 (rdOf ByteArray.empty x5 x9).size, (rdOf ByteArray.empty x5 x9).extract 0 64⟩ : S63)]) (wrap64 (x9 + 1))) else (none)) else (none)) else (none)) else (none))) else (none)) else ((q6_Told.f k x7 x8).bind fun bt332 => (if bt332.2 = true then ((q5_Same.f k bt332.1 x0).bind fun t336 => (if t336 = true then (some (x7, x8, true)) else (some ((⟨#[]⟩ : ByteArray), ([] : List (S63)), false)))) else (some ((⟨#[]⟩ : ByteArray), ([] : List (S63)), false))))
end
def q6_Heard.f (k : Nat) (l0 : List (S49)) : Option (ByteArray × (List (S63)) × Bool) := (q6_texts.f k l0).bind fun bt320 => (if bt320.2 = true then (if (bt320.1.length : Int) = 0 then (q6_Heard.j0 k l0 bt320.1 true) else (if 0 < (bt320.1.length : Int) then (q6_Heard.j0 k l0 bt320.1 (decide (((rdOf ByteArray.empty bt320.1 0).size : Int) < 14))) else (none))) else (q6_Heard.j0 k l0 bt320.1 true))
def q6_Heard.T11 : Bool × List (List Nat × List Nat) := (true, [([], []), ([], []), ([], []), ([1, 2], [1, 2]), ([3], [3]), ([4], [4]), ([], []), ([], []), ([6, 7], [6, 7]), ([8], [8]), ([9], [9]), ([5, 10], [5, 10]), ([11], [11]), ([0, 12], [0, 12]), ([13, 13, 0, 1, 2, 3, 4, 5, 6, 7, 8, 9, 10, 11, 12, 13], [0, 13])])
def q6_Heard.B11 : List Nat := [0, 0, 0, 6, 14, 30, 0, 0, 192, 448, 960, 2046, 4094, 8191, 16383]
theorem q6_Heard.tab11 : rtab .any (opsOf Tryd.f21 11) = q6_Heard.T11 := by kernel_rfl
theorem q6_Heard.bits11 : waitsOk q6_Heard.T11.2 q6_Heard.B11 = true := by kernel_rfl
set_option maxHeartbeats 8000000 in
set_option maxRecDepth 100000 in
theorem q6_Heard.calls (k : Nat) (A0 : Option Addr) (c0 : Nat) (l0 : List (S49)) (r1 : ByteArray) (r2 : List (S63)) (r3 : Bool) (w : World) (hr0 : Kd.C k49 w A0 l0.length l0) (hc0 : l0.length <= c0) (h : q6_Heard.f k l0 = some (r1, r2, r3)) :
  Calls Tryd.prog 21 #[.slice A0 l0.length c0] w fun e w' => ∃ v1_ : Value, e = .returned (.tuple #[.string r1, v1_, .bool r3]) /\ Kd.R k63 63 w' w.heap.size (fun _ => True) v1_ r2 /\ Below w.heap.size w w' := by
 have hu63 := Tryd.underlying63
 have HR0 := Asd.mk hr0
 have HC0 := Asd.mk hc0
 clear hr0 hc0
 have HB := Asd.mk (Below.refl w.heap.size w)
 have H : ((q6_texts.f k l0).bind fun bt320 => (if bt320.2 = true then (if (bt320.1.length : Int) = 0 then (q6_Heard.j0 k l0 bt320.1 true) else (if 0 < (bt320.1.length : Int) then (q6_Heard.j0 k l0 bt320.1 (decide (((rdOf ByteArray.empty bt320.1 0).size : Int) < 14))) else (none))) else (q6_Heard.j0 k l0 bt320.1 true))) = some (r1, r2, r3) := h
 clear h
 replace H := Option.bind_eq_some_iff.mp H
 obtain ⟨⟨t320, t321⟩, A20, H⟩ := H
 replace H : (if t321 = true then (if (t320.length : Int) = 0 then (q6_Heard.j0 k l0 t320 true) else (if 0 < (t320.length : Int) then (q6_Heard.j0 k l0 t320 (decide (((rdOf ByteArray.empty t320 0).size : Int) < 14))) else (none))) else (q6_Heard.j0 k l0 t320 true)) = some (r1, r2, r3) := H
 have A2 := Asd.mk A20
 clear A20
 have HC3 := Asd.mk H
 clear H
 go_enter Tryd.func21, Tryd.ntmps21
 go_upto_region 2 with (first | ((with_reducible refine gate_callee (f := 50) rfl ?_); refine goesL_ (some 14) rfl rfl Tryd.func50 (by kernel_rfl) rfl #[.slice A0 l0.length c0] rfl (by (try simp only [List.map_toArray, List.map_cons, List.map_nil]); first | done | rfl | (simp only [List.length_drop, List.length_take]; rfl)) ?_; (with_reducible refine (q6_texts.calls k _ _ l0 t320 t321 _ ?side1 ?side2 A2.out).mono ?_); (case side1 => repeat (first | exact HR0.out | (with_reducible refine Kd.C_alloc ?_ _) | (with_reducible refine Kd.C_drewN ?_ _) | (with_reducible refine Kd.C_drew ?_))); (case side2 => exact HC0.out); rintro e w4 ⟨v322, rfl, ho0, hb⟩; refine ⟨_, rfl, ?_⟩; have n0_ := Asd.mk (Kd.R_lower ho0 (below_size (by repeat (first | (with_reducible first | exact HB.out | apply bal | apply pbN | apply bd1) | exact HB.out)))); have n1_ := Asd.mk (below_step (by repeat (first | (with_reducible first | exact HB.out | apply bal | apply pbN | apply bd1) | exact HB.out)) hb); clear HB; have HO323 := n0_; have HB := n1_; clear n0_ n1_; (try clear hb); (try clear hb2); (try clear hk); (try clear hi); (try clear ho0)))
 (try simp only [Act.put, zA, zB, zC])
 go_cut [30] (fun v30 wc => ∃ (kq : Nat) (x30_2 : Bool), v30 = .bool x30_2 /\ Asd (q6_Heard.j0 kq l0 t320 x30_2 = some (r1, r2, r3)) /\ Asd (kq <= k) /\ Asd (Kd.R Kd.string 9 wc w.heap.size (fun _ => True) v322 t320) /\ Asd (Below w.heap.size w wc))
 case first =>
  have H := HC3.out
  clear HC3
  by_cases c5 : t321 = true
  ·subst c5
   have H1 : (if (t320.length : Int) = 0 then (q6_Heard.j0 k l0 t320 true) else (if 0 < (t320.length : Int) then (q6_Heard.j0 k l0 t320 (decide (((rdOf ByteArray.empty t320 0).size : Int) < 14))) else (none))) = some (r1, r2, r3) := by rw [if_pos rfl] at H; exact H
   clear H
   have H := H1
   clear H1
   by_cases c6 : (t320.length : Int) = 0
   ·rw [if_pos c6] at H
    have c6b0 : ((t320.length : Int) == 0) = true := beq_iff_eq.mpr c6
    have c6b1 : ((t320.length : Int) != 0) = false := bne_eq_false_iff_eq.mpr c6
    clear c6
    (first | rw [c6b0] | (simp only [i64_w, i32_w]; rw [c6b0]) | skip)
    have H' := Asd.mk H
    clear H
    obtain ⟨Ao7, co7, eo7⟩ := Kd.R_slice HO323.out
    subst eo7
    go_wp2
    go_meet
    case rel => exact ⟨_, (true), (by first | rfl | (simp; done) | (simp [*]; done)), H', ⟨by first | omega | exact Nat.le_refl _⟩, ⟨by (with_reducible repeat (first | apply Kd.R_alloc | apply Kd.R_drewN | apply Kd.R_drew)); exact HO323.out⟩, ⟨by repeat (first | (with_reducible first | exact HB.out | apply bal | apply pbN | apply bd1) | exact HB.out)⟩⟩
   ·rw [if_neg c6] at H
    have c6b0 : ((t320.length : Int) == 0) = false := beq_eq_false_iff_ne.mpr c6
    have c6b1 : ((t320.length : Int) != 0) = true := bne_iff_ne.mpr c6
    have c6b2 : ¬ (t320 = []) := fun h_ => c6 (by rw [h_]; rfl)
    (first | rw [c6b0] | (simp only [i64_w, i32_w]; rw [c6b0]) | skip)
    by_cases c8 : 0 < (t320.length : Int)
    ·rw [if_pos c8] at H
     have c8b0 : decide (0 < (t320.length : Int)) = true := decide_eq_true c8
     have c8b1 : decide (0 < t320.length) = true := decide_eq_true (by omega)
     clear c8
     have H' := Asd.mk H
     clear H
     obtain ⟨Ao9, co9, eo9⟩ := Kd.R_slice HO323.out
     subst eo9
     have p324 : 0 <= (0 : Int) := (by omega)
     have q324 : 0 < (t320.length : Int) := of_decide_eq_true (by first | (with_reducible assumption) | assumption)
     obtain ⟨ad324, e324, hx324_0⟩ := Kd.at_string (Kd.R_reads' HO323.out).2.2 0 p324 q324
     cases e324
     have qi324 : (0 < t320.length) = True := eq_true (by omega)
     (try rw [show ((0 : Int)).toNat = 0 from rfl] at hx324_0)
     (try rw [Addr.add_zero'] at hx324_0)
     replace p324 := eq_true p324
     replace q324 := eq_true q324
     go_wp2
     go_meet
     case rel => exact ⟨_, (decide (((rdOf ByteArray.empty t320 0).size : Int) < 14)), (by first | rfl | (simp; done) | (simp [*]; done)), H', ⟨by first | omega | exact Nat.le_refl _⟩, ⟨by (with_reducible repeat (first | apply Kd.R_alloc | apply Kd.R_drewN | apply Kd.R_drew)); exact HO323.out⟩, ⟨by repeat (first | (with_reducible first | exact HB.out | apply bal | apply pbN | apply bd1) | exact HB.out)⟩⟩
    ·rw [if_neg c8] at H
     exact absurd H (by simp)
  ·replace c5 := Bool.eq_false_iff.mpr c5
   subst c5
   have H1 : (q6_Heard.j0 k l0 t320 true) = some (r1, r2, r3) := by rw [if_neg (show ¬ (false = true) by decide)] at H; exact H
   clear H
   have H := H1
   clear H1
   have H' := Asd.mk H
   clear H
   go_wp2
   go_meet
   case rel => exact ⟨_, (true), (by first | rfl | (simp; done) | (simp [*]; done)), H', ⟨by first | omega | exact Nat.le_refl _⟩, ⟨by (with_reducible repeat (first | apply Kd.R_alloc | apply Kd.R_drewN | apply Kd.R_drew)); exact HO323.out⟩, ⟨by repeat (first | (with_reducible first | exact HB.out | apply bal | apply pbN | apply bd1) | exact HB.out)⟩⟩
 case rest =>
  clear HC3
  try clear c2
  try clear p2
  try clear p3
  try clear q3
  try clear hx3
  try clear qi3
  try clear c5
  try clear c6
  try clear c6b0
  try clear c6b1
  try clear c6b2
  try clear c8
  try clear c8b0
  try clear c8b1
  try clear hx324_0
  try clear p324
  try clear q324
  obtain ⟨kq, x30_2, rfl, HA, HJ2, HO_5, HB⟩ := hcut
  cases kq with
  | zero => exact absurd HA.out (by simp [q6_Heard.j0])
  | succ kj2 =>
   have H := HA.out
   clear HA
   simp only [q6_Heard.j0] at H
   by_cases c10 : x30_2 = true
   ·subst c10
    have H1 : (some ((⟨#[]⟩ : ByteArray), ([] : List (S63)), false)) = some (r1, r2, r3) := by rw [if_pos rfl] at H; exact H
    clear H
    have H := H1
    clear H1
    simp only [Option.some.injEq, Prod.mk.injEq] at H
    obtain ⟨rfl, rfl, rfl⟩ := H
    go_wp2
    go_ret3
    exact ⟨_, by first | rfl | (simp [errW_none, errW_some] <;> rfl) | (simp [*, errW_none, errW_some] <;> rfl), by first | exact Kd.R_nil _ _ _ _ _ | exact Kd.N_nil _ _ _ _ _ | exact Kd.V_nil _ _ _ _ _ | exact Kd.Q_nil _ _ _ _ _ | exact Kd.S_nil _ _ _ _ _, by repeat (first | (with_reducible first | exact HB.out | apply bal | apply pbN | apply bd1) | exact HB.out)⟩
   ·replace c10 := Bool.eq_false_iff.mpr c10
    subst c10
    have H1 : (if 0 < (t320.length : Int) then (if 14 <= ((rdOf ByteArray.empty t320 0).size : Int) then (q6_Heard.l0 kj2 l0 t320 ((rdOf ByteArray.empty t320 0).extract 14 (rdOf ByteArray.empty t320 0).size) ([] : List (S63)) 1) else (none)) else (none)) = some (r1, r2, r3) := by rw [if_neg (show ¬ (false = true) by decide)] at H; exact H
    clear H
    have H := H1
    clear H1
    by_cases c11 : 0 < (t320.length : Int)
    ·rw [if_pos c11] at H
     have c11b0 : decide (0 < (t320.length : Int)) = true := decide_eq_true c11
     have c11b1 : decide (0 < t320.length) = true := decide_eq_true (by omega)
     clear c11
     by_cases c12 : 14 <= ((rdOf ByteArray.empty t320 0).size : Int)
     ·rw [if_pos c12] at H
      have c12b0 := eq_true c12
      have c12b1 : decide (14 <= ((rdOf ByteArray.empty t320 0).size : Int)) = true := decide_eq_true c12
      clear c12
      have H' := Asd.mk H
      clear H
      obtain ⟨Ao13, co13, eo13⟩ := Kd.R_slice HO_5.out
      subst eo13
      have p325 : 0 <= (0 : Int) := (by omega)
      have q325 : 0 < (t320.length : Int) := of_decide_eq_true (by first | (with_reducible assumption) | assumption)
      obtain ⟨ad325, e325, hx325_0⟩ := Kd.at_string (Kd.R_reads' HO_5.out).2.2 0 p325 q325
      cases e325
      have qi325 : (0 < t320.length) = True := eq_true (by omega)
      (try rw [show ((0 : Int)).toNat = 0 from rfl] at hx325_0)
      (try rw [Addr.add_zero'] at hx325_0)
      replace p325 := eq_true p325
      replace q325 := eq_true q325
      go_wp2
      go_loopg [8, 9] kj2 (fun kq v8 v9 w' => ∃ (x8_2 : List (S63)) (x9_2 : Int), v9 = .int .i64 x9_2 /\ Asd (q6_Heard.l0 kq l0 t320 ((rdOf ByteArray.empty t320 0).extract 14 (rdOf ByteArray.empty t320 0).size) x8_2 x9_2 = some (r1, r2, r3)) /\ Asd (kq <= kj2) /\ Asd (Kd.R Kd.string 9 w' w.heap.size (fun _ => True) (.slice (some ad325) t320.length co13) t320) /\ Asd (Kd.R k63 63 w' w.heap.size (fun _ => True) v8 x8_2) /\ Asd (Below w.heap.size w w'))
      case atStart => exact ⟨(([] : List (S63))), (1), (by first | rfl | (simp; done) | (simp [*]; done)), H', ⟨Nat.le_refl _⟩, ⟨by (with_reducible repeat (first | apply Kd.R_alloc | apply Kd.R_drewN | apply Kd.R_drew)); exact HO_5.out⟩, ⟨by first | exact Kd.R_nil _ _ _ _ _ | exact Kd.N_nil _ _ _ _ _ | exact Kd.V_nil _ _ _ _ _ | exact Kd.Q_nil _ _ _ _ _ | exact Kd.S_nil _ _ _ _ _⟩, ⟨by repeat (first | (with_reducible first | exact HB.out | apply bal | apply pbN | apply bd1) | exact HB.out)⟩⟩
      case round =>
       clear H'
       try clear c1
       try clear c2
       try clear p2
       try clear p3
       try clear q3
       try clear hx3
       try clear qi3
       try clear c5
       try clear c6
       try clear c6b0
       try clear c6b1
       try clear c6b2
       try clear c8
       try clear c8b0
       try clear c8b1
       try clear c10
       try clear c11
       try clear c11b0
       try clear c11b1
       try clear c12
       try clear c12b0
       try clear c12b1
       try clear hx324_0
       try clear hx325_0
       try clear p2
       try clear p3
       try clear p324
       try clear p325
       try clear q3
       try clear q324
       try clear q325
       obtain ⟨x8_2, x9_2, rfl, HA, HK2, HO_5, HO_8, HB⟩ := hrel
       cases gk with
       | zero => exact absurd HA.out (by simp [q6_Heard.l0])
       | succ k2 =>
        have H := HA.out
        clear HA
        simp only [q6_Heard.l0] at H
        by_cases c14 : x9_2 < (t320.length : Int)
        ·rw [if_pos c14] at H
         have c14b0 : decide (x9_2 < (t320.length : Int)) = true := decide_eq_true c14
         clear c14
         by_cases c15 : 0 <= x9_2
         ·rw [if_pos c15] at H
          have c15b0 : decide (0 <= x9_2) = true := decide_eq_true c15
          clear c15
          by_cases c16 : ((rdOf ByteArray.empty t320 x9_2).size : Int) < 65
          ·rw [if_pos c16] at H
           have c16b0 : decide (((rdOf ByteArray.empty t320 x9_2).size : Int) < 65) = true := decide_eq_true c16
           have c16b1 : decide ((rdOf ByteArray.empty t320 x9_2).size < 65) = true := decide_eq_true (by omega)
           clear c16
           simp only [Option.some.injEq, Prod.mk.injEq] at H
           obtain ⟨rfl, rfl, rfl⟩ := H
           have p326 : 0 <= (x9_2 : Int) := of_decide_eq_true (by first | (with_reducible assumption) | assumption)
           have q326 : x9_2 < (t320.length : Int) := of_decide_eq_true (by first | (with_reducible assumption) | assumption)
           obtain ⟨ad326, e326, hx326_0⟩ := Kd.at_string (Kd.R_reads' HO_5.out).2.2 x9_2 p326 q326
           obtain rfl : ad325 = ad326 := (by injection e326)
           replace p326 := eq_true p326
           replace q326 := eq_true q326
           go_wp2
           go_ret3
           exact ⟨_, by first | rfl | (simp [errW_none, errW_some] <;> rfl) | (simp [*, errW_none, errW_some] <;> rfl), by first | exact Kd.R_nil _ _ _ _ _ | exact Kd.N_nil _ _ _ _ _ | exact Kd.V_nil _ _ _ _ _ | exact Kd.Q_nil _ _ _ _ _ | exact Kd.S_nil _ _ _ _ _, by repeat (first | (with_reducible first | exact HB.out | apply bal | apply pbN | apply bd1) | exact HB.out)⟩
          ·rw [if_neg c16] at H
           have c16b0 : decide (((rdOf ByteArray.empty t320 x9_2).size : Int) < 65) = false := decide_eq_false c16
           have c16b1 : decide ((rdOf ByteArray.empty t320 x9_2).size < 65) = false := decide_eq_false (by omega)
           clear c16
           by_cases c17 : 0 <= 64
           ·rw [if_pos c17] at H
            have c17b0 := eq_true c17
            have c17b1 : decide (0 <= 64) = true := decide_eq_true c17
            clear c17
            by_cases c18 : 64 <= ((rdOf ByteArray.empty t320 x9_2).size : Int)
            ·rw [if_pos c18] at H
             have c18b0 := eq_true c18
             have c18b1 : decide (64 <= ((rdOf ByteArray.empty t320 x9_2).size : Int)) = true := decide_eq_true c18
             clear c18
             by_cases c19 : 65 <= ((rdOf ByteArray.empty t320 x9_2).size : Int)
             ·rw [if_pos c19] at H
              have c19b0 := eq_true c19
              have c19b1 : decide (65 <= ((rdOf ByteArray.empty t320 x9_2).size : Int)) = true := decide_eq_true c19
              clear c19
              by_cases c20 : x8_2.length < 4398046511104
              ·rw [if_pos c20] at H
               have LMc20 := Asd.mk c20
               clear c20
               obtain ⟨y329, hy329⟩ : ∃ y_ : List (S63), y_ = (x8_2 ++ [(⟨(rdOf ByteArray.empty t320 x9_2).extract 65 (rdOf ByteArray.empty t320 x9_2).size, (rdOf ByteArray.empty t320 x9_2).extract 0 64⟩ : S63)]) := ⟨_, rfl⟩
               replace H : (q6_Heard.l0 k2 l0 t320 ((rdOf ByteArray.empty t320 0).extract 14 (rdOf ByteArray.empty t320 0).size) y329 (wrap64 (x9_2 + 1))) = some (r1, r2, r3) := by first | (rw [hy329]; with_reducible exact H) | (have H2_ := (Option.bind_some _ _).symm.trans H; rw [hy329]; with_reducible exact H2_) | (have H2_ := (Option.bind_some _ _).symm.trans H; with_reducible exact H2_) | with_reducible exact H | (rw [hy329]; exact H) | exact H
               have Ny329 := Asd.mk hy329
               clear hy329
               have H' := Asd.mk H
               clear H
               have p326 : 0 <= (x9_2 : Int) := of_decide_eq_true (by first | (with_reducible assumption) | assumption)
               have q326 : x9_2 < (t320.length : Int) := of_decide_eq_true (by first | (with_reducible assumption) | assumption)
               obtain ⟨ad326, e326, hx326_0⟩ := Kd.at_string (Kd.R_reads' HO_5.out).2.2 x9_2 p326 q326
               obtain rfl : ad325 = ad326 := (by injection e326)
               replace p326 := eq_true p326
               replace q326 := eq_true q326
               try go_wp2
               have n0_ := Asd.mk (Kd.R_drew HO_5.out)
               have n1_ := Asd.mk (Kd.R_drew HO_8.out)
               have n2_ := Asd.mk (bd1 HB.out)
               clear HO_5
               clear HO_8
               clear HB
               have HO_5 := n0_
               have HO_8 := n1_
               have HB := n2_
               clear n0_ n1_ n2_
               have p327 : 0 <= (x9_2 : Int) := of_decide_eq_true (by first | (with_reducible assumption) | assumption)
               have q327 : x9_2 < (t320.length : Int) := of_decide_eq_true (by first | (with_reducible assumption) | assumption)
               obtain ⟨ad327, e327, hx327_0⟩ := Kd.at_string (Kd.R_reads' HO_5.out).2.2 x9_2 p327 q327
               obtain rfl : ad325 = ad327 := (by injection e327)
               replace p327 := eq_true p327
               replace q327 := eq_true q327
               have p328 : 0 <= (x9_2 : Int) := of_decide_eq_true (by first | (with_reducible assumption) | assumption)
               have q328 : x9_2 < (t320.length : Int) := of_decide_eq_true (by first | (with_reducible assumption) | assumption)
               obtain ⟨ad328, e328, hx328_0⟩ := Kd.at_string (Kd.R_reads' HO_5.out).2.2 x9_2 p328 q328
               obtain rfl : ad325 = ad328 := (by injection e328)
               replace p328 := eq_true p328
               replace q328 := eq_true q328
               refine start_ (n := 15) (S := fun w' => w'.cell? (ad325.add (x9_2).toNat) = some (.string (rdOf ByteArray.empty t320 x9_2)) /\ w'.cell? (ad325.add (x9_2).toNat) = some (.string (rdOf ByteArray.empty t320 x9_2))) (ds := [12, 13]) (bA 15 0) (by kernel_rfl) rfl rfl ⟨hx327_0, hx328_0⟩ (fun hHeld => ?_); refine with_tabW q6_Heard.tab11 q6_Heard.bits11 (fun HT_ HW_ => ?_)
               generalize wr.drew = w21 at HO_5 HO_8 HB hx327_0 hx328_0 hHeld ⊢
               refine pure_ (i := 0) (N := some 47) (v := ?_) (a' := ?_) (bA 15 1) rfl rfl (any_of HT_.out (by kernel_rfl)) (fun _ _ _ h => h) (Or.inl ⟨by rfl, ?_⟩) ?_ ?_
               rotate_left
               ·intro w'
                go_simp
                with_reducible rfl
               rotate_left
               ·simp only [Act.put, zA, zB, zC, i64_w, i32_w]
                rfl
               refine pure_ (i := 1) (N := some 48) (v := ?_) (a' := ?_) (bA 15 3) rfl rfl (any_of HT_.out (by kernel_rfl)) (fun _ _ _ h => h) (Or.inl ⟨by rfl, ?_⟩) ?_ ?_
               rotate_left
               ·intro w'
                go_simp
                with_reducible rfl
               rotate_left
               ·simp only [Act.put, zA, zB, zC, i64_w, i32_w]
                rfl
               refine pure_ (i := 2) (N := some 49) (v := ?_) (a' := ?_) (bA 15 7) rfl rfl (any_of HT_.out (by kernel_rfl)) (fun _ _ _ h => h) (Or.inl ⟨by rfl, ?_⟩) ?_ ?_
               rotate_left
               ·intro w'
                go_simp
                with_reducible rfl
               rotate_left
               ·simp only [Act.put, zA, zB, zC, i64_w, i32_w]
                rfl
               refine pure_ (i := 3) (N := some 50) (v := ?_) (a' := ?_) (bA 15 15) rfl rfl (any_of HT_.out (by kernel_rfl)) (fun _ _ _ h => h) (Or.inl ⟨by rfl, ?_⟩) ?_ ?_
               rotate_left
               ·intro w'
                go_simp
                with_reducible rfl
               rotate_left
               ·simp only [Act.put, zA, zB, zC, i64_w, i32_w]
                rfl
               refine pure_ (i := 6) (N := some 53) (v := ?_) (a' := ?_) (bA 15 79) rfl rfl (any_of HT_.out (by kernel_rfl)) (fun _ _ _ h => h) (Or.inl ⟨by rfl, ?_⟩) ?_ ?_
               rotate_left
               ·intro w'
                go_simp
                with_reducible rfl
               rotate_left
               ·simp only [Act.put, zA, zB, zC, i64_w, i32_w]
                rfl
               refine pure_ (i := 7) (N := some 54) (v := ?_) (a' := ?_) (bA 15 207) rfl rfl (any_of HT_.out (by kernel_rfl)) (fun _ _ _ h => h) (Or.inl ⟨by rfl, ?_⟩) ?_ ?_
               rotate_left
               ·intro w'
                go_simp
                with_reducible rfl
               rotate_left
               ·simp only [Act.put, zA, zB, zC, i64_w, i32_w]
                rfl
               refine pure_ (i := 8) (N := some 55) (v := ?_) (a' := ?_) (bA 15 463) rfl rfl (any_of HT_.out (by kernel_rfl)) (fun _ _ _ h => h) (Or.inl ⟨by rfl, ?_⟩) ?_ ?_
               rotate_left
               ·intro w'
                go_simp
                with_reducible rfl
               rotate_left
               ·simp only [Act.put, zA, zB, zC, i64_w, i32_w]
                rfl
               refine take_ (i := 4) (N := some 51) (v := ?_) (a' := ?_) (bA 15 479) rfl rfl (take_ofW HT_.out HW_.out (by kernel_rfl)) (fun _ _ _ h => h) (Or.inl ⟨by rfl, ?_⟩) hHeld ?_ ?_
               rotate_left
               ·rintro w' ⟨s0, s1⟩
                go_simp
                with_reducible rfl
               rotate_left
               ·simp only [Act.put, zA, zB, zC, i64_w, i32_w]
                rfl
               refine pure_ (i := 5) (N := some 52) (v := ?_) (a' := ?_) (bA 15 511) rfl rfl (any_of HT_.out (by kernel_rfl)) (fun _ _ _ h => h) (Or.inl ⟨by rfl, ?_⟩) ?_ ?_
               rotate_left
               ·intro w'
                go_simp
                with_reducible rfl
               rotate_left
               ·simp only [Act.put, zA, zB, zC, i64_w, i32_w]
                rfl
               refine take_ (i := 9) (N := some 56) (v := ?_) (a' := ?_) (bA 15 1023) rfl rfl (take_ofW HT_.out HW_.out (by kernel_rfl)) (fun _ _ _ h => h) (Or.inl ⟨by rfl, ?_⟩) hHeld ?_ ?_
               rotate_left
               ·rintro w' ⟨s0, s1⟩
                go_simp
                with_reducible rfl
               rotate_left
               ·simp only [Act.put, zA, zB, zC, i64_w, i32_w]
                rfl
               refine pure_ (i := 10) (N := some 57) (v := ?_) (a' := ?_) (bA 15 2047) rfl rfl (any_of HT_.out (by kernel_rfl)) (fun _ _ _ h => h) (Or.inl ⟨by rfl, ?_⟩) ?_ ?_
               rotate_left
               ·intro w'
                go_simp
                with_reducible rfl
               rotate_left
               ·simp only [Act.put, zA, zB, zC, i64_w, i32_w]
                rfl
               refine pure_ (i := 11) (N := some 58) (v := ?_) (a' := ?_) (bA 15 4095) rfl rfl (any_of HT_.out (by kernel_rfl)) (fun _ _ _ h => h) (Or.inl ⟨by rfl, ?_⟩) ?_ ?_
               rotate_left
               ·intro w'
                go_simp
                with_reducible rfl
               rotate_left
               ·simp only [Act.put, zA, zB, zC, i64_w, i32_w]
                rfl
               refine last_ (i := 12) (N := some 59) (bA 15 8191) rfl rfl (one_of HT_.out (by kernel_rfl)) (by decide) (fun K hK => ?_)
               refine value_ (w1 := ?_) (v := ?_) (by rfl) rfl ?_ ?_
               rotate_left 2
               ·go_simp
                constructor
                ·rfl
                ·rfl
               refine hK.out _ _ ?_
               clear hK K
               refine norm_ (a' := ?_) ?_ ?_
               rotate_left
               ·show Act.put _ (some 59) _ = _
                simp only [Act.put, zA, zB, zC, i64_w, i32_w]
                rfl
               refine last_ (i := 13) (N := some 60) (bA 15 16383) rfl rfl (one_of HT_.out (by kernel_rfl)) (by decide) (fun K hK => ?_)
               refine Kd.R_append_step k63 (w0 := w) w.heap.size (by rfl) (.tmp 47) (.tmp 59) 22 63 (.agg #[(.string ⟨#[]⟩), (.string ⟨#[]⟩)]) 32 rfl Tryd.underlying22 info63 rfl (by decide) (by omega) u8 x8_2 (⟨(rdOf ByteArray.empty t320 x9_2).extract 65 (rdOf ByteArray.empty t320 x9_2).size, (rdOf ByteArray.empty t320 x9_2).extract 0 64⟩ : S63) [.string ((rdOf ByteArray.empty t320 x9_2).extract 65 (rdOf ByteArray.empty t320 x9_2).size), .string ((rdOf ByteArray.empty t320 x9_2).extract 0 64)] (fun _ => True) (fun _ => False) rfl rfl ?aP (fun _ hk => hk.elim) ?aF ?aO ?aB ?aS ?aL ?_
               (case aP => exact k63_mkM _ _ _ (⟨(rdOf ByteArray.empty t320 x9_2).extract 65 (rdOf ByteArray.empty t320 x9_2).size, (rdOf ByteArray.empty t320 x9_2).extract 0 64⟩ : S63))
               (case aB => exact (by repeat (first | (with_reducible first | exact HB.out | apply bal | apply pbN | apply bd1) | exact HB.out)))
               (case aF => exact (fun _ _ => trivial))
               (case aO => exact (by (with_reducible repeat (first | apply Kd.R_alloc | apply Kd.R_drewN | apply Kd.R_drew)); exact HO_8.out))
               (case aS => exact (below_size (by repeat (first | (with_reducible first | exact HB.out | apply bal | apply pbN | apply bd1) | exact HB.out))))
               (case aL => have := LMc20.out; omega)
               intro v330 w22 ho hb hg hat
               rw [<- Ny329.out] at ho
               have n0_ := Asd.mk (Kd.R_over' (by (with_reducible repeat (first | apply Kd.R_alloc | apply Kd.R_drewN | apply Kd.R_drew)); exact HO_5.out) (Kd.R_typed (by (with_reducible repeat (first | apply Kd.R_alloc | apply Kd.R_drewN | apply Kd.R_drew)); exact HO_8.out)) (by decide) hg)
               have n1_ := Asd.mk (hb)
               have n2_ := Asd.mk (ho)
               clear HO_5
               clear HB
               clear HO_8
               have HO_5 := n0_
               have HB := n1_
               have HO331 := n2_
               clear n0_ n1_ n2_
               clear ho hb hg hat
               refine hK.out _ _ ?_
               clear hK K
               refine norm_ (a' := ?_) ?_ ?_
               rotate_left
               ·show Act.put _ (some 60) _ = _
                simp only [Act.put, zA, zB, zC, i64_w, i32_w]
                rfl
               refine pure_ (i := 14) (N := some 8) (v := ?_) (a' := ?_) (bA 15 32767) rfl rfl (any_of HT_.out (by kernel_rfl)) (fun _ _ _ h => h) (Or.inl ⟨by rfl, ?_⟩) ?_ ?_
               rotate_left
               ·intro w'
                go_simp
                with_reducible rfl
               rotate_left
               ·simp only [Act.put, zA, zB, zC, i64_w, i32_w]
                rfl
               refine done_ (done_of HT_.out (by kernel_rfl)) ?_
               try go_wp2
               go_roundg k2
               case measure => have := HJ2.out; have := HK2.out; omega
               case rel => exact ⟨(y329), (wrap64 (x9_2 + 1)), (by first | rfl | (simp; done) | (simp [*]; done)), H', ⟨by have := HJ2.out; have := HK2.out; omega⟩, ⟨by (with_reducible repeat (first | apply Kd.R_alloc | apply Kd.R_drewN | apply Kd.R_drew)); exact HO_5.out⟩, ⟨by (with_reducible repeat (first | apply Kd.R_alloc | apply Kd.R_drewN | apply Kd.R_drew)); exact HO331.out⟩, ⟨by repeat (first | (with_reducible first | exact HB.out | apply bal | apply pbN | apply bd1) | exact HB.out)⟩⟩
              ·rw [if_neg c20] at H
               exact absurd H (by simp)
             ·rw [if_neg c19] at H
              exact absurd H (by simp)
            ·rw [if_neg c18] at H
             exact absurd H (by simp)
           ·rw [if_neg c17] at H
            exact absurd H (by simp)
         ·rw [if_neg c15] at H
          exact absurd H (by simp)
        ·rw [if_neg c14] at H
         have c14b0 : decide (x9_2 < (t320.length : Int)) = false := decide_eq_false c14
         clear c14
         replace H := Option.bind_eq_some_iff.mp H
         obtain ⟨⟨t332, t333⟩, A230, H⟩ := H
         replace H : (if t333 = true then ((q5_Same.f k2 t332 l0).bind fun t336 => (if t336 = true then (some (((rdOf ByteArray.empty t320 0).extract 14 (rdOf ByteArray.empty t320 0).size), x8_2, true)) else (some ((⟨#[]⟩ : ByteArray), ([] : List (S63)), false)))) else (some ((⟨#[]⟩ : ByteArray), ([] : List (S63)), false))) = some (r1, r2, r3) := H
         have A23 := Asd.mk A230
         clear A230
         by_cases c24 : t333 = true
         ·subst c24
          have H1 : ((q5_Same.f k2 t332 l0).bind fun t336 => (if t336 = true then (some (((rdOf ByteArray.empty t320 0).extract 14 (rdOf ByteArray.empty t320 0).size), x8_2, true)) else (some ((⟨#[]⟩ : ByteArray), ([] : List (S63)), false)))) = some (r1, r2, r3) := by rw [if_pos rfl] at H; exact H
          clear H
          have H := H1
          clear H1
          replace H := Option.bind_eq_some_iff.mp H
          obtain ⟨t336, A250, H⟩ := H
          replace H : (if t336 = true then (some (((rdOf ByteArray.empty t320 0).extract 14 (rdOf ByteArray.empty t320 0).size), x8_2, true)) else (some ((⟨#[]⟩ : ByteArray), ([] : List (S63)), false))) = some (r1, r2, r3) := H
          have A25 := Asd.mk A250
          clear A250
          by_cases c26 : t336 = true
          ·subst c26
           have H1 : (some (((rdOf ByteArray.empty t320 0).extract 14 (rdOf ByteArray.empty t320 0).size), x8_2, true)) = some (r1, r2, r3) := by rw [if_pos rfl] at H; exact H
           clear H
           have H := H1
           clear H1
           simp only [Option.some.injEq, Prod.mk.injEq] at H
           obtain ⟨rfl, rfl, rfl⟩ := H
           obtain ⟨Ao27, co27, eo27⟩ := Kd.R_slice HO_8.out
           subst eo27
           go_wp2_with (first | ((with_reducible refine gate_callee (f := 14) rfl ?_); refine goesL_ (some 64) rfl rfl Tryd.func14 (by kernel_rfl) rfl #[.string ((rdOf ByteArray.empty t320 0).extract 14 (rdOf ByteArray.empty t320 0).size), .slice Ao27 x8_2.length co27] rfl (by (try simp only [List.map_toArray, List.map_cons, List.map_nil]); first | done | rfl | (simp only [List.length_drop, List.length_take]; rfl)) ?_; (with_reducible refine (q6_Told.calls k2 ((rdOf ByteArray.empty t320 0).extract 14 (rdOf ByteArray.empty t320 0).size) _ _ x8_2 t332 true _ ?side1 ?side2 A23.out).mono ?_); (case side1 => repeat (first | exact (Kd.R_reads' HO_8.out).2.2 | (with_reducible refine Kd.C_alloc ?_ _) | (with_reducible refine Kd.C_drewN ?_ _) | (with_reducible refine Kd.C_drew ?_))); (case side2 => exact (Kd.R_reads' HO_8.out).2.1); rintro e w28 ⟨v334, rfl, ho0, hb⟩; refine ⟨_, rfl, ?_⟩; have n0_ := Asd.mk (Kd.R_below (by (with_reducible repeat (first | apply Kd.R_alloc | apply Kd.R_drewN | apply Kd.R_drew)); exact HO_5.out) hb); have n1_ := Asd.mk (Kd.R_below (by (with_reducible repeat (first | apply Kd.R_alloc | apply Kd.R_drewN | apply Kd.R_drew)); exact HO_8.out) hb); have n2_ := Asd.mk (Kd.R_lower ho0 (below_size (by repeat (first | (with_reducible first | exact HB.out | apply bal | apply pbN | apply bd1) | exact HB.out)))); have n3_ := Asd.mk (below_step (by repeat (first | (with_reducible first | exact HB.out | apply bal | apply pbN | apply bd1) | exact HB.out)) hb); clear HO_5; clear HO_8; clear HB; have HO_5 := n0_; have HO_8 := n1_; have HO335 := n2_; have HB := n3_; clear n0_ n1_ n2_ n3_; (try clear hb); (try clear hb2); (try clear hk); (try clear hi); (try clear ho0); obtain ⟨Ao29, co29, eo29⟩ := Kd.R_slice HO335.out; subst eo29) | (go_at_call 19; (with_reducible refine (q5_Same.calls k2 _ _ t332 _ _ l0 true _ ?side1 ?side2 ?side3 ?side4 A25.out).mono ?_); (case side1 => repeat (first | exact (Kd.R_reads' HO335.out).2.2 | (with_reducible refine Kd.C_alloc ?_ _) | (with_reducible refine Kd.C_drewN ?_ _) | (with_reducible refine Kd.C_drew ?_))); (case side2 => exact (Kd.R_reads' HO335.out).2.1); (case side3 => repeat (first | exact (Kd.C_below HR0.out HB.out) | (with_reducible refine Kd.C_alloc ?_ _) | (with_reducible refine Kd.C_drewN ?_ _) | (with_reducible refine Kd.C_drew ?_))); (case side4 => exact HC0.out); rintro e w' ⟨rfl, ⟨nd, rfl⟩⟩))
           go_ret3
           exact ⟨_, by first | rfl | (simp [errW_none, errW_some] <;> rfl) | (simp [*, errW_none, errW_some] <;> rfl), by (with_reducible repeat (first | apply Kd.R_alloc | apply Kd.R_drewN | apply Kd.R_drew)); exact HO_8.out, by repeat (first | (with_reducible first | exact HB.out | apply bal | apply pbN | apply bd1) | exact HB.out)⟩
          ·replace c26 := Bool.eq_false_iff.mpr c26
           subst c26
           have H1 : (some ((⟨#[]⟩ : ByteArray), ([] : List (S63)), false)) = some (r1, r2, r3) := by rw [if_neg (show ¬ (false = true) by decide)] at H; exact H
           clear H
           have H := H1
           clear H1
           simp only [Option.some.injEq, Prod.mk.injEq] at H
           obtain ⟨rfl, rfl, rfl⟩ := H
           obtain ⟨Ao30, co30, eo30⟩ := Kd.R_slice HO_8.out
           subst eo30
           go_wp2_with (first | ((with_reducible refine gate_callee (f := 14) rfl ?_); refine goesL_ (some 64) rfl rfl Tryd.func14 (by kernel_rfl) rfl #[.string ((rdOf ByteArray.empty t320 0).extract 14 (rdOf ByteArray.empty t320 0).size), .slice Ao30 x8_2.length co30] rfl (by (try simp only [List.map_toArray, List.map_cons, List.map_nil]); first | done | rfl | (simp only [List.length_drop, List.length_take]; rfl)) ?_; (with_reducible refine (q6_Told.calls k2 ((rdOf ByteArray.empty t320 0).extract 14 (rdOf ByteArray.empty t320 0).size) _ _ x8_2 t332 true _ ?side1 ?side2 A23.out).mono ?_); (case side1 => repeat (first | exact (Kd.R_reads' HO_8.out).2.2 | (with_reducible refine Kd.C_alloc ?_ _) | (with_reducible refine Kd.C_drewN ?_ _) | (with_reducible refine Kd.C_drew ?_))); (case side2 => exact (Kd.R_reads' HO_8.out).2.1); rintro e w31 ⟨v334, rfl, ho0, hb⟩; refine ⟨_, rfl, ?_⟩; have n0_ := Asd.mk (Kd.R_below (by (with_reducible repeat (first | apply Kd.R_alloc | apply Kd.R_drewN | apply Kd.R_drew)); exact HO_5.out) hb); have n1_ := Asd.mk (Kd.R_below (by (with_reducible repeat (first | apply Kd.R_alloc | apply Kd.R_drewN | apply Kd.R_drew)); exact HO_8.out) hb); have n2_ := Asd.mk (Kd.R_lower ho0 (below_size (by repeat (first | (with_reducible first | exact HB.out | apply bal | apply pbN | apply bd1) | exact HB.out)))); have n3_ := Asd.mk (below_step (by repeat (first | (with_reducible first | exact HB.out | apply bal | apply pbN | apply bd1) | exact HB.out)) hb); clear HO_5; clear HO_8; clear HB; have HO_5 := n0_; have HO_8 := n1_; have HO335 := n2_; have HB := n3_; clear n0_ n1_ n2_ n3_; (try clear hb); (try clear hb2); (try clear hk); (try clear hi); (try clear ho0); obtain ⟨Ao32, co32, eo32⟩ := Kd.R_slice HO335.out; subst eo32) | (go_at_call 19; (with_reducible refine (q5_Same.calls k2 _ _ t332 _ _ l0 false _ ?side1 ?side2 ?side3 ?side4 A25.out).mono ?_); (case side1 => repeat (first | exact (Kd.R_reads' HO335.out).2.2 | (with_reducible refine Kd.C_alloc ?_ _) | (with_reducible refine Kd.C_drewN ?_ _) | (with_reducible refine Kd.C_drew ?_))); (case side2 => exact (Kd.R_reads' HO335.out).2.1); (case side3 => repeat (first | exact (Kd.C_below HR0.out HB.out) | (with_reducible refine Kd.C_alloc ?_ _) | (with_reducible refine Kd.C_drewN ?_ _) | (with_reducible refine Kd.C_drew ?_))); (case side4 => exact HC0.out); rintro e w' ⟨rfl, ⟨nd, rfl⟩⟩))
           go_ret3
           exact ⟨_, by first | rfl | (simp [errW_none, errW_some] <;> rfl) | (simp [*, errW_none, errW_some] <;> rfl), by first | exact Kd.R_nil _ _ _ _ _ | exact Kd.N_nil _ _ _ _ _ | exact Kd.V_nil _ _ _ _ _ | exact Kd.Q_nil _ _ _ _ _ | exact Kd.S_nil _ _ _ _ _, by repeat (first | (with_reducible first | exact HB.out | apply bal | apply pbN | apply bd1) | exact HB.out)⟩
         ·replace c24 := Bool.eq_false_iff.mpr c24
          subst c24
          have H1 : (some ((⟨#[]⟩ : ByteArray), ([] : List (S63)), false)) = some (r1, r2, r3) := by rw [if_neg (show ¬ (false = true) by decide)] at H; exact H
          clear H
          have H := H1
          clear H1
          simp only [Option.some.injEq, Prod.mk.injEq] at H
          obtain ⟨rfl, rfl, rfl⟩ := H
          obtain ⟨Ao33, co33, eo33⟩ := Kd.R_slice HO_8.out
          subst eo33
          go_wp2_with (first | ((with_reducible refine gate_callee (f := 14) rfl ?_); refine goesL_ (some 64) rfl rfl Tryd.func14 (by kernel_rfl) rfl #[.string ((rdOf ByteArray.empty t320 0).extract 14 (rdOf ByteArray.empty t320 0).size), .slice Ao33 x8_2.length co33] rfl (by (try simp only [List.map_toArray, List.map_cons, List.map_nil]); first | done | rfl | (simp only [List.length_drop, List.length_take]; rfl)) ?_; (with_reducible refine (q6_Told.calls k2 ((rdOf ByteArray.empty t320 0).extract 14 (rdOf ByteArray.empty t320 0).size) _ _ x8_2 t332 false _ ?side1 ?side2 A23.out).mono ?_); (case side1 => repeat (first | exact (Kd.R_reads' HO_8.out).2.2 | (with_reducible refine Kd.C_alloc ?_ _) | (with_reducible refine Kd.C_drewN ?_ _) | (with_reducible refine Kd.C_drew ?_))); (case side2 => exact (Kd.R_reads' HO_8.out).2.1); rintro e w34 ⟨v334, rfl, ho0, hb⟩; refine ⟨_, rfl, ?_⟩; have n0_ := Asd.mk (Kd.R_below (by (with_reducible repeat (first | apply Kd.R_alloc | apply Kd.R_drewN | apply Kd.R_drew)); exact HO_5.out) hb); have n1_ := Asd.mk (Kd.R_below (by (with_reducible repeat (first | apply Kd.R_alloc | apply Kd.R_drewN | apply Kd.R_drew)); exact HO_8.out) hb); have n2_ := Asd.mk (Kd.R_lower ho0 (below_size (by repeat (first | (with_reducible first | exact HB.out | apply bal | apply pbN | apply bd1) | exact HB.out)))); have n3_ := Asd.mk (below_step (by repeat (first | (with_reducible first | exact HB.out | apply bal | apply pbN | apply bd1) | exact HB.out)) hb); clear HO_5; clear HO_8; clear HB; have HO_5 := n0_; have HO_8 := n1_; have HO335 := n2_; have HB := n3_; clear n0_ n1_ n2_ n3_; (try clear hb); (try clear hb2); (try clear hk); (try clear hi); (try clear ho0)))
          go_ret3
          exact ⟨_, by first | rfl | (simp [errW_none, errW_some] <;> rfl) | (simp [*, errW_none, errW_some] <;> rfl), by first | exact Kd.R_nil _ _ _ _ _ | exact Kd.N_nil _ _ _ _ _ | exact Kd.V_nil _ _ _ _ _ | exact Kd.Q_nil _ _ _ _ _ | exact Kd.S_nil _ _ _ _ _, by repeat (first | (with_reducible first | exact HB.out | apply bal | apply pbN | apply bd1) | exact HB.out)⟩
     ·rw [if_neg c12] at H
      exact absurd H (by simp)
    ·rw [if_neg c11] at H
     exact absurd H (by simp)
end Go.Proofs.YtmmionafcmnfoaaDoor.Print
