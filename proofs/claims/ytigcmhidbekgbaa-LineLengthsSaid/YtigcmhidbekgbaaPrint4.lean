/- Functions of the program as plain functions, and proofs that the program's calls tell what these tell. Written by a program. -/
import Derived.Test.YtigcmhidbekgbaaPrint0
namespace Go.Proofs.Ytigcmhidbekgbaa.Print
open Go.RowKit Go.Proofs.YtigcmhidbekgbaaW.PrintWords Go.Proofs.YtigcmhidbekgbaaW.PrintLast Go.Proofs.YtigcmhidbekgbaaW.PrintMore Go.Proofs.Ytigcmhidbekgbaa.Conv
attribute [local go_sem] max2_int min2_int max_two min_two max_three min_three max_four min_four   -- for this text's walks alone
set_option linter.unusedVariables false
set_option linter.unusedSimpArgs false

/-! ### sacristylaw15_Great: function 10 -/
def sacristylaw15_Great.l0 : Nat → List (S38) → Int → Int → Option (Bool)
  | 0, _, _, _ => none
  | k + 1, x0, x3, x4 => if x4 < (x0.length : Int) then (if x3 < 20000 then (if 0 ≤ x4 then (sacristylaw15_Great.l0 k x0 (wrap64 (x3 + (mn (((rd_T38 x0 x4).f1).size : Int) 20000))) (wrap64 (x4 + 1))) else (none)) else (some (decide (x3 ≥ 20000)))) else (some (decide (x3 ≥ 20000)))
def sacristylaw15_Great.f (k : Nat) (l0 : List (S38)) : Option (Bool) := sacristylaw15_Great.l0 k l0 (l0.length : Int) 0
theorem sacristylaw15_Great.mono_l : ∀ k, (∀ y0 y1 y2, LeO (sacristylaw15_Great.l0 k y0 y1 y2) (sacristylaw15_Great.l0 (k + 1) y0 y1 y2))
  | 0 => fun _ _ _ r h => by simp [sacristylaw15_Great.l0] at h
  | k + 1 => by
    have ih0 := sacristylaw15_Great.mono_l k
    · intro y0 y1 y2
      unfold sacristylaw15_Great.l0
      repeat' first
      | (with_reducible exact ih0 _ _ _)
      | (with_reducible exact LeO.refl _)
      | (with_reducible exact LeO.none _)
      | (with_reducible refine LeO.ite ?_ ?_)
      | (with_reducible refine LeO.bind ?_ (fun _ => ?_))
      | exact ih0 _ _ _
      | exact LeO.none _
      | refine LeO.ite ?_ ?_
      | refine LeO.bind ?_ (fun _ => ?_)
theorem sacristylaw15_Great.mono : ∀ a0 k, LeO (sacristylaw15_Great.f k a0) (sacristylaw15_Great.f (k + 1) a0) := by
  intro a0 k
  have ih0 := sacristylaw15_Great.mono_l k
  unfold sacristylaw15_Great.f
  repeat' first
      | (with_reducible exact ih0 _ _ _)
      | (with_reducible exact LeO.refl _)
      | (with_reducible exact LeO.none _)
      | (with_reducible refine LeO.ite ?_ ?_)
      | (with_reducible refine LeO.bind ?_ (fun _ => ?_))
      | exact ih0 _ _ _
      | exact LeO.none _
      | refine LeO.ite ?_ ?_
      | refine LeO.bind ?_ (fun _ => ?_)
set_option maxHeartbeats 8000000 in
set_option maxRecDepth 100000 in
theorem sacristylaw15_Great.calls (k : Nat) (A0 : Option Addr) (c0 : Nat) (l0 : List (S38)) (r : Bool) (w : World) (hr0 : Kd.C k38 w A0 l0.length l0) (hc0 : l0.length ≤ c0) (h : sacristylaw15_Great.f k l0 = some r) :
    Calls Try.prog 10 #[.slice A0 l0.length c0] w fun e w' => e = .returned (.bool r) ∧ Below w.heap.size w w' := by
  have HR0 := Aside0.mk hr0
  have HC0 := Aside0.mk hc0
  clear hr0 hc0
  have HB := Aside0.mk (Below.refl w.heap.size w)
  have H : (sacristylaw15_Great.l0 k l0 (l0.length : Int) 0) = some r := h
  clear h
  have H' := Aside0.mk H
  clear H
  go_enter Try.func10, Try.ntmps10
  go_wp2
  go_loopg [3, 4] k (fun kq v3 v4 w' => ∃ (x3_1 : Int) (x4_1 : Int), v3 = .int .i64 x3_1 ∧ v4 = .int .i64 x4_1 ∧ Aside0 (sacristylaw15_Great.l0 kq l0 x3_1 x4_1 = some r) ∧ Aside0 (kq ≤ k) ∧ Aside0 (Below w.heap.size w w'))
  case atStart => exact ⟨((l0.length : Int)), (0), (by first | rfl | (simp; done) | (simp [*]; done)), (by first | rfl | (simp; done) | (simp [*]; done)), H', ⟨Nat.le_refl _⟩, ⟨by repeat (first | (with_reducible first | exact HB.out | apply below_alloc | apply pw_below_drewN | apply below_drew1) | exact HB.out)⟩⟩
  case round =>
    clear H'
    try clear c1
    obtain ⟨x3_1, x4_1, rfl, rfl, HA, HK1, HB⟩ := hrel
    cases gk with
    | zero => exact absurd HA.out (by simp [sacristylaw15_Great.l0])
    | succ k1 =>
      have H := HA.out
      clear HA
      simp only [sacristylaw15_Great.l0] at H
      by_cases c2 : x4_1 < (l0.length : Int)
      · rw [if_pos c2] at H
        have c2b0 : decide (x4_1 < (l0.length : Int)) = true := decide_eq_true c2
        clear c2
        by_cases c3 : x3_1 < 20000
        · rw [if_pos c3] at H
          have c3b0 : decide (x3_1 < 20000) = true := decide_eq_true c3
          clear c3
          by_cases c4 : 0 ≤ x4_1
          · rw [if_pos c4] at H
            have c4b0 : decide (0 ≤ x4_1) = true := decide_eq_true c4
            clear c4
            obtain ⟨ji5, hji5⟩ : ∃ j_ : Int, (mn (((rd_T38 l0 x4_1).f1).size : Int) 20000) = j_ := ⟨_, rfl⟩
            replace H : (sacristylaw15_Great.l0 k1 l0 (wrap64 (x3_1 + (ji5))) (wrap64 (x4_1 + 1))) = some r := by first | (rw [hji5] at H; exact H) | (simp only [hji5] at H ⊢; exact H)
            have hji5_ : (if 20000 < (((rd_T38 l0 x4_1).f1).size : Int) then 20000 else (((rd_T38 l0 x4_1).f1).size : Int)) = ji5 := hji5
            have H' := Aside0.mk H
            clear H
            have p120 : 0 ≤ (x4_1 : Int) := of_decide_eq_true (by first | (with_reducible assumption) | assumption)
            have q120 : x4_1 < (l0.length : Int) := of_decide_eq_true (by first | (with_reducible assumption) | assumption)
            obtain ⟨ad120, e120, hx120_0, hx120_1⟩ := at_T38 HR0.out x4_1 p120 q120
            cases e120
            replace hx120_0 := (HB.out.cell (World.block_lt_of_cell? w _ hx120_0)).trans hx120_0
            replace hx120_1 := (HB.out.cell (World.block_lt_of_cell? w _ hx120_1)).trans hx120_1
            replace p120 := eq_true p120
            replace q120 := eq_true q120
            go_wp2
            go_roundg k1
            case measure => have := HK1.out; omega
            case rel => exact ⟨(wrap64 (x3_1 + (ji5))), (wrap64 (x4_1 + 1)), (by first | rfl | (simp; done) | (simp only [← hji5] <;> (first | rfl | simp)) | (simp [*]; done)), (by first | rfl | (simp; done) | (simp [*]; done)), H', ⟨by have := HK1.out; omega⟩, ⟨by repeat (first | (with_reducible first | exact HB.out | apply below_alloc | apply pw_below_drewN | apply below_drew1) | exact HB.out)⟩⟩
          · rw [if_neg c4] at H
            exact absurd H (by simp)
        · rw [if_neg c3] at H
          have c3b0 : decide (x3_1 < 20000) = false := decide_eq_false c3
          clear c3
          obtain rfl := Option.some.inj H
          go_wp2
          go_ret
          exact ⟨by first | rfl | (simp [errW_none, errW_some] <;> rfl) | (simp [*, errW_none, errW_some] <;> rfl), by repeat (first | (with_reducible first | exact HB.out | apply below_alloc | apply pw_below_drewN | apply below_drew1) | exact HB.out)⟩
      · rw [if_neg c2] at H
        have c2b0 : decide (x4_1 < (l0.length : Int)) = false := decide_eq_false c2
        clear c2
        obtain rfl := Option.some.inj H
        go_wp2
        go_ret
        exact ⟨by first | rfl | (simp [errW_none, errW_some] <;> rfl) | (simp [*, errW_none, errW_some] <;> rfl), by repeat (first | (with_reducible first | exact HB.out | apply below_alloc | apply pw_below_drewN | apply below_drew1) | exact HB.out)⟩

/-! ### sacristyref15_Put: function 12 -/
mutual
def sacristyref15_Put.l0 : Nat → List (S38) → ByteArray → List Int → Int → Option (List Int × Int)
  | 0, _, _, _, _ => none
  | k + 1, x0, x4, x5, x6 => if x6 < (x0.length : Int) then (if 0 ≤ x6 then (if (((rd_T38 x0 x6).f0) != ((((rd_T38 x0 x6).f1).size : Int) == 0)) = true then (sacristyref15_Put.j1 k x0 x4 x5 x6 (((rd_T38 x0 x6).f1).size : Int) true) else (sacristyref15_Put.j1 k x0 x4 x5 x6 (((rd_T38 x0 x6).f1).size : Int) (decide ((((rd_T38 x0 x6).f1).size : Int) > 4000)))) else (none)) else (some (x5, 0))
def sacristyref15_Put.j1 : Nat → List (S38) → ByteArray → List Int → Int → Int → Bool → Option (List Int × Int)
  | 0, _, _, _, _, _, _ => none
  | k + 1, x0, x4, x5, x6, x7, x31 => if x31 = true then (some (([] : List Int), 1)) else (if 0 ≤ x6 then (if x6 < (x0.length : Int) then (if (rd_T38 x0 x6).f0 = true then (if x5.length + 4 < 140737488355328 then (sacristyref15_Put.l0 k x0 x4 (x5 ++ bytesOf (⟨#[48, 48, 48, 48]⟩ : ByteArray)) (wrap64 (x6 + 1))) else (none)) else (if 0 ≤ (wrap64 (Int.tdiv (wrap64 (x7 + 4)) 4096)) then (if (wrap64 (Int.tdiv (wrap64 (x7 + 4)) 4096)) < (x4.size : Int) then (if 0 ≤ (Int.tmod (wrap64 (Int.tdiv (wrap64 (x7 + 4)) 256)) 16) then (if (Int.tmod (wrap64 (Int.tdiv (wrap64 (x7 + 4)) 256)) 16) < (x4.size : Int) then (if 0 ≤ (Int.tmod (wrap64 (Int.tdiv (wrap64 (x7 + 4)) 16)) 16) then (if (Int.tmod (wrap64 (Int.tdiv (wrap64 (x7 + 4)) 16)) 16) < (x4.size : Int) then (if 0 ≤ (Int.tmod (wrap64 (x7 + 4)) 16) then (if (Int.tmod (wrap64 (x7 + 4)) 16) < (x4.size : Int) then ((some (([bt x4 (wrap64 (Int.tdiv (wrap64 (x7 + 4)) 4096)), bt x4 (Int.tmod (wrap64 (Int.tdiv (wrap64 (x7 + 4)) 256)) 16), bt x4 (Int.tmod (wrap64 (Int.tdiv (wrap64 (x7 + 4)) 16)) 16), bt x4 (Int.tmod (wrap64 (x7 + 4)) 16)] : List Int) : List Int)).bind fun y127 => (if x5.length + y127.length < 140737488355328 then ((some (x5 ++ y127 : List Int)).bind fun y130 => (if y130.length + ((rd_T38 x0 x6).f1).size < 140737488355328 then (sacristyref15_Put.l0 k x0 x4 (y130 ++ bytesOf ((rd_T38 x0 x6).f1)) (wrap64 (x6 + 1))) else (none))) else (none))) else (none)) else (none)) else (none)) else (none)) else (none)) else (none)) else (none)) else (none))) else (none)) else (none))
end
def sacristyref15_Put.f (k : Nat) (l0 : List (S38)) : Option (List Int × Int) := sacristyref15_Put.l0 k l0 (⟨#[48, 49, 50, 51, 52, 53, 54, 55, 56, 57, 97, 98, 99, 100, 101, 102]⟩ : ByteArray) ([] : List Int) 0
theorem sacristyref15_Put.mono_l : ∀ k, (∀ y0 y1 y2 y3, LeO (sacristyref15_Put.l0 k y0 y1 y2 y3) (sacristyref15_Put.l0 (k + 1) y0 y1 y2 y3)) ∧ (∀ y0 y1 y2 y3 y4 y5, LeO (sacristyref15_Put.j1 k y0 y1 y2 y3 y4 y5) (sacristyref15_Put.j1 (k + 1) y0 y1 y2 y3 y4 y5))
  | 0 => ⟨fun _ _ _ _ r h => by simp [sacristyref15_Put.l0] at h, fun _ _ _ _ _ _ r h => by simp [sacristyref15_Put.j1] at h⟩
  | k + 1 => by
    obtain ⟨ih0, ih1⟩ := sacristyref15_Put.mono_l k
    refine ⟨?_, ?_⟩
    · intro y0 y1 y2 y3
      unfold sacristyref15_Put.l0
      repeat' first
      | (with_reducible exact ih0 _ _ _ _)
      | (with_reducible exact ih1 _ _ _ _ _ _)
      | (with_reducible exact LeO.refl _)
      | (with_reducible exact LeO.none _)
      | (with_reducible refine LeO.ite ?_ ?_)
      | (with_reducible refine LeO.bind ?_ (fun _ => ?_))
      | exact ih0 _ _ _ _
      | exact ih1 _ _ _ _ _ _
      | exact LeO.none _
      | refine LeO.ite ?_ ?_
      | refine LeO.bind ?_ (fun _ => ?_)
    · intro y0 y1 y2 y3 y4 y5
      unfold sacristyref15_Put.j1
      repeat' first
      | (with_reducible exact ih0 _ _ _ _)
      | (with_reducible exact ih1 _ _ _ _ _ _)
      | (with_reducible exact LeO.refl _)
      | (with_reducible exact LeO.none _)
      | (with_reducible refine LeO.ite ?_ ?_)
      | (with_reducible refine LeO.bind ?_ (fun _ => ?_))
      | exact ih0 _ _ _ _
      | exact ih1 _ _ _ _ _ _
      | exact LeO.none _
      | refine LeO.ite ?_ ?_
      | refine LeO.bind ?_ (fun _ => ?_)
theorem sacristyref15_Put.mono : ∀ a0 k, LeO (sacristyref15_Put.f k a0) (sacristyref15_Put.f (k + 1) a0) := by
  intro a0 k
  obtain ⟨ih0, ih1⟩ := sacristyref15_Put.mono_l k
  unfold sacristyref15_Put.f
  repeat' first
      | (with_reducible exact ih0 _ _ _ _)
      | (with_reducible exact ih1 _ _ _ _ _ _)
      | (with_reducible exact LeO.refl _)
      | (with_reducible exact LeO.none _)
      | (with_reducible refine LeO.ite ?_ ?_)
      | (with_reducible refine LeO.bind ?_ (fun _ => ?_))
      | exact ih0 _ _ _ _
      | exact ih1 _ _ _ _ _ _
      | exact LeO.none _
      | refine LeO.ite ?_ ?_
      | refine LeO.bind ?_ (fun _ => ?_)
def sacristyref15_Put.T12 : Bool × List (List Nat × List Nat) := (true, [([], []), ([], []), ([], []), ([2], [2]), ([1, 3], [1, 3]), ([], []), ([], []), ([6], [6]), ([7], [7]), ([5, 8], [5, 8]), ([], []), ([], []), ([11], [11]), ([12], [12]), ([10, 13], [10, 13]), ([], []), ([], []), ([16], [16]), ([15, 17], [15, 17]), ([4, 9, 14, 18], [4, 9, 14, 18]), ([0, 19], [0, 19]), ([20, 20, 0, 1, 2, 3, 4, 5, 6, 7, 8, 9, 10, 11, 12, 13, 14, 15, 16, 17, 18, 19, 20], [0, 20])])
def sacristyref15_Put.B12 : List Nat := [0, 0, 0, 4, 14, 0, 0, 64, 192, 480, 0, 0, 2048, 6144, 15360, 0, 0, 65536, 229376, 524286, 1048575, 2097151]
theorem sacristyref15_Put.tab12 : rtab .any (opsOf Try.f12 12) = sacristyref15_Put.T12 := by kernel_rfl
theorem sacristyref15_Put.bits12 : waitsOk sacristyref15_Put.T12.2 sacristyref15_Put.B12 = true := by kernel_rfl
set_option maxHeartbeats 8000000 in
set_option maxRecDepth 100000 in
theorem sacristyref15_Put.calls (k : Nat) (A0 : Option Addr) (c0 : Nat) (l0 : List (S38)) (r1 : List Int) (r2 : Int) (w : World) (hr0 : Kd.C k38 w A0 l0.length l0) (hc0 : l0.length ≤ c0) (h : sacristyref15_Put.f k l0 = some (r1, r2)) :
    Calls Try.prog 12 #[.slice A0 l0.length c0] w fun e w' => ∃ v0_ : Value, e = .returned (.tuple #[v0_, .int .i64 r2]) ∧ Kd.R (Kd.int .u8) 5 w' w.heap.size (fun _ => True) v0_ r1 ∧ Below w.heap.size w w' := by
  have HR0 := Aside0.mk hr0
  have HC0 := Aside0.mk hc0
  clear hr0 hc0
  have HB := Aside0.mk (Below.refl w.heap.size w)
  have H : (sacristyref15_Put.l0 k l0 (⟨#[48, 49, 50, 51, 52, 53, 54, 55, 56, 57, 97, 98, 99, 100, 101, 102]⟩ : ByteArray) ([] : List Int) 0) = some (r1, r2) := h
  clear h
  have H' := Aside0.mk H
  clear H
  go_enter Try.func12, Try.ntmps12
  go_wp2
  go_loopg [5, 6] k (fun kq v5 v6 w' => ∃ (x5_1 : List Int) (x6_1 : Int), v6 = .int .i64 x6_1 ∧ Aside0 (sacristyref15_Put.l0 kq l0 (⟨#[48, 49, 50, 51, 52, 53, 54, 55, 56, 57, 97, 98, 99, 100, 101, 102]⟩ : ByteArray) x5_1 x6_1 = some (r1, r2)) ∧ Aside0 (kq ≤ k) ∧ Aside0 (Kd.R (Kd.int .u8) 5 w' w.heap.size (fun _ => True) v5 x5_1) ∧ Aside0 (Below w.heap.size w w'))
  case atStart => exact ⟨(([] : List Int)), (0), (by first | rfl | (simp; done) | (simp [*]; done)), H', ⟨Nat.le_refl _⟩, ⟨by first | exact Kd.R_nil _ _ _ _ _ | exact Kd.N_nil _ _ _ _ _ | exact Kd.V_nil _ _ _ _ _ | exact Kd.Q_nil _ _ _ _ _ | exact Kd.S_nil _ _ _ _ _⟩, ⟨by repeat (first | (with_reducible first | exact HB.out | apply below_alloc | apply pw_below_drewN | apply below_drew1) | exact HB.out)⟩⟩
  case round =>
    clear H'
    try clear c1
    obtain ⟨x5_1, x6_1, rfl, HA, HK1, HO_5, HB⟩ := hrel
    cases gk with
    | zero => exact absurd HA.out (by simp [sacristyref15_Put.l0])
    | succ k1 =>
      have H := HA.out
      clear HA
      simp only [sacristyref15_Put.l0] at H
      by_cases c2 : x6_1 < (l0.length : Int)
      · rw [if_pos c2] at H
        have c2b0 : decide (x6_1 < (l0.length : Int)) = true := decide_eq_true c2
        clear c2
        by_cases c3 : 0 ≤ x6_1
        · rw [if_pos c3] at H
          have c3b0 : decide (0 ≤ x6_1) = true := decide_eq_true c3
          clear c3
          have HC4 := Aside0.mk H
          clear H
          have p121 : 0 ≤ (x6_1 : Int) := of_decide_eq_true (by first | (with_reducible assumption) | assumption)
          have q121 : x6_1 < (l0.length : Int) := of_decide_eq_true (by first | (with_reducible assumption) | assumption)
          obtain ⟨ad121, e121, hx121_0, hx121_1⟩ := at_T38 HR0.out x6_1 p121 q121
          cases e121
          replace hx121_0 := (HB.out.cell (World.block_lt_of_cell? w _ hx121_0)).trans hx121_0
          replace hx121_1 := (HB.out.cell (World.block_lt_of_cell? w _ hx121_1)).trans hx121_1
          replace p121 := eq_true p121
          replace q121 := eq_true q121
          go_upto_region 7 with (fail)
          go_cut [31] (fun v31 wc => ∃ (kq : Nat) (x31_3 : Bool), v31 = .bool x31_3 ∧ Aside0 (sacristyref15_Put.j1 kq l0 (⟨#[48, 49, 50, 51, 52, 53, 54, 55, 56, 57, 97, 98, 99, 100, 101, 102]⟩ : ByteArray) x5_1 x6_1 (((rd_T38 l0 x6_1).f1).size : Int) x31_3 = some (r1, r2)) ∧ Aside0 (kq ≤ k1) ∧ Aside0 (Kd.R (Kd.int .u8) 5 wc w.heap.size (fun _ => True) u5 x5_1) ∧ Aside0 (Below w.heap.size w wc))
          case first =>
            have H := HC4.out
            clear HC4
            by_cases c5 : (((rd_T38 l0 x6_1).f0) != ((((rd_T38 l0 x6_1).f1).size : Int) == 0)) = true
            · rw [if_pos c5] at H
              have c5b0 : (((rd_T38 l0 x6_1).f0) != ((((rd_T38 l0 x6_1).f1).size : Int) == 0)) = true := c5
              (try (have c5b1 : decide (((rd_T38 l0 x6_1).f0) = ((((rd_T38 l0 x6_1).f1).size : Int) == 0)) = false := by simpa using c5))
              (try (have c5b2 : (((rd_T38 l0 x6_1).f0) == ((((rd_T38 l0 x6_1).f1).size : Int) == 0)) = false := by simpa using c5))
              (try (have c5b3 : ¬ (((rd_T38 l0 x6_1).f0) = ((((rd_T38 l0 x6_1).f1).size : Int) == 0)) := by simpa using c5))
              clear c5
              (first | rw [c5b0] | (simp only [i64_w, i32_w]; rw [c5b0]) | skip)
              have H' := Aside0.mk H
              clear H
              have p122 : 0 ≤ (x6_1 : Int) := of_decide_eq_true (by first | (with_reducible assumption) | assumption)
              have q122 : x6_1 < (l0.length : Int) := of_decide_eq_true (by first | (with_reducible assumption) | assumption)
              obtain ⟨ad122, e122, hx122_0, hx122_1⟩ := at_T38 HR0.out x6_1 p122 q122
              obtain rfl : ad121 = ad122 := (by injection e122)
              replace hx122_0 := (HB.out.cell (World.block_lt_of_cell? w _ hx122_0)).trans hx122_0
              replace hx122_1 := (HB.out.cell (World.block_lt_of_cell? w _ hx122_1)).trans hx122_1
              replace p122 := eq_true p122
              replace q122 := eq_true q122
              go_wp2
              go_meet
              case rel => exact ⟨_, (true), (by first | rfl | (simp; done) | (simp [*]; done)), H', ⟨by have := HK1.out; first | omega | exact Nat.le_refl _⟩, ⟨by (with_reducible repeat (first | apply Kd.R_alloc | apply Kd.R_drewN | apply Kd.R_drew)); exact HO_5.out⟩, ⟨by repeat (first | (with_reducible first | exact HB.out | apply below_alloc | apply pw_below_drewN | apply below_drew1) | exact HB.out)⟩⟩
            · rw [if_neg c5] at H
              have c5b0 : (((rd_T38 l0 x6_1).f0) != ((((rd_T38 l0 x6_1).f1).size : Int) == 0)) = false := by simpa using c5
              (try (have c5b1 : decide (((rd_T38 l0 x6_1).f0) = ((((rd_T38 l0 x6_1).f1).size : Int) == 0)) = true := by simpa using c5))
              (try (have c5b2 : (((rd_T38 l0 x6_1).f0) == ((((rd_T38 l0 x6_1).f1).size : Int) == 0)) = true := by simpa using c5))
              clear c5
              (first | rw [c5b0] | (simp only [i64_w, i32_w]; rw [c5b0]) | skip)
              have H' := Aside0.mk H
              clear H
              have p122 : 0 ≤ (x6_1 : Int) := of_decide_eq_true (by first | (with_reducible assumption) | assumption)
              have q122 : x6_1 < (l0.length : Int) := of_decide_eq_true (by first | (with_reducible assumption) | assumption)
              obtain ⟨ad122, e122, hx122_0, hx122_1⟩ := at_T38 HR0.out x6_1 p122 q122
              obtain rfl : ad121 = ad122 := (by injection e122)
              replace hx122_0 := (HB.out.cell (World.block_lt_of_cell? w _ hx122_0)).trans hx122_0
              replace hx122_1 := (HB.out.cell (World.block_lt_of_cell? w _ hx122_1)).trans hx122_1
              replace p122 := eq_true p122
              replace q122 := eq_true q122
              go_wp2
              go_meet
              case rel => exact ⟨_, (decide ((((rd_T38 l0 x6_1).f1).size : Int) > 4000)), (by first | rfl | (simp; done) | (simp [*]; done)), H', ⟨by have := HK1.out; first | omega | exact Nat.le_refl _⟩, ⟨by (with_reducible repeat (first | apply Kd.R_alloc | apply Kd.R_drewN | apply Kd.R_drew)); exact HO_5.out⟩, ⟨by repeat (first | (with_reducible first | exact HB.out | apply below_alloc | apply pw_below_drewN | apply below_drew1) | exact HB.out)⟩⟩
          case rest =>
            clear HC4
            try clear c1
            try clear p1
            try clear q1
            try clear hx1
            try clear c2
            try clear c2b0
            try clear p2
            try clear c3
            try clear c3b0
            try clear c5
            try clear c5b0
            try clear c5b1
            try clear c5b2
            try clear hx121_0
            try clear hx121_1
            try clear hx122_0
            try clear hx122_1
            try clear p121
            try clear p122
            try clear q121
            try clear q122
            obtain ⟨kq, x31_3, rfl, HA, HJ3, HO_5, HB⟩ := hcut
            cases kq with
            | zero => exact absurd HA.out (by simp [sacristyref15_Put.j1])
            | succ kj3 =>
              have H := HA.out
              clear HA
              simp only [sacristyref15_Put.j1] at H
              by_cases c6 : x31_3 = true
              · subst c6
                have H1 : (some (([] : List Int), 1)) = some (r1, r2) := by rw [if_pos rfl] at H; exact H
                clear H
                have H := H1
                clear H1
                simp only [Option.some.injEq, Prod.mk.injEq] at H
                obtain ⟨rfl, rfl⟩ := H
                go_wp2
                go_ret2
                exact ⟨_, by first | rfl | (simp [errW_none, errW_some] <;> rfl) | (simp [*, errW_none, errW_some] <;> rfl), by first | exact Kd.R_nil _ _ _ _ _ | exact Kd.N_nil _ _ _ _ _ | exact Kd.V_nil _ _ _ _ _ | exact Kd.Q_nil _ _ _ _ _ | exact Kd.S_nil _ _ _ _ _, by repeat (first | (with_reducible first | exact HB.out | apply below_alloc | apply pw_below_drewN | apply below_drew1) | exact HB.out)⟩
              · replace c6 := Bool.eq_false_iff.mpr c6
                subst c6
                have H1 : (if 0 ≤ x6_1 then (if x6_1 < (l0.length : Int) then (if (rd_T38 l0 x6_1).f0 = true then (if x5_1.length + 4 < 140737488355328 then (sacristyref15_Put.l0 kj3 l0 (⟨#[48, 49, 50, 51, 52, 53, 54, 55, 56, 57, 97, 98, 99, 100, 101, 102]⟩ : ByteArray) (x5_1 ++ bytesOf (⟨#[48, 48, 48, 48]⟩ : ByteArray)) (wrap64 (x6_1 + 1))) else (none)) else (if 0 ≤ (wrap64 (Int.tdiv (wrap64 ((((rd_T38 l0 x6_1).f1).size : Int) + 4)) 4096)) then (if (wrap64 (Int.tdiv (wrap64 ((((rd_T38 l0 x6_1).f1).size : Int) + 4)) 4096)) < ((⟨#[48, 49, 50, 51, 52, 53, 54, 55, 56, 57, 97, 98, 99, 100, 101, 102]⟩ : ByteArray).size : Int) then (if 0 ≤ (Int.tmod (wrap64 (Int.tdiv (wrap64 ((((rd_T38 l0 x6_1).f1).size : Int) + 4)) 256)) 16) then (if (Int.tmod (wrap64 (Int.tdiv (wrap64 ((((rd_T38 l0 x6_1).f1).size : Int) + 4)) 256)) 16) < ((⟨#[48, 49, 50, 51, 52, 53, 54, 55, 56, 57, 97, 98, 99, 100, 101, 102]⟩ : ByteArray).size : Int) then (if 0 ≤ (Int.tmod (wrap64 (Int.tdiv (wrap64 ((((rd_T38 l0 x6_1).f1).size : Int) + 4)) 16)) 16) then (if (Int.tmod (wrap64 (Int.tdiv (wrap64 ((((rd_T38 l0 x6_1).f1).size : Int) + 4)) 16)) 16) < ((⟨#[48, 49, 50, 51, 52, 53, 54, 55, 56, 57, 97, 98, 99, 100, 101, 102]⟩ : ByteArray).size : Int) then (if 0 ≤ (Int.tmod (wrap64 ((((rd_T38 l0 x6_1).f1).size : Int) + 4)) 16) then (if (Int.tmod (wrap64 ((((rd_T38 l0 x6_1).f1).size : Int) + 4)) 16) < ((⟨#[48, 49, 50, 51, 52, 53, 54, 55, 56, 57, 97, 98, 99, 100, 101, 102]⟩ : ByteArray).size : Int) then ((some (([bt (⟨#[48, 49, 50, 51, 52, 53, 54, 55, 56, 57, 97, 98, 99, 100, 101, 102]⟩ : ByteArray) (wrap64 (Int.tdiv (wrap64 ((((rd_T38 l0 x6_1).f1).size : Int) + 4)) 4096)), bt (⟨#[48, 49, 50, 51, 52, 53, 54, 55, 56, 57, 97, 98, 99, 100, 101, 102]⟩ : ByteArray) (Int.tmod (wrap64 (Int.tdiv (wrap64 ((((rd_T38 l0 x6_1).f1).size : Int) + 4)) 256)) 16), bt (⟨#[48, 49, 50, 51, 52, 53, 54, 55, 56, 57, 97, 98, 99, 100, 101, 102]⟩ : ByteArray) (Int.tmod (wrap64 (Int.tdiv (wrap64 ((((rd_T38 l0 x6_1).f1).size : Int) + 4)) 16)) 16), bt (⟨#[48, 49, 50, 51, 52, 53, 54, 55, 56, 57, 97, 98, 99, 100, 101, 102]⟩ : ByteArray) (Int.tmod (wrap64 ((((rd_T38 l0 x6_1).f1).size : Int) + 4)) 16)] : List Int) : List Int)).bind fun y127 => (if x5_1.length + y127.length < 140737488355328 then ((some (x5_1 ++ y127 : List Int)).bind fun y130 => (if y130.length + ((rd_T38 l0 x6_1).f1).size < 140737488355328 then (sacristyref15_Put.l0 kj3 l0 (⟨#[48, 49, 50, 51, 52, 53, 54, 55, 56, 57, 97, 98, 99, 100, 101, 102]⟩ : ByteArray) (y130 ++ bytesOf ((rd_T38 l0 x6_1).f1)) (wrap64 (x6_1 + 1))) else (none))) else (none))) else (none)) else (none)) else (none)) else (none)) else (none)) else (none)) else (none)) else (none))) else (none)) else (none)) = some (r1, r2) := by rw [if_neg (show ¬ (false = true) by decide)] at H; exact H
                clear H
                have H := H1
                clear H1
                by_cases c7 : 0 ≤ x6_1
                · rw [if_pos c7] at H
                  have c7b0 : decide (0 ≤ x6_1) = true := decide_eq_true c7
                  clear c7
                  by_cases c8 : x6_1 < (l0.length : Int)
                  · rw [if_pos c8] at H
                    have c8b0 : decide (x6_1 < (l0.length : Int)) = true := decide_eq_true c8
                    clear c8
                    obtain ⟨bq9, hbq9⟩ : ∃ b_ : Bool, b_ = ((rd_T38 l0 x6_1).f0) := ⟨_, rfl⟩
                    replace H : (if bq9 = true then (if x5_1.length + 4 < 140737488355328 then (sacristyref15_Put.l0 kj3 l0 (⟨#[48, 49, 50, 51, 52, 53, 54, 55, 56, 57, 97, 98, 99, 100, 101, 102]⟩ : ByteArray) (x5_1 ++ bytesOf (⟨#[48, 48, 48, 48]⟩ : ByteArray)) (wrap64 (x6_1 + 1))) else (none)) else (if 0 ≤ (wrap64 (Int.tdiv (wrap64 ((((rd_T38 l0 x6_1).f1).size : Int) + 4)) 4096)) then (if (wrap64 (Int.tdiv (wrap64 ((((rd_T38 l0 x6_1).f1).size : Int) + 4)) 4096)) < ((⟨#[48, 49, 50, 51, 52, 53, 54, 55, 56, 57, 97, 98, 99, 100, 101, 102]⟩ : ByteArray).size : Int) then (if 0 ≤ (Int.tmod (wrap64 (Int.tdiv (wrap64 ((((rd_T38 l0 x6_1).f1).size : Int) + 4)) 256)) 16) then (if (Int.tmod (wrap64 (Int.tdiv (wrap64 ((((rd_T38 l0 x6_1).f1).size : Int) + 4)) 256)) 16) < ((⟨#[48, 49, 50, 51, 52, 53, 54, 55, 56, 57, 97, 98, 99, 100, 101, 102]⟩ : ByteArray).size : Int) then (if 0 ≤ (Int.tmod (wrap64 (Int.tdiv (wrap64 ((((rd_T38 l0 x6_1).f1).size : Int) + 4)) 16)) 16) then (if (Int.tmod (wrap64 (Int.tdiv (wrap64 ((((rd_T38 l0 x6_1).f1).size : Int) + 4)) 16)) 16) < ((⟨#[48, 49, 50, 51, 52, 53, 54, 55, 56, 57, 97, 98, 99, 100, 101, 102]⟩ : ByteArray).size : Int) then (if 0 ≤ (Int.tmod (wrap64 ((((rd_T38 l0 x6_1).f1).size : Int) + 4)) 16) then (if (Int.tmod (wrap64 ((((rd_T38 l0 x6_1).f1).size : Int) + 4)) 16) < ((⟨#[48, 49, 50, 51, 52, 53, 54, 55, 56, 57, 97, 98, 99, 100, 101, 102]⟩ : ByteArray).size : Int) then ((some (([bt (⟨#[48, 49, 50, 51, 52, 53, 54, 55, 56, 57, 97, 98, 99, 100, 101, 102]⟩ : ByteArray) (wrap64 (Int.tdiv (wrap64 ((((rd_T38 l0 x6_1).f1).size : Int) + 4)) 4096)), bt (⟨#[48, 49, 50, 51, 52, 53, 54, 55, 56, 57, 97, 98, 99, 100, 101, 102]⟩ : ByteArray) (Int.tmod (wrap64 (Int.tdiv (wrap64 ((((rd_T38 l0 x6_1).f1).size : Int) + 4)) 256)) 16), bt (⟨#[48, 49, 50, 51, 52, 53, 54, 55, 56, 57, 97, 98, 99, 100, 101, 102]⟩ : ByteArray) (Int.tmod (wrap64 (Int.tdiv (wrap64 ((((rd_T38 l0 x6_1).f1).size : Int) + 4)) 16)) 16), bt (⟨#[48, 49, 50, 51, 52, 53, 54, 55, 56, 57, 97, 98, 99, 100, 101, 102]⟩ : ByteArray) (Int.tmod (wrap64 ((((rd_T38 l0 x6_1).f1).size : Int) + 4)) 16)] : List Int) : List Int)).bind fun y127 => (if x5_1.length + y127.length < 140737488355328 then ((some (x5_1 ++ y127 : List Int)).bind fun y130 => (if y130.length + ((rd_T38 l0 x6_1).f1).size < 140737488355328 then (sacristyref15_Put.l0 kj3 l0 (⟨#[48, 49, 50, 51, 52, 53, 54, 55, 56, 57, 97, 98, 99, 100, 101, 102]⟩ : ByteArray) (y130 ++ bytesOf ((rd_T38 l0 x6_1).f1)) (wrap64 (x6_1 + 1))) else (none))) else (none))) else (none)) else (none)) else (none)) else (none)) else (none)) else (none)) else (none)) else (none))) = some (r1, r2) := by rw [← hbq9] at H; exact H
                    have Nbq9 := Aside0.mk hbq9
                    clear hbq9
                    by_cases c10 : bq9 = true
                    · subst c10
                      have H1 : (if x5_1.length + 4 < 140737488355328 then (sacristyref15_Put.l0 kj3 l0 (⟨#[48, 49, 50, 51, 52, 53, 54, 55, 56, 57, 97, 98, 99, 100, 101, 102]⟩ : ByteArray) (x5_1 ++ bytesOf (⟨#[48, 48, 48, 48]⟩ : ByteArray)) (wrap64 (x6_1 + 1))) else (none)) = some (r1, r2) := by rw [if_pos rfl] at H; exact H
                      clear H
                      have H := H1
                      clear H1
                      by_cases c11 : x5_1.length + 4 < 140737488355328
                      · rw [if_pos c11] at H
                        have LMc11 := Aside0.mk c11
                        clear c11
                        obtain ⟨y124, hy124⟩ : ∃ y_ : List Int, y_ = (x5_1 ++ bytesOf (⟨#[48, 48, 48, 48]⟩ : ByteArray)) := ⟨_, rfl⟩
                        replace H : (sacristyref15_Put.l0 kj3 l0 (⟨#[48, 49, 50, 51, 52, 53, 54, 55, 56, 57, 97, 98, 99, 100, 101, 102]⟩ : ByteArray) y124 (wrap64 (x6_1 + 1))) = some (r1, r2) := by first | (rw [hy124]; with_reducible exact H) | (have H2_ := (Option.bind_some _ _).symm.trans H; rw [hy124]; with_reducible exact H2_) | (have H2_ := (Option.bind_some _ _).symm.trans H; with_reducible exact H2_) | with_reducible exact H | (rw [hy124]; exact H) | exact H
                        have Ny124 := Aside0.mk hy124
                        clear hy124
                        have H' := Aside0.mk H
                        clear H
                        have p123 : 0 ≤ (x6_1 : Int) := of_decide_eq_true (by first | (with_reducible assumption) | assumption)
                        have q123 : x6_1 < (l0.length : Int) := of_decide_eq_true (by first | (with_reducible assumption) | assumption)
                        obtain ⟨ad123, e123, hx123_0, hx123_1⟩ := at_T38 HR0.out x6_1 p123 q123
                        (try rw [← Nbq9.out] at hx123_0)
                        obtain rfl : ad121 = ad123 := (by injection e123)
                        replace hx123_0 := (HB.out.cell (World.block_lt_of_cell? w _ hx123_0)).trans hx123_0
                        replace hx123_1 := (HB.out.cell (World.block_lt_of_cell? w _ hx123_1)).trans hx123_1
                        replace p123 := eq_true p123
                        replace q123 := eq_true q123
                        go_wp2_with (first | (at_builtin; refine print_append_str (w0 := w) w.heap.size rfl (.tmp 37) _ 23 9 5 rfl Try.underlying23 Try.underlying9 info5 u5 x5_1 (⟨#[48, 48, 48, 48]⟩ : ByteArray) rfl rfl ?aO ?aB ?aS ?aL ?_; (case aB => exact (by repeat (first | (with_reducible first | exact HB.out | apply below_alloc | apply pw_below_drewN | apply below_drew1) | exact HB.out))); (case aO => exact (Kd.own_of_R (by (with_reducible repeat (first | apply Kd.R_alloc | apply Kd.R_drewN | apply Kd.R_drew)); exact HO_5.out))); (case aS => exact (below_size (by repeat (first | (with_reducible first | exact HB.out | apply below_alloc | apply pw_below_drewN | apply below_drew1) | exact HB.out)))); (case aL => have := LMc11.out; first | omega | (change _ + 4 ≤ _; omega)); intro v125 w12 ho0 hb hg; have ho := Kd.R_of_own (h1 := fun _ => rfl) (ok := fun _ => True) ho0 (fun _ _ => trivial); clear ho0; have hat := True.intro; rw [← Ny124.out] at ho; change Kd.R (Kd.int .u8) 5 w12 w.heap.size (fun _ => True) v125 y124 at ho; have n0_ := Aside0.mk (hb); have n1_ := Aside0.mk (ho); clear HB; clear HO_5; have HB := n0_; have HO126 := n1_; clear n0_ n1_; clear ho hb hg hat))
                        go_roundg kj3
                        case measure => have := HK1.out; have := HJ3.out; omega
                        case rel => exact ⟨(y124), (wrap64 (x6_1 + 1)), (by first | rfl | (simp; done) | (simp [*]; done)), H', ⟨by have := HK1.out; have := HJ3.out; omega⟩, ⟨by (with_reducible repeat (first | apply Kd.R_alloc | apply Kd.R_drewN | apply Kd.R_drew)); exact HO126.out⟩, ⟨by repeat (first | (with_reducible first | exact HB.out | apply below_alloc | apply pw_below_drewN | apply below_drew1) | exact HB.out)⟩⟩
                      · rw [if_neg c11] at H
                        exact absurd H (by simp)
                    · replace c10 := Bool.eq_false_iff.mpr c10
                      subst c10
                      have H1 : (if 0 ≤ (wrap64 (Int.tdiv (wrap64 ((((rd_T38 l0 x6_1).f1).size : Int) + 4)) 4096)) then (if (wrap64 (Int.tdiv (wrap64 ((((rd_T38 l0 x6_1).f1).size : Int) + 4)) 4096)) < ((⟨#[48, 49, 50, 51, 52, 53, 54, 55, 56, 57, 97, 98, 99, 100, 101, 102]⟩ : ByteArray).size : Int) then (if 0 ≤ (Int.tmod (wrap64 (Int.tdiv (wrap64 ((((rd_T38 l0 x6_1).f1).size : Int) + 4)) 256)) 16) then (if (Int.tmod (wrap64 (Int.tdiv (wrap64 ((((rd_T38 l0 x6_1).f1).size : Int) + 4)) 256)) 16) < ((⟨#[48, 49, 50, 51, 52, 53, 54, 55, 56, 57, 97, 98, 99, 100, 101, 102]⟩ : ByteArray).size : Int) then (if 0 ≤ (Int.tmod (wrap64 (Int.tdiv (wrap64 ((((rd_T38 l0 x6_1).f1).size : Int) + 4)) 16)) 16) then (if (Int.tmod (wrap64 (Int.tdiv (wrap64 ((((rd_T38 l0 x6_1).f1).size : Int) + 4)) 16)) 16) < ((⟨#[48, 49, 50, 51, 52, 53, 54, 55, 56, 57, 97, 98, 99, 100, 101, 102]⟩ : ByteArray).size : Int) then (if 0 ≤ (Int.tmod (wrap64 ((((rd_T38 l0 x6_1).f1).size : Int) + 4)) 16) then (if (Int.tmod (wrap64 ((((rd_T38 l0 x6_1).f1).size : Int) + 4)) 16) < ((⟨#[48, 49, 50, 51, 52, 53, 54, 55, 56, 57, 97, 98, 99, 100, 101, 102]⟩ : ByteArray).size : Int) then ((some (([bt (⟨#[48, 49, 50, 51, 52, 53, 54, 55, 56, 57, 97, 98, 99, 100, 101, 102]⟩ : ByteArray) (wrap64 (Int.tdiv (wrap64 ((((rd_T38 l0 x6_1).f1).size : Int) + 4)) 4096)), bt (⟨#[48, 49, 50, 51, 52, 53, 54, 55, 56, 57, 97, 98, 99, 100, 101, 102]⟩ : ByteArray) (Int.tmod (wrap64 (Int.tdiv (wrap64 ((((rd_T38 l0 x6_1).f1).size : Int) + 4)) 256)) 16), bt (⟨#[48, 49, 50, 51, 52, 53, 54, 55, 56, 57, 97, 98, 99, 100, 101, 102]⟩ : ByteArray) (Int.tmod (wrap64 (Int.tdiv (wrap64 ((((rd_T38 l0 x6_1).f1).size : Int) + 4)) 16)) 16), bt (⟨#[48, 49, 50, 51, 52, 53, 54, 55, 56, 57, 97, 98, 99, 100, 101, 102]⟩ : ByteArray) (Int.tmod (wrap64 ((((rd_T38 l0 x6_1).f1).size : Int) + 4)) 16)] : List Int) : List Int)).bind fun y127 => (if x5_1.length + y127.length < 140737488355328 then ((some (x5_1 ++ y127 : List Int)).bind fun y130 => (if y130.length + ((rd_T38 l0 x6_1).f1).size < 140737488355328 then (sacristyref15_Put.l0 kj3 l0 (⟨#[48, 49, 50, 51, 52, 53, 54, 55, 56, 57, 97, 98, 99, 100, 101, 102]⟩ : ByteArray) (y130 ++ bytesOf ((rd_T38 l0 x6_1).f1)) (wrap64 (x6_1 + 1))) else (none))) else (none))) else (none)) else (none)) else (none)) else (none)) else (none)) else (none)) else (none)) else (none)) = some (r1, r2) := by rw [if_neg (show ¬ (false = true) by decide)] at H; exact H
                      clear H
                      have H := H1
                      clear H1
                      obtain ⟨ji13, hji13⟩ : ∃ j_ : Int, (wrap64 (Int.tdiv (wrap64 ((((rd_T38 l0 x6_1).f1).size : Int) + 4)) 4096)) = j_ := ⟨_, rfl⟩
                      replace H : (if 0 ≤ (ji13) then (if (ji13) < ((⟨#[48, 49, 50, 51, 52, 53, 54, 55, 56, 57, 97, 98, 99, 100, 101, 102]⟩ : ByteArray).size : Int) then (if 0 ≤ (Int.tmod (wrap64 (Int.tdiv (wrap64 ((((rd_T38 l0 x6_1).f1).size : Int) + 4)) 256)) 16) then (if (Int.tmod (wrap64 (Int.tdiv (wrap64 ((((rd_T38 l0 x6_1).f1).size : Int) + 4)) 256)) 16) < ((⟨#[48, 49, 50, 51, 52, 53, 54, 55, 56, 57, 97, 98, 99, 100, 101, 102]⟩ : ByteArray).size : Int) then (if 0 ≤ (Int.tmod (wrap64 (Int.tdiv (wrap64 ((((rd_T38 l0 x6_1).f1).size : Int) + 4)) 16)) 16) then (if (Int.tmod (wrap64 (Int.tdiv (wrap64 ((((rd_T38 l0 x6_1).f1).size : Int) + 4)) 16)) 16) < ((⟨#[48, 49, 50, 51, 52, 53, 54, 55, 56, 57, 97, 98, 99, 100, 101, 102]⟩ : ByteArray).size : Int) then (if 0 ≤ (Int.tmod (wrap64 ((((rd_T38 l0 x6_1).f1).size : Int) + 4)) 16) then (if (Int.tmod (wrap64 ((((rd_T38 l0 x6_1).f1).size : Int) + 4)) 16) < ((⟨#[48, 49, 50, 51, 52, 53, 54, 55, 56, 57, 97, 98, 99, 100, 101, 102]⟩ : ByteArray).size : Int) then ((some (([bt (⟨#[48, 49, 50, 51, 52, 53, 54, 55, 56, 57, 97, 98, 99, 100, 101, 102]⟩ : ByteArray) (ji13), bt (⟨#[48, 49, 50, 51, 52, 53, 54, 55, 56, 57, 97, 98, 99, 100, 101, 102]⟩ : ByteArray) (Int.tmod (wrap64 (Int.tdiv (wrap64 ((((rd_T38 l0 x6_1).f1).size : Int) + 4)) 256)) 16), bt (⟨#[48, 49, 50, 51, 52, 53, 54, 55, 56, 57, 97, 98, 99, 100, 101, 102]⟩ : ByteArray) (Int.tmod (wrap64 (Int.tdiv (wrap64 ((((rd_T38 l0 x6_1).f1).size : Int) + 4)) 16)) 16), bt (⟨#[48, 49, 50, 51, 52, 53, 54, 55, 56, 57, 97, 98, 99, 100, 101, 102]⟩ : ByteArray) (Int.tmod (wrap64 ((((rd_T38 l0 x6_1).f1).size : Int) + 4)) 16)] : List Int) : List Int)).bind fun y127 => (if x5_1.length + y127.length < 140737488355328 then ((some (x5_1 ++ y127 : List Int)).bind fun y130 => (if y130.length + ((rd_T38 l0 x6_1).f1).size < 140737488355328 then (sacristyref15_Put.l0 kj3 l0 (⟨#[48, 49, 50, 51, 52, 53, 54, 55, 56, 57, 97, 98, 99, 100, 101, 102]⟩ : ByteArray) (y130 ++ bytesOf ((rd_T38 l0 x6_1).f1)) (wrap64 (x6_1 + 1))) else (none))) else (none))) else (none)) else (none)) else (none)) else (none)) else (none)) else (none)) else (none)) else (none)) = some (r1, r2) := by first | (rw [hji13] at H; exact H) | (simp only [hji13] at H ⊢; exact H)
                      have hji13w : (IntKind.i64.wrap (Int.tdiv (wrap64 ((((rd_T38 l0 x6_1).f1).size : Int) + 4)) 4096)) = ji13 := (i64_w _).trans hji13
                      by_cases c14 : 0 ≤ (ji13)
                      · rw [if_pos c14] at H
                        have c14b0 : decide (0 ≤ (ji13)) = true := decide_eq_true c14
                        clear c14
                        by_cases c15 : (ji13) < ((⟨#[48, 49, 50, 51, 52, 53, 54, 55, 56, 57, 97, 98, 99, 100, 101, 102]⟩ : ByteArray).size : Int)
                        · rw [if_pos c15] at H
                          have c15b0 : decide ((ji13) < ((⟨#[48, 49, 50, 51, 52, 53, 54, 55, 56, 57, 97, 98, 99, 100, 101, 102]⟩ : ByteArray).size : Int)) = true := decide_eq_true c15
                          clear c15
                          obtain ⟨ji17, hji17⟩ : ∃ j_ : Int, (Int.tmod (wrap64 (Int.tdiv (wrap64 ((((rd_T38 l0 x6_1).f1).size : Int) + 4)) 256)) 16) = j_ := ⟨_, rfl⟩
                          replace H : (if 0 ≤ (ji17) then (if (ji17) < ((⟨#[48, 49, 50, 51, 52, 53, 54, 55, 56, 57, 97, 98, 99, 100, 101, 102]⟩ : ByteArray).size : Int) then (if 0 ≤ (Int.tmod (wrap64 (Int.tdiv (wrap64 ((((rd_T38 l0 x6_1).f1).size : Int) + 4)) 16)) 16) then (if (Int.tmod (wrap64 (Int.tdiv (wrap64 ((((rd_T38 l0 x6_1).f1).size : Int) + 4)) 16)) 16) < ((⟨#[48, 49, 50, 51, 52, 53, 54, 55, 56, 57, 97, 98, 99, 100, 101, 102]⟩ : ByteArray).size : Int) then (if 0 ≤ (Int.tmod (wrap64 ((((rd_T38 l0 x6_1).f1).size : Int) + 4)) 16) then (if (Int.tmod (wrap64 ((((rd_T38 l0 x6_1).f1).size : Int) + 4)) 16) < ((⟨#[48, 49, 50, 51, 52, 53, 54, 55, 56, 57, 97, 98, 99, 100, 101, 102]⟩ : ByteArray).size : Int) then ((some (([bt (⟨#[48, 49, 50, 51, 52, 53, 54, 55, 56, 57, 97, 98, 99, 100, 101, 102]⟩ : ByteArray) (ji13), bt (⟨#[48, 49, 50, 51, 52, 53, 54, 55, 56, 57, 97, 98, 99, 100, 101, 102]⟩ : ByteArray) (ji17), bt (⟨#[48, 49, 50, 51, 52, 53, 54, 55, 56, 57, 97, 98, 99, 100, 101, 102]⟩ : ByteArray) (Int.tmod (wrap64 (Int.tdiv (wrap64 ((((rd_T38 l0 x6_1).f1).size : Int) + 4)) 16)) 16), bt (⟨#[48, 49, 50, 51, 52, 53, 54, 55, 56, 57, 97, 98, 99, 100, 101, 102]⟩ : ByteArray) (Int.tmod (wrap64 ((((rd_T38 l0 x6_1).f1).size : Int) + 4)) 16)] : List Int) : List Int)).bind fun y127 => (if x5_1.length + y127.length < 140737488355328 then ((some (x5_1 ++ y127 : List Int)).bind fun y130 => (if y130.length + ((rd_T38 l0 x6_1).f1).size < 140737488355328 then (sacristyref15_Put.l0 kj3 l0 (⟨#[48, 49, 50, 51, 52, 53, 54, 55, 56, 57, 97, 98, 99, 100, 101, 102]⟩ : ByteArray) (y130 ++ bytesOf ((rd_T38 l0 x6_1).f1)) (wrap64 (x6_1 + 1))) else (none))) else (none))) else (none)) else (none)) else (none)) else (none)) else (none)) else (none)) = some (r1, r2) := by first | (rw [hji17] at H; exact H) | (simp only [hji17] at H ⊢; exact H)
                          by_cases c18 : 0 ≤ (ji17)
                          · rw [if_pos c18] at H
                            have c18b0 : decide (0 ≤ (ji17)) = true := decide_eq_true c18
                            clear c18
                            by_cases c19 : (ji17) < ((⟨#[48, 49, 50, 51, 52, 53, 54, 55, 56, 57, 97, 98, 99, 100, 101, 102]⟩ : ByteArray).size : Int)
                            · rw [if_pos c19] at H
                              have c19b0 : decide ((ji17) < ((⟨#[48, 49, 50, 51, 52, 53, 54, 55, 56, 57, 97, 98, 99, 100, 101, 102]⟩ : ByteArray).size : Int)) = true := decide_eq_true c19
                              clear c19
                              obtain ⟨ji21, hji21⟩ : ∃ j_ : Int, (Int.tmod (wrap64 (Int.tdiv (wrap64 ((((rd_T38 l0 x6_1).f1).size : Int) + 4)) 16)) 16) = j_ := ⟨_, rfl⟩
                              replace H : (if 0 ≤ (ji21) then (if (ji21) < ((⟨#[48, 49, 50, 51, 52, 53, 54, 55, 56, 57, 97, 98, 99, 100, 101, 102]⟩ : ByteArray).size : Int) then (if 0 ≤ (Int.tmod (wrap64 ((((rd_T38 l0 x6_1).f1).size : Int) + 4)) 16) then (if (Int.tmod (wrap64 ((((rd_T38 l0 x6_1).f1).size : Int) + 4)) 16) < ((⟨#[48, 49, 50, 51, 52, 53, 54, 55, 56, 57, 97, 98, 99, 100, 101, 102]⟩ : ByteArray).size : Int) then ((some (([bt (⟨#[48, 49, 50, 51, 52, 53, 54, 55, 56, 57, 97, 98, 99, 100, 101, 102]⟩ : ByteArray) (ji13), bt (⟨#[48, 49, 50, 51, 52, 53, 54, 55, 56, 57, 97, 98, 99, 100, 101, 102]⟩ : ByteArray) (ji17), bt (⟨#[48, 49, 50, 51, 52, 53, 54, 55, 56, 57, 97, 98, 99, 100, 101, 102]⟩ : ByteArray) (ji21), bt (⟨#[48, 49, 50, 51, 52, 53, 54, 55, 56, 57, 97, 98, 99, 100, 101, 102]⟩ : ByteArray) (Int.tmod (wrap64 ((((rd_T38 l0 x6_1).f1).size : Int) + 4)) 16)] : List Int) : List Int)).bind fun y127 => (if x5_1.length + y127.length < 140737488355328 then ((some (x5_1 ++ y127 : List Int)).bind fun y130 => (if y130.length + ((rd_T38 l0 x6_1).f1).size < 140737488355328 then (sacristyref15_Put.l0 kj3 l0 (⟨#[48, 49, 50, 51, 52, 53, 54, 55, 56, 57, 97, 98, 99, 100, 101, 102]⟩ : ByteArray) (y130 ++ bytesOf ((rd_T38 l0 x6_1).f1)) (wrap64 (x6_1 + 1))) else (none))) else (none))) else (none)) else (none)) else (none)) else (none)) = some (r1, r2) := by first | (rw [hji21] at H; exact H) | (simp only [hji21] at H ⊢; exact H)
                              by_cases c22 : 0 ≤ (ji21)
                              · rw [if_pos c22] at H
                                have c22b0 : decide (0 ≤ (ji21)) = true := decide_eq_true c22
                                clear c22
                                by_cases c23 : (ji21) < ((⟨#[48, 49, 50, 51, 52, 53, 54, 55, 56, 57, 97, 98, 99, 100, 101, 102]⟩ : ByteArray).size : Int)
                                · rw [if_pos c23] at H
                                  have c23b0 : decide ((ji21) < ((⟨#[48, 49, 50, 51, 52, 53, 54, 55, 56, 57, 97, 98, 99, 100, 101, 102]⟩ : ByteArray).size : Int)) = true := decide_eq_true c23
                                  clear c23
                                  obtain ⟨ji25, hji25⟩ : ∃ j_ : Int, (Int.tmod (wrap64 ((((rd_T38 l0 x6_1).f1).size : Int) + 4)) 16) = j_ := ⟨_, rfl⟩
                                  replace H : (if 0 ≤ (ji25) then (if (ji25) < ((⟨#[48, 49, 50, 51, 52, 53, 54, 55, 56, 57, 97, 98, 99, 100, 101, 102]⟩ : ByteArray).size : Int) then ((some (([bt (⟨#[48, 49, 50, 51, 52, 53, 54, 55, 56, 57, 97, 98, 99, 100, 101, 102]⟩ : ByteArray) (ji13), bt (⟨#[48, 49, 50, 51, 52, 53, 54, 55, 56, 57, 97, 98, 99, 100, 101, 102]⟩ : ByteArray) (ji17), bt (⟨#[48, 49, 50, 51, 52, 53, 54, 55, 56, 57, 97, 98, 99, 100, 101, 102]⟩ : ByteArray) (ji21), bt (⟨#[48, 49, 50, 51, 52, 53, 54, 55, 56, 57, 97, 98, 99, 100, 101, 102]⟩ : ByteArray) (ji25)] : List Int) : List Int)).bind fun y127 => (if x5_1.length + y127.length < 140737488355328 then ((some (x5_1 ++ y127 : List Int)).bind fun y130 => (if y130.length + ((rd_T38 l0 x6_1).f1).size < 140737488355328 then (sacristyref15_Put.l0 kj3 l0 (⟨#[48, 49, 50, 51, 52, 53, 54, 55, 56, 57, 97, 98, 99, 100, 101, 102]⟩ : ByteArray) (y130 ++ bytesOf ((rd_T38 l0 x6_1).f1)) (wrap64 (x6_1 + 1))) else (none))) else (none))) else (none)) else (none)) = some (r1, r2) := by first | (rw [hji25] at H; exact H) | (simp only [hji25] at H ⊢; exact H)
                                  by_cases c26 : 0 ≤ (ji25)
                                  · rw [if_pos c26] at H
                                    have c26b0 : decide (0 ≤ (ji25)) = true := decide_eq_true c26
                                    clear c26
                                    by_cases c27 : (ji25) < ((⟨#[48, 49, 50, 51, 52, 53, 54, 55, 56, 57, 97, 98, 99, 100, 101, 102]⟩ : ByteArray).size : Int)
                                    · rw [if_pos c27] at H
                                      have c27b0 : decide ((ji25) < ((⟨#[48, 49, 50, 51, 52, 53, 54, 55, 56, 57, 97, 98, 99, 100, 101, 102]⟩ : ByteArray).size : Int)) = true := decide_eq_true c27
                                      clear c27
                                      obtain ⟨y127, hy127⟩ : ∃ y_ : List Int, y_ = (([bt (⟨#[48, 49, 50, 51, 52, 53, 54, 55, 56, 57, 97, 98, 99, 100, 101, 102]⟩ : ByteArray) (ji13), bt (⟨#[48, 49, 50, 51, 52, 53, 54, 55, 56, 57, 97, 98, 99, 100, 101, 102]⟩ : ByteArray) (ji17), bt (⟨#[48, 49, 50, 51, 52, 53, 54, 55, 56, 57, 97, 98, 99, 100, 101, 102]⟩ : ByteArray) (ji21), bt (⟨#[48, 49, 50, 51, 52, 53, 54, 55, 56, 57, 97, 98, 99, 100, 101, 102]⟩ : ByteArray) (ji25)] : List Int)) := ⟨_, rfl⟩
                                      replace H : (if x5_1.length + y127.length < 140737488355328 then ((some (x5_1 ++ y127 : List Int)).bind fun y130 => (if y130.length + ((rd_T38 l0 x6_1).f1).size < 140737488355328 then (sacristyref15_Put.l0 kj3 l0 (⟨#[48, 49, 50, 51, 52, 53, 54, 55, 56, 57, 97, 98, 99, 100, 101, 102]⟩ : ByteArray) (y130 ++ bytesOf ((rd_T38 l0 x6_1).f1)) (wrap64 (x6_1 + 1))) else (none))) else (none)) = some (r1, r2) := by first | (rw [hy127]; with_reducible exact H) | (have H2_ := (Option.bind_some _ _).symm.trans H; rw [hy127]; with_reducible exact H2_) | (have H2_ := (Option.bind_some _ _).symm.trans H; with_reducible exact H2_) | with_reducible exact H | (rw [hy127]; exact H) | exact H
                                      have Ny127 := Aside0.mk hy127
                                      clear hy127
                                      by_cases c29 : x5_1.length + y127.length < 140737488355328
                                      · rw [if_pos c29] at H
                                        have LMc29 := Aside0.mk c29
                                        clear c29
                                        obtain ⟨y130, hy130⟩ : ∃ y_ : List Int, y_ = (x5_1 ++ y127) := ⟨_, rfl⟩
                                        replace H : (if y130.length + ((rd_T38 l0 x6_1).f1).size < 140737488355328 then (sacristyref15_Put.l0 kj3 l0 (⟨#[48, 49, 50, 51, 52, 53, 54, 55, 56, 57, 97, 98, 99, 100, 101, 102]⟩ : ByteArray) (y130 ++ bytesOf ((rd_T38 l0 x6_1).f1)) (wrap64 (x6_1 + 1))) else (none)) = some (r1, r2) := by first | (rw [hy130]; with_reducible exact H) | (have H2_ := (Option.bind_some _ _).symm.trans H; rw [hy130]; with_reducible exact H2_) | (have H2_ := (Option.bind_some _ _).symm.trans H; with_reducible exact H2_) | with_reducible exact H | (rw [hy130]; exact H) | exact H
                                        have Ny130 := Aside0.mk hy130
                                        clear hy130
                                        by_cases c30 : y130.length + ((rd_T38 l0 x6_1).f1).size < 140737488355328
                                        · rw [if_pos c30] at H
                                          have LMc30 := Aside0.mk c30
                                          clear c30
                                          obtain ⟨y134, hy134⟩ : ∃ y_ : List Int, y_ = (y130 ++ bytesOf ((rd_T38 l0 x6_1).f1)) := ⟨_, rfl⟩
                                          replace H : (sacristyref15_Put.l0 kj3 l0 (⟨#[48, 49, 50, 51, 52, 53, 54, 55, 56, 57, 97, 98, 99, 100, 101, 102]⟩ : ByteArray) y134 (wrap64 (x6_1 + 1))) = some (r1, r2) := by first | (rw [hy134]; with_reducible exact H) | (have H2_ := (Option.bind_some _ _).symm.trans H; rw [hy134]; with_reducible exact H2_) | (have H2_ := (Option.bind_some _ _).symm.trans H; with_reducible exact H2_) | with_reducible exact H | (rw [hy134]; exact H) | exact H
                                          have Ny134 := Aside0.mk hy134
                                          clear hy134
                                          have H' := Aside0.mk H
                                          clear H
                                          have p123 : 0 ≤ (x6_1 : Int) := of_decide_eq_true (by first | (with_reducible assumption) | assumption)
                                          have q123 : x6_1 < (l0.length : Int) := of_decide_eq_true (by first | (with_reducible assumption) | assumption)
                                          obtain ⟨ad123, e123, hx123_0, hx123_1⟩ := at_T38 HR0.out x6_1 p123 q123
                                          (try rw [← Nbq9.out] at hx123_0)
                                          obtain rfl : ad121 = ad123 := (by injection e123)
                                          replace hx123_0 := (HB.out.cell (World.block_lt_of_cell? w _ hx123_0)).trans hx123_0
                                          replace hx123_1 := (HB.out.cell (World.block_lt_of_cell? w _ hx123_1)).trans hx123_1
                                          replace p123 := eq_true p123
                                          replace q123 := eq_true q123
                                          try go_wp2
                                          have n0_ := Aside0.mk (Kd.R_drew HO_5.out)
                                          have n1_ := Aside0.mk (below_drew1 HB.out)
                                          clear HO_5
                                          clear HB
                                          have HO_5 := n0_
                                          have HB := n1_
                                          clear n0_ n1_
                                          have p16 : 0 ≤ ((ji13) : Int) := of_decide_eq_true (by first | (with_reducible assumption) | assumption)
                                          have q16 : (ji13) < (16 : Int) := of_decide_eq_true (by first | (with_reducible assumption) | assumption)
                                          have hx16 := bt_at (⟨#[48, 49, 50, 51, 52, 53, 54, 55, 56, 57, 97, 98, 99, 100, 101, 102]⟩ : ByteArray) (ji13)
                                          replace p16 := eq_true p16
                                          replace q16 := eq_true q16
                                          have p20 : 0 ≤ ((ji17) : Int) := of_decide_eq_true (by first | (with_reducible assumption) | assumption)
                                          have q20 : (ji17) < (16 : Int) := of_decide_eq_true (by first | (with_reducible assumption) | assumption)
                                          have hx20 := bt_at (⟨#[48, 49, 50, 51, 52, 53, 54, 55, 56, 57, 97, 98, 99, 100, 101, 102]⟩ : ByteArray) (ji17)
                                          replace p20 := eq_true p20
                                          replace q20 := eq_true q20
                                          have p24 : 0 ≤ ((ji21) : Int) := of_decide_eq_true (by first | (with_reducible assumption) | assumption)
                                          have q24 : (ji21) < (16 : Int) := of_decide_eq_true (by first | (with_reducible assumption) | assumption)
                                          have hx24 := bt_at (⟨#[48, 49, 50, 51, 52, 53, 54, 55, 56, 57, 97, 98, 99, 100, 101, 102]⟩ : ByteArray) (ji21)
                                          replace p24 := eq_true p24
                                          replace q24 := eq_true q24
                                          have p28 : 0 ≤ ((ji25) : Int) := of_decide_eq_true (by first | (with_reducible assumption) | assumption)
                                          have q28 : (ji25) < (16 : Int) := of_decide_eq_true (by first | (with_reducible assumption) | assumption)
                                          have hx28 := bt_at (⟨#[48, 49, 50, 51, 52, 53, 54, 55, 56, 57, 97, 98, 99, 100, 101, 102]⟩ : ByteArray) (ji25)
                                          replace p28 := eq_true p28
                                          replace q28 := eq_true q28
                                          refine start_ (n := 22) (S := fun w' => True) (ds := []) #[false, false, false, false, false, false, false, false, false, false, false, false, false, false, false, false, false, false, false, false, false, false] (by kernel_rfl) rfl rfl trivial (fun hHeld => ?_); refine with_tabW sacristyref15_Put.tab12 sacristyref15_Put.bits12 (fun HT_ HW_ => ?_)
                                          generalize wc.drew = w31 at HO_5 HB hHeld ⊢
                                          refine pure_ (i := 0) (N := some 41) (v := ?_) (a' := ?_) #[true, false, false, false, false, false, false, false, false, false, false, false, false, false, false, false, false, false, false, false, false, false] rfl rfl (any_of HT_.out (by kernel_rfl)) (fun _ _ _ h => h) (Or.inl ⟨by rfl, ?_⟩) ?_ ?_
                                          rotate_left
                                          · intro w'
                                            go_simp
                                            with_reducible rfl
                                          rotate_left
                                          · simp only [Act.put, List.setIfInBounds_toArray, List.set_cons_zero, List.set_cons_succ, i64_w, i32_w]
                                            rfl
                                          refine pure_ (i := 1) (N := some 42) (v := ?_) (a' := ?_) #[true, true, false, false, false, false, false, false, false, false, false, false, false, false, false, false, false, false, false, false, false, false] rfl rfl (any_of HT_.out (by kernel_rfl)) (fun _ _ _ h => h) (Or.inl ⟨by rfl, ?_⟩) ?_ ?_
                                          rotate_left
                                          · intro w'
                                            go_simp
                                            with_reducible rfl
                                          rotate_left
                                          · simp only [Act.put, List.setIfInBounds_toArray, List.set_cons_zero, List.set_cons_succ, i64_w, i32_w]
                                            rfl
                                          refine pure_ (i := 2) (N := some 43) (v := ?_) (a' := ?_) #[true, true, true, false, false, false, false, false, false, false, false, false, false, false, false, false, false, false, false, false, false, false] rfl rfl (any_of HT_.out (by kernel_rfl)) (fun _ _ _ h => h) (Or.inl ⟨by rfl, ?_⟩) ?_ ?_
                                          rotate_left
                                          · intro w'
                                            go_simp
                                            with_reducible rfl
                                          rotate_left
                                          · simp only [Act.put, List.setIfInBounds_toArray, List.set_cons_zero, List.set_cons_succ, i64_w, i32_w]
                                            rfl
                                          refine pure_ (i := 3) (N := some 44) (v := ?_) (a' := ?_) #[true, true, true, true, false, false, false, false, false, false, false, false, false, false, false, false, false, false, false, false, false, false] rfl rfl (any_of HT_.out (by kernel_rfl)) (fun _ _ _ h => h) (Or.inl ⟨by rfl, ?_⟩) ?_ ?_
                                          rotate_left
                                          · intro w'
                                            go_simp
                                            with_reducible rfl
                                          rotate_left
                                          · simp only [Act.put, List.setIfInBounds_toArray, List.set_cons_zero, List.set_cons_succ, i64_w, i32_w]
                                            rfl
                                          refine pure_ (i := 5) (N := some 46) (v := ?_) (a' := ?_) #[true, true, true, true, false, true, false, false, false, false, false, false, false, false, false, false, false, false, false, false, false, false] rfl rfl (any_of HT_.out (by kernel_rfl)) (fun _ _ _ h => h) (Or.inl ⟨by rfl, ?_⟩) ?_ ?_
                                          rotate_left
                                          · intro w'
                                            go_simp
                                            with_reducible rfl
                                          rotate_left
                                          · simp only [Act.put, List.setIfInBounds_toArray, List.set_cons_zero, List.set_cons_succ, i64_w, i32_w]
                                            rfl
                                          refine pure_ (i := 6) (N := some 47) (v := ?_) (a' := ?_) #[true, true, true, true, false, true, true, false, false, false, false, false, false, false, false, false, false, false, false, false, false, false] rfl rfl (any_of HT_.out (by kernel_rfl)) (fun _ _ _ h => h) (Or.inl ⟨by rfl, ?_⟩) ?_ ?_
                                          rotate_left
                                          · intro w'
                                            go_simp
                                            with_reducible rfl
                                          rotate_left
                                          · simp only [Act.put, List.setIfInBounds_toArray, List.set_cons_zero, List.set_cons_succ, i64_w, i32_w]
                                            rfl
                                          refine pure_ (i := 7) (N := some 48) (v := ?_) (a' := ?_) #[true, true, true, true, false, true, true, true, false, false, false, false, false, false, false, false, false, false, false, false, false, false] rfl rfl (any_of HT_.out (by kernel_rfl)) (fun _ _ _ h => h) (Or.inl ⟨by rfl, ?_⟩) ?_ ?_
                                          rotate_left
                                          · intro w'
                                            go_simp
                                            with_reducible rfl
                                          rotate_left
                                          · simp only [Act.put, List.setIfInBounds_toArray, List.set_cons_zero, List.set_cons_succ, i64_w, i32_w]
                                            rfl
                                          refine pure_ (i := 8) (N := some 49) (v := ?_) (a' := ?_) #[true, true, true, true, false, true, true, true, true, false, false, false, false, false, false, false, false, false, false, false, false, false] rfl rfl (any_of HT_.out (by kernel_rfl)) (fun _ _ _ h => h) (Or.inl ⟨by rfl, ?_⟩) ?_ ?_
                                          rotate_left
                                          · intro w'
                                            go_simp
                                            with_reducible rfl
                                          rotate_left
                                          · simp only [Act.put, List.setIfInBounds_toArray, List.set_cons_zero, List.set_cons_succ, i64_w, i32_w]
                                            rfl
                                          refine pure_ (i := 10) (N := some 51) (v := ?_) (a' := ?_) #[true, true, true, true, false, true, true, true, true, false, true, false, false, false, false, false, false, false, false, false, false, false] rfl rfl (any_of HT_.out (by kernel_rfl)) (fun _ _ _ h => h) (Or.inl ⟨by rfl, ?_⟩) ?_ ?_
                                          rotate_left
                                          · intro w'
                                            go_simp
                                            with_reducible rfl
                                          rotate_left
                                          · simp only [Act.put, List.setIfInBounds_toArray, List.set_cons_zero, List.set_cons_succ, i64_w, i32_w]
                                            rfl
                                          refine pure_ (i := 11) (N := some 52) (v := ?_) (a' := ?_) #[true, true, true, true, false, true, true, true, true, false, true, true, false, false, false, false, false, false, false, false, false, false] rfl rfl (any_of HT_.out (by kernel_rfl)) (fun _ _ _ h => h) (Or.inl ⟨by rfl, ?_⟩) ?_ ?_
                                          rotate_left
                                          · intro w'
                                            go_simp
                                            with_reducible rfl
                                          rotate_left
                                          · simp only [Act.put, List.setIfInBounds_toArray, List.set_cons_zero, List.set_cons_succ, i64_w, i32_w]
                                            rfl
                                          refine pure_ (i := 12) (N := some 53) (v := ?_) (a' := ?_) #[true, true, true, true, false, true, true, true, true, false, true, true, true, false, false, false, false, false, false, false, false, false] rfl rfl (any_of HT_.out (by kernel_rfl)) (fun _ _ _ h => h) (Or.inl ⟨by rfl, ?_⟩) ?_ ?_
                                          rotate_left
                                          · intro w'
                                            go_simp
                                            with_reducible rfl
                                          rotate_left
                                          · simp only [Act.put, List.setIfInBounds_toArray, List.set_cons_zero, List.set_cons_succ, i64_w, i32_w]
                                            rfl
                                          refine pure_ (i := 13) (N := some 54) (v := ?_) (a' := ?_) #[true, true, true, true, false, true, true, true, true, false, true, true, true, true, false, false, false, false, false, false, false, false] rfl rfl (any_of HT_.out (by kernel_rfl)) (fun _ _ _ h => h) (Or.inl ⟨by rfl, ?_⟩) ?_ ?_
                                          rotate_left
                                          · intro w'
                                            go_simp
                                            with_reducible rfl
                                          rotate_left
                                          · simp only [Act.put, List.setIfInBounds_toArray, List.set_cons_zero, List.set_cons_succ, i64_w, i32_w]
                                            rfl
                                          refine pure_ (i := 15) (N := some 56) (v := ?_) (a' := ?_) #[true, true, true, true, false, true, true, true, true, false, true, true, true, true, false, true, false, false, false, false, false, false] rfl rfl (any_of HT_.out (by kernel_rfl)) (fun _ _ _ h => h) (Or.inl ⟨by rfl, ?_⟩) ?_ ?_
                                          rotate_left
                                          · intro w'
                                            go_simp
                                            with_reducible rfl
                                          rotate_left
                                          · simp only [Act.put, List.setIfInBounds_toArray, List.set_cons_zero, List.set_cons_succ, i64_w, i32_w]
                                            rfl
                                          refine pure_ (i := 16) (N := some 57) (v := ?_) (a' := ?_) #[true, true, true, true, false, true, true, true, true, false, true, true, true, true, false, true, true, false, false, false, false, false] rfl rfl (any_of HT_.out (by kernel_rfl)) (fun _ _ _ h => h) (Or.inl ⟨by rfl, ?_⟩) ?_ ?_
                                          rotate_left
                                          · intro w'
                                            go_simp
                                            with_reducible rfl
                                          rotate_left
                                          · simp only [Act.put, List.setIfInBounds_toArray, List.set_cons_zero, List.set_cons_succ, i64_w, i32_w]
                                            rfl
                                          refine pure_ (i := 17) (N := some 58) (v := ?_) (a' := ?_) #[true, true, true, true, false, true, true, true, true, false, true, true, true, true, false, true, true, true, false, false, false, false] rfl rfl (any_of HT_.out (by kernel_rfl)) (fun _ _ _ h => h) (Or.inl ⟨by rfl, ?_⟩) ?_ ?_
                                          rotate_left
                                          · intro w'
                                            go_simp
                                            with_reducible rfl
                                          rotate_left
                                          · simp only [Act.put, List.setIfInBounds_toArray, List.set_cons_zero, List.set_cons_succ, i64_w, i32_w]
                                            rfl
                                          refine take_ (i := 4) (N := some 45) (v := ?_) (a' := ?_) #[true, true, true, true, true, true, true, true, true, false, true, true, true, true, false, true, true, true, false, false, false, false] rfl rfl (take_ofW HT_.out HW_.out (by kernel_rfl)) (fun _ _ _ h => h) (Or.inl ⟨by rfl, ?_⟩) hHeld ?_ ?_
                                          rotate_left
                                          · intro w' _
                                            go_simp
                                            with_reducible rfl
                                          rotate_left
                                          · simp only [Act.put, List.setIfInBounds_toArray, List.set_cons_zero, List.set_cons_succ, i64_w, i32_w]
                                            rfl
                                          refine take_ (i := 9) (N := some 50) (v := ?_) (a' := ?_) #[true, true, true, true, true, true, true, true, true, true, true, true, true, true, false, true, true, true, false, false, false, false] rfl rfl (take_ofW HT_.out HW_.out (by kernel_rfl)) (fun _ _ _ h => h) (Or.inl ⟨by rfl, ?_⟩) hHeld ?_ ?_
                                          rotate_left
                                          · intro w' _
                                            go_simp
                                            with_reducible rfl
                                          rotate_left
                                          · simp only [Act.put, List.setIfInBounds_toArray, List.set_cons_zero, List.set_cons_succ, i64_w, i32_w]
                                            rfl
                                          refine take_ (i := 14) (N := some 55) (v := ?_) (a' := ?_) #[true, true, true, true, true, true, true, true, true, true, true, true, true, true, true, true, true, true, false, false, false, false] rfl rfl (take_ofW HT_.out HW_.out (by kernel_rfl)) (fun _ _ _ h => h) (Or.inl ⟨by rfl, ?_⟩) hHeld ?_ ?_
                                          rotate_left
                                          · intro w' _
                                            go_simp
                                            with_reducible rfl
                                          rotate_left
                                          · simp only [Act.put, List.setIfInBounds_toArray, List.set_cons_zero, List.set_cons_succ, i64_w, i32_w]
                                            rfl
                                          refine take_ (i := 18) (N := some 59) (v := ?_) (a' := ?_) #[true, true, true, true, true, true, true, true, true, true, true, true, true, true, true, true, true, true, true, false, false, false] rfl rfl (take_ofW HT_.out HW_.out (by kernel_rfl)) (fun _ _ _ h => h) (Or.inl ⟨by rfl, ?_⟩) hHeld ?_ ?_
                                          rotate_left
                                          · intro w' _
                                            go_simp
                                            with_reducible rfl
                                          rotate_left
                                          · simp only [Act.put, List.setIfInBounds_toArray, List.set_cons_zero, List.set_cons_succ, i64_w, i32_w]
                                            rfl
                                          refine one_ (i := 19) (N := some 60) #[true, true, true, true, true, true, true, true, true, true, true, true, true, true, true, true, true, true, true, true, false, false] rfl rfl (one_of HT_.out (by kernel_rfl)) (by decide) (fun K hK => ?_)
                                          refine Kd.R_lit_step (Kd.int .u8) _ 5 ?hg (N := 60) ?hd (xs := ([bt (⟨#[48, 49, 50, 51, 52, 53, 54, 55, 56, 57, 97, 98, 99, 100, 101, 102]⟩ : ByteArray) (ji13), bt (⟨#[48, 49, 50, 51, 52, 53, 54, 55, 56, 57, 97, 98, 99, 100, 101, 102]⟩ : ByteArray) (ji17), bt (⟨#[48, 49, 50, 51, 52, 53, 54, 55, 56, 57, 97, 98, 99, 100, 101, 102]⟩ : ByteArray) (ji21), bt (⟨#[48, 49, 50, 51, 52, 53, 54, 55, 56, 57, 97, 98, 99, 100, 101, 102]⟩ : ByteArray) (ji25)] : List Int)) (inner := [.int .u8 (bt (⟨#[48, 49, 50, 51, 52, 53, 54, 55, 56, 57, 97, 98, 99, 100, 101, 102]⟩ : ByteArray) (ji13)), .int .u8 (bt (⟨#[48, 49, 50, 51, 52, 53, 54, 55, 56, 57, 97, 98, 99, 100, 101, 102]⟩ : ByteArray) (ji17)), .int .u8 (bt (⟨#[48, 49, 50, 51, 52, 53, 54, 55, 56, 57, 97, 98, 99, 100, 101, 102]⟩ : ByteArray) (ji21)), .int .u8 (bt (⟨#[48, 49, 50, 51, 52, 53, 54, 55, 56, 57, 97, 98, 99, 100, 101, 102]⟩ : ByteArray) (ji25))]) (ok := fun _ => True) (okp := fun _ => True) ?hr ?hp (fun _ hk => hk) trivial (Below.refl _ _) (Nat.le_refl _) (by simp) ?_; (case hd => rfl); (case hg => rfl); (case hr => first | (go_simp; done) | (go_simp; rfl)); (case hp => exact (Reps.one (show Kd.M (Kd.int .u8) _ _ _ (bt (⟨#[48, 49, 50, 51, 52, 53, 54, 55, 56, 57, 97, 98, 99, 100, 101, 102]⟩ : ByteArray) (ji13)) [.int .u8 (bt (⟨#[48, 49, 50, 51, 52, 53, 54, 55, 56, 57, 97, 98, 99, 100, 101, 102]⟩ : ByteArray) (ji13))] from rfl) (Reps.one (show Kd.M (Kd.int .u8) _ _ _ (bt (⟨#[48, 49, 50, 51, 52, 53, 54, 55, 56, 57, 97, 98, 99, 100, 101, 102]⟩ : ByteArray) (ji17)) [.int .u8 (bt (⟨#[48, 49, 50, 51, 52, 53, 54, 55, 56, 57, 97, 98, 99, 100, 101, 102]⟩ : ByteArray) (ji17))] from rfl) (Reps.one (show Kd.M (Kd.int .u8) _ _ _ (bt (⟨#[48, 49, 50, 51, 52, 53, 54, 55, 56, 57, 97, 98, 99, 100, 101, 102]⟩ : ByteArray) (ji21)) [.int .u8 (bt (⟨#[48, 49, 50, 51, 52, 53, 54, 55, 56, 57, 97, 98, 99, 100, 101, 102]⟩ : ByteArray) (ji21))] from rfl) (Reps.one (show Kd.M (Kd.int .u8) _ _ _ (bt (⟨#[48, 49, 50, 51, 52, 53, 54, 55, 56, 57, 97, 98, 99, 100, 101, 102]⟩ : ByteArray) (ji25)) [.int .u8 (bt (⟨#[48, 49, 50, 51, 52, 53, 54, 55, 56, 57, 97, 98, 99, 100, 101, 102]⟩ : ByteArray) (ji25))] from rfl) (Reps.none _ _))))))
                                          intro v128 w32 ho33 hb hg_ hnew_
                                          clear hg_ hnew_
                                          (first | rw [← Ny127.out] at ho33 | (simp only [Int.reduceToNat] at ho33; rw [← Ny127.out] at ho33))
                                          have n0_ := Aside0.mk (Kd.R_elder' (by (with_reducible repeat (first | apply Kd.R_alloc | apply Kd.R_drewN | apply Kd.R_drew)); exact HO_5.out) (Kd.R_base ho33) hb)
                                          have n1_ := Aside0.mk (Kd.R_lower (Kd.R_new' ho33 (Kd.R_lt (by (with_reducible repeat (first | apply Kd.R_alloc | apply Kd.R_drewN | apply Kd.R_drew)); exact HO_5.out))) (below_size (by repeat (first | (with_reducible first | exact HB.out | apply below_alloc | apply pw_below_drewN | apply below_drew1) | exact HB.out))))
                                          have n2_ := Aside0.mk (below_step (by repeat (first | (with_reducible first | exact HB.out | apply below_alloc | apply pw_below_drewN | apply below_drew1) | exact HB.out)) hb)
                                          clear HO_5
                                          clear HB
                                          have HO_5 := n0_
                                          have HO129 := n1_
                                          have HB := n2_
                                          clear n0_ n1_ n2_
                                          clear hb ho33
                                          obtain ⟨Ao35, co35, eo35⟩ := Kd.R_slice HO129.out
                                          (first | subst eo35 | (injection eo35 with f1_ f2_ f3_; have f4_ := f1_.symm; have f5_ := f3_.symm; clear f1_ f2_ f3_; subst f4_; subst f5_))
                                          refine hK.out _ _ trivial (fun hHeld => ?_)
                                          clear hK K
                                          refine norm_ (a' := ?_) ?_ ?_
                                          rotate_left
                                          · show Act.put _ (some 60) _ = _
                                            simp only [Act.put, List.setIfInBounds_toArray, List.set_cons_zero, List.set_cons_succ, i64_w, i32_w]
                                            rfl
                                          refine one_ (i := 20) (N := some 61) #[true, true, true, true, true, true, true, true, true, true, true, true, true, true, true, true, true, true, true, true, true, false] rfl rfl (one_of HT_.out (by kernel_rfl)) (by decide) (fun K hK => ?_)
                                          refine Kd.R_append_rows_step (Kd.int .u8) (w0 := w) w.heap.size (by rfl) (.tmp 41) (.tmp 60) 23 5 (.int .u8 0) 1 rfl Try.underlying23 info5 rfl (by decide) (by omega) u5 x5_1 y127 _ _ _ (fun k_ => some k_ ≠ (.slice Ao35 y127.length co35 : Value).ownBlock) (fun _ => False) rfl rfl ?aO ?aR (fun _ _ h => h) (fun _ h => h.elim) ?aF ?aB ?aS ?aL ?_
                                          (case aR => repeat (first | exact (Kd.R_reads' HO129.out).2.2 | (with_reducible refine Kd.C_alloc ?_ _) | (with_reducible refine Kd.C_drewN ?_ _) | (with_reducible refine Kd.C_drew ?_)))
                                          (case aB => exact (by repeat (first | (with_reducible first | exact HB.out | apply below_alloc | apply pw_below_drewN | apply below_drew1) | exact HB.out)))
                                          (case aF => exact (fun k_ hk => Kd.fresh' (Kd.R_lt (by (with_reducible repeat (first | apply Kd.R_alloc | apply Kd.R_drewN | apply Kd.R_drew)); exact HO129.out)) k_ hk))
                                          (case aO => exact (by (with_reducible repeat (first | apply Kd.R_alloc | apply Kd.R_drewN | apply Kd.R_drew)); exact Kd.R_mono HO_5.out (fun _ hk => hk.2)))
                                          (case aS => exact (below_size (by repeat (first | (with_reducible first | exact HB.out | apply below_alloc | apply pw_below_drewN | apply below_drew1) | exact HB.out))))
                                          (case aL => have := LMc29.out; omega)
                                          intro v131 w34 ho hb hg hat
                                          rw [← Ny130.out] at ho
                                          have n0_ := Aside0.mk (Kd.R_after (ok := (fun _ => True)) (by (with_reducible repeat (first | apply Kd.R_alloc | apply Kd.R_drewN | apply Kd.R_drew)); exact HO129.out) hg hat)
                                          have n1_ := Aside0.mk (hb)
                                          have n2_ := Aside0.mk (ho)
                                          clear HO129
                                          clear HB
                                          clear HO_5
                                          have HO129 := n0_
                                          have HB := n1_
                                          have HO132 := n2_
                                          clear n0_ n1_ n2_
                                          clear ho hb hg hat
                                          refine hK.out _ _ trivial (fun hHeld => ?_)
                                          clear hK K
                                          refine norm_ (a' := ?_) ?_ ?_
                                          rotate_left
                                          · show Act.put _ (some 61) _ = _
                                            simp only [Act.put, List.setIfInBounds_toArray, List.set_cons_zero, List.set_cons_succ, i64_w, i32_w]
                                            rfl
                                          refine pure_ (i := 21) (N := some 5) (v := ?_) (a' := ?_) #[true, true, true, true, true, true, true, true, true, true, true, true, true, true, true, true, true, true, true, true, true, true] rfl rfl (any_of HT_.out (by kernel_rfl)) (fun _ _ _ h => h) (Or.inl ⟨by rfl, ?_⟩) ?_ ?_
                                          rotate_left
                                          · intro w'
                                            go_simp
                                            with_reducible rfl
                                          rotate_left
                                          · simp only [Act.put, List.setIfInBounds_toArray, List.set_cons_zero, List.set_cons_succ, i64_w, i32_w]
                                            rfl
                                          refine done_ (done_of HT_.out (by kernel_rfl)) ?_
                                          have p133 : 0 ≤ (x6_1 : Int) := of_decide_eq_true (by first | (with_reducible assumption) | assumption)
                                          have q133 : x6_1 < (l0.length : Int) := of_decide_eq_true (by first | (with_reducible assumption) | assumption)
                                          obtain ⟨ad133, e133, hx133_0, hx133_1⟩ := at_T38 HR0.out x6_1 p133 q133
                                          (try rw [← Nbq9.out] at hx133_0)
                                          obtain rfl : ad121 = ad133 := (by injection e133)
                                          replace hx133_0 := (HB.out.cell (World.block_lt_of_cell? w _ hx133_0)).trans hx133_0
                                          replace hx133_1 := (HB.out.cell (World.block_lt_of_cell? w _ hx133_1)).trans hx133_1
                                          replace p133 := eq_true p133
                                          replace q133 := eq_true q133
                                          try go_wp2_with (first | (at_builtin; refine print_append_str (w0 := w) w.heap.size rfl (.tmp 62) _ 23 9 5 rfl Try.underlying23 Try.underlying9 info5 v131 y130 ((rd_T38 l0 x6_1).f1) rfl rfl ?aO ?aB ?aS ?aL ?_; (case aB => exact (by repeat (first | (with_reducible first | exact HB.out | apply below_alloc | apply pw_below_drewN | apply below_drew1) | exact HB.out))); (case aO => exact (Kd.own_of_R (by (with_reducible repeat (first | apply Kd.R_alloc | apply Kd.R_drewN | apply Kd.R_drew)); exact Kd.R_mono HO132.out (fun _ hk => trivial)))); (case aS => exact (below_size (by repeat (first | (with_reducible first | exact HB.out | apply below_alloc | apply pw_below_drewN | apply below_drew1) | exact HB.out)))); (case aL => have := LMc30.out; omega); intro v135 w36 ho0 hb hg; have ho := Kd.R_of_own (h1 := fun _ => rfl) (ok := fun _ => True) ho0 (fun _ _ => trivial); clear ho0; have hat := True.intro; rw [← Ny134.out] at ho; change Kd.R (Kd.int .u8) 5 w36 w.heap.size (fun _ => True) v135 y134 at ho; have n0_ := Aside0.mk (hb); have n1_ := Aside0.mk (ho); clear HB; clear HO132; have HB := n0_; have HO136 := n1_; clear n0_ n1_; clear ho hb hg hat))
                                          go_roundg kj3
                                          case measure => have := HK1.out; have := HJ3.out; omega
                                          case rel => exact ⟨(y134), (wrap64 (x6_1 + 1)), (by first | rfl | (simp; done) | (simp [*]; done)), H', ⟨by have := HK1.out; have := HJ3.out; omega⟩, ⟨by (with_reducible repeat (first | apply Kd.R_alloc | apply Kd.R_drewN | apply Kd.R_drew)); exact HO136.out⟩, ⟨by repeat (first | (with_reducible first | exact HB.out | apply below_alloc | apply pw_below_drewN | apply below_drew1) | exact HB.out)⟩⟩
                                        · rw [if_neg c30] at H
                                          exact absurd H (by simp)
                                      · rw [if_neg c29] at H
                                        exact absurd H (by simp)
                                    · rw [if_neg c27] at H
                                      exact absurd H (by simp)
                                  · rw [if_neg c26] at H
                                    exact absurd H (by simp)
                                · rw [if_neg c23] at H
                                  exact absurd H (by simp)
                              · rw [if_neg c22] at H
                                exact absurd H (by simp)
                            · rw [if_neg c19] at H
                              exact absurd H (by simp)
                          · rw [if_neg c18] at H
                            exact absurd H (by simp)
                        · rw [if_neg c15] at H
                          exact absurd H (by simp)
                      · rw [if_neg c14] at H
                        exact absurd H (by simp)
                  · rw [if_neg c8] at H
                    exact absurd H (by simp)
                · rw [if_neg c7] at H
                  exact absurd H (by simp)
        · rw [if_neg c3] at H
          exact absurd H (by simp)
      · rw [if_neg c2] at H
        have c2b0 : decide (x6_1 < (l0.length : Int)) = false := decide_eq_false c2
        clear c2
        simp only [Option.some.injEq, Prod.mk.injEq] at H
        obtain ⟨rfl, rfl⟩ := H
        go_wp2
        go_ret2
        exact ⟨_, by first | rfl | (simp [errW_none, errW_some] <;> rfl) | (simp [*, errW_none, errW_some] <;> rfl), by (with_reducible repeat (first | apply Kd.R_alloc | apply Kd.R_drewN | apply Kd.R_drew)); exact HO_5.out, by repeat (first | (with_reducible first | exact HB.out | apply below_alloc | apply pw_below_drewN | apply below_drew1) | exact HB.out)⟩

end Go.Proofs.Ytigcmhidbekgbaa.Print
