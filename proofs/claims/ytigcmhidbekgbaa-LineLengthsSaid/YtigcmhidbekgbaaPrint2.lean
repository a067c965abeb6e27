/- Functions of the program as plain functions, and proofs that the program's calls tell what these tell. Written by a program. -/
import Derived.Test.YtigcmhidbekgbaaPrint0
namespace Go.Proofs.Ytigcmhidbekgbaa.Print
open Go.RowKit Go.Proofs.YtigcmhidbekgbaaW.PrintWords Go.Proofs.YtigcmhidbekgbaaW.PrintLast Go.Proofs.YtigcmhidbekgbaaW.PrintMore Go.Proofs.Ytigcmhidbekgbaa.Conv
attribute [local go_sem] max2_int min2_int max_two min_two max_three min_three max_four min_four   -- for this text's walks alone
set_option linter.unusedVariables false
set_option linter.unusedSimpArgs false

/-! ### line_Put: function 11 -/
mutual
def line_Put.l0 : Nat → List Int → List (S38) → Int → Int → Option (List Int × Int)
  | 0, _, _, _, _ => none
  | k + 1, x4, x9, x10, x11 => if x11 < x10 then (if 0 ≤ x11 then (if x11 < (x9.length : Int) then (if (((rd_T38 x9 x11).f0) != ((((rd_T38 x9 x11).f1).size : Int) == 0)) = true then (line_Put.j1 k x4 (((rd_T38 x9 x11).f1).size : Int) x9 x10 x11 true ((rd_T38 x9 x11).f0) ((rd_T38 x9 x11).f1)) else (line_Put.j1 k x4 (((rd_T38 x9 x11).f1).size : Int) x9 x10 x11 (decide ((((rd_T38 x9 x11).f1).size : Int) > 4000)) ((rd_T38 x9 x11).f0) ((rd_T38 x9 x11).f1))) else (none)) else (none)) else (some (x4, 0))
def line_Put.j1 : Nat → List Int → Int → List (S38) → Int → Int → Bool → Bool → ByteArray → Option (List Int × Int)
  | 0, _, _, _, _, _, _, _, _ => none
  | k + 1, x4, x7, x9, x10, x11, x26, x103000, x103001 => if x26 = true then (some (([] : List Int), 1)) else (if x103000 = true then (line_Put.j2 k x4 x7 x9 x10 x11 x103000 x103001) else (line_Put.j2 k x4 (wrap64 (x7 + 4)) x9 x10 x11 x103000 x103001))
def line_Put.j2 : Nat → List Int → Int → List (S38) → Int → Int → Bool → ByteArray → Option (List Int × Int)
  | 0, _, _, _, _, _, _, _ => none
  | k + 1, x4, x7, x9, x10, x11, x103000, x103001 => line_Put.l1 k x4 x7 x9 x10 x11 0 x103000 x103001
def line_Put.l1 : Nat → List Int → Int → List (S38) → Int → Int → Int → Bool → ByteArray → Option (List Int × Int)
  | 0, _, _, _, _, _, _, _, _ => none
  | k + 1, x4, x7, x9, x10, x11, x32, x103000, x103001 => if x32 < 4 then (if 0 ≤ (wrap64 (12 - (wrap64 (4 * x32)))) then (if 0 ≤ (Go.bits .and .i64 (shr .i64 x7 (wrap64 (12 - (wrap64 (4 * x32))))) 15) then (if (Go.bits .and .i64 (shr .i64 x7 (wrap64 (12 - (wrap64 (4 * x32))))) 15) < 16 then (if x4.length < 140737488355328 then (line_Put.l1 k (x4 ++ [bt (⟨#[48, 49, 50, 51, 52, 53, 54, 55, 56, 57, 97, 98, 99, 100, 101, 102]⟩ : ByteArray) (Go.bits .and .i64 (shr .i64 x7 (wrap64 (12 - (wrap64 (4 * x32))))) 15)]) x7 x9 x10 x11 (wrap64 (x32 + 1)) x103000 x103001) else (none)) else (none)) else (none)) else (none)) else (if x4.length + x103001.size < 140737488355328 then (line_Put.l0 k (x4 ++ bytesOf x103001) x9 x10 (wrap64 (x11 + 1))) else (none))
end
def line_Put.f (k : Nat) (l0 : List (S38)) : Option (List Int × Int) := line_Put.l0 k ([] : List Int) l0 (l0.length : Int) 0
theorem line_Put.mono_l : ∀ k, (∀ y0 y1 y2 y3, LeO (line_Put.l0 k y0 y1 y2 y3) (line_Put.l0 (k + 1) y0 y1 y2 y3)) ∧ (∀ y0 y1 y2 y3 y4 y5 y6 y7, LeO (line_Put.j1 k y0 y1 y2 y3 y4 y5 y6 y7) (line_Put.j1 (k + 1) y0 y1 y2 y3 y4 y5 y6 y7)) ∧ (∀ y0 y1 y2 y3 y4 y5 y6, LeO (line_Put.j2 k y0 y1 y2 y3 y4 y5 y6) (line_Put.j2 (k + 1) y0 y1 y2 y3 y4 y5 y6)) ∧ (∀ y0 y1 y2 y3 y4 y5 y6 y7, LeO (line_Put.l1 k y0 y1 y2 y3 y4 y5 y6 y7) (line_Put.l1 (k + 1) y0 y1 y2 y3 y4 y5 y6 y7))
  | 0 => ⟨fun _ _ _ _ r h => by simp [line_Put.l0] at h, fun _ _ _ _ _ _ _ _ r h => by simp [line_Put.j1] at h, fun _ _ _ _ _ _ _ r h => by simp [line_Put.j2] at h, fun _ _ _ _ _ _ _ _ r h => by simp [line_Put.l1] at h⟩
  | k + 1 => by
    obtain ⟨ih0, ih1, ih2, ih3⟩ := line_Put.mono_l k
    refine ⟨?_, ?_, ?_, ?_⟩
    · intro y0 y1 y2 y3
      unfold line_Put.l0
      repeat' first
      | (with_reducible exact ih0 _ _ _ _)
      | (with_reducible exact ih1 _ _ _ _ _ _ _ _)
      | (with_reducible exact ih2 _ _ _ _ _ _ _)
      | (with_reducible exact ih3 _ _ _ _ _ _ _ _)
      | (with_reducible exact LeO.refl _)
      | (with_reducible exact LeO.none _)
      | (with_reducible refine LeO.ite ?_ ?_)
      | (with_reducible refine LeO.bind ?_ (fun _ => ?_))
      | exact ih0 _ _ _ _
      | exact ih1 _ _ _ _ _ _ _ _
      | exact ih2 _ _ _ _ _ _ _
      | exact ih3 _ _ _ _ _ _ _ _
      | exact LeO.none _
      | refine LeO.ite ?_ ?_
      | refine LeO.bind ?_ (fun _ => ?_)
    · intro y0 y1 y2 y3 y4 y5 y6 y7
      unfold line_Put.j1
      repeat' first
      | (with_reducible exact ih0 _ _ _ _)
      | (with_reducible exact ih1 _ _ _ _ _ _ _ _)
      | (with_reducible exact ih2 _ _ _ _ _ _ _)
      | (with_reducible exact ih3 _ _ _ _ _ _ _ _)
      | (with_reducible exact LeO.refl _)
      | (with_reducible exact LeO.none _)
      | (with_reducible refine LeO.ite ?_ ?_)
      | (with_reducible refine LeO.bind ?_ (fun _ => ?_))
      | exact ih0 _ _ _ _
      | exact ih1 _ _ _ _ _ _ _ _
      | exact ih2 _ _ _ _ _ _ _
      | exact ih3 _ _ _ _ _ _ _ _
      | exact LeO.none _
      | refine LeO.ite ?_ ?_
      | refine LeO.bind ?_ (fun _ => ?_)
    · intro y0 y1 y2 y3 y4 y5 y6
      unfold line_Put.j2
      repeat' first
      | (with_reducible exact ih0 _ _ _ _)
      | (with_reducible exact ih1 _ _ _ _ _ _ _ _)
      | (with_reducible exact ih2 _ _ _ _ _ _ _)
      | (with_reducible exact ih3 _ _ _ _ _ _ _ _)
      | (with_reducible exact LeO.refl _)
      | (with_reducible exact LeO.none _)
      | (with_reducible refine LeO.ite ?_ ?_)
      | (with_reducible refine LeO.bind ?_ (fun _ => ?_))
      | exact ih0 _ _ _ _
      | exact ih1 _ _ _ _ _ _ _ _
      | exact ih2 _ _ _ _ _ _ _
      | exact ih3 _ _ _ _ _ _ _ _
      | exact LeO.none _
      | refine LeO.ite ?_ ?_
      | refine LeO.bind ?_ (fun _ => ?_)
    · intro y0 y1 y2 y3 y4 y5 y6 y7
      unfold line_Put.l1
      repeat' first
      | (with_reducible exact ih0 _ _ _ _)
      | (with_reducible exact ih1 _ _ _ _ _ _ _ _)
      | (with_reducible exact ih2 _ _ _ _ _ _ _)
      | (with_reducible exact ih3 _ _ _ _ _ _ _ _)
      | (with_reducible exact LeO.refl _)
      | (with_reducible exact LeO.none _)
      | (with_reducible refine LeO.ite ?_ ?_)
      | (with_reducible refine LeO.bind ?_ (fun _ => ?_))
      | exact ih0 _ _ _ _
      | exact ih1 _ _ _ _ _ _ _ _
      | exact ih2 _ _ _ _ _ _ _
      | exact ih3 _ _ _ _ _ _ _ _
      | exact LeO.none _
      | refine LeO.ite ?_ ?_
      | refine LeO.bind ?_ (fun _ => ?_)
theorem line_Put.mono : ∀ a0 k, LeO (line_Put.f k a0) (line_Put.f (k + 1) a0) := by
  intro a0 k
  obtain ⟨ih0, ih1, ih2, ih3⟩ := line_Put.mono_l k
  unfold line_Put.f
  repeat' first
      | (with_reducible exact ih0 _ _ _ _)
      | (with_reducible exact ih1 _ _ _ _ _ _ _ _)
      | (with_reducible exact ih2 _ _ _ _ _ _ _)
      | (with_reducible exact ih3 _ _ _ _ _ _ _ _)
      | (with_reducible exact LeO.refl _)
      | (with_reducible exact LeO.none _)
      | (with_reducible refine LeO.ite ?_ ?_)
      | (with_reducible refine LeO.bind ?_ (fun _ => ?_))
      | exact ih0 _ _ _ _
      | exact ih1 _ _ _ _ _ _ _ _
      | exact ih2 _ _ _ _ _ _ _
      | exact ih3 _ _ _ _ _ _ _ _
      | exact LeO.none _
      | refine LeO.ite ?_ ?_
      | refine LeO.bind ?_ (fun _ => ?_)
set_option maxHeartbeats 8000000 in
set_option maxRecDepth 100000 in
theorem line_Put.calls (k : Nat) (A0 : Option Addr) (c0 : Nat) (l0 : List (S38)) (r1 : List Int) (r2 : Int) (w : World) (hr0 : Kd.C k38 w A0 l0.length l0) (hc0 : l0.length ≤ c0) (h : line_Put.f k l0 = some (r1, r2)) :
    Calls Try.prog 11 #[.slice A0 l0.length c0] w fun e w' => ∃ v0_ : Value, e = .returned (.tuple #[v0_, .int .i64 r2]) ∧ Kd.R (Kd.int .u8) 5 w' w.heap.size (fun _ => True) v0_ r1 ∧ Below w.heap.size w w' := by
  have hu38 := Try.underlying38
  have HR0 := Aside0.mk hr0
  have HC0 := Aside0.mk hc0
  clear hr0 hc0
  have HB := Aside0.mk (Below.refl w.heap.size w)
  have H : (line_Put.l0 k ([] : List Int) l0 (l0.length : Int) 0) = some (r1, r2) := h
  clear h
  have H' := Aside0.mk H
  clear H
  go_enter Try.func11, Try.ntmps11
  go_wp2
  go_loopg [4, 11] k (fun kq v4 v11 w' => ∃ (x4_1 : List Int) (x11_1 : Int), v11 = .int .i64 x11_1 ∧ Aside0 (line_Put.l0 kq x4_1 l0 (l0.length : Int) x11_1 = some (r1, r2)) ∧ Aside0 (kq ≤ k) ∧ Aside0 (Kd.R (Kd.int .u8) 5 w' w.heap.size (fun _ => True) v4 x4_1) ∧ Aside0 (Below w.heap.size w w'))
  case atStart => exact ⟨(([] : List Int)), (0), (by first | rfl | (simp; done) | (simp [*]; done)), H', ⟨Nat.le_refl _⟩, ⟨by first | exact Kd.R_nil _ _ _ _ _ | exact Kd.N_nil _ _ _ _ _ | exact Kd.V_nil _ _ _ _ _ | exact Kd.Q_nil _ _ _ _ _ | exact Kd.S_nil _ _ _ _ _⟩, ⟨by repeat (first | (with_reducible first | exact HB.out | apply below_alloc | apply pw_below_drewN | apply below_drew1) | exact HB.out)⟩⟩
  case round =>
    clear H'
    try clear c1
    obtain ⟨x4_1, x11_1, rfl, HA, HK1, HO_4, HB⟩ := hrel
    cases gk with
    | zero => exact absurd HA.out (by simp [line_Put.l0])
    | succ k1 =>
      have H := HA.out
      clear HA
      simp only [line_Put.l0] at H
      by_cases c2 : x11_1 < (l0.length : Int)
      · rw [if_pos c2] at H
        have c2b0 : decide (x11_1 < (l0.length : Int)) = true := decide_eq_true c2
        clear c2
        by_cases c3 : 0 ≤ x11_1
        · rw [if_pos c3] at H
          have c3b0 : decide (0 ≤ x11_1) = true := decide_eq_true c3
          clear c3
          by_cases c4 : x11_1 < (l0.length : Int)
          · rw [if_pos c4] at H
            have c4b0 : decide (x11_1 < (l0.length : Int)) = true := decide_eq_true c4
            clear c4
            have HC5 := Aside0.mk H
            clear H
            have p101 : 0 ≤ (x11_1 : Int) := of_decide_eq_true (by first | (with_reducible assumption) | assumption)
            have q101 : x11_1 < (l0.length : Int) := of_decide_eq_true (by first | (with_reducible assumption) | assumption)
            obtain ⟨ad101, e101, hx101_0, hx101_1⟩ := at_T38 HR0.out x11_1 p101 q101
            cases e101
            replace hx101_0 := (HB.out.cell (World.block_lt_of_cell? w _ hx101_0)).trans hx101_0
            replace hx101_1 := (HB.out.cell (World.block_lt_of_cell? w _ hx101_1)).trans hx101_1
            replace p101 := eq_true p101
            replace q101 := eq_true q101
            go_upto_region 6 with (first | ((with_reducible refine gate_dst (N := 6) rfl ?_); refine box_event ?hg (N := 6) ?hd (cs := #[.bool false, .string (⟨#[]⟩ : ByteArray)]) (t := 38) ?hr ?_; (case hd => rfl); (case hg => rfl); (case hr => first | (go_simp; done) | (go_simp; rfl)); intro gb102 hg w6 hbox hb; have n0_ := Aside0.mk (Kd.R_below (by (with_reducible repeat (first | apply Kd.R_alloc | apply Kd.R_drewN | apply Kd.R_drew)); exact HO_4.out) hb); have n1_ := Aside0.mk (below_step (by repeat (first | (with_reducible first | exact HB.out | apply below_alloc | apply pw_below_drewN | apply below_drew1) | exact HB.out)) hb); have n2_ := Aside0.mk (hbox); have n3_ := Aside0.mk ((by rw [hg]; exact (below_size (by repeat (first | (with_reducible first | exact HB.out | apply below_alloc | apply pw_below_drewN | apply below_drew1) | exact HB.out))) : w.heap.size ≤ gb102)); have n4_ := Aside0.mk ((by rw [hg]; exact (below_size (by repeat (first | (with_reducible first | exact HB.out | apply below_alloc | apply pw_below_drewN | apply below_drew1) | exact HB.out))) : w.heap.size ≤ gb102)); clear HO_4; clear HB; have HO_4 := n0_; have HB := n1_; have BK102 := n2_; have GW102 := n3_; have GE102 := n4_; clear n0_ n1_ n2_ n3_ n4_; clear hb hbox hg; have hcz7_0 : w6.cell? ⟨gb102, 0, none⟩ = some (.bool false) := (blk_cell BK102.out 0).trans rfl; have hcz7_1 : w6.cell? ⟨gb102, 1, none⟩ = some (.string (⟨#[]⟩ : ByteArray)) := (blk_cell BK102.out 1).trans rfl; have hfz7_0 := blk_frozen BK102.out 0; have hfz7_1 := blk_frozen BK102.out 1))
            (try simp only [Act.put, List.setIfInBounds_toArray, List.set_cons_zero, List.set_cons_succ])
            go_cut [26] (fun v26 wc => ∃ (kq : Nat) (x26_4 : Bool), v26 = .bool x26_4 ∧ Aside0 (line_Put.j1 kq x4_1 (((rd_T38 l0 x11_1).f1).size : Int) l0 (l0.length : Int) x11_1 x26_4 ((rd_T38 l0 x11_1).f0) ((rd_T38 l0 x11_1).f1) = some (r1, r2)) ∧ Aside0 (kq ≤ k1) ∧ Aside0 (Kd.R (Kd.int .u8) 5 wc w.heap.size (fun _ => True) u4 x4_1) ∧ Aside0 (wc.heap[gb102]? = some (.cells #[.bool ((rd_T38 l0 x11_1).f0), .string ((rd_T38 l0 x11_1).f1)] 38 (0, 0))) ∧ Aside0 (Below w.heap.size w wc))
            case first =>
              have H := HC5.out
              clear HC5
              by_cases c8 : (((rd_T38 l0 x11_1).f0) != ((((rd_T38 l0 x11_1).f1).size : Int) == 0)) = true
              · rw [if_pos c8] at H
                have c8b0 : (((rd_T38 l0 x11_1).f0) != ((((rd_T38 l0 x11_1).f1).size : Int) == 0)) = true := c8
                (try (have c8b1 : decide (((rd_T38 l0 x11_1).f0) = ((((rd_T38 l0 x11_1).f1).size : Int) == 0)) = false := by simpa using c8))
                (try (have c8b2 : (((rd_T38 l0 x11_1).f0) == ((((rd_T38 l0 x11_1).f1).size : Int) == 0)) = false := by simpa using c8))
                (try (have c8b3 : ¬ (((rd_T38 l0 x11_1).f0) = ((((rd_T38 l0 x11_1).f1).size : Int) == 0)) := by simpa using c8))
                clear c8
                (first | rw [c8b0] | (simp only [i64_w, i32_w]; rw [c8b0]) | skip)
                have H' := Aside0.mk H
                clear H
                have hcz9_0 : w6.cell? ⟨gb102, 0, none⟩ = some (.bool false) := (blk_cell BK102.out 0).trans rfl
                have hcz9_1 : w6.cell? ⟨gb102, 1, none⟩ = some (.string (⟨#[]⟩ : ByteArray)) := (blk_cell BK102.out 1).trans rfl
                have hfz9_0 := blk_frozen BK102.out 0
                have hfz9_1 := blk_frozen BK102.out 1
                go_wp2
                go_meet
                case rel => exact ⟨_, (true), (by first | rfl | (simp; done) | (simp [*]; done)), H', ⟨by have := HK1.out; first | omega | exact Nat.le_refl _⟩, ⟨by (with_reducible repeat (first | apply Kd.R_alloc | apply Kd.R_drewN | apply Kd.R_drew)); exact Kd.R_mono (Kd.R_far (p := ⟨gb102, 1, none⟩) (Kd.R_far (p := ⟨gb102, 0, none⟩) (Kd.R_types HO_4.out BK102.out (by decide)) (fun _ hk => hk.2) (.bool ((rd_T38 l0 x11_1).f0))) (fun _ hk => hk.2) (.string ((rd_T38 l0 x11_1).f1))) (fun _ hk => trivial)⟩, ⟨by (with_reducible repeat (first | refine blk_drewN ?_ _ | refine blk_drew ?_ | refine blk_alloc ?_ _)); refine blk_put (cs := #[.bool ((rd_T38 l0 x11_1).f0), .string (⟨#[]⟩ : ByteArray)]) ?_ 1 _ rfl; (with_reducible repeat (first | refine blk_drewN ?_ _ | refine blk_drew ?_ | refine blk_alloc ?_ _)); refine blk_put (cs := #[.bool false, .string (⟨#[]⟩ : ByteArray)]) ?_ 0 _ rfl; (with_reducible repeat (first | refine blk_drewN ?_ _ | refine blk_drew ?_ | refine blk_alloc ?_ _)); exact BK102.out⟩, ⟨by repeat (first | (with_reducible first | exact HB.out | apply below_alloc | apply pw_below_drewN | apply below_drew1 | refine below_set ?_ GE102.out) | exact HB.out)⟩⟩
              · rw [if_neg c8] at H
                have c8b0 : (((rd_T38 l0 x11_1).f0) != ((((rd_T38 l0 x11_1).f1).size : Int) == 0)) = false := by simpa using c8
                (try (have c8b1 : decide (((rd_T38 l0 x11_1).f0) = ((((rd_T38 l0 x11_1).f1).size : Int) == 0)) = true := by simpa using c8))
                (try (have c8b2 : (((rd_T38 l0 x11_1).f0) == ((((rd_T38 l0 x11_1).f1).size : Int) == 0)) = true := by simpa using c8))
                clear c8
                (first | rw [c8b0] | (simp only [i64_w, i32_w]; rw [c8b0]) | skip)
                have H' := Aside0.mk H
                clear H
                have hcz10_0 : w6.cell? ⟨gb102, 0, none⟩ = some (.bool false) := (blk_cell BK102.out 0).trans rfl
                have hcz10_1 : w6.cell? ⟨gb102, 1, none⟩ = some (.string (⟨#[]⟩ : ByteArray)) := (blk_cell BK102.out 1).trans rfl
                have hfz10_0 := blk_frozen BK102.out 0
                have hfz10_1 := blk_frozen BK102.out 1
                go_wp2
                go_meet
                case rel => exact ⟨_, (decide ((((rd_T38 l0 x11_1).f1).size : Int) > 4000)), (by first | rfl | (simp; done) | (simp [*]; done)), H', ⟨by have := HK1.out; first | omega | exact Nat.le_refl _⟩, ⟨by (with_reducible repeat (first | apply Kd.R_alloc | apply Kd.R_drewN | apply Kd.R_drew)); exact Kd.R_mono (Kd.R_far (p := ⟨gb102, 1, none⟩) (Kd.R_far (p := ⟨gb102, 0, none⟩) (Kd.R_types HO_4.out BK102.out (by decide)) (fun _ hk => hk.2) (.bool ((rd_T38 l0 x11_1).f0))) (fun _ hk => hk.2) (.string ((rd_T38 l0 x11_1).f1))) (fun _ hk => trivial)⟩, ⟨by (with_reducible repeat (first | refine blk_drewN ?_ _ | refine blk_drew ?_ | refine blk_alloc ?_ _)); refine blk_put (cs := #[.bool ((rd_T38 l0 x11_1).f0), .string (⟨#[]⟩ : ByteArray)]) ?_ 1 _ rfl; (with_reducible repeat (first | refine blk_drewN ?_ _ | refine blk_drew ?_ | refine blk_alloc ?_ _)); refine blk_put (cs := #[.bool false, .string (⟨#[]⟩ : ByteArray)]) ?_ 0 _ rfl; (with_reducible repeat (first | refine blk_drewN ?_ _ | refine blk_drew ?_ | refine blk_alloc ?_ _)); exact BK102.out⟩, ⟨by repeat (first | (with_reducible first | exact HB.out | apply below_alloc | apply pw_below_drewN | apply below_drew1 | refine below_set ?_ GE102.out) | exact HB.out)⟩⟩
            case rest =>
              clear HC5
              try clear c1
              try clear p1
              try clear q1
              try clear hx1
              try clear c2
              try clear c2b0
              try clear p2
              try clear c3
              try clear c3b0
              try clear c4
              try clear c4b0
              try clear c8
              try clear c8b0
              try clear c8b1
              try clear c8b2
              try clear p10
              try clear q10
              try clear hx10
              try clear hcz10_0
              try clear hcz10_1
              try clear hcz7_0
              try clear hcz7_1
              try clear hcz9_0
              try clear hcz9_1
              try clear hfz10_0
              try clear hfz10_1
              try clear hfz7_0
              try clear hfz7_1
              try clear hfz9_0
              try clear hfz9_1
              try clear hx101_0
              try clear hx101_1
              try clear p101
              try clear q101
              obtain ⟨kq, x26_4, rfl, HA, HJ4, HO_4, BK102, HB⟩ := hcut
              cases kq with
              | zero => exact absurd HA.out (by simp [line_Put.j1])
              | succ kj4 =>
                have H := HA.out
                clear HA
                simp only [line_Put.j1] at H
                by_cases c11 : x26_4 = true
                · subst c11
                  have H1 : (some (([] : List Int), 1)) = some (r1, r2) := by rw [if_pos rfl] at H; exact H
                  clear H
                  have H := H1
                  clear H1
                  simp only [Option.some.injEq, Prod.mk.injEq] at H
                  obtain ⟨rfl, rfl⟩ := H
                  go_wp2
                  go_ret2
                  exact ⟨_, by first | rfl | (simp [errW_none, errW_some] <;> rfl) | (simp [*, errW_none, errW_some] <;> rfl), by first | exact Kd.R_nil _ _ _ _ _ | exact Kd.N_nil _ _ _ _ _ | exact Kd.V_nil _ _ _ _ _ | exact Kd.Q_nil _ _ _ _ _ | exact Kd.S_nil _ _ _ _ _, by repeat (first | (with_reducible first | exact HB.out | apply below_alloc | apply pw_below_drewN | apply below_drew1 | refine below_set ?_ GE102.out) | exact HB.out)⟩
                · replace c11 := Bool.eq_false_iff.mpr c11
                  subst c11
                  have H1 : (if ((rd_T38 l0 x11_1).f0) = true then (line_Put.j2 kj4 x4_1 (((rd_T38 l0 x11_1).f1).size : Int) l0 (l0.length : Int) x11_1 ((rd_T38 l0 x11_1).f0) ((rd_T38 l0 x11_1).f1)) else (line_Put.j2 kj4 x4_1 (wrap64 ((((rd_T38 l0 x11_1).f1).size : Int) + 4)) l0 (l0.length : Int) x11_1 ((rd_T38 l0 x11_1).f0) ((rd_T38 l0 x11_1).f1))) = some (r1, r2) := by rw [if_neg (show ¬ (false = true) by decide)] at H; exact H
                  clear H
                  have H := H1
                  clear H1
                  have HC12 := Aside0.mk H
                  clear H
                  have hcz13_0 : wc.cell? ⟨gb102, 0, none⟩ = some (.bool ((rd_T38 l0 x11_1).f0)) := (blk_cell BK102.out 0).trans rfl
                  have hcz13_1 : wc.cell? ⟨gb102, 1, none⟩ = some (.string ((rd_T38 l0 x11_1).f1)) := (blk_cell BK102.out 1).trans rfl
                  have hfz13_0 := blk_frozen BK102.out 0
                  have hfz13_1 := blk_frozen BK102.out 1
                  go_upto_if 29 with (fail)
                  go_cut [7] (fun v7 wc => ∃ (kq : Nat) (x7_11 : Int), v7 = .int .i64 x7_11 ∧ Aside0 (line_Put.j2 kq x4_1 x7_11 l0 (l0.length : Int) x11_1 ((rd_T38 l0 x11_1).f0) ((rd_T38 l0 x11_1).f1) = some (r1, r2)) ∧ Aside0 (kq ≤ kj4) ∧ Aside0 (Kd.R (Kd.int .u8) 5 wc w.heap.size (fun _ => True) u4 x4_1) ∧ Aside0 (wc.heap[gb102]? = some (.cells #[.bool ((rd_T38 l0 x11_1).f0), .string ((rd_T38 l0 x11_1).f1)] 38 (0, 0))) ∧ Aside0 (Below w.heap.size w wc))
                  case first =>
                    have H := HC12.out
                    clear HC12
                    by_cases c14 : ((rd_T38 l0 x11_1).f0) = true
                    · rw [if_pos c14] at H
                      have c14b0 : ((rd_T38 l0 x11_1).f0) = true := c14
                      clear c14
                      (first | rw [c14b0] | (simp only [i64_w, i32_w]; rw [c14b0]) | skip)
                      have H' := Aside0.mk H
                      clear H
                      go_wp2
                      go_meet
                      case rel => exact ⟨_, ((((rd_T38 l0 x11_1).f1).size : Int)), (by first | rfl | (simp; done) | (simp [*]; done)), H', ⟨by have := HK1.out; have := HJ4.out; first | omega | exact Nat.le_refl _⟩, ⟨by (with_reducible repeat (first | apply Kd.R_alloc | apply Kd.R_drewN | apply Kd.R_drew)); exact HO_4.out⟩, ⟨by (with_reducible repeat (first | refine blk_drewN ?_ _ | refine blk_drew ?_ | refine blk_alloc ?_ _)); exact BK102.out⟩, ⟨by repeat (first | (with_reducible first | exact HB.out | apply below_alloc | apply pw_below_drewN | apply below_drew1 | refine below_set ?_ GE102.out) | exact HB.out)⟩⟩
                    · rw [if_neg c14] at H
                      have c14b0 : ((rd_T38 l0 x11_1).f0) = false := by simpa using c14
                      clear c14
                      (first | rw [c14b0] | (simp only [i64_w, i32_w]; rw [c14b0]) | skip)
                      have H' := Aside0.mk H
                      clear H
                      go_wp2
                      go_meet
                      case rel => exact ⟨_, (wrap64 ((((rd_T38 l0 x11_1).f1).size : Int) + 4)), (by first | rfl | (simp; done) | (simp [*]; done)), H', ⟨by have := HK1.out; have := HJ4.out; first | omega | exact Nat.le_refl _⟩, ⟨by (with_reducible repeat (first | apply Kd.R_alloc | apply Kd.R_drewN | apply Kd.R_drew)); exact HO_4.out⟩, ⟨by (with_reducible repeat (first | refine blk_drewN ?_ _ | refine blk_drew ?_ | refine blk_alloc ?_ _)); exact BK102.out⟩, ⟨by repeat (first | (with_reducible first | exact HB.out | apply below_alloc | apply pw_below_drewN | apply below_drew1 | refine below_set ?_ GE102.out) | exact HB.out)⟩⟩
                  case rest =>
                    clear HC12
                    try clear c1
                    try clear p1
                    try clear q1
                    try clear hx1
                    try clear c2
                    try clear c2b0
                    try clear p2
                    try clear c3
                    try clear c3b0
                    try clear c4
                    try clear c4b0
                    try clear p6
                    try clear c8
                    try clear c8b0
                    try clear c8b1
                    try clear c8b2
                    try clear p10
                    try clear q10
                    try clear hx10
                    try clear c11
                    try clear c14
                    try clear c14b0
                    try clear hcz10_0
                    try clear hcz10_1
                    try clear hcz13_0
                    try clear hcz13_1
                    try clear hcz7_0
                    try clear hcz7_1
                    try clear hcz9_0
                    try clear hcz9_1
                    try clear hfz10_0
                    try clear hfz10_1
                    try clear hfz13_0
                    try clear hfz13_1
                    try clear hfz7_0
                    try clear hfz7_1
                    try clear hfz9_0
                    try clear hfz9_1
                    try clear hx101_0
                    try clear hx101_1
                    try clear p1
                    try clear p10
                    try clear p101
                    try clear p2
                    try clear q1
                    try clear q10
                    try clear q101
                    obtain ⟨kq, x7_11, rfl, HA, HJ11, HO_4, BK102, HB⟩ := hcut
                    cases kq with
                    | zero => exact absurd HA.out (by simp [line_Put.j2])
                    | succ kj11 =>
                      have H := HA.out
                      clear HA
                      simp only [line_Put.j2] at H
                      have H' := Aside0.mk H
                      clear H
                      go_wp2
                      go_loopg [4, 32] kj11 (fun kq v4 v32 w' => ∃ (x4_4 : List Int) (x32_4 : Int), v32 = .int .i64 x32_4 ∧ Aside0 (line_Put.l1 kq x4_4 x7_11 l0 (l0.length : Int) x11_1 x32_4 ((rd_T38 l0 x11_1).f0) ((rd_T38 l0 x11_1).f1) = some (r1, r2)) ∧ Aside0 (kq ≤ kj11) ∧ Aside0 (Kd.R (Kd.int .u8) 5 w' w.heap.size (fun _ => True) v4 x4_4) ∧ Aside0 (w'.heap[gb102]? = some (.cells #[.bool ((rd_T38 l0 x11_1).f0), .string ((rd_T38 l0 x11_1).f1)] 38 (0, 0))) ∧ Aside0 (Below w.heap.size w w'))
                      case atStart => exact ⟨(x4_1), (0), (by first | rfl | (simp; done) | (simp [*]; done)), H', ⟨Nat.le_refl _⟩, ⟨by (with_reducible repeat (first | apply Kd.R_alloc | apply Kd.R_drewN | apply Kd.R_drew)); exact HO_4.out⟩, ⟨by (with_reducible repeat (first | refine blk_drewN ?_ _ | refine blk_drew ?_ | refine blk_alloc ?_ _)); exact BK102.out⟩, ⟨by repeat (first | (with_reducible first | exact HB.out | apply below_alloc | apply pw_below_drewN | apply below_drew1 | refine below_set ?_ GE102.out) | exact HB.out)⟩⟩
                      case round =>
                        clear H'
                        try clear c1
                        try clear p1
                        try clear q1
                        try clear hx1
                        try clear c2
                        try clear c2b0
                        try clear p2
                        try clear c3
                        try clear c3b0
                        try clear c4
                        try clear c4b0
                        try clear p6
                        try clear c8
                        try clear c8b0
                        try clear c8b1
                        try clear c8b2
                        try clear p10
                        try clear q10
                        try clear hx10
                        try clear c11
                        try clear c14
                        try clear c14b0
                        try clear hcz10_0
                        try clear hcz10_1
                        try clear hcz13_0
                        try clear hcz13_1
                        try clear hcz7_0
                        try clear hcz7_1
                        try clear hcz9_0
                        try clear hcz9_1
                        try clear hfz10_0
                        try clear hfz10_1
                        try clear hfz13_0
                        try clear hfz13_1
                        try clear hfz7_0
                        try clear hfz7_1
                        try clear hfz9_0
                        try clear hfz9_1
                        try clear hx101_0
                        try clear hx101_1
                        try clear p1
                        try clear p10
                        try clear p101
                        try clear p2
                        try clear p6
                        try clear q1
                        try clear q10
                        try clear q101
                        obtain ⟨x4_4, x32_4, rfl, HA, HK4, HO_4, BK102, HB⟩ := hrel
                        cases gk with
                        | zero => exact absurd HA.out (by simp [line_Put.l1])
                        | succ k4 =>
                          have H := HA.out
                          clear HA
                          simp only [line_Put.l1] at H
                          by_cases c15 : x32_4 < 4
                          · rw [if_pos c15] at H
                            have c15b0 : decide (x32_4 < 4) = true := decide_eq_true c15
                            clear c15
                            obtain ⟨ji16, hji16⟩ : ∃ j_ : Int, (wrap64 (12 - (wrap64 (4 * x32_4)))) = j_ := ⟨_, rfl⟩
                            replace H : (if 0 ≤ (ji16) then (if 0 ≤ (Go.bits .and .i64 (shr .i64 x7_11 (ji16)) 15) then (if (Go.bits .and .i64 (shr .i64 x7_11 (ji16)) 15) < 16 then (if x4_4.length < 140737488355328 then (line_Put.l1 k4 (x4_4 ++ [bt (⟨#[48, 49, 50, 51, 52, 53, 54, 55, 56, 57, 97, 98, 99, 100, 101, 102]⟩ : ByteArray) (Go.bits .and .i64 (shr .i64 x7_11 (ji16)) 15)]) x7_11 l0 (l0.length : Int) x11_1 (wrap64 (x32_4 + 1)) ((rd_T38 l0 x11_1).f0) ((rd_T38 l0 x11_1).f1)) else (none)) else (none)) else (none)) else (none)) = some (r1, r2) := by first | (rw [hji16] at H; exact H) | (simp only [hji16] at H ⊢; exact H)
                            have hji16w : (IntKind.i64.wrap (12 - (wrap64 (4 * x32_4)))) = ji16 := (i64_w _).trans hji16
                            by_cases c17 : 0 ≤ (ji16)
                            · rw [if_pos c17] at H
                              have c17b0 := eq_true c17
                              have c17b1 : decide (0 ≤ (ji16)) = true := decide_eq_true c17
                              clear c17
                              obtain ⟨ji18, hji18⟩ : ∃ j_ : Int, (shr .i64 x7_11 (ji16)) = j_ := ⟨_, rfl⟩
                              replace H : (if 0 ≤ (Go.bits .and .i64 (ji18) 15) then (if (Go.bits .and .i64 (ji18) 15) < 16 then (if x4_4.length < 140737488355328 then (line_Put.l1 k4 (x4_4 ++ [bt (⟨#[48, 49, 50, 51, 52, 53, 54, 55, 56, 57, 97, 98, 99, 100, 101, 102]⟩ : ByteArray) (Go.bits .and .i64 (ji18) 15)]) x7_11 l0 (l0.length : Int) x11_1 (wrap64 (x32_4 + 1)) ((rd_T38 l0 x11_1).f0) ((rd_T38 l0 x11_1).f1)) else (none)) else (none)) else (none)) = some (r1, r2) := by first | (rw [hji18] at H; exact H) | (simp only [hji18] at H ⊢; exact H)
                              have hji18_ : (x7_11 / 2 ^ min (ji16).toNat 64) = ji18 := hji18
                              have hji18z : (ji16) ≤ 64 → (x7_11 / 2 ^ (ji16).toNat) = ji18 := shr_small hji18
                              by_cases c19 : 0 ≤ (Go.bits .and .i64 (ji18) 15)
                              · rw [if_pos c19] at H
                                have c19b0 : decide (0 ≤ (Go.bits .and .i64 (ji18) 15)) = true := decide_eq_true c19
                                clear c19
                                by_cases c20 : (Go.bits .and .i64 (ji18) 15) < 16
                                · rw [if_pos c20] at H
                                  have c20b0 : decide ((Go.bits .and .i64 (ji18) 15) < 16) = true := decide_eq_true c20
                                  clear c20
                                  by_cases c22 : x4_4.length < 140737488355328
                                  · rw [if_pos c22] at H
                                    have LMc22 := Aside0.mk c22
                                    clear c22
                                    obtain ⟨y103, hy103⟩ : ∃ y_ : List Int, y_ = (x4_4 ++ [bt (⟨#[48, 49, 50, 51, 52, 53, 54, 55, 56, 57, 97, 98, 99, 100, 101, 102]⟩ : ByteArray) (Go.bits .and .i64 (ji18) 15)]) := ⟨_, rfl⟩
                                    replace H : (line_Put.l1 k4 y103 x7_11 l0 (l0.length : Int) x11_1 (wrap64 (x32_4 + 1)) ((rd_T38 l0 x11_1).f0) ((rd_T38 l0 x11_1).f1)) = some (r1, r2) := by first | (rw [hy103]; with_reducible exact H) | (have H2_ := (Option.bind_some _ _).symm.trans H; rw [hy103]; with_reducible exact H2_) | (have H2_ := (Option.bind_some _ _).symm.trans H; with_reducible exact H2_) | with_reducible exact H | (rw [hy103]; exact H) | exact H
                                    have Ny103 := Aside0.mk hy103
                                    clear hy103
                                    have H' := Aside0.mk H
                                    clear H
                                    have p21 : 0 ≤ ((Go.bits .and .i64 (ji18) 15) : Int) := of_decide_eq_true (by first | (with_reducible assumption) | assumption)
                                    have q21 : (Go.bits .and .i64 (ji18) 15) < (16 : Int) := of_decide_eq_true (by first | (with_reducible assumption) | assumption)
                                    have hx21 := bt_at (⟨#[48, 49, 50, 51, 52, 53, 54, 55, 56, 57, 97, 98, 99, 100, 101, 102]⟩ : ByteArray) (Go.bits .and .i64 (ji18) 15)
                                    replace p21 := eq_true p21
                                    replace q21 := eq_true q21
                                    go_wp2_with (first | ((with_reducible refine gate_builtin (b := .append) (xs := #[.tmp 35, .tmp 43]) rfl ?_); at_builtin; refine Kd.R_append (Kd.int .u8) (w0 := w) w.heap.size rfl (.tmp 35) (.tmp 43) 23 5 (.int .u8 0) 1 rfl Try.underlying23 info5 rfl (by decide) (by omega) u4 x4_4 (bt (⟨#[48, 49, 50, 51, 52, 53, 54, 55, 56, 57, 97, 98, 99, 100, 101, 102]⟩ : ByteArray) (Go.bits .and .i64 (ji18) 15)) [.int .u8 (bt (⟨#[48, 49, 50, 51, 52, 53, 54, 55, 56, 57, 97, 98, 99, 100, 101, 102]⟩ : ByteArray) (Go.bits .and .i64 (ji18) 15))] (fun _ => True) (fun _ => False) rfl rfl ?aP (fun _ hk => hk.elim) ?aF ?aO ?aB ?aS ?aL ?_; (case aP => exact rfl); (case aB => exact (by repeat (first | (with_reducible first | exact HB.out | apply below_alloc | apply pw_below_drewN | apply below_drew1 | refine below_set ?_ GE102.out) | exact HB.out))); (case aF => exact (fun _ _ => trivial)); (case aO => exact (by (with_reducible repeat (first | apply Kd.R_alloc | apply Kd.R_drewN | apply Kd.R_drew)); exact HO_4.out)); (case aS => exact (below_size (by repeat (first | (with_reducible first | exact HB.out | apply below_alloc | apply pw_below_drewN | apply below_drew1 | refine below_set ?_ GE102.out) | exact HB.out)))); (case aL => have := LMc22.out; omega); intro v104 w23 ho hb hg hat; rw [← Ny103.out] at ho; have n0_ := Aside0.mk (blk_grown (g := gb102) (o := .cells #[.bool ((rd_T38 l0 x11_1).f0), .string ((rd_T38 l0 x11_1).f1)] 38 (0, 0)) (by (with_reducible repeat (first | refine blk_drewN ?_ _ | refine blk_drew ?_ | refine blk_alloc ?_ _)); exact BK102.out) hg (Kd.R_ne HO_4.out BK102.out (by decide))); have n1_ := Aside0.mk (hb); have n2_ := Aside0.mk (ho); clear BK102; clear HB; clear HO_4; have BK102 := n0_; have HB := n1_; have HO105 := n2_; clear n0_ n1_ n2_; clear ho hb hg hat))
                                    go_roundg k4
                                    case measure => have := HK1.out; have := HJ4.out; have := HJ11.out; have := HK4.out; omega
                                    case rel => exact ⟨(y103), (wrap64 (x32_4 + 1)), (by first | rfl | (simp; done) | (simp [*]; done)), H', ⟨by have := HK1.out; have := HJ4.out; have := HJ11.out; have := HK4.out; omega⟩, ⟨by (with_reducible repeat (first | apply Kd.R_alloc | apply Kd.R_drewN | apply Kd.R_drew)); exact HO105.out⟩, ⟨by (with_reducible repeat (first | refine blk_drewN ?_ _ | refine blk_drew ?_ | refine blk_alloc ?_ _)); exact BK102.out⟩, ⟨by repeat (first | (with_reducible first | exact HB.out | apply below_alloc | apply pw_below_drewN | apply below_drew1 | refine below_set ?_ GE102.out) | exact HB.out)⟩⟩
                                  · rw [if_neg c22] at H
                                    exact absurd H (by simp)
                                · rw [if_neg c20] at H
                                  exact absurd H (by simp)
                              · rw [if_neg c19] at H
                                exact absurd H (by simp)
                            · rw [if_neg c17] at H
                              exact absurd H (by simp)
                          · rw [if_neg c15] at H
                            have c15b0 : decide (x32_4 < 4) = false := decide_eq_false c15
                            clear c15
                            by_cases c24 : x4_4.length + ((rd_T38 l0 x11_1).f1).size < 140737488355328
                            · rw [if_pos c24] at H
                              have LMc24 := Aside0.mk c24
                              clear c24
                              obtain ⟨y106, hy106⟩ : ∃ y_ : List Int, y_ = (x4_4 ++ bytesOf ((rd_T38 l0 x11_1).f1)) := ⟨_, rfl⟩
                              replace H : (line_Put.l0 k4 y106 l0 (l0.length : Int) (wrap64 (x11_1 + 1))) = some (r1, r2) := by first | (rw [hy106]; with_reducible exact H) | (have H2_ := (Option.bind_some _ _).symm.trans H; rw [hy106]; with_reducible exact H2_) | (have H2_ := (Option.bind_some _ _).symm.trans H; with_reducible exact H2_) | with_reducible exact H | (rw [hy106]; exact H) | exact H
                              have Ny106 := Aside0.mk hy106
                              clear hy106
                              have H' := Aside0.mk H
                              clear H
                              have hcz25_0 : wr.cell? ⟨gb102, 0, none⟩ = some (.bool ((rd_T38 l0 x11_1).f0)) := (blk_cell BK102.out 0).trans rfl
                              have hcz25_1 : wr.cell? ⟨gb102, 1, none⟩ = some (.string ((rd_T38 l0 x11_1).f1)) := (blk_cell BK102.out 1).trans rfl
                              have hfz25_0 := blk_frozen BK102.out 0
                              have hfz25_1 := blk_frozen BK102.out 1
                              go_wp2_with (first | (at_builtin; refine print_append_str (w0 := w) w.heap.size rfl (.tmp 46) _ 23 9 5 rfl Try.underlying23 Try.underlying9 info5 u4 x4_4 ((rd_T38 l0 x11_1).f1) rfl rfl ?aO ?aB ?aS ?aL ?_; (case aB => exact (by repeat (first | (with_reducible first | exact HB.out | apply below_alloc | apply pw_below_drewN | apply below_drew1 | refine below_set ?_ GE102.out) | exact HB.out))); (case aO => exact (Kd.own_of_R (by (with_reducible repeat (first | apply Kd.R_alloc | apply Kd.R_drewN | apply Kd.R_drew)); exact HO_4.out))); (case aS => exact (below_size (by repeat (first | (with_reducible first | exact HB.out | apply below_alloc | apply pw_below_drewN | apply below_drew1 | refine below_set ?_ GE102.out) | exact HB.out)))); (case aL => have := LMc24.out; omega); intro v107 w26 ho0 hb hg; have ho := Kd.R_of_own (h1 := fun _ => rfl) (ok := fun _ => True) ho0 (fun _ _ => trivial); clear ho0; have hat := True.intro; rw [← Ny106.out] at ho; change Kd.R (Kd.int .u8) 5 w26 w.heap.size (fun _ => True) v107 y106 at ho; have n0_ := Aside0.mk (blk_grown (g := gb102) (o := .cells #[.bool ((rd_T38 l0 x11_1).f0), .string ((rd_T38 l0 x11_1).f1)] 38 (0, 0)) (by (with_reducible repeat (first | refine blk_drewN ?_ _ | refine blk_drew ?_ | refine blk_alloc ?_ _)); exact BK102.out) hg (Kd.R_ne HO_4.out BK102.out (by decide))); have n1_ := Aside0.mk (hb); have n2_ := Aside0.mk (ho); clear BK102; clear HB; clear HO_4; have BK102 := n0_; have HB := n1_; have HO108 := n2_; clear n0_ n1_ n2_; clear ho hb hg hat))
                              go_roundg k4
                              case measure => have := HK1.out; have := HJ4.out; have := HJ11.out; have := HK4.out; omega
                              case rel => exact ⟨(y106), (wrap64 (x11_1 + 1)), (by first | rfl | (simp; done) | (simp [*]; done)), H', ⟨by have := HK1.out; have := HJ4.out; have := HJ11.out; have := HK4.out; omega⟩, ⟨by (with_reducible repeat (first | apply Kd.R_alloc | apply Kd.R_drewN | apply Kd.R_drew)); exact HO108.out⟩, ⟨by repeat (first | (with_reducible first | exact HB.out | apply below_alloc | apply pw_below_drewN | apply below_drew1 | refine below_set ?_ GE102.out) | exact HB.out)⟩⟩
                            · rw [if_neg c24] at H
                              exact absurd H (by simp)
          · rw [if_neg c4] at H
            exact absurd H (by simp)
        · rw [if_neg c3] at H
          exact absurd H (by simp)
      · rw [if_neg c2] at H
        have c2b0 : decide (x11_1 < (l0.length : Int)) = false := decide_eq_false c2
        clear c2
        simp only [Option.some.injEq, Prod.mk.injEq] at H
        obtain ⟨rfl, rfl⟩ := H
        go_wp2
        go_ret2
        exact ⟨_, by first | rfl | (simp [errW_none, errW_some] <;> rfl) | (simp [*, errW_none, errW_some] <;> rfl), by (with_reducible repeat (first | apply Kd.R_alloc | apply Kd.R_drewN | apply Kd.R_drew)); exact HO_4.out, by repeat (first | (with_reducible first | exact HB.out | apply below_alloc | apply pw_below_drewN | apply below_drew1) | exact HB.out)⟩

/-! ### bytes_Clone: function 22 -/
def bytes_Clone.f (l0 : List Int) : Option (List Int) := if l0.length < 140737488355328 then some l0 else none
set_option maxHeartbeats 8000000 in
set_option maxRecDepth 100000 in
theorem bytes_Clone.calls (A0 : Option Addr) (c0 : Nat) (l0 : List Int) (r : List Int) (w : World) (hr0 : Kd.C (Kd.int .u8) w A0 l0.length l0) (hc0 : l0.length ≤ c0) (h : bytes_Clone.f l0 = some r) :
    Calls Try.prog 22 #[.slice A0 l0.length c0] w fun e w' => ∃ v0_ : Value, e = .returned (v0_) ∧ Kd.R (Kd.int .u8) 5 w' w.heap.size (fun _ => True) v0_ r ∧ Below w.heap.size w w' := by
  unfold bytes_Clone.f at h
  split at h
  case isFalse => cases h
  case isTrue hlim =>
  obtain rfl := Option.some.inj h
  have HR0 := Aside0.mk hr0
  have HL := Aside0.mk hlim
  have HCc := Aside0.mk hc0
  have hnil := fun (W : World) (a : Option Addr) (n c : Nat) => Lib.run_eql_slice_nil (P := Try.prog) W 23 5 a n c 0 0 Try.underlying23
  rcases A0 with _ | ad
  · have h0 : l0 = [] := by
      rcases Nat.eq_zero_or_pos l0.length with h0 | h0
      · exact List.eq_nil_of_length_eq_zero h0
      · obtain ⟨ad, h', _⟩ := hr0.2.2 h0
        cases h'
    subst h0
    clear h hlim hr0 hc0
    go_enter Try.func22, Try.ntmps22
    go_wp2
    go_ret
    exact ⟨_, rfl, Kd.R_nil _ _ _ _ _, Below.refl _ _⟩
  · clear h hlim hr0 hc0
    have HB := Aside0.mk (Below.refl w.heap.size w)
    go_enter Try.func22, Try.ntmps22
    go_wp2_with (first | ((with_reducible refine gate_dst (N := 5) rfl ?_); refine Kd.R_lit (Kd.int .u8) _ 5 ?hg (N := 5) ?hd (xs := ([] : List Int)) (inner := []) (ok := fun _ => True) (okp := fun _ => True) ?hr ?hp (fun _ hk => hk) trivial (Below.refl _ _) (Nat.le_refl _) (by simp) ?_; (case hd => rfl); (case hg => rfl); (case hr => first | (go_simp; done) | (go_simp; rfl)); (case hp => exact (Reps.none _ _)); intro v1 w1 ho1 hb hg_ hnew_; clear hg_ hnew_; have HO1 := Aside0.mk ho1; have HB1 := Aside0.mk hb; clear ho1 hb) | ((with_reducible refine gate_builtin (b := .append) (xs := #[.tmp 5, .tmp 6]) rfl ?_); at_builtin; refine Kd.R_append_row (Value.int .u8) 0 (w0 := w) w.heap.size rfl (.tmp 5) (.tmp 6) 23 5 (.int .u8 0) 1 rfl Try.underlying23 info5 rfl (by decide) v1 [] l0 (some ad) l0.length c0 (fun _ => True) rfl rfl (fun _ _ => trivial) HO1.out ?aR HB1.out ?aS ?aL ?_; (case aR => exact Kd.C_below HR0.out HB1.out); (case aS => exact HB1.out.size); (case aL => have := HL.out; simp; omega); intro v2 w2 ho2 hb hg hat; have HO2 := Aside0.mk ho2; have HB2 := Aside0.mk hb; clear hb hg hat ho2))
    go_ret
    exact ⟨_, rfl, HO2.out, HB2.out⟩

/-! ### bytes_IndexByte: function 29 -/
def bytes_IndexByte.f (l0 : List Int) (a1 : Int) : Option (Int) := if 0 < l0.length then some (Lib.indexByte (Lib.bytesOf l0) a1.toNat.toUInt8) else none
theorem bytes_IndexByte.calls (A0 : Option Addr) (c0 : Nat) (l0 : List Int) (a1 : Int) (r : Int) (w : World) (hr0 : Kd.C (Kd.int .u8) w A0 l0.length l0) (hc0 : l0.length ≤ c0) (h : bytes_IndexByte.f l0 a1 = some r) :
    Calls Try.prog 29 #[.slice A0 l0.length c0, .int .u8 a1] w fun e w' => e = .returned (.int .i64 r) ∧ Drawn0 w w' := by
  unfold bytes_IndexByte.f at h
  split at h
  case isFalse => cases h
  case isTrue hlen =>
  obtain rfl := Option.some.inj h
  have hrd := Kd.reads_of_C (enc := Value.int .u8) (d := (0 : Int)) (h1 := fun _ => rfl) hr0
  obtain ⟨ad, rfl, hc⟩ := hrd.2.2 hlen
  refine (Go.Proofs.Try.bytes_IndexByte_at ad l0.length c0 l0 a1 w rfl (fun i hi => hc i hi)).mono ?_
  rintro e w' ⟨rfl, rfl⟩
  exact ⟨rfl, Drawn0.refl _⟩


/-! ### line_length: function 27 -/
def line_length.l0 : Nat → Int → List Int → Int → Int → Option (Int)
  | 0, _, _, _, _ => none
  | k + 1, x3, x8, x9, x10 => if x10 < x9 then (if 0 ≤ x10 then (if x10 < (x8.length : Int) then ((lit_bytes.f ([48, 49, 50, 51, 52, 53, 54, 55, 56, 57, 97, 98, 99, 100, 101, 102] : List Int)).bind fun t111 => ((bytes_IndexByte.f t111 (rd x8 x10)).bind fun t114 => (if t114 < 0 then (some (-1)) else (line_length.l0 k (Go.bits .or .i64 (wrap64 (x3 * 16)) t114) x8 x9 (wrap64 (x10 + 1)))))) else (none)) else (none)) else (some x3)
def line_length.f (k : Nat) (l0 : List Int) : Option (Int) := if 4 ≤ (l0.length : Int) then (line_length.l0 k 0 (l0.take 4) ((l0.take 4).length : Int) 0) else (none)
theorem line_length.mono_l : ∀ k, (∀ y0 y1 y2 y3, LeO (line_length.l0 k y0 y1 y2 y3) (line_length.l0 (k + 1) y0 y1 y2 y3))
  | 0 => fun _ _ _ _ r h => by simp [line_length.l0] at h
  | k + 1 => by
    have ih0 := line_length.mono_l k
    · intro y0 y1 y2 y3
      unfold line_length.l0
      repeat' first
      | (with_reducible exact ih0 _ _ _ _)
      | (with_reducible exact LeO.refl _)
      | (with_reducible exact LeO.none _)
      | (with_reducible refine LeO.ite ?_ ?_)
      | (with_reducible refine LeO.bind ?_ (fun _ => ?_))
      | exact ih0 _ _ _ _
      | exact LeO.none _
      | refine LeO.ite ?_ ?_
      | refine LeO.bind ?_ (fun _ => ?_)
theorem line_length.mono : ∀ a0 k, LeO (line_length.f k a0) (line_length.f (k + 1) a0) := by
  intro a0 k
  have ih0 := line_length.mono_l k
  unfold line_length.f
  repeat' first
      | (with_reducible exact ih0 _ _ _ _)
      | (with_reducible exact LeO.refl _)
      | (with_reducible exact LeO.none _)
      | (with_reducible refine LeO.ite ?_ ?_)
      | (with_reducible refine LeO.bind ?_ (fun _ => ?_))
      | exact ih0 _ _ _ _
      | exact LeO.none _
      | refine LeO.ite ?_ ?_
      | refine LeO.bind ?_ (fun _ => ?_)
set_option maxHeartbeats 8000000 in
set_option maxRecDepth 100000 in
theorem line_length.calls (k : Nat) (A0 : Option Addr) (c0 : Nat) (l0 : List Int) (r : Int) (w : World) (hr0 : Kd.C (Kd.int .u8) w A0 l0.length l0) (hc0 : l0.length ≤ c0) (h : line_length.f k l0 = some r) :
    Calls Try.prog 27 #[.slice A0 l0.length c0] w fun e w' => e = .returned (.int .i64 r) ∧ Below w.heap.size w w' := by
  have HR0 := Aside0.mk hr0
  have HC0 := Aside0.mk hc0
  clear hr0 hc0
  have HB := Aside0.mk (Below.refl w.heap.size w)
  have H : (if 4 ≤ (l0.length : Int) then (line_length.l0 k 0 (l0.take 4) ((l0.take 4).length : Int) 0) else (none)) = some r := h
  clear h
  by_cases c2 : 4 ≤ (l0.length : Int)
  · rw [if_pos c2] at H
    have c2b0 := eq_true c2
    have c2b1 : decide (4 ≤ (l0.length : Int)) = true := decide_eq_true c2
    clear c2
    have H' := Aside0.mk H
    clear H
    obtain ⟨i03, hi03, _, hsz3, _⟩ := info_parts info5
    obtain ⟨hcut3, hA3, hC3⟩ := print_take_of (P := Try.prog) (Value.int .u8) 0 23 5 .i64 Try.underlying23 hi03 hsz3 A0 c0 l0 4 (by omega) (of_decide_eq_true (by first | (with_reducible assumption) | assumption)) HC0.out
    have HR109 := Aside0.mk (Kd.C_of_reads (h1 := fun _ => rfl) (hA3 _ (Kd.reads_of_C HR0.out)))
    have HC109 := Aside0.mk hC3
    clear hA3 hC3 hi03 hsz3
    go_enter Try.func27, Try.ntmps27
    go_wp2
    go_loopg [3, 10] k (fun kq v3 v10 w' => ∃ (x3_1 : Int) (x10_1 : Int), v3 = .int .i64 x3_1 ∧ v10 = .int .i64 x10_1 ∧ Aside0 (line_length.l0 kq x3_1 (l0.take 4) ((l0.take 4).length : Int) x10_1 = some r) ∧ Aside0 (kq ≤ k) ∧ Aside0 (Below w.heap.size w w'))
    case atStart => exact ⟨(0), (0), (by first | rfl | (simp; done) | (simp [*]; done)), (by first | rfl | (simp; done) | (simp [*]; done)), H', ⟨Nat.le_refl _⟩, ⟨by repeat (first | (with_reducible first | exact HB.out | apply below_alloc | apply pw_below_drewN | apply below_drew1) | exact HB.out)⟩⟩
    case round =>
      clear H'
      try clear c2
      try clear c2b0
      try clear c2b1
      try clear p2
      obtain ⟨x3_1, x10_1, rfl, rfl, HA, HK1, HB⟩ := hrel
      cases gk with
      | zero => exact absurd HA.out (by simp [line_length.l0])
      | succ k1 =>
        have H := HA.out
        clear HA
        simp only [line_length.l0] at H
        by_cases c4 : x10_1 < ((l0.take 4).length : Int)
        · rw [if_pos c4] at H
          have c4b0 : decide (x10_1 < ((l0.take 4).length : Int)) = true := decide_eq_true c4
          (try (have c4b1 : decide (x10_1 < ((min 4 l0.length : Nat) : Int)) = true := by simpa only [List.length_take] using (decide_eq_true c4 : decide (x10_1 < ((l0.take 4).length : Int)) = true)))
          clear c4
          by_cases c5 : 0 ≤ x10_1
          · rw [if_pos c5] at H
            have c5b0 : decide (0 ≤ x10_1) = true := decide_eq_true c5
            clear c5
            by_cases c6 : x10_1 < ((l0.take 4).length : Int)
            · rw [if_pos c6] at H
              have c6b0 : decide (x10_1 < ((l0.take 4).length : Int)) = true := decide_eq_true c6
              (try (have c6b1 : decide (x10_1 < ((min 4 l0.length : Nat) : Int)) = true := by simpa only [List.length_take] using (decide_eq_true c6 : decide (x10_1 < ((l0.take 4).length : Int)) = true)))
              clear c6
              replace H := Option.bind_eq_some_iff.mp H
              obtain ⟨t111, A70, H⟩ := H
              replace H : ((bytes_IndexByte.f t111 (rd (l0.take 4) x10_1)).bind fun t114 => (if t114 < 0 then (some (-1)) else (line_length.l0 k1 (Go.bits .or .i64 (wrap64 (x3_1 * 16)) t114) (l0.take 4) ((l0.take 4).length : Int) (wrap64 (x10_1 + 1))))) = some r := H
              have A7 := Aside0.mk A70
              clear A70
              replace H := Option.bind_eq_some_iff.mp H
              obtain ⟨t114, A80, H⟩ := H
              replace H : (if t114 < 0 then (some (-1)) else (line_length.l0 k1 (Go.bits .or .i64 (wrap64 (x3_1 * 16)) t114) (l0.take 4) ((l0.take 4).length : Int) (wrap64 (x10_1 + 1)))) = some r := H
              have A8 := Aside0.mk A80
              clear A80
              by_cases c9 : t114 < 0
              · rw [if_pos c9] at H
                have c9b0 : decide (t114 < 0) = true := decide_eq_true c9
                clear c9
                obtain rfl := Option.some.inj H
                have p110 : 0 ≤ (x10_1 : Int) := of_decide_eq_true (by first | (with_reducible assumption) | assumption)
                have q110 : x10_1 < ((l0.take 4).length : Int) := of_decide_eq_true (by first | (with_reducible assumption) | assumption)
                obtain ⟨ad110, e110, hx110_0⟩ := Kd.at_int HR109.out x10_1 p110 q110
                cases e110
                replace hx110_0 := (HB.out.cell (World.block_lt_of_cell? w _ hx110_0)).trans hx110_0
                replace p110 := eq_true p110
                (try (have q110m := q110; simp only [List.length_take] at q110m; replace q110m := eq_true q110m))
                replace q110 := eq_true q110
                go_wp2_with (first | ((with_reducible refine gate_dst (N := 14) rfl ?_); refine lit_ev ?hg (N := 14) ?hd ?hg2 23 5 ([48, 49, 50, 51, 52, 53, 54, 55, 56, 57, 97, 98, 99, 100, 101, 102] : List Int) ?hr (.tmp 14) rfl Try.underlying23 Try.underlying5 rfl (by decide) A7.out ?_; (case hg => rfl); (case hd => rfl); (case hg2 => rfl); (case hr => first | (go_simp; done) | (go_simp; rfl)); rintro v112 w10 ho0 hb; have n0_ := Aside0.mk (Kd.V_lower (Kd.V_mono (ok' := fun k_ => True) ho0 (fun k_ hk_ => trivial)) (below_size (by repeat (first | (with_reducible first | exact HB.out | apply below_alloc | apply pw_below_drewN | apply below_drew1) | exact HB.out)))); have n1_ := Aside0.mk (below_step (by repeat (first | (with_reducible first | exact HB.out | apply below_alloc | apply pw_below_drewN | apply below_drew1) | exact HB.out)) hb); clear HB; have HO113 := n0_; have HB := n1_; clear n0_ n1_; (try clear hb); (try clear hb2); (try clear hk); (try clear hi); (try clear ho0); obtain ⟨Ao11, co11, eo11⟩ := Kd.V_slice HO113.out; subst eo11) | ((with_reducible refine gate_callee (f := 29) rfl ?_); refine goesL_ (some 17) rfl rfl Try.func29 (by kernel_rfl) rfl #[.slice Ao11 t111.length co11, .int .u8 (rd (l0.take 4) x10_1)] rfl (by (try simp only [List.map_toArray, List.map_cons, List.map_nil]); first | done | rfl | (simp only [List.length_drop, List.length_take]; rfl)) ?_; (with_reducible refine (bytes_IndexByte.calls _ _ t111 (rd (l0.take 4) x10_1) t114 _ ?side1 ?side2 A8.out).mono ?_); (case side1 => repeat (first | exact (Kd.V_reads' HO113.out).2.2 | (with_reducible refine Kd.C_alloc ?_ _) | (with_reducible refine Kd.C_drewN ?_ _) | (with_reducible refine Kd.C_drew ?_))); (case side2 => exact (Kd.V_reads' HO113.out).2.1); rintro e w' ⟨rfl, ⟨nd, rfl⟩⟩; refine ⟨_, rfl, ?_⟩))
                go_ret
                exact ⟨by first | rfl | (simp [errW_none, errW_some] <;> rfl) | (simp [*, errW_none, errW_some] <;> rfl), by repeat (first | (with_reducible first | exact HB.out | apply below_alloc | apply pw_below_drewN | apply below_drew1) | exact HB.out)⟩
              · rw [if_neg c9] at H
                have c9b0 : decide (t114 < 0) = false := decide_eq_false c9
                clear c9
                have H' := Aside0.mk H
                clear H
                have p110 : 0 ≤ (x10_1 : Int) := of_decide_eq_true (by first | (with_reducible assumption) | assumption)
                have q110 : x10_1 < ((l0.take 4).length : Int) := of_decide_eq_true (by first | (with_reducible assumption) | assumption)
                obtain ⟨ad110, e110, hx110_0⟩ := Kd.at_int HR109.out x10_1 p110 q110
                cases e110
                replace hx110_0 := (HB.out.cell (World.block_lt_of_cell? w _ hx110_0)).trans hx110_0
                replace p110 := eq_true p110
                (try (have q110m := q110; simp only [List.length_take] at q110m; replace q110m := eq_true q110m))
                replace q110 := eq_true q110
                go_wp2_with (first | ((with_reducible refine gate_dst (N := 14) rfl ?_); refine lit_ev ?hg (N := 14) ?hd ?hg2 23 5 ([48, 49, 50, 51, 52, 53, 54, 55, 56, 57, 97, 98, 99, 100, 101, 102] : List Int) ?hr (.tmp 14) rfl Try.underlying23 Try.underlying5 rfl (by decide) A7.out ?_; (case hg => rfl); (case hd => rfl); (case hg2 => rfl); (case hr => first | (go_simp; done) | (go_simp; rfl)); rintro v112 w12 ho0 hb; have n0_ := Aside0.mk (Kd.V_lower (Kd.V_mono (ok' := fun k_ => True) ho0 (fun k_ hk_ => trivial)) (below_size (by repeat (first | (with_reducible first | exact HB.out | apply below_alloc | apply pw_below_drewN | apply below_drew1) | exact HB.out)))); have n1_ := Aside0.mk (below_step (by repeat (first | (with_reducible first | exact HB.out | apply below_alloc | apply pw_below_drewN | apply below_drew1) | exact HB.out)) hb); clear HB; have HO113 := n0_; have HB := n1_; clear n0_ n1_; (try clear hb); (try clear hb2); (try clear hk); (try clear hi); (try clear ho0); obtain ⟨Ao13, co13, eo13⟩ := Kd.V_slice HO113.out; subst eo13) | ((with_reducible refine gate_callee (f := 29) rfl ?_); refine goesL_ (some 17) rfl rfl Try.func29 (by kernel_rfl) rfl #[.slice Ao13 t111.length co13, .int .u8 (rd (l0.take 4) x10_1)] rfl (by (try simp only [List.map_toArray, List.map_cons, List.map_nil]); first | done | rfl | (simp only [List.length_drop, List.length_take]; rfl)) ?_; (with_reducible refine (bytes_IndexByte.calls _ _ t111 (rd (l0.take 4) x10_1) t114 _ ?side1 ?side2 A8.out).mono ?_); (case side1 => repeat (first | exact (Kd.V_reads' HO113.out).2.2 | (with_reducible refine Kd.C_alloc ?_ _) | (with_reducible refine Kd.C_drewN ?_ _) | (with_reducible refine Kd.C_drew ?_))); (case side2 => exact (Kd.V_reads' HO113.out).2.1); rintro e w' ⟨rfl, ⟨nd, rfl⟩⟩; refine ⟨_, rfl, ?_⟩))
                go_roundg k1
                case measure => have := HK1.out; omega
                case rel => exact ⟨(Go.bits .or .i64 (wrap64 (x3_1 * 16)) t114), (wrap64 (x10_1 + 1)), (by first | rfl | (simp; done) | (simp [*]; done)), (by first | rfl | (simp; done) | (simp [*]; done)), H', ⟨by have := HK1.out; omega⟩, ⟨by repeat (first | (with_reducible first | exact HB.out | apply below_alloc | apply pw_below_drewN | apply below_drew1) | exact HB.out)⟩⟩
            · rw [if_neg c6] at H
              exact absurd H (by simp)
          · rw [if_neg c5] at H
            exact absurd H (by simp)
        · rw [if_neg c4] at H
          have c4b0 : decide (x10_1 < ((l0.take 4).length : Int)) = false := decide_eq_false c4
          (try (have c4b1 : decide (x10_1 < ((min 4 l0.length : Nat) : Int)) = false := by simpa only [List.length_take] using (decide_eq_false c4 : decide (x10_1 < ((l0.take 4).length : Int)) = false)))
          clear c4
          obtain rfl := Option.some.inj H
          go_wp2
          go_ret
          exact ⟨by first | rfl | (simp [errW_none, errW_some] <;> rfl) | (simp [*, errW_none, errW_some] <;> rfl), by repeat (first | (with_reducible first | exact HB.out | apply below_alloc | apply pw_below_drewN | apply below_drew1) | exact HB.out)⟩
  · rw [if_neg c2] at H
    exact absurd H (by simp)

end Go.Proofs.Ytigcmhidbekgbaa.Print
