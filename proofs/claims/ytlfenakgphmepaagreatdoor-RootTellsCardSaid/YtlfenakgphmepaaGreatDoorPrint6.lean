/- Functions of the program as plain functions, and proofs that the program's calls tell what these tell. Written by a program. -/
import Derived.Test.YtlfenakgphmepaaGreatDoorPrint0
import Derived.Test.YtlfenakgphmepaaGreatDoorPrint2
import Derived.Test.YtlfenakgphmepaaGreatDoorPrint5
namespace Go.Proofs.YtlfenakgphmepaaGreatDoor.Print
open Go.RowKit YtlfenakgphmepaaGreatDoorW.PrintWords YtlfenakgphmepaaGreatDoorW.PrintLast YtlfenakgphmepaaGreatDoorW.PrintMore YtlfenakgphmepaaGreatDoor.Conv
attribute [local go_sem] max2_int min2_int max_two min_two max_three min_three max_four min_four
set_option linter.unusedVariables false
set_option linter.unusedSimpArgs false
def root_Right.l0 : Nat -> List (S39) -> Int -> Int -> Int -> List ByteArray -> List (S39) -> Option (Bool)
 | 0, _, _, _, _, _, _ => none
 | k + 1, x6, x7, x8, x125000, x125001, x125002 => if x8 < x7 then (if 0 <= x8 then (if x8 < (x6.length : Int) then ((root_fork.f k ((qT x6 x8).f0) ((qT x6 x8).f1) ((qT x6 x8).f2) ((qT x6 x8).f3) ((qT x6 x8).f4)).bind fun t127 => (if t127 = true then (if x8 > 0 then (if 0 <= (wrap64 (x8 - 1)) then (if (wrap64 (x8 - 1)) < (x125002.length : Int) then (if ((Op.bytesLess (((qT x125002 (wrap64 (x8 - 1))).f0).toList) (((qT x6 x8).f0).toList)) = true) then (root_Right.l0 k x6 x7 (wrap64 (x8 + 1)) x125000 x125001 x125002) else (some false)) else (none)) else (none)) else (root_Right.l0 k x6 x7 (wrap64 (x8 + 1)) x125000 x125001 x125002)) else (some false))) else (none)) else (none)) else (if x125000 >= 0 then (if x125000 <= 1099511627776 then ((root_packs.f k x125001).bind fun t129 => (if t129 = true then (some (decide ((x125002.length : Int) <= 16))) else (some false))) else (some false)) else (some false))
def root_Right.f (k : Nat) (a0_0 : Int) (l0_1 : List ByteArray) (l0_2 : List (S39)) : Option (Bool) := root_Right.l0 k l0_2 (l0_2.length : Int) 0 a0_0 l0_1 l0_2
def root_Right.T4 : Bool × List (List Nat × List Nat) := (true, [([], []), ([0], [0]), ([1], [1]), ([2, 1], [2]), ([3], [3]), ([4, 3], [3, 4]), ([5, 3, 3], [3, 5]), ([6], [6]), ([7, 6], [6, 7]), ([6], [6]), ([9, 6], [6, 9]), ([8, 10, 6], [6, 8, 10]), ([11, 6], [6, 11]), ([12, 6], [6, 12]), ([6], [6]), ([14, 6], [6, 14]), ([13, 15, 6], [6, 13, 15]), ([6, 16, 3], [3, 6, 16]), ([3, 17], [3, 17])])
def root_Right.B4 : List Nat := [0, 1, 3, 7, 15, 31, 63, 127, 255, 127, 639, 2047, 4095, 8191, 127, 16511, 65535, 131071, 262143]
theorem root_Right.tab4 : rtab .any (opsOf Tryz.f11 4) = root_Right.T4 := by kernel_rfl
theorem root_Right.bits4 : waitsOk root_Right.T4.2 root_Right.B4 = true := by kernel_rfl
set_option maxHeartbeats 8000000 in
set_option maxRecDepth 100000 in
theorem root_Right.calls (k : Nat) (a0_0 : Int) (A0_1 : Option Addr) (c0_1 : Nat) (l0_1 : List ByteArray) (A0_2 : Option Addr) (c0_2 : Nat) (l0_2 : List (S39)) (r : Bool) (w : World) (hr0_1 : Kd.C Kd.string w A0_1 l0_1.length l0_1) (hc0_1 : l0_1.length <= c0_1) (hr0_2 : Kd.C k39 w A0_2 l0_2.length l0_2) (hc0_2 : l0_2.length <= c0_2) (h : root_Right.f k a0_0 l0_1 l0_2 = some r) :
  Calls Tryz.prog 11 #[.agg #[.int .i64 a0_0, .slice A0_1 l0_1.length c0_1, .slice A0_2 l0_2.length c0_2]] w fun e w' => e = .returned (.bool r) /\ Below w.heap.size w w' := by
 have hu25 := Tryz.underlying25
 have hu39 := Tryz.underlying39
 have HR0_1 := am hr0_1
 have HC0_1 := am hc0_1
 clear hr0_1 hc0_1
 have HR0_2 := am hr0_2
 have HC0_2 := am hc0_2
 clear hr0_2 hc0_2
 have HB := am (Below.refl w.heap.size w)
 have H : (root_Right.l0 k l0_2 (l0_2.length : Int) 0 a0_0 l0_1 l0_2) = some r := h
 clear h
 have H' := am H
 clear H
 go_enter Tryz.func11, Tryz.ntmps11
 go_wp2_with (first | ((with_reducible refine gate_dst (N := 1) rfl ?_); (try (refine gate_guard (by rfl) ?_; dsimp only)); refine box_event ?hg (N := 1) ?hd (cs := #[.int .i64 a0_0, .slice A0_1 l0_1.length c0_1, .slice A0_2 l0_2.length c0_2]) (t := 25) ?hr ?_; (case hd => rfl); (case hg => rfl); (case hr => first | (go_simp; done) | (go_simp; rfl)); intro gb124 hg w2 hbox hb; have n0_ := am (qW (bz HB.out) hb); have n1_ := am (hbox); have n2_ := am ((by rw [hg]; exact (qZ (bz HB.out)) : w.heap.size <= gb124)); have n3_ := am ((by rw [hg]; exact (qZ (bz HB.out)) : w.heap.size <= gb124)); clear HB; have HB := n0_; have BK124 := n1_; have GW124 := n2_; have GE124 := n3_; clear n0_ n1_ n2_ n3_; clear hb hbox hg; have hcz3_0 : w2.cell? ⟨gb124, 0, none⟩ = some (.int .i64 a0_0) := bc BK124.out 0; have hcz3_1 : w2.cell? ⟨gb124, 1, none⟩ = some (.slice A0_1 l0_1.length c0_1) := bc BK124.out 1; have hcz3_2 : w2.cell? ⟨gb124, 2, none⟩ = some (.slice A0_2 l0_2.length c0_2) := bc BK124.out 2; have hfz3_0 := qf BK124.out 0; have hfz3_1 := qf BK124.out 1; have hfz3_2 := qf BK124.out 2))
 go_loopg [8] k (fun kq v8 w' => ∃ (x8_1 : Int), v8 = .int .i64 x8_1 /\ Asd (root_Right.l0 kq l0_2 (l0_2.length : Int) x8_1 a0_0 l0_1 l0_2 = some r) /\ Asd (kq <= k) /\ Asd (w'.heap[gb124]? = some (.cells #[.int .i64 a0_0, (.slice A0_1 l0_1.length c0_1), (.slice A0_2 l0_2.length c0_2)] 25 (0, 0))) /\ Asd (Below w.heap.size w w'))
 case atStart => exact ⟨(0), (ez), H', ⟨Nat.le_refl _⟩, ⟨kz BK124.out⟩, ⟨bs1 HB.out GE124.out⟩⟩
 case round =>
  clear H'
  obtain ⟨x8_1, rfl, HA, HK1, BK124, HB⟩ := hrel
  cases gk with
  | zero => exact absurd HA.out (by simp [root_Right.l0])
  | succ k1 =>
   have H := HA.out
   clear HA
   simp only [root_Right.l0] at H
   by_cases c4 : x8_1 < (l0_2.length : Int)
   ·rw [if_pos c4] at H
    have c4b0 : decide (x8_1 < (l0_2.length : Int)) = true := dt c4
    clear c4
    by_cases c5 : 0 <= x8_1
    ·rw [if_pos c5] at H
     have c5b0 : decide (0 <= x8_1) = true := dt c5
     clear c5
     by_cases c6 : x8_1 < (l0_2.length : Int)
     ·rw [if_pos c6] at H
      have c6b0 : decide (x8_1 < (l0_2.length : Int)) = true := dt c6
      clear c6
      replace H := Option.bind_eq_some_iff.mp H
      obtain ⟨t127, A70, H⟩ := H
      replace H : (if t127 = true then (if x8_1 > 0 then (if 0 <= (wrap64 (x8_1 - 1)) then (if (wrap64 (x8_1 - 1)) < (l0_2.length : Int) then (if ((Op.bytesLess (((qT l0_2 (wrap64 (x8_1 - 1))).f0).toList) (((qT l0_2 x8_1).f0).toList)) = true) then (root_Right.l0 k1 l0_2 (l0_2.length : Int) (wrap64 (x8_1 + 1)) a0_0 l0_1 l0_2) else (some false)) else (none)) else (none)) else (root_Right.l0 k1 l0_2 (l0_2.length : Int) (wrap64 (x8_1 + 1)) a0_0 l0_1 l0_2)) else (some false)) = some r := H
      have A7 := am A70
      by_cases c8 : t127 = true
      ·subst c8
       have H1 : (if x8_1 > 0 then (if 0 <= (wrap64 (x8_1 - 1)) then (if (wrap64 (x8_1 - 1)) < (l0_2.length : Int) then (if ((Op.bytesLess (((qT l0_2 (wrap64 (x8_1 - 1))).f0).toList) (((qT l0_2 x8_1).f0).toList)) = true) then (root_Right.l0 k1 l0_2 (l0_2.length : Int) (wrap64 (x8_1 + 1)) a0_0 l0_1 l0_2) else (some false)) else (none)) else (none)) else (root_Right.l0 k1 l0_2 (l0_2.length : Int) (wrap64 (x8_1 + 1)) a0_0 l0_1 l0_2)) = some r := by rw [if_pos rfl] at H; exact H
       clear H
       have H := H1
       clear H1
       by_cases c9 : x8_1 > 0
       ·rw [if_pos c9] at H
        have c9b0 : decide (0 < x8_1) = true := dt c9
        clear c9
        obtain ⟨ji10, hji10⟩ : ∃ j_ : Int, (wrap64 (x8_1 - 1)) = j_ := ⟨_, rfl⟩
        replace H : (if 0 <= (ji10) then (if (ji10) < (l0_2.length : Int) then (if ((Op.bytesLess (((qT l0_2 (ji10)).f0).toList) (((qT l0_2 x8_1).f0).toList)) = true) then (root_Right.l0 k1 l0_2 (l0_2.length : Int) (wrap64 (x8_1 + 1)) a0_0 l0_1 l0_2) else (some false)) else (none)) else (none)) = some r := by first | (rw [hji10] at H; exact H) | (simp only [hji10] at H ⊢; exact H)
        (try rw [hji10] at A7)
        have hji10w : (IntKind.i64.wrap (x8_1 - 1)) = ji10 := (i64_w _).trans hji10
        by_cases c11 : 0 <= (ji10)
        ·rw [if_pos c11] at H
         have c11b0 : decide (0 <= (ji10)) = true := dt c11
         clear c11
         by_cases c12 : (ji10) < (l0_2.length : Int)
         ·rw [if_pos c12] at H
          have c12b0 : decide ((ji10) < (l0_2.length : Int)) = true := dt c12
          clear c12
          by_cases c13 : ((Op.bytesLess (((qT l0_2 (ji10)).f0).toList) (((qT l0_2 x8_1).f0).toList)) = true)
          ·rw [if_pos c13] at H
           have c13b0 : (Op.bytesLess (((qT l0_2 (ji10)).f0).toList) (((qT l0_2 x8_1).f0).toList)) = true := c13
           clear c13
           have H' := am H
           clear H
           have p125 : 0 <= (x8_1 : Int) := dz
           have q125 : x8_1 < (l0_2.length : Int) := dz
           obtain ⟨ad125, A125_3, c125_3, A125_4, c125_4, e125, hx125_0, hx125_1, hx125_2, hx125_3, hx125_4, hl125_3, hi125_3, hl125_4, hi125_4⟩ := at_T39 HR0_2.out x8_1 p125 q125
           cases e125
           replace hx125_0 := hZc HB.out hx125_0
           replace hx125_1 := hZc HB.out hx125_1
           replace hx125_2 := hZc HB.out hx125_2
           replace hx125_3 := hZc HB.out hx125_3
           replace hx125_4 := hZc HB.out hx125_4
           have HR125_3 := am hi125_3
           have HC125_3 := am hl125_3
           clear hi125_3 hl125_3
           have HR125_4 := am hi125_4
           have HC125_4 := am hl125_4
           clear hi125_4 hl125_4
           replace p125 := eq_true p125
           replace q125 := eq_true q125
           try go_wp2_with (first | ((with_reducible refine gate_dst (N := 4) rfl ?_); (try (refine gate_guard (by rfl) ?_; dsimp only)); refine box_event ?hg (N := 4) ?hd (cs := #[.string (⟨#[]⟩ : ByteArray), .bool false, .string (⟨#[]⟩ : ByteArray), .slice none 0 0, .slice none 0 0]) (t := 39) ?hr ?_; (case hd => rfl); (case hg => rfl); (case hr => first | (go_simp; done) | (go_simp; rfl)); intro gb126 hg w14 hbox hb; have n0_ := am (blk_below (g := gb124) (o := .cells #[.int .i64 a0_0, .slice A0_1 l0_1.length c0_1, .slice (some ad125) l0_2.length c0_2] 25 (0, 0)) (kz BK124.out) hb); have n1_ := am (qW (bs1 HB.out GE124.out) hb); have n2_ := am (hbox); have n3_ := am ((by rw [hg]; exact (qZ (bs1 HB.out GE124.out)) : w.heap.size <= gb126)); have n4_ := am ((by rw [hg]; exact (qZ (bs1 HB.out GE124.out)) : w.heap.size <= gb126)); have n5_ := am ((by rw [hg]; exact Nat.ne_of_lt (blk_lt (g := gb124) (o := .cells #[.int .i64 a0_0, .slice A0_1 l0_1.length c0_1, .slice (some ad125) l0_2.length c0_2] 25 (0, 0)) (kz BK124.out)) : gb124 ≠ gb126)); have n6_ := am ((by rw [hg]; exact Nat.ne_of_gt (blk_lt (g := gb124) (o := .cells #[.int .i64 a0_0, .slice A0_1 l0_1.length c0_1, .slice (some ad125) l0_2.length c0_2] 25 (0, 0)) (kz BK124.out)) : gb126 ≠ gb124)); clear BK124; clear HB; have BK124 := n0_; have HB := n1_; have BK126 := n2_; have GW126 := n3_; have GE126 := n4_; have NB124_126 := n5_; have NB126_124 := n6_; clear n0_ n1_ n2_ n3_ n4_ n5_ n6_; clear hb hbox hg; have hnb15 := NB126_124.out; have hnc15 := NB124_126.out; have hcz16_0 : w14.cell? ⟨gb126, 0, none⟩ = some (.string (⟨#[]⟩ : ByteArray)) := bc BK126.out 0; have hcz16_1 : w14.cell? ⟨gb126, 1, none⟩ = some (.bool false) := bc BK126.out 1; have hcz16_2 : w14.cell? ⟨gb126, 2, none⟩ = some (.string (⟨#[]⟩ : ByteArray)) := bc BK126.out 2; have hcz16_3 : w14.cell? ⟨gb126, 3, none⟩ = some (.slice none 0 0) := bc BK126.out 3; have hcz16_4 : w14.cell? ⟨gb126, 4, none⟩ = some (.slice none 0 0) := bc BK126.out 4; have hfz16_0 := qf BK126.out 0; have hfz16_1 := qf BK126.out 1; have hfz16_2 := qf BK126.out 2; have hfz16_3 := qf BK126.out 3; have hfz16_4 := qf BK126.out 4))
           have n0_ : Asd ((((((w14.setCell ⟨gb126, 0, none⟩ (.string ((qT l0_2 x8_1).f0))).setCell ⟨gb126, 1, none⟩ (.bool ((qT l0_2 x8_1).f1))).setCell ⟨gb126, 2, none⟩ (.string ((qT l0_2 x8_1).f2))).setCell ⟨gb126, 3, none⟩ (.slice A125_3 ((qT l0_2 x8_1).f3).length c125_3)).setCell ⟨gb126, 4, none⟩ (.slice A125_4 ((qT l0_2 x8_1).f4).length c125_4)).heap[gb124]? = some (.cells #[.int .i64 a0_0, .slice A0_1 l0_1.length c0_1, .slice (some ad125) l0_2.length c0_2] 25 (0, 0))) := ⟨by exact fz BK124.out NB124_126.out⟩
           have n1_ : Asd ((((((w14.setCell ⟨gb126, 0, none⟩ (.string ((qT l0_2 x8_1).f0))).setCell ⟨gb126, 1, none⟩ (.bool ((qT l0_2 x8_1).f1))).setCell ⟨gb126, 2, none⟩ (.string ((qT l0_2 x8_1).f2))).setCell ⟨gb126, 3, none⟩ (.slice A125_3 ((qT l0_2 x8_1).f3).length c125_3)).setCell ⟨gb126, 4, none⟩ (.slice A125_4 ((qT l0_2 x8_1).f4).length c125_4)).heap[gb126]? = some (.cells #[.string ((qT l0_2 x8_1).f0), .bool ((qT l0_2 x8_1).f1), .string ((qT l0_2 x8_1).f2), .slice A125_3 ((qT l0_2 x8_1).f3).length c125_3, .slice A125_4 ((qT l0_2 x8_1).f4).length c125_4] 39 (0, 0))) := ⟨by (with_reducible repeat (first | refine qN ?_ _ | refine qd ?_ | refine qa ?_ _)); refine blk_put (cs := #[.string ((qT l0_2 x8_1).f0), .bool ((qT l0_2 x8_1).f1), .string ((qT l0_2 x8_1).f2), .slice A125_3 ((qT l0_2 x8_1).f3).length c125_3, .slice none 0 0]) ?_ 4 _ rfl; (with_reducible repeat (first | refine qN ?_ _ | refine qd ?_ | refine qa ?_ _)); refine blk_put (cs := #[.string ((qT l0_2 x8_1).f0), .bool ((qT l0_2 x8_1).f1), .string ((qT l0_2 x8_1).f2), .slice none 0 0, .slice none 0 0]) ?_ 3 _ rfl; (with_reducible repeat (first | refine qN ?_ _ | refine qd ?_ | refine qa ?_ _)); refine blk_put (cs := #[.string ((qT l0_2 x8_1).f0), .bool ((qT l0_2 x8_1).f1), .string (⟨#[]⟩ : ByteArray), .slice none 0 0, .slice none 0 0]) ?_ 2 _ rfl; (with_reducible repeat (first | refine qN ?_ _ | refine qd ?_ | refine qa ?_ _)); refine blk_put (cs := #[.string ((qT l0_2 x8_1).f0), .bool false, .string (⟨#[]⟩ : ByteArray), .slice none 0 0, .slice none 0 0]) ?_ 1 _ rfl; (with_reducible repeat (first | refine qN ?_ _ | refine qd ?_ | refine qa ?_ _)); refine blk_put (cs := #[.string (⟨#[]⟩ : ByteArray), .bool false, .string (⟨#[]⟩ : ByteArray), .slice none 0 0, .slice none 0 0]) ?_ 0 _ rfl; (with_reducible repeat (first | refine qN ?_ _ | refine qd ?_ | refine qa ?_ _)); exact BK126.out⟩
           have n2_ : Asd (Below w.heap.size w (((((w14.setCell ⟨gb126, 0, none⟩ (.string ((qT l0_2 x8_1).f0))).setCell ⟨gb126, 1, none⟩ (.bool ((qT l0_2 x8_1).f1))).setCell ⟨gb126, 2, none⟩ (.string ((qT l0_2 x8_1).f2))).setCell ⟨gb126, 3, none⟩ (.slice A125_3 ((qT l0_2 x8_1).f3).length c125_3)).setCell ⟨gb126, 4, none⟩ (.slice A125_4 ((qT l0_2 x8_1).f4).length c125_4))) := ⟨bs2 HB.out GE124.out GE126.out⟩
           (try clear BK124)
           (try clear BK126)
           (try clear HB)
           generalize (((((w14.setCell ⟨gb126, 0, none⟩ (.string ((qT l0_2 x8_1).f0))).setCell ⟨gb126, 1, none⟩ (.bool ((qT l0_2 x8_1).f1))).setCell ⟨gb126, 2, none⟩ (.string ((qT l0_2 x8_1).f2))).setCell ⟨gb126, 3, none⟩ (.slice A125_3 ((qT l0_2 x8_1).f3).length c125_3)).setCell ⟨gb126, 4, none⟩ (.slice A125_4 ((qT l0_2 x8_1).f4).length c125_4)) = w17 at n0_ n1_ n2_ ⊢
           have BK124 := n0_
           have BK126 := n1_
           have HB := n2_
           clear n0_ n1_ n2_
           have n0_ := am (qd BK124.out)
           have n1_ := am (qd BK126.out)
           have n2_ := am (bd1 HB.out)
           clear BK124
           clear BK126
           clear HB
           have BK124 := n0_
           have BK126 := n1_
           have HB := n2_
           clear n0_ n1_ n2_
           have p128 : 0 <= ((ji10) : Int) := dz
           have q128 : (ji10) < (l0_2.length : Int) := dz
           obtain ⟨ad128, A128_3, c128_3, A128_4, c128_4, e128, hx128_0, hx128_1, hx128_2, hx128_3, hx128_4, hl128_3, hi128_3, hl128_4, hi128_4⟩ := at_T39 HR0_2.out (ji10) p128 q128
           have hw128_4 := hx128_4
           have hw128_3 := hx128_3
           have hw128_2 := hx128_2
           have hw128_1 := hx128_1
           have hw128_0 := hx128_0
           obtain rfl : ad125 = ad128 := (by injection e128)
           replace hx128_0 := hZc HB.out hx128_0
           replace hx128_1 := hZc HB.out hx128_1
           replace hx128_2 := hZc HB.out hx128_2
           replace hx128_3 := hZc HB.out hx128_3
           replace hx128_4 := hZc HB.out hx128_4
           have HR128_3 := am hi128_3
           have HC128_3 := am hl128_3
           clear hi128_3 hl128_3
           have HR128_4 := am hi128_4
           have HC128_4 := am hl128_4
           clear hi128_4 hl128_4
           replace p128 := eq_true p128
           replace q128 := eq_true q128
           refine start_ (n := 19) (S := fun w' => w'.cell? ⟨gb126, 0, none⟩ = some (.string ((qT l0_2 x8_1).f0)) /\ w'.cell? ⟨gb126, 1, none⟩ = some (.bool ((qT l0_2 x8_1).f1)) /\ w'.cell? ⟨gb126, 2, none⟩ = some (.string ((qT l0_2 x8_1).f2)) /\ w'.cell? ⟨gb126, 3, none⟩ = some (.slice A125_3 ((qT l0_2 x8_1).f3).length c125_3) /\ w'.cell? ⟨gb126, 4, none⟩ = some (.slice A125_4 ((qT l0_2 x8_1).f4).length c125_4) /\ w'.cell? ⟨gb124, 0, none⟩ = some (.int .i64 a0_0) /\ w'.cell? ⟨gb124, 1, none⟩ = some (.slice A0_1 l0_1.length c0_1) /\ w'.cell? ⟨gb124, 2, none⟩ = some (.slice (some ad125) l0_2.length c0_2) /\ w'.cell? (ad125.add (((ji10)).toNat * 5)) = some (.string ((qT l0_2 (ji10)).f0)) /\ w'.cell? ⟨(ad125.add (((ji10)).toNat * 5)).block, (ad125.add (((ji10)).toNat * 5)).off + 1, none⟩ = some (.bool ((qT l0_2 (ji10)).f1)) /\ w'.cell? ⟨(ad125.add (((ji10)).toNat * 5)).block, (ad125.add (((ji10)).toNat * 5)).off + 2, none⟩ = some (.string ((qT l0_2 (ji10)).f2)) /\ w'.cell? ⟨(ad125.add (((ji10)).toNat * 5)).block, (ad125.add (((ji10)).toNat * 5)).off + 3, none⟩ = some (.slice A128_3 ((qT l0_2 (ji10)).f3).length c128_3) /\ w'.cell? ⟨(ad125.add (((ji10)).toNat * 5)).block, (ad125.add (((ji10)).toNat * 5)).off + 4, none⟩ = some (.slice A128_4 ((qT l0_2 (ji10)).f4).length c128_4)) (ds := []) (bA 19 0) (by kernel_rfl) rfl rfl ⟨bc BK126.out 0, bc BK126.out 1, bc BK126.out 2, bc BK126.out 3, bc BK126.out 4, bc BK124.out 0, bc BK124.out 1, bc BK124.out 2, (hZc HB.out hw128_0), (hZc HB.out hw128_1), (hZc HB.out hw128_2), (hZc HB.out hw128_3), (hZc HB.out hw128_4)⟩ (fun hHeld => ?_); refine with_tabW root_Right.tab4 root_Right.bits4 (fun HT_ HW_ => ?_)
           generalize w17.drew = w18 at BK124 BK126 HB HR128_3 HR128_4 hx128_0 hx128_1 hx128_2 hx128_3 hx128_4 hHeld ⊢
           refine ty_ 0 13 (bA 19 1) HT_.out HW_.out hHeld ?_
           refine oz_ 1 14 (bA 19 3) HT_.out (fun K hK => ?_)
           refine goes_ Tryz.func40 (by kernel_rfl) rfl #[.agg #[.string ((qT l0_2 x8_1).f0), .bool ((qT l0_2 x8_1).f1), .string ((qT l0_2 x8_1).f2), .slice A125_3 ((qT l0_2 x8_1).f3).length c125_3, .slice A125_4 ((qT l0_2 x8_1).f4).length c125_4]] (by rfl) rfl rfl mz ?_
           with_reducible refine (root_fork.calls k1 ((qT l0_2 x8_1).f0) ((qT l0_2 x8_1).f1) ((qT l0_2 x8_1).f2) _ _ ((qT l0_2 x8_1).f3) _ _ ((qT l0_2 x8_1).f4) true _ ?side1 ?side2 ?side3 ?side4 A7.out).mono ?_
           (case side1 => repeat (first | exact (Kd.C_below HR125_3.out HB.out) | (with_reducible refine Kd.C_alloc ?_ _) | (with_reducible refine Kd.C_drewN ?_ _) | (with_reducible refine Kd.C_drew ?_)))
           (case side2 => exact HC125_3.out)
           (case side3 => repeat (first | exact (Kd.C_below HR125_4.out HB.out) | (with_reducible refine Kd.C_alloc ?_ _) | (with_reducible refine Kd.C_drewN ?_ _) | (with_reducible refine Kd.C_drew ?_)))
           (case side4 => exact HC125_4.out)
           rintro e w19 ⟨rfl, hb⟩
           refine ⟨_, rfl, ?_⟩
           have n0_ := am (blk_below (g := gb124) (o := .cells #[.int .i64 a0_0, .slice A0_1 l0_1.length c0_1, .slice (some ad125) l0_2.length c0_2] 25 (0, 0)) (kz BK124.out) hb)
           have n1_ := am (blk_below (g := gb126) (o := .cells #[.string ((qT l0_2 x8_1).f0), .bool ((qT l0_2 x8_1).f1), .string ((qT l0_2 x8_1).f2), .slice A125_3 ((qT l0_2 x8_1).f3).length c125_3, .slice A125_4 ((qT l0_2 x8_1).f4).length c125_4] 39 (0, 0)) (kz BK126.out) hb)
           have n2_ := am (qW (bs2 HB.out GE124.out GE126.out) hb)
           clear BK124
           clear BK126
           clear HB
           have BK124 := n0_
           have BK126 := n1_
           have HB := n2_
           clear n0_ n1_ n2_
           (try clear hb)
           (try clear hb2)
           (try clear hk)
           (try clear hi)
           refine hK.out _ _ ⟨bc BK126.out 0, bc BK126.out 1, bc BK126.out 2, bc BK126.out 3, bc BK126.out 4, bc BK124.out 0, bc BK124.out 1, bc BK124.out 2, (hZc HB.out hw128_0), (hZc HB.out hw128_1), (hZc HB.out hw128_2), (hZc HB.out hw128_3), (hZc HB.out hw128_4)⟩ (fun hHeld => ?_)
           clear hK K
           refine nz_ 14 ?_
           refine py_ 2 15 (bA 19 7) HT_.out ?_
           refine py_ 3 16 (bA 19 15) HT_.out ?_
           refine py_ 4 17 (bA 19 31) HT_.out ?_
           refine py_ 5 18 (bA 19 63) HT_.out ?_
           refine py_ 6 19 (bA 19 127) HT_.out ?_
           refine py_ 7 20 (bA 19 255) HT_.out ?_
           refine py_ 9 22 (bA 19 767) HT_.out ?_
           refine py_ 10 23 (bA 19 1791) HT_.out ?_
           refine py_ 14 27 (bA 19 18175) HT_.out ?_
           refine ty_ 8 21 (bA 19 18431) HT_.out HW_.out hHeld ?_
           refine py_ 11 24 (bA 19 20479) HT_.out ?_
           refine py_ 12 25 (bA 19 24575) HT_.out ?_
           refine ty_ 13 26 (bA 19 32767) HT_.out HW_.out hHeld ?_
           refine ty_ 15 28 (bA 19 65535) HT_.out HW_.out hHeld ?_
           refine py_ 16 29 (bA 19 131071) HT_.out ?_
           refine py_ 17 30 (bA 19 262143) HT_.out ?_
           refine py_ 18 31 (bA 19 524287) HT_.out ?_
           refine done_ (done_of HT_.out (by kernel_rfl)) ?_
           try go_wp2
           go_roundg k1
           case measure => have := HK1.out; omega
           case rel => exact ⟨(wrap64 (x8_1 + 1)), (ez), H', ⟨by have := HK1.out; omega⟩, ⟨kz BK124.out⟩, ⟨bs2 HB.out GE124.out GE126.out⟩⟩
          ·rw [if_neg c13] at H
           have c13b0 : (Op.bytesLess (((qT l0_2 (ji10)).f0).toList) (((qT l0_2 x8_1).f0).toList)) = false := by simpa using c13
           clear c13
           obtain rfl := Option.some.inj H
           have p125 : 0 <= (x8_1 : Int) := dz
           have q125 : x8_1 < (l0_2.length : Int) := dz
           obtain ⟨ad125, A125_3, c125_3, A125_4, c125_4, e125, hx125_0, hx125_1, hx125_2, hx125_3, hx125_4, hl125_3, hi125_3, hl125_4, hi125_4⟩ := at_T39 HR0_2.out x8_1 p125 q125
           cases e125
           replace hx125_0 := hZc HB.out hx125_0
           replace hx125_1 := hZc HB.out hx125_1
           replace hx125_2 := hZc HB.out hx125_2
           replace hx125_3 := hZc HB.out hx125_3
           replace hx125_4 := hZc HB.out hx125_4
           have HR125_3 := am hi125_3
           have HC125_3 := am hl125_3
           clear hi125_3 hl125_3
           have HR125_4 := am hi125_4
           have HC125_4 := am hl125_4
           clear hi125_4 hl125_4
           replace p125 := eq_true p125
           replace q125 := eq_true q125
           try go_wp2_with (first | ((with_reducible refine gate_dst (N := 4) rfl ?_); (try (refine gate_guard (by rfl) ?_; dsimp only)); refine box_event ?hg (N := 4) ?hd (cs := #[.string (⟨#[]⟩ : ByteArray), .bool false, .string (⟨#[]⟩ : ByteArray), .slice none 0 0, .slice none 0 0]) (t := 39) ?hr ?_; (case hd => rfl); (case hg => rfl); (case hr => first | (go_simp; done) | (go_simp; rfl)); intro gb126 hg w20 hbox hb; have n0_ := am (blk_below (g := gb124) (o := .cells #[.int .i64 a0_0, .slice A0_1 l0_1.length c0_1, .slice (some ad125) l0_2.length c0_2] 25 (0, 0)) (kz BK124.out) hb); have n1_ := am (qW (bs1 HB.out GE124.out) hb); have n2_ := am (hbox); have n3_ := am ((by rw [hg]; exact (qZ (bs1 HB.out GE124.out)) : w.heap.size <= gb126)); have n4_ := am ((by rw [hg]; exact (qZ (bs1 HB.out GE124.out)) : w.heap.size <= gb126)); have n5_ := am ((by rw [hg]; exact Nat.ne_of_lt (blk_lt (g := gb124) (o := .cells #[.int .i64 a0_0, .slice A0_1 l0_1.length c0_1, .slice (some ad125) l0_2.length c0_2] 25 (0, 0)) (kz BK124.out)) : gb124 ≠ gb126)); have n6_ := am ((by rw [hg]; exact Nat.ne_of_gt (blk_lt (g := gb124) (o := .cells #[.int .i64 a0_0, .slice A0_1 l0_1.length c0_1, .slice (some ad125) l0_2.length c0_2] 25 (0, 0)) (kz BK124.out)) : gb126 ≠ gb124)); clear BK124; clear HB; have BK124 := n0_; have HB := n1_; have BK126 := n2_; have GW126 := n3_; have GE126 := n4_; have NB124_126 := n5_; have NB126_124 := n6_; clear n0_ n1_ n2_ n3_ n4_ n5_ n6_; clear hb hbox hg; have hnb21 := NB126_124.out; have hnc21 := NB124_126.out; have hcz22_0 : w20.cell? ⟨gb126, 0, none⟩ = some (.string (⟨#[]⟩ : ByteArray)) := bc BK126.out 0; have hcz22_1 : w20.cell? ⟨gb126, 1, none⟩ = some (.bool false) := bc BK126.out 1; have hcz22_2 : w20.cell? ⟨gb126, 2, none⟩ = some (.string (⟨#[]⟩ : ByteArray)) := bc BK126.out 2; have hcz22_3 : w20.cell? ⟨gb126, 3, none⟩ = some (.slice none 0 0) := bc BK126.out 3; have hcz22_4 : w20.cell? ⟨gb126, 4, none⟩ = some (.slice none 0 0) := bc BK126.out 4; have hfz22_0 := qf BK126.out 0; have hfz22_1 := qf BK126.out 1; have hfz22_2 := qf BK126.out 2; have hfz22_3 := qf BK126.out 3; have hfz22_4 := qf BK126.out 4))
           have n0_ : Asd ((((((w20.setCell ⟨gb126, 0, none⟩ (.string ((qT l0_2 x8_1).f0))).setCell ⟨gb126, 1, none⟩ (.bool ((qT l0_2 x8_1).f1))).setCell ⟨gb126, 2, none⟩ (.string ((qT l0_2 x8_1).f2))).setCell ⟨gb126, 3, none⟩ (.slice A125_3 ((qT l0_2 x8_1).f3).length c125_3)).setCell ⟨gb126, 4, none⟩ (.slice A125_4 ((qT l0_2 x8_1).f4).length c125_4)).heap[gb124]? = some (.cells #[.int .i64 a0_0, .slice A0_1 l0_1.length c0_1, .slice (some ad125) l0_2.length c0_2] 25 (0, 0))) := ⟨by exact fz BK124.out NB124_126.out⟩
           have n1_ : Asd ((((((w20.setCell ⟨gb126, 0, none⟩ (.string ((qT l0_2 x8_1).f0))).setCell ⟨gb126, 1, none⟩ (.bool ((qT l0_2 x8_1).f1))).setCell ⟨gb126, 2, none⟩ (.string ((qT l0_2 x8_1).f2))).setCell ⟨gb126, 3, none⟩ (.slice A125_3 ((qT l0_2 x8_1).f3).length c125_3)).setCell ⟨gb126, 4, none⟩ (.slice A125_4 ((qT l0_2 x8_1).f4).length c125_4)).heap[gb126]? = some (.cells #[.string ((qT l0_2 x8_1).f0), .bool ((qT l0_2 x8_1).f1), .string ((qT l0_2 x8_1).f2), .slice A125_3 ((qT l0_2 x8_1).f3).length c125_3, .slice A125_4 ((qT l0_2 x8_1).f4).length c125_4] 39 (0, 0))) := ⟨by (with_reducible repeat (first | refine qN ?_ _ | refine qd ?_ | refine qa ?_ _)); refine blk_put (cs := #[.string ((qT l0_2 x8_1).f0), .bool ((qT l0_2 x8_1).f1), .string ((qT l0_2 x8_1).f2), .slice A125_3 ((qT l0_2 x8_1).f3).length c125_3, .slice none 0 0]) ?_ 4 _ rfl; (with_reducible repeat (first | refine qN ?_ _ | refine qd ?_ | refine qa ?_ _)); refine blk_put (cs := #[.string ((qT l0_2 x8_1).f0), .bool ((qT l0_2 x8_1).f1), .string ((qT l0_2 x8_1).f2), .slice none 0 0, .slice none 0 0]) ?_ 3 _ rfl; (with_reducible repeat (first | refine qN ?_ _ | refine qd ?_ | refine qa ?_ _)); refine blk_put (cs := #[.string ((qT l0_2 x8_1).f0), .bool ((qT l0_2 x8_1).f1), .string (⟨#[]⟩ : ByteArray), .slice none 0 0, .slice none 0 0]) ?_ 2 _ rfl; (with_reducible repeat (first | refine qN ?_ _ | refine qd ?_ | refine qa ?_ _)); refine blk_put (cs := #[.string ((qT l0_2 x8_1).f0), .bool false, .string (⟨#[]⟩ : ByteArray), .slice none 0 0, .slice none 0 0]) ?_ 1 _ rfl; (with_reducible repeat (first | refine qN ?_ _ | refine qd ?_ | refine qa ?_ _)); refine blk_put (cs := #[.string (⟨#[]⟩ : ByteArray), .bool false, .string (⟨#[]⟩ : ByteArray), .slice none 0 0, .slice none 0 0]) ?_ 0 _ rfl; (with_reducible repeat (first | refine qN ?_ _ | refine qd ?_ | refine qa ?_ _)); exact BK126.out⟩
           have n2_ : Asd (Below w.heap.size w (((((w20.setCell ⟨gb126, 0, none⟩ (.string ((qT l0_2 x8_1).f0))).setCell ⟨gb126, 1, none⟩ (.bool ((qT l0_2 x8_1).f1))).setCell ⟨gb126, 2, none⟩ (.string ((qT l0_2 x8_1).f2))).setCell ⟨gb126, 3, none⟩ (.slice A125_3 ((qT l0_2 x8_1).f3).length c125_3)).setCell ⟨gb126, 4, none⟩ (.slice A125_4 ((qT l0_2 x8_1).f4).length c125_4))) := ⟨bs2 HB.out GE124.out GE126.out⟩
           (try clear BK124)
           (try clear BK126)
           (try clear HB)
           generalize (((((w20.setCell ⟨gb126, 0, none⟩ (.string ((qT l0_2 x8_1).f0))).setCell ⟨gb126, 1, none⟩ (.bool ((qT l0_2 x8_1).f1))).setCell ⟨gb126, 2, none⟩ (.string ((qT l0_2 x8_1).f2))).setCell ⟨gb126, 3, none⟩ (.slice A125_3 ((qT l0_2 x8_1).f3).length c125_3)).setCell ⟨gb126, 4, none⟩ (.slice A125_4 ((qT l0_2 x8_1).f4).length c125_4)) = w23 at n0_ n1_ n2_ ⊢
           have BK124 := n0_
           have BK126 := n1_
           have HB := n2_
           clear n0_ n1_ n2_
           have n0_ := am (qd BK124.out)
           have n1_ := am (qd BK126.out)
           have n2_ := am (bd1 HB.out)
           clear BK124
           clear BK126
           clear HB
           have BK124 := n0_
           have BK126 := n1_
           have HB := n2_
           clear n0_ n1_ n2_
           have p128 : 0 <= ((ji10) : Int) := dz
           have q128 : (ji10) < (l0_2.length : Int) := dz
           obtain ⟨ad128, A128_3, c128_3, A128_4, c128_4, e128, hx128_0, hx128_1, hx128_2, hx128_3, hx128_4, hl128_3, hi128_3, hl128_4, hi128_4⟩ := at_T39 HR0_2.out (ji10) p128 q128
           have hw128_4 := hx128_4
           have hw128_3 := hx128_3
           have hw128_2 := hx128_2
           have hw128_1 := hx128_1
           have hw128_0 := hx128_0
           obtain rfl : ad125 = ad128 := (by injection e128)
           replace hx128_0 := hZc HB.out hx128_0
           replace hx128_1 := hZc HB.out hx128_1
           replace hx128_2 := hZc HB.out hx128_2
           replace hx128_3 := hZc HB.out hx128_3
           replace hx128_4 := hZc HB.out hx128_4
           have HR128_3 := am hi128_3
           have HC128_3 := am hl128_3
           clear hi128_3 hl128_3
           have HR128_4 := am hi128_4
           have HC128_4 := am hl128_4
           clear hi128_4 hl128_4
           replace p128 := eq_true p128
           replace q128 := eq_true q128
           refine start_ (n := 19) (S := fun w' => w'.cell? ⟨gb126, 0, none⟩ = some (.string ((qT l0_2 x8_1).f0)) /\ w'.cell? ⟨gb126, 1, none⟩ = some (.bool ((qT l0_2 x8_1).f1)) /\ w'.cell? ⟨gb126, 2, none⟩ = some (.string ((qT l0_2 x8_1).f2)) /\ w'.cell? ⟨gb126, 3, none⟩ = some (.slice A125_3 ((qT l0_2 x8_1).f3).length c125_3) /\ w'.cell? ⟨gb126, 4, none⟩ = some (.slice A125_4 ((qT l0_2 x8_1).f4).length c125_4) /\ w'.cell? ⟨gb124, 0, none⟩ = some (.int .i64 a0_0) /\ w'.cell? ⟨gb124, 1, none⟩ = some (.slice A0_1 l0_1.length c0_1) /\ w'.cell? ⟨gb124, 2, none⟩ = some (.slice (some ad125) l0_2.length c0_2) /\ w'.cell? (ad125.add (((ji10)).toNat * 5)) = some (.string ((qT l0_2 (ji10)).f0)) /\ w'.cell? ⟨(ad125.add (((ji10)).toNat * 5)).block, (ad125.add (((ji10)).toNat * 5)).off + 1, none⟩ = some (.bool ((qT l0_2 (ji10)).f1)) /\ w'.cell? ⟨(ad125.add (((ji10)).toNat * 5)).block, (ad125.add (((ji10)).toNat * 5)).off + 2, none⟩ = some (.string ((qT l0_2 (ji10)).f2)) /\ w'.cell? ⟨(ad125.add (((ji10)).toNat * 5)).block, (ad125.add (((ji10)).toNat * 5)).off + 3, none⟩ = some (.slice A128_3 ((qT l0_2 (ji10)).f3).length c128_3) /\ w'.cell? ⟨(ad125.add (((ji10)).toNat * 5)).block, (ad125.add (((ji10)).toNat * 5)).off + 4, none⟩ = some (.slice A128_4 ((qT l0_2 (ji10)).f4).length c128_4)) (ds := []) (bA 19 0) (by kernel_rfl) rfl rfl ⟨bc BK126.out 0, bc BK126.out 1, bc BK126.out 2, bc BK126.out 3, bc BK126.out 4, bc BK124.out 0, bc BK124.out 1, bc BK124.out 2, (hZc HB.out hw128_0), (hZc HB.out hw128_1), (hZc HB.out hw128_2), (hZc HB.out hw128_3), (hZc HB.out hw128_4)⟩ (fun hHeld => ?_); refine with_tabW root_Right.tab4 root_Right.bits4 (fun HT_ HW_ => ?_)
           generalize w23.drew = w24 at BK124 BK126 HB HR128_3 HR128_4 hx128_0 hx128_1 hx128_2 hx128_3 hx128_4 hHeld ⊢
           refine ty_ 0 13 (bA 19 1) HT_.out HW_.out hHeld ?_
           refine oz_ 1 14 (bA 19 3) HT_.out (fun K hK => ?_)
           refine goes_ Tryz.func40 (by kernel_rfl) rfl #[.agg #[.string ((qT l0_2 x8_1).f0), .bool ((qT l0_2 x8_1).f1), .string ((qT l0_2 x8_1).f2), .slice A125_3 ((qT l0_2 x8_1).f3).length c125_3, .slice A125_4 ((qT l0_2 x8_1).f4).length c125_4]] (by rfl) rfl rfl mz ?_
           with_reducible refine (root_fork.calls k1 ((qT l0_2 x8_1).f0) ((qT l0_2 x8_1).f1) ((qT l0_2 x8_1).f2) _ _ ((qT l0_2 x8_1).f3) _ _ ((qT l0_2 x8_1).f4) true _ ?side1 ?side2 ?side3 ?side4 A7.out).mono ?_
           (case side1 => repeat (first | exact (Kd.C_below HR125_3.out HB.out) | (with_reducible refine Kd.C_alloc ?_ _) | (with_reducible refine Kd.C_drewN ?_ _) | (with_reducible refine Kd.C_drew ?_)))
           (case side2 => exact HC125_3.out)
           (case side3 => repeat (first | exact (Kd.C_below HR125_4.out HB.out) | (with_reducible refine Kd.C_alloc ?_ _) | (with_reducible refine Kd.C_drewN ?_ _) | (with_reducible refine Kd.C_drew ?_)))
           (case side4 => exact HC125_4.out)
           rintro e w25 ⟨rfl, hb⟩
           refine ⟨_, rfl, ?_⟩
           have n0_ := am (blk_below (g := gb124) (o := .cells #[.int .i64 a0_0, .slice A0_1 l0_1.length c0_1, .slice (some ad125) l0_2.length c0_2] 25 (0, 0)) (kz BK124.out) hb)
           have n1_ := am (blk_below (g := gb126) (o := .cells #[.string ((qT l0_2 x8_1).f0), .bool ((qT l0_2 x8_1).f1), .string ((qT l0_2 x8_1).f2), .slice A125_3 ((qT l0_2 x8_1).f3).length c125_3, .slice A125_4 ((qT l0_2 x8_1).f4).length c125_4] 39 (0, 0)) (kz BK126.out) hb)
           have n2_ := am (qW (bs2 HB.out GE124.out GE126.out) hb)
           clear BK124
           clear BK126
           clear HB
           have BK124 := n0_
           have BK126 := n1_
           have HB := n2_
           clear n0_ n1_ n2_
           (try clear hb)
           (try clear hb2)
           (try clear hk)
           (try clear hi)
           refine hK.out _ _ ⟨bc BK126.out 0, bc BK126.out 1, bc BK126.out 2, bc BK126.out 3, bc BK126.out 4, bc BK124.out 0, bc BK124.out 1, bc BK124.out 2, (hZc HB.out hw128_0), (hZc HB.out hw128_1), (hZc HB.out hw128_2), (hZc HB.out hw128_3), (hZc HB.out hw128_4)⟩ (fun hHeld => ?_)
           clear hK K
           refine nz_ 14 ?_
           refine py_ 2 15 (bA 19 7) HT_.out ?_
           refine py_ 3 16 (bA 19 15) HT_.out ?_
           refine py_ 4 17 (bA 19 31) HT_.out ?_
           refine py_ 5 18 (bA 19 63) HT_.out ?_
           refine py_ 6 19 (bA 19 127) HT_.out ?_
           refine py_ 7 20 (bA 19 255) HT_.out ?_
           refine py_ 9 22 (bA 19 767) HT_.out ?_
           refine py_ 10 23 (bA 19 1791) HT_.out ?_
           refine py_ 14 27 (bA 19 18175) HT_.out ?_
           refine ty_ 8 21 (bA 19 18431) HT_.out HW_.out hHeld ?_
           refine py_ 11 24 (bA 19 20479) HT_.out ?_
           refine py_ 12 25 (bA 19 24575) HT_.out ?_
           refine ty_ 13 26 (bA 19 32767) HT_.out HW_.out hHeld ?_
           refine ty_ 15 28 (bA 19 65535) HT_.out HW_.out hHeld ?_
           refine py_ 16 29 (bA 19 131071) HT_.out ?_
           refine py_ 17 30 (bA 19 262143) HT_.out ?_
           refine py_ 18 31 (bA 19 524287) HT_.out ?_
           refine done_ (done_of HT_.out (by kernel_rfl)) ?_
           try go_wp2
           go_ret
           exact ⟨by first | rfl | (simp [qn, qS] <;> rfl) | (simp only [<- hji10]; first | rfl | (simp [qn, qS] <;> rfl)) | (simp [*, qn, qS] <;> rfl), bs2 HB.out GE124.out GE126.out⟩
         ·rw [if_neg c12] at H
          exact absurd H (by simp)
        ·rw [if_neg c11] at H
         exact absurd H (by simp)
       ·rw [if_neg c9] at H
        have c9b0 : decide (0 < x8_1) = false := df c9
        clear c9
        have H' := am H
        clear H
        have p125 : 0 <= (x8_1 : Int) := dz
        have q125 : x8_1 < (l0_2.length : Int) := dz
        obtain ⟨ad125, A125_3, c125_3, A125_4, c125_4, e125, hx125_0, hx125_1, hx125_2, hx125_3, hx125_4, hl125_3, hi125_3, hl125_4, hi125_4⟩ := at_T39 HR0_2.out x8_1 p125 q125
        cases e125
        replace hx125_0 := hZc HB.out hx125_0
        replace hx125_1 := hZc HB.out hx125_1
        replace hx125_2 := hZc HB.out hx125_2
        replace hx125_3 := hZc HB.out hx125_3
        replace hx125_4 := hZc HB.out hx125_4
        have HR125_3 := am hi125_3
        have HC125_3 := am hl125_3
        clear hi125_3 hl125_3
        have HR125_4 := am hi125_4
        have HC125_4 := am hl125_4
        clear hi125_4 hl125_4
        replace p125 := eq_true p125
        replace q125 := eq_true q125
        try go_wp2_with (first | ((with_reducible refine gate_dst (N := 4) rfl ?_); (try (refine gate_guard (by rfl) ?_; dsimp only)); refine box_event ?hg (N := 4) ?hd (cs := #[.string (⟨#[]⟩ : ByteArray), .bool false, .string (⟨#[]⟩ : ByteArray), .slice none 0 0, .slice none 0 0]) (t := 39) ?hr ?_; (case hd => rfl); (case hg => rfl); (case hr => first | (go_simp; done) | (go_simp; rfl)); intro gb126 hg w26 hbox hb; have n0_ := am (blk_below (g := gb124) (o := .cells #[.int .i64 a0_0, .slice A0_1 l0_1.length c0_1, .slice (some ad125) l0_2.length c0_2] 25 (0, 0)) (kz BK124.out) hb); have n1_ := am (qW (bs1 HB.out GE124.out) hb); have n2_ := am (hbox); have n3_ := am ((by rw [hg]; exact (qZ (bs1 HB.out GE124.out)) : w.heap.size <= gb126)); have n4_ := am ((by rw [hg]; exact (qZ (bs1 HB.out GE124.out)) : w.heap.size <= gb126)); have n5_ := am ((by rw [hg]; exact Nat.ne_of_lt (blk_lt (g := gb124) (o := .cells #[.int .i64 a0_0, .slice A0_1 l0_1.length c0_1, .slice (some ad125) l0_2.length c0_2] 25 (0, 0)) (kz BK124.out)) : gb124 ≠ gb126)); have n6_ := am ((by rw [hg]; exact Nat.ne_of_gt (blk_lt (g := gb124) (o := .cells #[.int .i64 a0_0, .slice A0_1 l0_1.length c0_1, .slice (some ad125) l0_2.length c0_2] 25 (0, 0)) (kz BK124.out)) : gb126 ≠ gb124)); clear BK124; clear HB; have BK124 := n0_; have HB := n1_; have BK126 := n2_; have GW126 := n3_; have GE126 := n4_; have NB124_126 := n5_; have NB126_124 := n6_; clear n0_ n1_ n2_ n3_ n4_ n5_ n6_; clear hb hbox hg; have hnb27 := NB126_124.out; have hnc27 := NB124_126.out; have hcz28_0 : w26.cell? ⟨gb126, 0, none⟩ = some (.string (⟨#[]⟩ : ByteArray)) := bc BK126.out 0; have hcz28_1 : w26.cell? ⟨gb126, 1, none⟩ = some (.bool false) := bc BK126.out 1; have hcz28_2 : w26.cell? ⟨gb126, 2, none⟩ = some (.string (⟨#[]⟩ : ByteArray)) := bc BK126.out 2; have hcz28_3 : w26.cell? ⟨gb126, 3, none⟩ = some (.slice none 0 0) := bc BK126.out 3; have hcz28_4 : w26.cell? ⟨gb126, 4, none⟩ = some (.slice none 0 0) := bc BK126.out 4; have hfz28_0 := qf BK126.out 0; have hfz28_1 := qf BK126.out 1; have hfz28_2 := qf BK126.out 2; have hfz28_3 := qf BK126.out 3; have hfz28_4 := qf BK126.out 4))
        have n0_ : Asd ((((((w26.setCell ⟨gb126, 0, none⟩ (.string ((qT l0_2 x8_1).f0))).setCell ⟨gb126, 1, none⟩ (.bool ((qT l0_2 x8_1).f1))).setCell ⟨gb126, 2, none⟩ (.string ((qT l0_2 x8_1).f2))).setCell ⟨gb126, 3, none⟩ (.slice A125_3 ((qT l0_2 x8_1).f3).length c125_3)).setCell ⟨gb126, 4, none⟩ (.slice A125_4 ((qT l0_2 x8_1).f4).length c125_4)).heap[gb124]? = some (.cells #[.int .i64 a0_0, .slice A0_1 l0_1.length c0_1, .slice (some ad125) l0_2.length c0_2] 25 (0, 0))) := ⟨by exact fz BK124.out NB124_126.out⟩
        have n1_ : Asd ((((((w26.setCell ⟨gb126, 0, none⟩ (.string ((qT l0_2 x8_1).f0))).setCell ⟨gb126, 1, none⟩ (.bool ((qT l0_2 x8_1).f1))).setCell ⟨gb126, 2, none⟩ (.string ((qT l0_2 x8_1).f2))).setCell ⟨gb126, 3, none⟩ (.slice A125_3 ((qT l0_2 x8_1).f3).length c125_3)).setCell ⟨gb126, 4, none⟩ (.slice A125_4 ((qT l0_2 x8_1).f4).length c125_4)).heap[gb126]? = some (.cells #[.string ((qT l0_2 x8_1).f0), .bool ((qT l0_2 x8_1).f1), .string ((qT l0_2 x8_1).f2), .slice A125_3 ((qT l0_2 x8_1).f3).length c125_3, .slice A125_4 ((qT l0_2 x8_1).f4).length c125_4] 39 (0, 0))) := ⟨by (with_reducible repeat (first | refine qN ?_ _ | refine qd ?_ | refine qa ?_ _)); refine blk_put (cs := #[.string ((qT l0_2 x8_1).f0), .bool ((qT l0_2 x8_1).f1), .string ((qT l0_2 x8_1).f2), .slice A125_3 ((qT l0_2 x8_1).f3).length c125_3, .slice none 0 0]) ?_ 4 _ rfl; (with_reducible repeat (first | refine qN ?_ _ | refine qd ?_ | refine qa ?_ _)); refine blk_put (cs := #[.string ((qT l0_2 x8_1).f0), .bool ((qT l0_2 x8_1).f1), .string ((qT l0_2 x8_1).f2), .slice none 0 0, .slice none 0 0]) ?_ 3 _ rfl; (with_reducible repeat (first | refine qN ?_ _ | refine qd ?_ | refine qa ?_ _)); refine blk_put (cs := #[.string ((qT l0_2 x8_1).f0), .bool ((qT l0_2 x8_1).f1), .string (⟨#[]⟩ : ByteArray), .slice none 0 0, .slice none 0 0]) ?_ 2 _ rfl; (with_reducible repeat (first | refine qN ?_ _ | refine qd ?_ | refine qa ?_ _)); refine blk_put (cs := #[.string ((qT l0_2 x8_1).f0), .bool false, .string (⟨#[]⟩ : ByteArray), .slice none 0 0, .slice none 0 0]) ?_ 1 _ rfl; (with_reducible repeat (first | refine qN ?_ _ | refine qd ?_ | refine qa ?_ _)); refine blk_put (cs := #[.string (⟨#[]⟩ : ByteArray), .bool false, .string (⟨#[]⟩ : ByteArray), .slice none 0 0, .slice none 0 0]) ?_ 0 _ rfl; (with_reducible repeat (first | refine qN ?_ _ | refine qd ?_ | refine qa ?_ _)); exact BK126.out⟩
        have n2_ : Asd (Below w.heap.size w (((((w26.setCell ⟨gb126, 0, none⟩ (.string ((qT l0_2 x8_1).f0))).setCell ⟨gb126, 1, none⟩ (.bool ((qT l0_2 x8_1).f1))).setCell ⟨gb126, 2, none⟩ (.string ((qT l0_2 x8_1).f2))).setCell ⟨gb126, 3, none⟩ (.slice A125_3 ((qT l0_2 x8_1).f3).length c125_3)).setCell ⟨gb126, 4, none⟩ (.slice A125_4 ((qT l0_2 x8_1).f4).length c125_4))) := ⟨bs2 HB.out GE124.out GE126.out⟩
        (try clear BK124)
        (try clear BK126)
        (try clear HB)
        generalize (((((w26.setCell ⟨gb126, 0, none⟩ (.string ((qT l0_2 x8_1).f0))).setCell ⟨gb126, 1, none⟩ (.bool ((qT l0_2 x8_1).f1))).setCell ⟨gb126, 2, none⟩ (.string ((qT l0_2 x8_1).f2))).setCell ⟨gb126, 3, none⟩ (.slice A125_3 ((qT l0_2 x8_1).f3).length c125_3)).setCell ⟨gb126, 4, none⟩ (.slice A125_4 ((qT l0_2 x8_1).f4).length c125_4)) = w29 at n0_ n1_ n2_ ⊢
        have BK124 := n0_
        have BK126 := n1_
        have HB := n2_
        clear n0_ n1_ n2_
        have n0_ := am (qd BK124.out)
        have n1_ := am (qd BK126.out)
        have n2_ := am (bd1 HB.out)
        clear BK124
        clear BK126
        clear HB
        have BK124 := n0_
        have BK126 := n1_
        have HB := n2_
        clear n0_ n1_ n2_
        refine start_ (n := 19) (S := fun w' => w'.cell? ⟨gb126, 0, none⟩ = some (.string ((qT l0_2 x8_1).f0)) /\ w'.cell? ⟨gb126, 1, none⟩ = some (.bool ((qT l0_2 x8_1).f1)) /\ w'.cell? ⟨gb126, 2, none⟩ = some (.string ((qT l0_2 x8_1).f2)) /\ w'.cell? ⟨gb126, 3, none⟩ = some (.slice A125_3 ((qT l0_2 x8_1).f3).length c125_3) /\ w'.cell? ⟨gb126, 4, none⟩ = some (.slice A125_4 ((qT l0_2 x8_1).f4).length c125_4)) (ds := []) (bA 19 0) (by kernel_rfl) rfl rfl ⟨bc BK126.out 0, bc BK126.out 1, bc BK126.out 2, bc BK126.out 3, bc BK126.out 4⟩ (fun hHeld => ?_); refine with_tabW root_Right.tab4 root_Right.bits4 (fun HT_ HW_ => ?_)
        generalize w29.drew = w30 at BK124 BK126 HB hHeld ⊢
        refine ty_ 0 13 (bA 19 1) HT_.out HW_.out hHeld ?_
        refine oz_ 1 14 (bA 19 3) HT_.out (fun K hK => ?_)
        refine goes_ Tryz.func40 (by kernel_rfl) rfl #[.agg #[.string ((qT l0_2 x8_1).f0), .bool ((qT l0_2 x8_1).f1), .string ((qT l0_2 x8_1).f2), .slice A125_3 ((qT l0_2 x8_1).f3).length c125_3, .slice A125_4 ((qT l0_2 x8_1).f4).length c125_4]] (by rfl) rfl rfl mz ?_
        with_reducible refine (root_fork.calls k1 ((qT l0_2 x8_1).f0) ((qT l0_2 x8_1).f1) ((qT l0_2 x8_1).f2) _ _ ((qT l0_2 x8_1).f3) _ _ ((qT l0_2 x8_1).f4) true _ ?side1 ?side2 ?side3 ?side4 A7.out).mono ?_
        (case side1 => repeat (first | exact (Kd.C_below HR125_3.out HB.out) | (with_reducible refine Kd.C_alloc ?_ _) | (with_reducible refine Kd.C_drewN ?_ _) | (with_reducible refine Kd.C_drew ?_)))
        (case side2 => exact HC125_3.out)
        (case side3 => repeat (first | exact (Kd.C_below HR125_4.out HB.out) | (with_reducible refine Kd.C_alloc ?_ _) | (with_reducible refine Kd.C_drewN ?_ _) | (with_reducible refine Kd.C_drew ?_)))
        (case side4 => exact HC125_4.out)
        rintro e w31 ⟨rfl, hb⟩
        refine ⟨_, rfl, ?_⟩
        have n0_ := am (blk_below (g := gb124) (o := .cells #[.int .i64 a0_0, .slice A0_1 l0_1.length c0_1, .slice (some ad125) l0_2.length c0_2] 25 (0, 0)) (kz BK124.out) hb)
        have n1_ := am (blk_below (g := gb126) (o := .cells #[.string ((qT l0_2 x8_1).f0), .bool ((qT l0_2 x8_1).f1), .string ((qT l0_2 x8_1).f2), .slice A125_3 ((qT l0_2 x8_1).f3).length c125_3, .slice A125_4 ((qT l0_2 x8_1).f4).length c125_4] 39 (0, 0)) (kz BK126.out) hb)
        have n2_ := am (qW (bs2 HB.out GE124.out GE126.out) hb)
        clear BK124
        clear BK126
        clear HB
        have BK124 := n0_
        have BK126 := n1_
        have HB := n2_
        clear n0_ n1_ n2_
        (try clear hb)
        (try clear hb2)
        (try clear hk)
        (try clear hi)
        refine hK.out _ _ ⟨bc BK126.out 0, bc BK126.out 1, bc BK126.out 2, bc BK126.out 3, bc BK126.out 4⟩ (fun hHeld => ?_)
        clear hK K
        refine nz_ 14 ?_
        refine py_ 2 15 (bA 19 7) HT_.out ?_
        refine py_ 3 16 (bA 19 15) HT_.out ?_
        refine py_ 4 17 (bA 19 31) HT_.out ?_
        refine py_ 5 18 (bA 19 63) HT_.out ?_
        refine py_ 6 19 (bA 19 127) HT_.out ?_
        refine pw_ 7 20 (bA 19 255) HT_.out ?_
        refine pw_ 8 21 (bA 19 511) HT_.out ?_
        refine pw_ 9 22 (bA 19 1023) HT_.out ?_
        refine pw_ 10 23 (bA 19 2047) HT_.out ?_
        refine pw_ 11 24 (bA 19 4095) HT_.out ?_
        refine pw_ 12 25 (bA 19 8191) HT_.out ?_
        refine pw_ 13 26 (bA 19 16383) HT_.out ?_
        refine pw_ 14 27 (bA 19 32767) HT_.out ?_
        refine pw_ 15 28 (bA 19 65535) HT_.out ?_
        refine pw_ 16 29 (bA 19 131071) HT_.out ?_
        refine py_ 17 30 (bA 19 262143) HT_.out ?_
        refine py_ 18 31 (bA 19 524287) HT_.out ?_
        refine done_ (done_of HT_.out (by kernel_rfl)) ?_
        try go_wp2
        go_roundg k1
        case measure => have := HK1.out; omega
        case rel => exact ⟨(wrap64 (x8_1 + 1)), (ez), H', ⟨by have := HK1.out; omega⟩, ⟨kz BK124.out⟩, ⟨bs2 HB.out GE124.out GE126.out⟩⟩
      ·replace c8 := Bool.eq_false_iff.mpr c8
       subst c8
       have H1 : (some false) = some r := by rw [if_neg (show ¬ (false = true) by decide)] at H; exact H
       clear H
       have H := H1
       clear H1
       obtain rfl := Option.some.inj H
       have p125 : 0 <= (x8_1 : Int) := dz
       have q125 : x8_1 < (l0_2.length : Int) := dz
       obtain ⟨ad125, A125_3, c125_3, A125_4, c125_4, e125, hx125_0, hx125_1, hx125_2, hx125_3, hx125_4, hl125_3, hi125_3, hl125_4, hi125_4⟩ := at_T39 HR0_2.out x8_1 p125 q125
       cases e125
       replace hx125_0 := hZc HB.out hx125_0
       replace hx125_1 := hZc HB.out hx125_1
       replace hx125_2 := hZc HB.out hx125_2
       replace hx125_3 := hZc HB.out hx125_3
       replace hx125_4 := hZc HB.out hx125_4
       have HR125_3 := am hi125_3
       have HC125_3 := am hl125_3
       clear hi125_3 hl125_3
       have HR125_4 := am hi125_4
       have HC125_4 := am hl125_4
       clear hi125_4 hl125_4
       replace p125 := eq_true p125
       replace q125 := eq_true q125
       try go_wp2_with (first | ((with_reducible refine gate_dst (N := 4) rfl ?_); (try (refine gate_guard (by rfl) ?_; dsimp only)); refine box_event ?hg (N := 4) ?hd (cs := #[.string (⟨#[]⟩ : ByteArray), .bool false, .string (⟨#[]⟩ : ByteArray), .slice none 0 0, .slice none 0 0]) (t := 39) ?hr ?_; (case hd => rfl); (case hg => rfl); (case hr => first | (go_simp; done) | (go_simp; rfl)); intro gb126 hg w32 hbox hb; have n0_ := am (blk_below (g := gb124) (o := .cells #[.int .i64 a0_0, .slice A0_1 l0_1.length c0_1, .slice (some ad125) l0_2.length c0_2] 25 (0, 0)) (kz BK124.out) hb); have n1_ := am (qW (bs1 HB.out GE124.out) hb); have n2_ := am (hbox); have n3_ := am ((by rw [hg]; exact (qZ (bs1 HB.out GE124.out)) : w.heap.size <= gb126)); have n4_ := am ((by rw [hg]; exact (qZ (bs1 HB.out GE124.out)) : w.heap.size <= gb126)); have n5_ := am ((by rw [hg]; exact Nat.ne_of_lt (blk_lt (g := gb124) (o := .cells #[.int .i64 a0_0, .slice A0_1 l0_1.length c0_1, .slice (some ad125) l0_2.length c0_2] 25 (0, 0)) (kz BK124.out)) : gb124 ≠ gb126)); have n6_ := am ((by rw [hg]; exact Nat.ne_of_gt (blk_lt (g := gb124) (o := .cells #[.int .i64 a0_0, .slice A0_1 l0_1.length c0_1, .slice (some ad125) l0_2.length c0_2] 25 (0, 0)) (kz BK124.out)) : gb126 ≠ gb124)); clear BK124; clear HB; have BK124 := n0_; have HB := n1_; have BK126 := n2_; have GW126 := n3_; have GE126 := n4_; have NB124_126 := n5_; have NB126_124 := n6_; clear n0_ n1_ n2_ n3_ n4_ n5_ n6_; clear hb hbox hg; have hnb33 := NB126_124.out; have hnc33 := NB124_126.out; have hcz34_0 : w32.cell? ⟨gb126, 0, none⟩ = some (.string (⟨#[]⟩ : ByteArray)) := bc BK126.out 0; have hcz34_1 : w32.cell? ⟨gb126, 1, none⟩ = some (.bool false) := bc BK126.out 1; have hcz34_2 : w32.cell? ⟨gb126, 2, none⟩ = some (.string (⟨#[]⟩ : ByteArray)) := bc BK126.out 2; have hcz34_3 : w32.cell? ⟨gb126, 3, none⟩ = some (.slice none 0 0) := bc BK126.out 3; have hcz34_4 : w32.cell? ⟨gb126, 4, none⟩ = some (.slice none 0 0) := bc BK126.out 4; have hfz34_0 := qf BK126.out 0; have hfz34_1 := qf BK126.out 1; have hfz34_2 := qf BK126.out 2; have hfz34_3 := qf BK126.out 3; have hfz34_4 := qf BK126.out 4))
       have n0_ : Asd ((((((w32.setCell ⟨gb126, 0, none⟩ (.string ((qT l0_2 x8_1).f0))).setCell ⟨gb126, 1, none⟩ (.bool ((qT l0_2 x8_1).f1))).setCell ⟨gb126, 2, none⟩ (.string ((qT l0_2 x8_1).f2))).setCell ⟨gb126, 3, none⟩ (.slice A125_3 ((qT l0_2 x8_1).f3).length c125_3)).setCell ⟨gb126, 4, none⟩ (.slice A125_4 ((qT l0_2 x8_1).f4).length c125_4)).heap[gb124]? = some (.cells #[.int .i64 a0_0, .slice A0_1 l0_1.length c0_1, .slice (some ad125) l0_2.length c0_2] 25 (0, 0))) := ⟨by exact fz BK124.out NB124_126.out⟩
       have n1_ : Asd ((((((w32.setCell ⟨gb126, 0, none⟩ (.string ((qT l0_2 x8_1).f0))).setCell ⟨gb126, 1, none⟩ (.bool ((qT l0_2 x8_1).f1))).setCell ⟨gb126, 2, none⟩ (.string ((qT l0_2 x8_1).f2))).setCell ⟨gb126, 3, none⟩ (.slice A125_3 ((qT l0_2 x8_1).f3).length c125_3)).setCell ⟨gb126, 4, none⟩ (.slice A125_4 ((qT l0_2 x8_1).f4).length c125_4)).heap[gb126]? = some (.cells #[.string ((qT l0_2 x8_1).f0), .bool ((qT l0_2 x8_1).f1), .string ((qT l0_2 x8_1).f2), .slice A125_3 ((qT l0_2 x8_1).f3).length c125_3, .slice A125_4 ((qT l0_2 x8_1).f4).length c125_4] 39 (0, 0))) := ⟨by (with_reducible repeat (first | refine qN ?_ _ | refine qd ?_ | refine qa ?_ _)); refine blk_put (cs := #[.string ((qT l0_2 x8_1).f0), .bool ((qT l0_2 x8_1).f1), .string ((qT l0_2 x8_1).f2), .slice A125_3 ((qT l0_2 x8_1).f3).length c125_3, .slice none 0 0]) ?_ 4 _ rfl; (with_reducible repeat (first | refine qN ?_ _ | refine qd ?_ | refine qa ?_ _)); refine blk_put (cs := #[.string ((qT l0_2 x8_1).f0), .bool ((qT l0_2 x8_1).f1), .string ((qT l0_2 x8_1).f2), .slice none 0 0, .slice none 0 0]) ?_ 3 _ rfl; (with_reducible repeat (first | refine qN ?_ _ | refine qd ?_ | refine qa ?_ _)); refine blk_put (cs := #[.string ((qT l0_2 x8_1).f0), .bool ((qT l0_2 x8_1).f1), .string (⟨#[]⟩ : ByteArray), .slice none 0 0, .slice none 0 0]) ?_ 2 _ rfl; (with_reducible repeat (first | refine qN ?_ _ | refine qd ?_ | refine qa ?_ _)); refine blk_put (cs := #[.string ((qT l0_2 x8_1).f0), .bool false, .string (⟨#[]⟩ : ByteArray), .slice none 0 0, .slice none 0 0]) ?_ 1 _ rfl; (with_reducible repeat (first | refine qN ?_ _ | refine qd ?_ | refine qa ?_ _)); refine blk_put (cs := #[.string (⟨#[]⟩ : ByteArray), .bool false, .string (⟨#[]⟩ : ByteArray), .slice none 0 0, .slice none 0 0]) ?_ 0 _ rfl; (with_reducible repeat (first | refine qN ?_ _ | refine qd ?_ | refine qa ?_ _)); exact BK126.out⟩
       have n2_ : Asd (Below w.heap.size w (((((w32.setCell ⟨gb126, 0, none⟩ (.string ((qT l0_2 x8_1).f0))).setCell ⟨gb126, 1, none⟩ (.bool ((qT l0_2 x8_1).f1))).setCell ⟨gb126, 2, none⟩ (.string ((qT l0_2 x8_1).f2))).setCell ⟨gb126, 3, none⟩ (.slice A125_3 ((qT l0_2 x8_1).f3).length c125_3)).setCell ⟨gb126, 4, none⟩ (.slice A125_4 ((qT l0_2 x8_1).f4).length c125_4))) := ⟨bs2 HB.out GE124.out GE126.out⟩
       (try clear BK124)
       (try clear BK126)
       (try clear HB)
       generalize (((((w32.setCell ⟨gb126, 0, none⟩ (.string ((qT l0_2 x8_1).f0))).setCell ⟨gb126, 1, none⟩ (.bool ((qT l0_2 x8_1).f1))).setCell ⟨gb126, 2, none⟩ (.string ((qT l0_2 x8_1).f2))).setCell ⟨gb126, 3, none⟩ (.slice A125_3 ((qT l0_2 x8_1).f3).length c125_3)).setCell ⟨gb126, 4, none⟩ (.slice A125_4 ((qT l0_2 x8_1).f4).length c125_4)) = w35 at n0_ n1_ n2_ ⊢
       have BK124 := n0_
       have BK126 := n1_
       have HB := n2_
       clear n0_ n1_ n2_
       have n0_ := am (qd BK124.out)
       have n1_ := am (qd BK126.out)
       have n2_ := am (bd1 HB.out)
       clear BK124
       clear BK126
       clear HB
       have BK124 := n0_
       have BK126 := n1_
       have HB := n2_
       clear n0_ n1_ n2_
       refine start_ (n := 19) (S := fun w' => w'.cell? ⟨gb126, 0, none⟩ = some (.string ((qT l0_2 x8_1).f0)) /\ w'.cell? ⟨gb126, 1, none⟩ = some (.bool ((qT l0_2 x8_1).f1)) /\ w'.cell? ⟨gb126, 2, none⟩ = some (.string ((qT l0_2 x8_1).f2)) /\ w'.cell? ⟨gb126, 3, none⟩ = some (.slice A125_3 ((qT l0_2 x8_1).f3).length c125_3) /\ w'.cell? ⟨gb126, 4, none⟩ = some (.slice A125_4 ((qT l0_2 x8_1).f4).length c125_4)) (ds := []) (bA 19 0) (by kernel_rfl) rfl rfl ⟨bc BK126.out 0, bc BK126.out 1, bc BK126.out 2, bc BK126.out 3, bc BK126.out 4⟩ (fun hHeld => ?_); refine with_tabW root_Right.tab4 root_Right.bits4 (fun HT_ HW_ => ?_)
       generalize w35.drew = w36 at BK124 BK126 HB hHeld ⊢
       refine ty_ 0 13 (bA 19 1) HT_.out HW_.out hHeld ?_
       refine oz_ 1 14 (bA 19 3) HT_.out (fun K hK => ?_)
       refine goes_ Tryz.func40 (by kernel_rfl) rfl #[.agg #[.string ((qT l0_2 x8_1).f0), .bool ((qT l0_2 x8_1).f1), .string ((qT l0_2 x8_1).f2), .slice A125_3 ((qT l0_2 x8_1).f3).length c125_3, .slice A125_4 ((qT l0_2 x8_1).f4).length c125_4]] (by rfl) rfl rfl mz ?_
       with_reducible refine (root_fork.calls k1 ((qT l0_2 x8_1).f0) ((qT l0_2 x8_1).f1) ((qT l0_2 x8_1).f2) _ _ ((qT l0_2 x8_1).f3) _ _ ((qT l0_2 x8_1).f4) false _ ?side1 ?side2 ?side3 ?side4 A7.out).mono ?_
       (case side1 => repeat (first | exact (Kd.C_below HR125_3.out HB.out) | (with_reducible refine Kd.C_alloc ?_ _) | (with_reducible refine Kd.C_drewN ?_ _) | (with_reducible refine Kd.C_drew ?_)))
       (case side2 => exact HC125_3.out)
       (case side3 => repeat (first | exact (Kd.C_below HR125_4.out HB.out) | (with_reducible refine Kd.C_alloc ?_ _) | (with_reducible refine Kd.C_drewN ?_ _) | (with_reducible refine Kd.C_drew ?_)))
       (case side4 => exact HC125_4.out)
       rintro e w37 ⟨rfl, hb⟩
       refine ⟨_, rfl, ?_⟩
       have n0_ := am (blk_below (g := gb124) (o := .cells #[.int .i64 a0_0, .slice A0_1 l0_1.length c0_1, .slice (some ad125) l0_2.length c0_2] 25 (0, 0)) (kz BK124.out) hb)
       have n1_ := am (blk_below (g := gb126) (o := .cells #[.string ((qT l0_2 x8_1).f0), .bool ((qT l0_2 x8_1).f1), .string ((qT l0_2 x8_1).f2), .slice A125_3 ((qT l0_2 x8_1).f3).length c125_3, .slice A125_4 ((qT l0_2 x8_1).f4).length c125_4] 39 (0, 0)) (kz BK126.out) hb)
       have n2_ := am (qW (bs2 HB.out GE124.out GE126.out) hb)
       clear BK124
       clear BK126
       clear HB
       have BK124 := n0_
       have BK126 := n1_
       have HB := n2_
       clear n0_ n1_ n2_
       (try clear hb)
       (try clear hb2)
       (try clear hk)
       (try clear hi)
       refine hK.out _ _ ⟨bc BK126.out 0, bc BK126.out 1, bc BK126.out 2, bc BK126.out 3, bc BK126.out 4⟩ (fun hHeld => ?_)
       clear hK K
       refine nz_ 14 ?_
       refine py_ 2 15 (bA 19 7) HT_.out ?_
       refine py_ 3 16 (bA 19 15) HT_.out ?_
       refine pw_ 4 17 (bA 19 31) HT_.out ?_
       refine pw_ 5 18 (bA 19 63) HT_.out ?_
       refine pw_ 6 19 (bA 19 127) HT_.out ?_
       refine pw_ 7 20 (bA 19 255) HT_.out ?_
       refine pw_ 8 21 (bA 19 511) HT_.out ?_
       refine pw_ 9 22 (bA 19 1023) HT_.out ?_
       refine pw_ 10 23 (bA 19 2047) HT_.out ?_
       refine pw_ 11 24 (bA 19 4095) HT_.out ?_
       refine pw_ 12 25 (bA 19 8191) HT_.out ?_
       refine pw_ 13 26 (bA 19 16383) HT_.out ?_
       refine pw_ 14 27 (bA 19 32767) HT_.out ?_
       refine pw_ 15 28 (bA 19 65535) HT_.out ?_
       refine pw_ 16 29 (bA 19 131071) HT_.out ?_
       refine pw_ 17 30 (bA 19 262143) HT_.out ?_
       refine py_ 18 31 (bA 19 524287) HT_.out ?_
       refine done_ (done_of HT_.out (by kernel_rfl)) ?_
       try go_wp2
       go_ret
       exact ⟨ey, bs2 HB.out GE124.out GE126.out⟩
     ·rw [if_neg c6] at H
      exact absurd H (by simp)
    ·rw [if_neg c5] at H
     exact absurd H (by simp)
   ·rw [if_neg c4] at H
    have c4b0 : decide (x8_1 < (l0_2.length : Int)) = false := df c4
    clear c4
    by_cases c38 : a0_0 >= 0
    ·rw [if_pos c38] at H
     have c38b0 : decide (0 <= a0_0) = true := dt c38
     clear c38
     by_cases c39 : a0_0 <= 1099511627776
     ·rw [if_pos c39] at H
      have c39b0 : decide (a0_0 <= 1099511627776) = true := dt c39
      clear c39
      replace H := Option.bind_eq_some_iff.mp H
      obtain ⟨t129, A400, H⟩ := H
      replace H : (if t129 = true then (some (decide ((l0_2.length : Int) <= 16))) else (some false)) = some r := H
      have A40 := am A400
      by_cases c41 : t129 = true
      ·subst c41
       have H1 : (some (decide ((l0_2.length : Int) <= 16))) = some r := by rw [if_pos rfl] at H; exact H
       clear H
       have H := H1
       clear H1
       obtain rfl := Option.some.inj H
       have hcz42_0 : wr.cell? ⟨gb124, 0, none⟩ = some (.int .i64 a0_0) := bc BK124.out 0
       have hcz42_1 : wr.cell? ⟨gb124, 1, none⟩ = some (.slice A0_1 l0_1.length c0_1) := bc BK124.out 1
       have hcz42_2 : wr.cell? ⟨gb124, 2, none⟩ = some (.slice A0_2 l0_2.length c0_2) := bc BK124.out 2
       have hfz42_0 := qf BK124.out 0
       have hfz42_1 := qf BK124.out 1
       have hfz42_2 := qf BK124.out 2
       go_wp2_with (first | (go_at_call 41; (with_reducible refine (root_packs.calls k1 _ _ l0_1 true _ ?side1 ?side2 A40.out).mono ?_); (case side1 => repeat (first | exact (Kd.C_below HR0_1.out HB.out) | (with_reducible refine Kd.C_alloc ?_ _) | (with_reducible refine Kd.C_drewN ?_ _) | (with_reducible refine Kd.C_drew ?_))); (case side2 => exact HC0_1.out); rintro e w43 ⟨rfl, hb⟩; have n0_ := am (blk_below (g := gb124) (o := .cells #[.int .i64 a0_0, .slice A0_1 l0_1.length c0_1, .slice A0_2 l0_2.length c0_2] 25 (0, 0)) (kz BK124.out) hb); have n1_ := am (qW (bs1 HB.out GE124.out) hb); clear BK124; clear HB; have BK124 := n0_; have HB := n1_; clear n0_ n1_; (try clear hb); (try clear hb2); (try clear hk); (try clear hi); have hcz44_0 : w43.cell? ⟨gb124, 0, none⟩ = some (.int .i64 a0_0) := bc BK124.out 0; have hcz44_1 : w43.cell? ⟨gb124, 1, none⟩ = some (.slice A0_1 l0_1.length c0_1) := bc BK124.out 1; have hcz44_2 : w43.cell? ⟨gb124, 2, none⟩ = some (.slice A0_2 l0_2.length c0_2) := bc BK124.out 2; have hfz44_0 := qf BK124.out 0; have hfz44_1 := qf BK124.out 1; have hfz44_2 := qf BK124.out 2))
       go_ret
       exact ⟨ey, bs1 HB.out GE124.out⟩
      ·replace c41 := Bool.eq_false_iff.mpr c41
       subst c41
       have H1 : (some false) = some r := by rw [if_neg (show ¬ (false = true) by decide)] at H; exact H
       clear H
       have H := H1
       clear H1
       obtain rfl := Option.some.inj H
       have hcz45_0 : wr.cell? ⟨gb124, 0, none⟩ = some (.int .i64 a0_0) := bc BK124.out 0
       have hcz45_1 : wr.cell? ⟨gb124, 1, none⟩ = some (.slice A0_1 l0_1.length c0_1) := bc BK124.out 1
       have hcz45_2 : wr.cell? ⟨gb124, 2, none⟩ = some (.slice A0_2 l0_2.length c0_2) := bc BK124.out 2
       have hfz45_0 := qf BK124.out 0
       have hfz45_1 := qf BK124.out 1
       have hfz45_2 := qf BK124.out 2
       go_wp2_with (first | (go_at_call 41; (with_reducible refine (root_packs.calls k1 _ _ l0_1 false _ ?side1 ?side2 A40.out).mono ?_); (case side1 => repeat (first | exact (Kd.C_below HR0_1.out HB.out) | (with_reducible refine Kd.C_alloc ?_ _) | (with_reducible refine Kd.C_drewN ?_ _) | (with_reducible refine Kd.C_drew ?_))); (case side2 => exact HC0_1.out); rintro e w46 ⟨rfl, hb⟩; have n0_ := am (blk_below (g := gb124) (o := .cells #[.int .i64 a0_0, .slice A0_1 l0_1.length c0_1, .slice A0_2 l0_2.length c0_2] 25 (0, 0)) (kz BK124.out) hb); have n1_ := am (qW (bs1 HB.out GE124.out) hb); clear BK124; clear HB; have BK124 := n0_; have HB := n1_; clear n0_ n1_; (try clear hb); (try clear hb2); (try clear hk); (try clear hi)))
       go_ret
       exact ⟨ey, bs1 HB.out GE124.out⟩
     ·rw [if_neg c39] at H
      have c39b0 : decide (a0_0 <= 1099511627776) = false := df c39
      clear c39
      obtain rfl := Option.some.inj H
      have hcz47_0 : wr.cell? ⟨gb124, 0, none⟩ = some (.int .i64 a0_0) := bc BK124.out 0
      have hcz47_1 : wr.cell? ⟨gb124, 1, none⟩ = some (.slice A0_1 l0_1.length c0_1) := bc BK124.out 1
      have hcz47_2 : wr.cell? ⟨gb124, 2, none⟩ = some (.slice A0_2 l0_2.length c0_2) := bc BK124.out 2
      have hfz47_0 := qf BK124.out 0
      have hfz47_1 := qf BK124.out 1
      have hfz47_2 := qf BK124.out 2
      go_wp2
      go_ret
      exact ⟨ey, bs1 HB.out GE124.out⟩
    ·rw [if_neg c38] at H
     have c38b0 : decide (0 <= a0_0) = false := df c38
     clear c38
     obtain rfl := Option.some.inj H
     have hcz48_0 : wr.cell? ⟨gb124, 0, none⟩ = some (.int .i64 a0_0) := bc BK124.out 0
     have hcz48_1 : wr.cell? ⟨gb124, 1, none⟩ = some (.slice A0_1 l0_1.length c0_1) := bc BK124.out 1
     have hcz48_2 : wr.cell? ⟨gb124, 2, none⟩ = some (.slice A0_2 l0_2.length c0_2) := bc BK124.out 2
     have hfz48_0 := qf BK124.out 0
     have hfz48_1 := qf BK124.out 1
     have hfz48_2 := qf BK124.out 2
     go_wp2
     go_ret
     exact ⟨ey, bs1 HB.out GE124.out⟩
end Go.Proofs.YtlfenakgphmepaaGreatDoor.Print
