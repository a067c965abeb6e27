/- The calls of a law, as a plain function, printed by a program. -/
import Derived.Test.YtmmionafcmnfoaaDoorPNamA
namespace Go.Proofs.YtmmionafcmnfoaaDoor.Print
open Go.RowKit Go.Proofs.YtmmionafcmnfoaaDoorW.PrintWords Go.Proofs.YtmmionafcmnfoaaDoorW.PrintLast Go.Proofs.YtmmionafcmnfoaaDoorW.PrintMore Go.Proofs.YtmmionafcmnfoaaDoor.Conv
attribute [local go_sem] max2_int min2_int max_two min_two max_three min_three max_four min_four
set_option linter.unusedVariables false
set_option linter.unusedSimpArgs false
mutual
def q9_Right.l0 : Nat -> List (S63) -> Int -> Option (Bool)
 | 0, _, _ => none
 | k + 1, x0, x3 => if x3 < (x0.length : Int) then (if 0 <= x3 then ((q9_Named.f k ((rd_T63 x0 x3).f0)).bind fun t245 => (if t245 = true then ((q2_Named.f k ((rd_T63 x0 x3).f1)).bind fun t247 => (if t247 = true then (if x3 > 0 then (if 0 <= (wrap64 (x3 - 1)) then (if (wrap64 (x3 - 1)) < (x0.length : Int) then (q9_Right.j1 k x0 x3 (!(Op.bytesLess (((rd_T63 x0 (wrap64 (x3 - 1))).f0).toList) (((rd_T63 x0 x3).f0).toList)))) else (none)) else (none)) else (q9_Right.j1 k x0 x3 false)) else (q9_Right.j1 k x0 x3 true))) else (q9_Right.j1 k x0 x3 true))) else (none)) else (some (decide ((x0.length : Int) <= 64)))
def q9_Right.j1 : Nat -> List (S63) -> Int -> Bool -> Option (Bool)
 | 0, _, _, _ => none
 | k + 1, x0, x3, x44 => if x44 = true then (some false) else (q9_Right.l1 k x0 x3 0)
def q9_Right.l1 : Nat -> List (S63) -> Int -> Int -> Option (Bool)
 | 0, _, _, _ => none
 | k + 1, x0, x3, x4 => if x4 < (x0.length : Int) then (if 0 <= x4 then (if 0 <= x3 then (if x3 < (x0.length : Int) then ((q9_above.f ((rd_T63 x0 x4).f0) ((rd_T63 x0 x3).f0)).bind fun t252 => (if t252 = true then (some false) else (q9_Right.l1 k x0 x3 (wrap64 (x4 + 1))))) else (none)) else (none)) else (none)) else (q9_Right.l0 k x0 (wrap64 (x3 + 1)))
end
def q9_Right.f (k : Nat) (l0 : List (S63)) : Option (Bool) := q9_Right.l0 k l0 0
def q9_Right.T4 : Bool × List (List Nat × List Nat) := (true, [([], []), ([], []), ([0, 1], [0, 1]), ([2], [2]), ([3], [3]), ([4], [4]), ([5], [5]), ([6, 5], [6]), ([7], [7]), ([7], [7]), ([8, 9, 7], [7, 8, 9]), ([10, 7], [7, 10]), ([11, 7], [7, 11]), ([12, 7, 7], [7, 12]), ([13, 7], [7, 13]), ([7, 14], [7, 14]), ([15, 13], [15]), ([16], [16]), ([17, 16], [16, 17]), ([18, 16, 16], [16, 18]), ([19], [19]), ([19], [19]), ([21, 19], [19, 21]), ([20, 22, 19], [19, 20, 22]), ([23, 19], [19, 23]), ([24, 19], [19, 24]), ([19], [19]), ([19], [19]), ([26, 27, 19], [19, 26, 27]), ([28, 19], [19, 28]), ([29, 19], [19, 29]), ([25, 30, 19], [19, 25, 30]), ([19, 31, 16], [16, 19, 31]), ([16, 32], [16, 32])])
def q9_Right.B4 : List Nat := [0, 0, 3, 7, 15, 31, 63, 127, 255, 255, 1023, 2047, 4095, 8191, 16383, 32767, 65535, 131071, 262143, 524287, 1048575, 1048575, 3145727, 8388607, 16777215, 33554431, 1048575, 1048575, 202375167, 470810623, 1007681535, 2147483647, 4294967295, 8589934591]
theorem q9_Right.tab4 : rtab .any (opsOf Tryd.f37 4) = q9_Right.T4 := by kernel_rfl
theorem q9_Right.bits4 : waitsOk q9_Right.T4.2 q9_Right.B4 = true := by kernel_rfl
def q9_Right.T9 : Bool × List (List Nat × List Nat) := (true, [([], []), ([], []), ([0, 1], [0, 1]), ([2], [2]), ([3], [3]), ([], []), ([], []), ([5, 6], [5, 6]), ([7], [7]), ([8], [8]), ([4, 9], [4, 9])])
def q9_Right.B9 : List Nat := [0, 0, 3, 7, 15, 0, 0, 96, 224, 480, 1023]
theorem q9_Right.tab9 : rtab .any (opsOf Tryd.f37 9) = q9_Right.T9 := by kernel_rfl
theorem q9_Right.bits9 : waitsOk q9_Right.T9.2 q9_Right.B9 = true := by kernel_rfl
set_option maxHeartbeats 8000000 in
set_option maxRecDepth 100000 in
theorem q9_Right.calls (k : Nat) (A0 : Option Addr) (c0 : Nat) (l0 : List (S63)) (r : Bool) (w : World) (hr0 : Kd.C k63 w A0 l0.length l0) (hc0 : l0.length <= c0) (h : q9_Right.f k l0 = some r) :
  Calls Tryd.prog 37 #[.slice A0 l0.length c0] w fun e w' => e = .returned (.bool r) /\ Below w.heap.size w w' := by
 have HR0 := Asd.mk hr0
 have HC0 := Asd.mk hc0
 clear hr0 hc0
 have HB := Asd.mk (Below.refl w.heap.size w)
 have H : (q9_Right.l0 k l0 0) = some r := h
 clear h
 have H' := Asd.mk H
 clear H
 go_enter Tryd.func37, Tryd.ntmps37
 go_wp2
 go_loopg [3] k (fun kq v3 w' => ∃ (x3_1 : Int), v3 = .int .i64 x3_1 /\ Asd (q9_Right.l0 kq l0 x3_1 = some r) /\ Asd (kq <= k) /\ Asd (Below w.heap.size w w'))
 case atStart => exact ⟨(0), (by first | rfl | (simp; done) | (simp [*]; done)), H', ⟨Nat.le_refl _⟩, ⟨by repeat (first | (with_reducible first | exact HB.out | apply bal | apply pbN | apply bd1) | exact HB.out)⟩⟩
 case round =>
  clear H'
  obtain ⟨x3_1, rfl, HA, HK1, HB⟩ := hrel
  cases gk with
  | zero => exact absurd HA.out (by simp [q9_Right.l0])
  | succ k1 =>
   have H := HA.out
   clear HA
   simp only [q9_Right.l0] at H
   by_cases c2 : x3_1 < (l0.length : Int)
   ·rw [if_pos c2] at H
    have c2b0 : decide (x3_1 < (l0.length : Int)) = true := decide_eq_true c2
    clear c2
    have HC3 := Asd.mk H
    clear H
    go_upto_region 4 with (fail)
    go_cut [44] (fun v44 wc => ∃ (kq : Nat) (x44_2 : Bool), v44 = .bool x44_2 /\ Asd (q9_Right.j1 kq l0 x3_1 x44_2 = some r) /\ Asd (kq <= k1) /\ Asd (Below w.heap.size w wc))
    case first =>
     have H := HC3.out
     clear HC3
     by_cases c4 : 0 <= x3_1
     ·rw [if_pos c4] at H
      have c4b0 : decide (0 <= x3_1) = true := decide_eq_true c4
      clear c4
      (first | rw [c4b0] | (simp only [i64_w, i32_w]; rw [c4b0]) | skip)
      replace H := Option.bind_eq_some_iff.mp H
      obtain ⟨t245, A50, H⟩ := H
      replace H : (if t245 = true then ((q2_Named.f k1 ((rd_T63 l0 x3_1).f1)).bind fun t247 => (if t247 = true then (if x3_1 > 0 then (if 0 <= (wrap64 (x3_1 - 1)) then (if (wrap64 (x3_1 - 1)) < (l0.length : Int) then (q9_Right.j1 k1 l0 x3_1 (!(Op.bytesLess (((rd_T63 l0 (wrap64 (x3_1 - 1))).f0).toList) (((rd_T63 l0 x3_1).f0).toList)))) else (none)) else (none)) else (q9_Right.j1 k1 l0 x3_1 false)) else (q9_Right.j1 k1 l0 x3_1 true))) else (q9_Right.j1 k1 l0 x3_1 true)) = some r := H
      have A5 := Asd.mk A50
      clear A50
      by_cases c6 : t245 = true
      ·subst c6
       have H1 : ((q2_Named.f k1 ((rd_T63 l0 x3_1).f1)).bind fun t247 => (if t247 = true then (if x3_1 > 0 then (if 0 <= (wrap64 (x3_1 - 1)) then (if (wrap64 (x3_1 - 1)) < (l0.length : Int) then (q9_Right.j1 k1 l0 x3_1 (!(Op.bytesLess (((rd_T63 l0 (wrap64 (x3_1 - 1))).f0).toList) (((rd_T63 l0 x3_1).f0).toList)))) else (none)) else (none)) else (q9_Right.j1 k1 l0 x3_1 false)) else (q9_Right.j1 k1 l0 x3_1 true))) = some r := by rw [if_pos rfl] at H; exact H
       clear H
       have H := H1
       clear H1
       replace H := Option.bind_eq_some_iff.mp H
       obtain ⟨t247, A70, H⟩ := H
       replace H : (if t247 = true then (if x3_1 > 0 then (if 0 <= (wrap64 (x3_1 - 1)) then (if (wrap64 (x3_1 - 1)) < (l0.length : Int) then (q9_Right.j1 k1 l0 x3_1 (!(Op.bytesLess (((rd_T63 l0 (wrap64 (x3_1 - 1))).f0).toList) (((rd_T63 l0 x3_1).f0).toList)))) else (none)) else (none)) else (q9_Right.j1 k1 l0 x3_1 false)) else (q9_Right.j1 k1 l0 x3_1 true)) = some r := H
       have A7 := Asd.mk A70
       clear A70
       by_cases c8 : t247 = true
       ·subst c8
        have H1 : (if x3_1 > 0 then (if 0 <= (wrap64 (x3_1 - 1)) then (if (wrap64 (x3_1 - 1)) < (l0.length : Int) then (q9_Right.j1 k1 l0 x3_1 (!(Op.bytesLess (((rd_T63 l0 (wrap64 (x3_1 - 1))).f0).toList) (((rd_T63 l0 x3_1).f0).toList)))) else (none)) else (none)) else (q9_Right.j1 k1 l0 x3_1 false)) = some r := by rw [if_pos rfl] at H; exact H
        clear H
        have H := H1
        clear H1
        by_cases c9 : x3_1 > 0
        ·rw [if_pos c9] at H
         have c9b0 : decide (0 < x3_1) = true := decide_eq_true c9
         clear c9
         obtain ⟨ji10, hji10⟩ : ∃ j_ : Int, (wrap64 (x3_1 - 1)) = j_ := ⟨_, rfl⟩
         replace H : (if 0 <= (ji10) then (if (ji10) < (l0.length : Int) then (q9_Right.j1 k1 l0 x3_1 (!(Op.bytesLess (((rd_T63 l0 (ji10)).f0).toList) (((rd_T63 l0 x3_1).f0).toList)))) else (none)) else (none)) = some r := by first | (rw [hji10] at H; exact H) | (simp only [hji10] at H ⊢; exact H)
         (try rw [hji10] at A5)
         (try rw [hji10] at A7)
         have hji10w : (IntKind.i64.wrap (x3_1 - 1)) = ji10 := (i64_w _).trans hji10
         by_cases c11 : 0 <= (ji10)
         ·rw [if_pos c11] at H
          have c11b0 : decide (0 <= (ji10)) = true := decide_eq_true c11
          clear c11
          by_cases c12 : (ji10) < (l0.length : Int)
          ·rw [if_pos c12] at H
           have c12b0 : decide ((ji10) < (l0.length : Int)) = true := decide_eq_true c12
           clear c12
           have H' := Asd.mk H
           clear H
           try go_wp2
           have n0_ := Asd.mk (bd1 HB.out)
           clear HB
           have HB := n0_
           clear n0_
           have p244 : 0 <= (x3_1 : Int) := of_decide_eq_true (by first | (with_reducible assumption) | assumption)
           have q244 : x3_1 < (l0.length : Int) := of_decide_eq_true (by first | (with_reducible assumption) | assumption)
           obtain ⟨ad244, e244, hx244_0, hx244_1⟩ := at_T63 HR0.out x3_1 p244 q244
           have hw244_1 := hx244_1
           have hw244_0 := hx244_0
           cases e244
           replace hx244_0 := (HB.out.cell (World.block_lt_of_cell? w _ hx244_0)).trans hx244_0
           replace hx244_1 := (HB.out.cell (World.block_lt_of_cell? w _ hx244_1)).trans hx244_1
           replace p244 := eq_true p244
           replace q244 := eq_true q244
           have p246 : 0 <= (x3_1 : Int) := of_decide_eq_true (by first | (with_reducible assumption) | assumption)
           have q246 : x3_1 < (l0.length : Int) := of_decide_eq_true (by first | (with_reducible assumption) | assumption)
           obtain ⟨ad246, e246, hx246_0, hx246_1⟩ := at_T63 HR0.out x3_1 p246 q246
           have hw246_1 := hx246_1
           have hw246_0 := hx246_0
           obtain rfl : ad244 = ad246 := (by injection e246)
           replace hx246_0 := (HB.out.cell (World.block_lt_of_cell? w _ hx246_0)).trans hx246_0
           replace hx246_1 := (HB.out.cell (World.block_lt_of_cell? w _ hx246_1)).trans hx246_1
           replace p246 := eq_true p246
           replace q246 := eq_true q246
           have p248 : 0 <= ((ji10) : Int) := of_decide_eq_true (by first | (with_reducible assumption) | assumption)
           have q248 : (ji10) < (l0.length : Int) := of_decide_eq_true (by first | (with_reducible assumption) | assumption)
           obtain ⟨ad248, e248, hx248_0, hx248_1⟩ := at_T63 HR0.out (ji10) p248 q248
           have hw248_1 := hx248_1
           have hw248_0 := hx248_0
           obtain rfl : ad244 = ad248 := (by injection e248)
           replace hx248_0 := (HB.out.cell (World.block_lt_of_cell? w _ hx248_0)).trans hx248_0
           replace hx248_1 := (HB.out.cell (World.block_lt_of_cell? w _ hx248_1)).trans hx248_1
           replace p248 := eq_true p248
           replace q248 := eq_true q248
           have p249 : 0 <= (x3_1 : Int) := of_decide_eq_true (by first | (with_reducible assumption) | assumption)
           have q249 : x3_1 < (l0.length : Int) := of_decide_eq_true (by first | (with_reducible assumption) | assumption)
           obtain ⟨ad249, e249, hx249_0, hx249_1⟩ := at_T63 HR0.out x3_1 p249 q249
           have hw249_1 := hx249_1
           have hw249_0 := hx249_0
           obtain rfl : ad244 = ad249 := (by injection e249)
           replace hx249_0 := (HB.out.cell (World.block_lt_of_cell? w _ hx249_0)).trans hx249_0
           replace hx249_1 := (HB.out.cell (World.block_lt_of_cell? w _ hx249_1)).trans hx249_1
           replace p249 := eq_true p249
           replace q249 := eq_true q249
           refine start_ (n := 34) (S := fun w' => w'.cell? (ad244.add ((x3_1).toNat * 2)) = some (.string ((rd_T63 l0 x3_1).f0)) /\ w'.cell? ⟨(ad244.add ((x3_1).toNat * 2)).block, (ad244.add ((x3_1).toNat * 2)).off + 1, none⟩ = some (.string ((rd_T63 l0 x3_1).f1)) /\ w'.cell? (ad244.add ((x3_1).toNat * 2)) = some (.string ((rd_T63 l0 x3_1).f0)) /\ w'.cell? ⟨(ad244.add ((x3_1).toNat * 2)).block, (ad244.add ((x3_1).toNat * 2)).off + 1, none⟩ = some (.string ((rd_T63 l0 x3_1).f1)) /\ w'.cell? (ad244.add (((ji10)).toNat * 2)) = some (.string ((rd_T63 l0 (ji10)).f0)) /\ w'.cell? ⟨(ad244.add (((ji10)).toNat * 2)).block, (ad244.add (((ji10)).toNat * 2)).off + 1, none⟩ = some (.string ((rd_T63 l0 (ji10)).f1)) /\ w'.cell? (ad244.add ((x3_1).toNat * 2)) = some (.string ((rd_T63 l0 x3_1).f0)) /\ w'.cell? ⟨(ad244.add ((x3_1).toNat * 2)).block, (ad244.add ((x3_1).toNat * 2)).off + 1, none⟩ = some (.string ((rd_T63 l0 x3_1).f1))) (ds := []) (bA 34 0) (by kernel_rfl) rfl rfl ⟨((HB.out.cell (World.block_lt_of_cell? w _ hw244_0)).trans hw244_0), ((HB.out.cell (World.block_lt_of_cell? w _ hw244_1)).trans hw244_1), ((HB.out.cell (World.block_lt_of_cell? w _ hw246_0)).trans hw246_0), ((HB.out.cell (World.block_lt_of_cell? w _ hw246_1)).trans hw246_1), ((HB.out.cell (World.block_lt_of_cell? w _ hw248_0)).trans hw248_0), ((HB.out.cell (World.block_lt_of_cell? w _ hw248_1)).trans hw248_1), ((HB.out.cell (World.block_lt_of_cell? w _ hw249_0)).trans hw249_0), ((HB.out.cell (World.block_lt_of_cell? w _ hw249_1)).trans hw249_1)⟩ (fun hHeld => ?_); refine with_tabW q9_Right.tab4 q9_Right.bits4 (fun HT_ HW_ => ?_)
           generalize wr.drew = w13 at HB hx244_0 hx244_1 hx246_0 hx246_1 hx248_0 hx248_1 hx249_0 hx249_1 hHeld ⊢
           refine pure_ (i := 0) (N := some 11) (v := ?_) (a' := ?_) (bA 34 1) rfl rfl (any_of HT_.out (by kernel_rfl)) (fun _ _ _ h => h) (Or.inl ⟨by rfl, ?_⟩) ?_ ?_
           rotate_left
           ·intro w'
            go_simp
            with_reducible rfl
           rotate_left
           ·simp only [Act.put, zA, zB, zC, i64_w, i32_w]
            rfl
           refine pure_ (i := 1) (N := some 12) (v := ?_) (a' := ?_) (bA 34 3) rfl rfl (any_of HT_.out (by kernel_rfl)) (fun _ _ _ h => h) (Or.inl ⟨by rfl, ?_⟩) ?_ ?_
           rotate_left
           ·intro w'
            go_simp
            with_reducible rfl
           rotate_left
           ·simp only [Act.put, zA, zB, zC, i64_w, i32_w]
            rfl
           refine pure_ (i := 2) (N := some 13) (v := ?_) (a' := ?_) (bA 34 7) rfl rfl (any_of HT_.out (by kernel_rfl)) (fun _ _ _ h => h) (Or.inl ⟨by rfl, ?_⟩) ?_ ?_
           rotate_left
           ·intro w'
            go_simp
            with_reducible rfl
           rotate_left
           ·simp only [Act.put, zA, zB, zC, i64_w, i32_w]
            rfl
           refine pure_ (i := 3) (N := some 14) (v := ?_) (a' := ?_) (bA 34 15) rfl rfl (any_of HT_.out (by kernel_rfl)) (fun _ _ _ h => h) (Or.inl ⟨by rfl, ?_⟩) ?_ ?_
           rotate_left
           ·intro w'
            go_simp
            with_reducible rfl
           rotate_left
           ·simp only [Act.put, zA, zB, zC, i64_w, i32_w]
            rfl
           refine take_ (i := 4) (N := some 15) (v := ?_) (a' := ?_) (bA 34 31) rfl rfl (take_ofW HT_.out HW_.out (by kernel_rfl)) (fun _ _ _ h => h) (Or.inl ⟨by rfl, ?_⟩) hHeld ?_ ?_
           rotate_left
           ·rintro w' ⟨s0, s1, s2, s3, s4, s5, s6, s7⟩
            go_simp
            with_reducible rfl
           rotate_left
           ·simp only [Act.put, zA, zB, zC, i64_w, i32_w]
            rfl
           refine one_ (i := 5) (N := some 16) (bA 34 63) rfl rfl (one_of HT_.out (by kernel_rfl)) (by decide) (fun K hK => ?_)
           refine goes_ Tryd.func36 (by kernel_rfl) rfl #[.string ((rd_T63 l0 x3_1).f0)] (by rfl) rfl rfl (by (try simp only [List.map_toArray, List.map_cons, List.map_nil]); first | done | rfl | (simp only [List.length_drop, List.length_take]; rfl)) ?_
           with_reducible refine (q9_Named.calls k1 ((rd_T63 l0 x3_1).f0) true _ A5.out).mono ?_
           rintro e w14 ⟨rfl, hb⟩
           refine ⟨_, rfl, ?_⟩
           have n0_ := Asd.mk (below_step (by repeat (first | (with_reducible first | exact HB.out | apply bal | apply pbN | apply bd1) | exact HB.out)) hb)
           clear HB
           have HB := n0_
           clear n0_
           (try clear hb)
           (try clear hb2)
           (try clear hk)
           (try clear hi)
           refine hK.out _ _ ⟨((HB.out.cell (World.block_lt_of_cell? w _ hw244_0)).trans hw244_0), ((HB.out.cell (World.block_lt_of_cell? w _ hw244_1)).trans hw244_1), ((HB.out.cell (World.block_lt_of_cell? w _ hw246_0)).trans hw246_0), ((HB.out.cell (World.block_lt_of_cell? w _ hw246_1)).trans hw246_1), ((HB.out.cell (World.block_lt_of_cell? w _ hw248_0)).trans hw248_0), ((HB.out.cell (World.block_lt_of_cell? w _ hw248_1)).trans hw248_1), ((HB.out.cell (World.block_lt_of_cell? w _ hw249_0)).trans hw249_0), ((HB.out.cell (World.block_lt_of_cell? w _ hw249_1)).trans hw249_1)⟩ (fun hHeld => ?_)
           clear hK K
           refine norm_ (a' := ?_) ?_ ?_
           rotate_left
           ·show Act.put _ (some 16) _ = _
            simp only [Act.put, zA, zB, zC, i64_w, i32_w]
            rfl
           refine pure_ (i := 6) (N := some 17) (v := ?_) (a' := ?_) (bA 34 127) rfl rfl (any_of HT_.out (by kernel_rfl)) (fun _ _ _ h => h) (Or.inl ⟨by rfl, ?_⟩) ?_ ?_
           rotate_left
           ·intro w'
            go_simp
            with_reducible rfl
           rotate_left
           ·simp only [Act.put, zA, zB, zC, i64_w, i32_w]
            rfl
           refine pure_ (i := 7) (N := some 18) (v := ?_) (a' := ?_) (bA 34 255) rfl rfl (any_of HT_.out (by kernel_rfl)) (fun _ _ _ h => h) (Or.inl ⟨by rfl, ?_⟩) ?_ ?_
           rotate_left
           ·intro w'
            go_simp
            with_reducible rfl
           rotate_left
           ·simp only [Act.put, zA, zB, zC, i64_w, i32_w]
            rfl
           refine pure_ (i := 8) (N := some 19) (v := ?_) (a' := ?_) (bA 34 511) rfl rfl (any_of HT_.out (by kernel_rfl)) (fun _ _ _ h => h) (Or.inl ⟨by rfl, ?_⟩) ?_ ?_
           rotate_left
           ·intro w'
            go_simp
            with_reducible rfl
           rotate_left
           ·simp only [Act.put, zA, zB, zC, i64_w, i32_w]
            rfl
           refine pure_ (i := 9) (N := some 20) (v := ?_) (a' := ?_) (bA 34 1023) rfl rfl (any_of HT_.out (by kernel_rfl)) (fun _ _ _ h => h) (Or.inl ⟨by rfl, ?_⟩) ?_ ?_
           rotate_left
           ·intro w'
            go_simp
            with_reducible rfl
           rotate_left
           ·simp only [Act.put, zA, zB, zC, i64_w, i32_w]
            rfl
           refine pure_ (i := 10) (N := some 21) (v := ?_) (a' := ?_) (bA 34 2047) rfl rfl (any_of HT_.out (by kernel_rfl)) (fun _ _ _ h => h) (Or.inl ⟨by rfl, ?_⟩) ?_ ?_
           rotate_left
           ·intro w'
            go_simp
            with_reducible rfl
           rotate_left
           ·simp only [Act.put, zA, zB, zC, i64_w, i32_w]
            rfl
           refine pure_ (i := 11) (N := some 22) (v := ?_) (a' := ?_) (bA 34 4095) rfl rfl (any_of HT_.out (by kernel_rfl)) (fun _ _ _ h => h) (Or.inl ⟨by rfl, ?_⟩) ?_ ?_
           rotate_left
           ·intro w'
            go_simp
            with_reducible rfl
           rotate_left
           ·simp only [Act.put, zA, zB, zC, i64_w, i32_w]
            rfl
           refine take_ (i := 12) (N := some 23) (v := ?_) (a' := ?_) (bA 34 8191) rfl rfl (take_ofW HT_.out HW_.out (by kernel_rfl)) (fun _ _ _ h => h) (Or.inl ⟨by rfl, ?_⟩) hHeld ?_ ?_
           rotate_left
           ·rintro w' ⟨s0, s1, s2, s3, s4, s5, s6, s7⟩
            go_simp
            with_reducible rfl
           rotate_left
           ·simp only [Act.put, zA, zB, zC, i64_w, i32_w]
            rfl
           refine one_ (i := 13) (N := some 24) (bA 34 16383) rfl rfl (one_of HT_.out (by kernel_rfl)) (by decide) (fun K hK => ?_)
           refine goes_ Tryd.func65 (by kernel_rfl) rfl #[.string ((rd_T63 l0 x3_1).f1)] (by rfl) rfl rfl (by (try simp only [List.map_toArray, List.map_cons, List.map_nil]); first | done | rfl | (simp only [List.length_drop, List.length_take]; rfl)) ?_
           with_reducible refine (q2_Named.calls k1 ((rd_T63 l0 x3_1).f1) true _ A7.out).mono ?_
           rintro e w' ⟨rfl, ⟨nd, rfl⟩⟩
           refine ⟨_, rfl, ?_⟩
           refine hK.out _ _ ⟨((HB.out.cell (World.block_lt_of_cell? w _ hw244_0)).trans hw244_0), ((HB.out.cell (World.block_lt_of_cell? w _ hw244_1)).trans hw244_1), ((HB.out.cell (World.block_lt_of_cell? w _ hw246_0)).trans hw246_0), ((HB.out.cell (World.block_lt_of_cell? w _ hw246_1)).trans hw246_1), ((HB.out.cell (World.block_lt_of_cell? w _ hw248_0)).trans hw248_0), ((HB.out.cell (World.block_lt_of_cell? w _ hw248_1)).trans hw248_1), ((HB.out.cell (World.block_lt_of_cell? w _ hw249_0)).trans hw249_0), ((HB.out.cell (World.block_lt_of_cell? w _ hw249_1)).trans hw249_1)⟩ (fun hHeld => ?_)
           clear hK K
           refine norm_ (a' := ?_) ?_ ?_
           rotate_left
           ·show Act.put _ (some 24) _ = _
            simp only [Act.put, zA, zB, zC, i64_w, i32_w]
            rfl
           refine pure_ (i := 14) (N := some 25) (v := ?_) (a' := ?_) (bA 34 32767) rfl rfl (any_of HT_.out (by kernel_rfl)) (fun _ _ _ h => h) (Or.inl ⟨by rfl, ?_⟩) ?_ ?_
           rotate_left
           ·intro w'
            go_simp
            with_reducible rfl
           rotate_left
           ·simp only [Act.put, zA, zB, zC, i64_w, i32_w]
            rfl
           refine pure_ (i := 15) (N := some 26) (v := ?_) (a' := ?_) (bA 34 65535) rfl rfl (any_of HT_.out (by kernel_rfl)) (fun _ _ _ h => h) (Or.inl ⟨by rfl, ?_⟩) ?_ ?_
           rotate_left
           ·intro w'
            go_simp
            with_reducible rfl
           rotate_left
           ·simp only [Act.put, zA, zB, zC, i64_w, i32_w]
            rfl
           refine pure_ (i := 16) (N := some 27) (v := ?_) (a' := ?_) (bA 34 131071) rfl rfl (any_of HT_.out (by kernel_rfl)) (fun _ _ _ h => h) (Or.inl ⟨by rfl, ?_⟩) ?_ ?_
           rotate_left
           ·intro w'
            go_simp
            with_reducible rfl
           rotate_left
           ·simp only [Act.put, zA, zB, zC, i64_w, i32_w]
            rfl
           refine pure_ (i := 17) (N := some 28) (v := ?_) (a' := ?_) (bA 34 262143) rfl rfl (any_of HT_.out (by kernel_rfl)) (fun _ _ _ h => h) (Or.inl ⟨by rfl, ?_⟩) ?_ ?_
           rotate_left
           ·intro w'
            go_simp
            with_reducible rfl
           rotate_left
           ·simp only [Act.put, zA, zB, zC, i64_w, i32_w]
            rfl
           refine pure_ (i := 18) (N := some 29) (v := ?_) (a' := ?_) (bA 34 524287) rfl rfl (any_of HT_.out (by kernel_rfl)) (fun _ _ _ h => h) (Or.inl ⟨by rfl, ?_⟩) ?_ ?_
           rotate_left
           ·intro w'
            go_simp
            with_reducible rfl
           rotate_left
           ·simp only [Act.put, zA, zB, zC, i64_w, i32_w]
            rfl
           refine pure_ (i := 19) (N := some 30) (v := ?_) (a' := ?_) (bA 34 1048575) rfl rfl (any_of HT_.out (by kernel_rfl)) (fun _ _ _ h => h) (Or.inl ⟨by rfl, ?_⟩) ?_ ?_
           rotate_left
           ·intro w'
            go_simp
            with_reducible rfl
           rotate_left
           ·simp only [Act.put, zA, zB, zC, i64_w, i32_w]
            rfl
           refine pure_ (i := 20) (N := some 31) (v := ?_) (a' := ?_) (bA 34 2097151) rfl rfl (any_of HT_.out (by kernel_rfl)) (fun _ _ _ h => h) (Or.inl ⟨by rfl, ?_⟩) ?_ ?_
           rotate_left
           ·intro w'
            go_simp
            with_reducible rfl
           rotate_left
           ·simp only [Act.put, zA, zB, zC, i64_w, i32_w]
            rfl
           refine pure_ (i := 21) (N := some 32) (v := ?_) (a' := ?_) (bA 34 4194303) rfl rfl (any_of HT_.out (by kernel_rfl)) (fun _ _ _ h => h) (Or.inl ⟨by rfl, ?_⟩) ?_ ?_
           rotate_left
           ·intro w'
            go_simp
            with_reducible rfl
           rotate_left
           ·simp only [Act.put, zA, zB, zC, i64_w, i32_w]
            rfl
           refine pure_ (i := 22) (N := some 33) (v := ?_) (a' := ?_) (bA 34 8388607) rfl rfl (any_of HT_.out (by kernel_rfl)) (fun _ _ _ h => h) (Or.inl ⟨by rfl, ?_⟩) ?_ ?_
           rotate_left
           ·intro w'
            go_simp
            with_reducible rfl
           rotate_left
           ·simp only [Act.put, zA, zB, zC, i64_w, i32_w]
            rfl
           refine pure_ (i := 23) (N := some 34) (v := ?_) (a' := ?_) (bA 34 16777215) rfl rfl (any_of HT_.out (by kernel_rfl)) (fun _ _ _ h => h) (Or.inl ⟨by rfl, ?_⟩) ?_ ?_
           rotate_left
           ·intro w'
            go_simp
            with_reducible rfl
           rotate_left
           ·simp only [Act.put, zA, zB, zC, i64_w, i32_w]
            rfl
           refine pure_ (i := 24) (N := some 35) (v := ?_) (a' := ?_) (bA 34 33554431) rfl rfl (any_of HT_.out (by kernel_rfl)) (fun _ _ _ h => h) (Or.inl ⟨by rfl, ?_⟩) ?_ ?_
           rotate_left
           ·intro w'
            go_simp
            with_reducible rfl
           rotate_left
           ·simp only [Act.put, zA, zB, zC, i64_w, i32_w]
            rfl
           refine pure_ (i := 26) (N := some 37) (v := ?_) (a' := ?_) (bA 34 100663295) rfl rfl (any_of HT_.out (by kernel_rfl)) (fun _ _ _ h => h) (Or.inl ⟨by rfl, ?_⟩) ?_ ?_
           rotate_left
           ·intro w'
            go_simp
            with_reducible rfl
           rotate_left
           ·simp only [Act.put, zA, zB, zC, i64_w, i32_w]
            rfl
           refine pure_ (i := 27) (N := some 38) (v := ?_) (a' := ?_) (bA 34 234881023) rfl rfl (any_of HT_.out (by kernel_rfl)) (fun _ _ _ h => h) (Or.inl ⟨by rfl, ?_⟩) ?_ ?_
           rotate_left
           ·intro w'
            go_simp
            with_reducible rfl
           rotate_left
           ·simp only [Act.put, zA, zB, zC, i64_w, i32_w]
            rfl
           refine pure_ (i := 28) (N := some 39) (v := ?_) (a' := ?_) (bA 34 503316479) rfl rfl (any_of HT_.out (by kernel_rfl)) (fun _ _ _ h => h) (Or.inl ⟨by rfl, ?_⟩) ?_ ?_
           rotate_left
           ·intro w'
            go_simp
            with_reducible rfl
           rotate_left
           ·simp only [Act.put, zA, zB, zC, i64_w, i32_w]
            rfl
           refine pure_ (i := 29) (N := some 40) (v := ?_) (a' := ?_) (bA 34 1040187391) rfl rfl (any_of HT_.out (by kernel_rfl)) (fun _ _ _ h => h) (Or.inl ⟨by rfl, ?_⟩) ?_ ?_
           rotate_left
           ·intro w'
            go_simp
            with_reducible rfl
           rotate_left
           ·simp only [Act.put, zA, zB, zC, i64_w, i32_w]
            rfl
           refine take_ (i := 25) (N := some 36) (v := ?_) (a' := ?_) (bA 34 1073741823) rfl rfl (take_ofW HT_.out HW_.out (by kernel_rfl)) (fun _ _ _ h => h) (Or.inl ⟨by rfl, ?_⟩) hHeld ?_ ?_
           rotate_left
           ·rintro w' ⟨s0, s1, s2, s3, s4, s5, s6, s7⟩
            go_simp
            with_reducible rfl
           rotate_left
           ·simp only [Act.put, zA, zB, zC, i64_w, i32_w]
            rfl
           refine take_ (i := 30) (N := some 41) (v := ?_) (a' := ?_) (bA 34 2147483647) rfl rfl (take_ofW HT_.out HW_.out (by kernel_rfl)) (fun _ _ _ h => h) (Or.inl ⟨by rfl, ?_⟩) hHeld ?_ ?_
           rotate_left
           ·rintro w' ⟨s0, s1, s2, s3, s4, s5, s6, s7⟩
            go_simp
            with_reducible rfl
           rotate_left
           ·simp only [Act.put, zA, zB, zC, i64_w, i32_w]
            rfl
           refine pure_ (i := 31) (N := some 42) (v := ?_) (a' := ?_) (bA 34 4294967295) rfl rfl (any_of HT_.out (by kernel_rfl)) (fun _ _ _ h => h) (Or.inl ⟨by rfl, ?_⟩) ?_ ?_
           rotate_left
           ·intro w'
            go_simp
            with_reducible rfl
           rotate_left
           ·simp only [Act.put, zA, zB, zC, i64_w, i32_w]
            rfl
           refine pure_ (i := 32) (N := some 43) (v := ?_) (a' := ?_) (bA 34 8589934591) rfl rfl (any_of HT_.out (by kernel_rfl)) (fun _ _ _ h => h) (Or.inl ⟨by rfl, ?_⟩) ?_ ?_
           rotate_left
           ·intro w'
            go_simp
            with_reducible rfl
           rotate_left
           ·simp only [Act.put, zA, zB, zC, i64_w, i32_w]
            rfl
           refine pure_ (i := 33) (N := some 44) (v := ?_) (a' := ?_) (bA 34 17179869183) rfl rfl (any_of HT_.out (by kernel_rfl)) (fun _ _ _ h => h) (Or.inl ⟨by rfl, ?_⟩) ?_ ?_
           rotate_left
           ·intro w'
            go_simp
            with_reducible rfl
           rotate_left
           ·simp only [Act.put, zA, zB, zC, i64_w, i32_w]
            rfl
           refine done_ (done_of HT_.out (by kernel_rfl)) ?_
           try go_wp2
           go_meet
           case rel => exact ⟨_, (!(Op.bytesLess (((rd_T63 l0 (ji10)).f0).toList) (((rd_T63 l0 x3_1).f0).toList))), (by first | rfl | (simp; done) | (simp only [<- hji10] <;> (first | rfl | simp)) | (simp [*]; done)), H', ⟨by have := HK1.out; first | omega | exact Nat.le_refl _⟩, ⟨by repeat (first | (with_reducible first | exact HB.out | apply bal | apply pbN | apply bd1) | exact HB.out)⟩⟩
          ·rw [if_neg c12] at H
           exact absurd H (by simp)
         ·rw [if_neg c11] at H
          exact absurd H (by simp)
        ·rw [if_neg c9] at H
         have c9b0 : decide (0 < x3_1) = false := decide_eq_false c9
         clear c9
         have H' := Asd.mk H
         clear H
         try go_wp2
         have n0_ := Asd.mk (bd1 HB.out)
         clear HB
         have HB := n0_
         clear n0_
         have p244 : 0 <= (x3_1 : Int) := of_decide_eq_true (by first | (with_reducible assumption) | assumption)
         have q244 : x3_1 < (l0.length : Int) := of_decide_eq_true (by first | (with_reducible assumption) | assumption)
         obtain ⟨ad244, e244, hx244_0, hx244_1⟩ := at_T63 HR0.out x3_1 p244 q244
         have hw244_1 := hx244_1
         have hw244_0 := hx244_0
         cases e244
         replace hx244_0 := (HB.out.cell (World.block_lt_of_cell? w _ hx244_0)).trans hx244_0
         replace hx244_1 := (HB.out.cell (World.block_lt_of_cell? w _ hx244_1)).trans hx244_1
         replace p244 := eq_true p244
         replace q244 := eq_true q244
         have p246 : 0 <= (x3_1 : Int) := of_decide_eq_true (by first | (with_reducible assumption) | assumption)
         have q246 : x3_1 < (l0.length : Int) := of_decide_eq_true (by first | (with_reducible assumption) | assumption)
         obtain ⟨ad246, e246, hx246_0, hx246_1⟩ := at_T63 HR0.out x3_1 p246 q246
         have hw246_1 := hx246_1
         have hw246_0 := hx246_0
         obtain rfl : ad244 = ad246 := (by injection e246)
         replace hx246_0 := (HB.out.cell (World.block_lt_of_cell? w _ hx246_0)).trans hx246_0
         replace hx246_1 := (HB.out.cell (World.block_lt_of_cell? w _ hx246_1)).trans hx246_1
         replace p246 := eq_true p246
         replace q246 := eq_true q246
         refine start_ (n := 34) (S := fun w' => w'.cell? (ad244.add ((x3_1).toNat * 2)) = some (.string ((rd_T63 l0 x3_1).f0)) /\ w'.cell? ⟨(ad244.add ((x3_1).toNat * 2)).block, (ad244.add ((x3_1).toNat * 2)).off + 1, none⟩ = some (.string ((rd_T63 l0 x3_1).f1)) /\ w'.cell? (ad244.add ((x3_1).toNat * 2)) = some (.string ((rd_T63 l0 x3_1).f0)) /\ w'.cell? ⟨(ad244.add ((x3_1).toNat * 2)).block, (ad244.add ((x3_1).toNat * 2)).off + 1, none⟩ = some (.string ((rd_T63 l0 x3_1).f1))) (ds := []) (bA 34 0) (by kernel_rfl) rfl rfl ⟨((HB.out.cell (World.block_lt_of_cell? w _ hw244_0)).trans hw244_0), ((HB.out.cell (World.block_lt_of_cell? w _ hw244_1)).trans hw244_1), ((HB.out.cell (World.block_lt_of_cell? w _ hw246_0)).trans hw246_0), ((HB.out.cell (World.block_lt_of_cell? w _ hw246_1)).trans hw246_1)⟩ (fun hHeld => ?_); refine with_tabW q9_Right.tab4 q9_Right.bits4 (fun HT_ HW_ => ?_)
         generalize wr.drew = w15 at HB hx244_0 hx244_1 hx246_0 hx246_1 hHeld ⊢
         refine pure_ (i := 0) (N := some 11) (v := ?_) (a' := ?_) (bA 34 1) rfl rfl (any_of HT_.out (by kernel_rfl)) (fun _ _ _ h => h) (Or.inl ⟨by rfl, ?_⟩) ?_ ?_
         rotate_left
         ·intro w'
          go_simp
          with_reducible rfl
         rotate_left
         ·simp only [Act.put, zA, zB, zC, i64_w, i32_w]
          rfl
         refine pure_ (i := 1) (N := some 12) (v := ?_) (a' := ?_) (bA 34 3) rfl rfl (any_of HT_.out (by kernel_rfl)) (fun _ _ _ h => h) (Or.inl ⟨by rfl, ?_⟩) ?_ ?_
         rotate_left
         ·intro w'
          go_simp
          with_reducible rfl
         rotate_left
         ·simp only [Act.put, zA, zB, zC, i64_w, i32_w]
          rfl
         refine pure_ (i := 2) (N := some 13) (v := ?_) (a' := ?_) (bA 34 7) rfl rfl (any_of HT_.out (by kernel_rfl)) (fun _ _ _ h => h) (Or.inl ⟨by rfl, ?_⟩) ?_ ?_
         rotate_left
         ·intro w'
          go_simp
          with_reducible rfl
         rotate_left
         ·simp only [Act.put, zA, zB, zC, i64_w, i32_w]
          rfl
         refine pure_ (i := 3) (N := some 14) (v := ?_) (a' := ?_) (bA 34 15) rfl rfl (any_of HT_.out (by kernel_rfl)) (fun _ _ _ h => h) (Or.inl ⟨by rfl, ?_⟩) ?_ ?_
         rotate_left
         ·intro w'
          go_simp
          with_reducible rfl
         rotate_left
         ·simp only [Act.put, zA, zB, zC, i64_w, i32_w]
          rfl
         refine take_ (i := 4) (N := some 15) (v := ?_) (a' := ?_) (bA 34 31) rfl rfl (take_ofW HT_.out HW_.out (by kernel_rfl)) (fun _ _ _ h => h) (Or.inl ⟨by rfl, ?_⟩) hHeld ?_ ?_
         rotate_left
         ·rintro w' ⟨s0, s1, s2, s3⟩
          go_simp
          with_reducible rfl
         rotate_left
         ·simp only [Act.put, zA, zB, zC, i64_w, i32_w]
          rfl
         refine one_ (i := 5) (N := some 16) (bA 34 63) rfl rfl (one_of HT_.out (by kernel_rfl)) (by decide) (fun K hK => ?_)
         refine goes_ Tryd.func36 (by kernel_rfl) rfl #[.string ((rd_T63 l0 x3_1).f0)] (by rfl) rfl rfl (by (try simp only [List.map_toArray, List.map_cons, List.map_nil]); first | done | rfl | (simp only [List.length_drop, List.length_take]; rfl)) ?_
         with_reducible refine (q9_Named.calls k1 ((rd_T63 l0 x3_1).f0) true _ A5.out).mono ?_
         rintro e w16 ⟨rfl, hb⟩
         refine ⟨_, rfl, ?_⟩
         have n0_ := Asd.mk (below_step (by repeat (first | (with_reducible first | exact HB.out | apply bal | apply pbN | apply bd1) | exact HB.out)) hb)
         clear HB
         have HB := n0_
         clear n0_
         (try clear hb)
         (try clear hb2)
         (try clear hk)
         (try clear hi)
         refine hK.out _ _ ⟨((HB.out.cell (World.block_lt_of_cell? w _ hw244_0)).trans hw244_0), ((HB.out.cell (World.block_lt_of_cell? w _ hw244_1)).trans hw244_1), ((HB.out.cell (World.block_lt_of_cell? w _ hw246_0)).trans hw246_0), ((HB.out.cell (World.block_lt_of_cell? w _ hw246_1)).trans hw246_1)⟩ (fun hHeld => ?_)
         clear hK K
         refine norm_ (a' := ?_) ?_ ?_
         rotate_left
         ·show Act.put _ (some 16) _ = _
          simp only [Act.put, zA, zB, zC, i64_w, i32_w]
          rfl
         refine pure_ (i := 6) (N := some 17) (v := ?_) (a' := ?_) (bA 34 127) rfl rfl (any_of HT_.out (by kernel_rfl)) (fun _ _ _ h => h) (Or.inl ⟨by rfl, ?_⟩) ?_ ?_
         rotate_left
         ·intro w'
          go_simp
          with_reducible rfl
         rotate_left
         ·simp only [Act.put, zA, zB, zC, i64_w, i32_w]
          rfl
         refine pure_ (i := 7) (N := some 18) (v := ?_) (a' := ?_) (bA 34 255) rfl rfl (any_of HT_.out (by kernel_rfl)) (fun _ _ _ h => h) (Or.inl ⟨by rfl, ?_⟩) ?_ ?_
         rotate_left
         ·intro w'
          go_simp
          with_reducible rfl
         rotate_left
         ·simp only [Act.put, zA, zB, zC, i64_w, i32_w]
          rfl
         refine pure_ (i := 8) (N := some 19) (v := ?_) (a' := ?_) (bA 34 511) rfl rfl (any_of HT_.out (by kernel_rfl)) (fun _ _ _ h => h) (Or.inl ⟨by rfl, ?_⟩) ?_ ?_
         rotate_left
         ·intro w'
          go_simp
          with_reducible rfl
         rotate_left
         ·simp only [Act.put, zA, zB, zC, i64_w, i32_w]
          rfl
         refine pure_ (i := 9) (N := some 20) (v := ?_) (a' := ?_) (bA 34 1023) rfl rfl (any_of HT_.out (by kernel_rfl)) (fun _ _ _ h => h) (Or.inl ⟨by rfl, ?_⟩) ?_ ?_
         rotate_left
         ·intro w'
          go_simp
          with_reducible rfl
         rotate_left
         ·simp only [Act.put, zA, zB, zC, i64_w, i32_w]
          rfl
         refine pure_ (i := 10) (N := some 21) (v := ?_) (a' := ?_) (bA 34 2047) rfl rfl (any_of HT_.out (by kernel_rfl)) (fun _ _ _ h => h) (Or.inl ⟨by rfl, ?_⟩) ?_ ?_
         rotate_left
         ·intro w'
          go_simp
          with_reducible rfl
         rotate_left
         ·simp only [Act.put, zA, zB, zC, i64_w, i32_w]
          rfl
         refine pure_ (i := 11) (N := some 22) (v := ?_) (a' := ?_) (bA 34 4095) rfl rfl (any_of HT_.out (by kernel_rfl)) (fun _ _ _ h => h) (Or.inl ⟨by rfl, ?_⟩) ?_ ?_
         rotate_left
         ·intro w'
          go_simp
          with_reducible rfl
         rotate_left
         ·simp only [Act.put, zA, zB, zC, i64_w, i32_w]
          rfl
         refine take_ (i := 12) (N := some 23) (v := ?_) (a' := ?_) (bA 34 8191) rfl rfl (take_ofW HT_.out HW_.out (by kernel_rfl)) (fun _ _ _ h => h) (Or.inl ⟨by rfl, ?_⟩) hHeld ?_ ?_
         rotate_left
         ·rintro w' ⟨s0, s1, s2, s3⟩
          go_simp
          with_reducible rfl
         rotate_left
         ·simp only [Act.put, zA, zB, zC, i64_w, i32_w]
          rfl
         refine one_ (i := 13) (N := some 24) (bA 34 16383) rfl rfl (one_of HT_.out (by kernel_rfl)) (by decide) (fun K hK => ?_)
         refine goes_ Tryd.func65 (by kernel_rfl) rfl #[.string ((rd_T63 l0 x3_1).f1)] (by rfl) rfl rfl (by (try simp only [List.map_toArray, List.map_cons, List.map_nil]); first | done | rfl | (simp only [List.length_drop, List.length_take]; rfl)) ?_
         with_reducible refine (q2_Named.calls k1 ((rd_T63 l0 x3_1).f1) true _ A7.out).mono ?_
         rintro e w' ⟨rfl, ⟨nd, rfl⟩⟩
         refine ⟨_, rfl, ?_⟩
         refine hK.out _ _ ⟨((HB.out.cell (World.block_lt_of_cell? w _ hw244_0)).trans hw244_0), ((HB.out.cell (World.block_lt_of_cell? w _ hw244_1)).trans hw244_1), ((HB.out.cell (World.block_lt_of_cell? w _ hw246_0)).trans hw246_0), ((HB.out.cell (World.block_lt_of_cell? w _ hw246_1)).trans hw246_1)⟩ (fun hHeld => ?_)
         clear hK K
         refine norm_ (a' := ?_) ?_ ?_
         rotate_left
         ·show Act.put _ (some 24) _ = _
          simp only [Act.put, zA, zB, zC, i64_w, i32_w]
          rfl
         refine pure_ (i := 14) (N := some 25) (v := ?_) (a' := ?_) (bA 34 32767) rfl rfl (any_of HT_.out (by kernel_rfl)) (fun _ _ _ h => h) (Or.inl ⟨by rfl, ?_⟩) ?_ ?_
         rotate_left
         ·intro w'
          go_simp
          with_reducible rfl
         rotate_left
         ·simp only [Act.put, zA, zB, zC, i64_w, i32_w]
          rfl
         refine pure_ (i := 15) (N := some 26) (v := ?_) (a' := ?_) (bA 34 65535) rfl rfl (any_of HT_.out (by kernel_rfl)) (fun _ _ _ h => h) (Or.inl ⟨by rfl, ?_⟩) ?_ ?_
         rotate_left
         ·intro w'
          go_simp
          with_reducible rfl
         rotate_left
         ·simp only [Act.put, zA, zB, zC, i64_w, i32_w]
          rfl
         refine pure_ (i := 16) (N := some 27) (v := ?_) (a' := ?_) (bA 34 131071) rfl rfl (any_of HT_.out (by kernel_rfl)) (fun _ _ _ h => h) (Or.inl ⟨by rfl, ?_⟩) ?_ ?_
         rotate_left
         ·intro w'
          go_simp
          with_reducible rfl
         rotate_left
         ·simp only [Act.put, zA, zB, zC, i64_w, i32_w]
          rfl
         refine pure_ (i := 17) (N := some 28) (v := ?_) (a' := ?_) (bA 34 262143) rfl rfl (any_of HT_.out (by kernel_rfl)) (fun _ _ _ h => h) (Or.inl ⟨by rfl, ?_⟩) ?_ ?_
         rotate_left
         ·intro w'
          go_simp
          with_reducible rfl
         rotate_left
         ·simp only [Act.put, zA, zB, zC, i64_w, i32_w]
          rfl
         refine pure_ (i := 18) (N := some 29) (v := ?_) (a' := ?_) (bA 34 524287) rfl rfl (any_of HT_.out (by kernel_rfl)) (fun _ _ _ h => h) (Or.inl ⟨by rfl, ?_⟩) ?_ ?_
         rotate_left
         ·intro w'
          go_simp
          with_reducible rfl
         rotate_left
         ·simp only [Act.put, zA, zB, zC, i64_w, i32_w]
          rfl
         refine pure_ (i := 19) (N := some 30) (v := ?_) (a' := ?_) (bA 34 1048575) rfl rfl (any_of HT_.out (by kernel_rfl)) (fun _ _ _ h => h) (Or.inl ⟨by rfl, ?_⟩) ?_ ?_
         rotate_left
         ·intro w'
          go_simp
          with_reducible rfl
         rotate_left
         ·simp only [Act.put, zA, zB, zC, i64_w, i32_w]
          rfl
         refine pure_ (i := 20) (N := some 31) (v := undef) (a' := ?_) (bA 34 2097151) rfl rfl (any_of HT_.out (by kernel_rfl)) (fun _ _ _ h => h) (Or.inr ⟨by rfl, rfl⟩) ?_ ?_
         rotate_left
         ·simp only [Act.put, zA, zB, zC, i64_w, i32_w]
          rfl
         refine pure_ (i := 21) (N := some 32) (v := undef) (a' := ?_) (bA 34 4194303) rfl rfl (any_of HT_.out (by kernel_rfl)) (fun _ _ _ h => h) (Or.inr ⟨by rfl, rfl⟩) ?_ ?_
         rotate_left
         ·simp only [Act.put, zA, zB, zC, i64_w, i32_w]
          rfl
         refine pure_ (i := 22) (N := some 33) (v := undef) (a' := ?_) (bA 34 8388607) rfl rfl (any_of HT_.out (by kernel_rfl)) (fun _ _ _ h => h) (Or.inr ⟨by rfl, rfl⟩) ?_ ?_
         rotate_left
         ·simp only [Act.put, zA, zB, zC, i64_w, i32_w]
          rfl
         refine pure_ (i := 23) (N := some 34) (v := undef) (a' := ?_) (bA 34 16777215) rfl rfl (any_of HT_.out (by kernel_rfl)) (fun _ _ _ h => h) (Or.inr ⟨by rfl, rfl⟩) ?_ ?_
         rotate_left
         ·simp only [Act.put, zA, zB, zC, i64_w, i32_w]
          rfl
         refine pure_ (i := 24) (N := some 35) (v := undef) (a' := ?_) (bA 34 33554431) rfl rfl (any_of HT_.out (by kernel_rfl)) (fun _ _ _ h => h) (Or.inr ⟨by rfl, rfl⟩) ?_ ?_
         rotate_left
         ·simp only [Act.put, zA, zB, zC, i64_w, i32_w]
          rfl
         refine pure_ (i := 25) (N := some 36) (v := undef) (a' := ?_) (bA 34 67108863) rfl rfl (any_of HT_.out (by kernel_rfl)) (fun _ _ _ h => h) (Or.inr ⟨by rfl, rfl⟩) ?_ ?_
         rotate_left
         ·simp only [Act.put, zA, zB, zC, i64_w, i32_w]
          rfl
         refine pure_ (i := 26) (N := some 37) (v := undef) (a' := ?_) (bA 34 134217727) rfl rfl (any_of HT_.out (by kernel_rfl)) (fun _ _ _ h => h) (Or.inr ⟨by rfl, rfl⟩) ?_ ?_
         rotate_left
         ·simp only [Act.put, zA, zB, zC, i64_w, i32_w]
          rfl
         refine pure_ (i := 27) (N := some 38) (v := undef) (a' := ?_) (bA 34 268435455) rfl rfl (any_of HT_.out (by kernel_rfl)) (fun _ _ _ h => h) (Or.inr ⟨by rfl, rfl⟩) ?_ ?_
         rotate_left
         ·simp only [Act.put, zA, zB, zC, i64_w, i32_w]
          rfl
         refine pure_ (i := 28) (N := some 39) (v := undef) (a' := ?_) (bA 34 536870911) rfl rfl (any_of HT_.out (by kernel_rfl)) (fun _ _ _ h => h) (Or.inr ⟨by rfl, rfl⟩) ?_ ?_
         rotate_left
         ·simp only [Act.put, zA, zB, zC, i64_w, i32_w]
          rfl
         refine pure_ (i := 29) (N := some 40) (v := undef) (a' := ?_) (bA 34 1073741823) rfl rfl (any_of HT_.out (by kernel_rfl)) (fun _ _ _ h => h) (Or.inr ⟨by rfl, rfl⟩) ?_ ?_
         rotate_left
         ·simp only [Act.put, zA, zB, zC, i64_w, i32_w]
          rfl
         refine pure_ (i := 30) (N := some 41) (v := undef) (a' := ?_) (bA 34 2147483647) rfl rfl (any_of HT_.out (by kernel_rfl)) (fun _ _ _ h => h) (Or.inr ⟨by rfl, rfl⟩) ?_ ?_
         rotate_left
         ·simp only [Act.put, zA, zB, zC, i64_w, i32_w]
          rfl
         refine pure_ (i := 31) (N := some 42) (v := undef) (a' := ?_) (bA 34 4294967295) rfl rfl (any_of HT_.out (by kernel_rfl)) (fun _ _ _ h => h) (Or.inr ⟨by rfl, rfl⟩) ?_ ?_
         rotate_left
         ·simp only [Act.put, zA, zB, zC, i64_w, i32_w]
          rfl
         refine pure_ (i := 32) (N := some 43) (v := ?_) (a' := ?_) (bA 34 8589934591) rfl rfl (any_of HT_.out (by kernel_rfl)) (fun _ _ _ h => h) (Or.inl ⟨by rfl, ?_⟩) ?_ ?_
         rotate_left
         ·intro w'
          go_simp
          with_reducible rfl
         rotate_left
         ·simp only [Act.put, zA, zB, zC, i64_w, i32_w]
          rfl
         refine pure_ (i := 33) (N := some 44) (v := ?_) (a' := ?_) (bA 34 17179869183) rfl rfl (any_of HT_.out (by kernel_rfl)) (fun _ _ _ h => h) (Or.inl ⟨by rfl, ?_⟩) ?_ ?_
         rotate_left
         ·intro w'
          go_simp
          with_reducible rfl
         rotate_left
         ·simp only [Act.put, zA, zB, zC, i64_w, i32_w]
          rfl
         refine done_ (done_of HT_.out (by kernel_rfl)) ?_
         try go_wp2
         go_meet
         case rel => exact ⟨_, (false), (by first | rfl | (simp; done) | (simp [*]; done)), H', ⟨by have := HK1.out; first | omega | exact Nat.le_refl _⟩, ⟨by repeat (first | (with_reducible first | exact HB.out | apply bal | apply pbN | apply bd1) | exact HB.out)⟩⟩
       ·replace c8 := Bool.eq_false_iff.mpr c8
        subst c8
        have H1 : (q9_Right.j1 k1 l0 x3_1 true) = some r := by rw [if_neg (show ¬ (false = true) by decide)] at H; exact H
        clear H
        have H := H1
        clear H1
        have H' := Asd.mk H
        clear H
        try go_wp2
        have n0_ := Asd.mk (bd1 HB.out)
        clear HB
        have HB := n0_
        clear n0_
        have p244 : 0 <= (x3_1 : Int) := of_decide_eq_true (by first | (with_reducible assumption) | assumption)
        have q244 : x3_1 < (l0.length : Int) := of_decide_eq_true (by first | (with_reducible assumption) | assumption)
        obtain ⟨ad244, e244, hx244_0, hx244_1⟩ := at_T63 HR0.out x3_1 p244 q244
        have hw244_1 := hx244_1
        have hw244_0 := hx244_0
        cases e244
        replace hx244_0 := (HB.out.cell (World.block_lt_of_cell? w _ hx244_0)).trans hx244_0
        replace hx244_1 := (HB.out.cell (World.block_lt_of_cell? w _ hx244_1)).trans hx244_1
        replace p244 := eq_true p244
        replace q244 := eq_true q244
        have p246 : 0 <= (x3_1 : Int) := of_decide_eq_true (by first | (with_reducible assumption) | assumption)
        have q246 : x3_1 < (l0.length : Int) := of_decide_eq_true (by first | (with_reducible assumption) | assumption)
        obtain ⟨ad246, e246, hx246_0, hx246_1⟩ := at_T63 HR0.out x3_1 p246 q246
        have hw246_1 := hx246_1
        have hw246_0 := hx246_0
        obtain rfl : ad244 = ad246 := (by injection e246)
        replace hx246_0 := (HB.out.cell (World.block_lt_of_cell? w _ hx246_0)).trans hx246_0
        replace hx246_1 := (HB.out.cell (World.block_lt_of_cell? w _ hx246_1)).trans hx246_1
        replace p246 := eq_true p246
        replace q246 := eq_true q246
        refine start_ (n := 34) (S := fun w' => w'.cell? (ad244.add ((x3_1).toNat * 2)) = some (.string ((rd_T63 l0 x3_1).f0)) /\ w'.cell? ⟨(ad244.add ((x3_1).toNat * 2)).block, (ad244.add ((x3_1).toNat * 2)).off + 1, none⟩ = some (.string ((rd_T63 l0 x3_1).f1)) /\ w'.cell? (ad244.add ((x3_1).toNat * 2)) = some (.string ((rd_T63 l0 x3_1).f0)) /\ w'.cell? ⟨(ad244.add ((x3_1).toNat * 2)).block, (ad244.add ((x3_1).toNat * 2)).off + 1, none⟩ = some (.string ((rd_T63 l0 x3_1).f1))) (ds := []) (bA 34 0) (by kernel_rfl) rfl rfl ⟨((HB.out.cell (World.block_lt_of_cell? w _ hw244_0)).trans hw244_0), ((HB.out.cell (World.block_lt_of_cell? w _ hw244_1)).trans hw244_1), ((HB.out.cell (World.block_lt_of_cell? w _ hw246_0)).trans hw246_0), ((HB.out.cell (World.block_lt_of_cell? w _ hw246_1)).trans hw246_1)⟩ (fun hHeld => ?_); refine with_tabW q9_Right.tab4 q9_Right.bits4 (fun HT_ HW_ => ?_)
        generalize wr.drew = w17 at HB hx244_0 hx244_1 hx246_0 hx246_1 hHeld ⊢
        refine pure_ (i := 0) (N := some 11) (v := ?_) (a' := ?_) (bA 34 1) rfl rfl (any_of HT_.out (by kernel_rfl)) (fun _ _ _ h => h) (Or.inl ⟨by rfl, ?_⟩) ?_ ?_
        rotate_left
        ·intro w'
         go_simp
         with_reducible rfl
        rotate_left
        ·simp only [Act.put, zA, zB, zC, i64_w, i32_w]
         rfl
        refine pure_ (i := 1) (N := some 12) (v := ?_) (a' := ?_) (bA 34 3) rfl rfl (any_of HT_.out (by kernel_rfl)) (fun _ _ _ h => h) (Or.inl ⟨by rfl, ?_⟩) ?_ ?_
        rotate_left
        ·intro w'
         go_simp
         with_reducible rfl
        rotate_left
        ·simp only [Act.put, zA, zB, zC, i64_w, i32_w]
         rfl
        refine pure_ (i := 2) (N := some 13) (v := ?_) (a' := ?_) (bA 34 7) rfl rfl (any_of HT_.out (by kernel_rfl)) (fun _ _ _ h => h) (Or.inl ⟨by rfl, ?_⟩) ?_ ?_
        rotate_left
        ·intro w'
         go_simp
         with_reducible rfl
        rotate_left
        ·simp only [Act.put, zA, zB, zC, i64_w, i32_w]
         rfl
        refine pure_ (i := 3) (N := some 14) (v := ?_) (a' := ?_) (bA 34 15) rfl rfl (any_of HT_.out (by kernel_rfl)) (fun _ _ _ h => h) (Or.inl ⟨by rfl, ?_⟩) ?_ ?_
        rotate_left
        ·intro w'
         go_simp
         with_reducible rfl
        rotate_left
        ·simp only [Act.put, zA, zB, zC, i64_w, i32_w]
         rfl
        refine take_ (i := 4) (N := some 15) (v := ?_) (a' := ?_) (bA 34 31) rfl rfl (take_ofW HT_.out HW_.out (by kernel_rfl)) (fun _ _ _ h => h) (Or.inl ⟨by rfl, ?_⟩) hHeld ?_ ?_
        rotate_left
        ·rintro w' ⟨s0, s1, s2, s3⟩
         go_simp
         with_reducible rfl
        rotate_left
        ·simp only [Act.put, zA, zB, zC, i64_w, i32_w]
         rfl
        refine one_ (i := 5) (N := some 16) (bA 34 63) rfl rfl (one_of HT_.out (by kernel_rfl)) (by decide) (fun K hK => ?_)
        refine goes_ Tryd.func36 (by kernel_rfl) rfl #[.string ((rd_T63 l0 x3_1).f0)] (by rfl) rfl rfl (by (try simp only [List.map_toArray, List.map_cons, List.map_nil]); first | done | rfl | (simp only [List.length_drop, List.length_take]; rfl)) ?_
        with_reducible refine (q9_Named.calls k1 ((rd_T63 l0 x3_1).f0) true _ A5.out).mono ?_
        rintro e w18 ⟨rfl, hb⟩
        refine ⟨_, rfl, ?_⟩
        have n0_ := Asd.mk (below_step (by repeat (first | (with_reducible first | exact HB.out | apply bal | apply pbN | apply bd1) | exact HB.out)) hb)
        clear HB
        have HB := n0_
        clear n0_
        (try clear hb)
        (try clear hb2)
        (try clear hk)
        (try clear hi)
        refine hK.out _ _ ⟨((HB.out.cell (World.block_lt_of_cell? w _ hw244_0)).trans hw244_0), ((HB.out.cell (World.block_lt_of_cell? w _ hw244_1)).trans hw244_1), ((HB.out.cell (World.block_lt_of_cell? w _ hw246_0)).trans hw246_0), ((HB.out.cell (World.block_lt_of_cell? w _ hw246_1)).trans hw246_1)⟩ (fun hHeld => ?_)
        clear hK K
        refine norm_ (a' := ?_) ?_ ?_
        rotate_left
        ·show Act.put _ (some 16) _ = _
         simp only [Act.put, zA, zB, zC, i64_w, i32_w]
         rfl
        refine pure_ (i := 6) (N := some 17) (v := ?_) (a' := ?_) (bA 34 127) rfl rfl (any_of HT_.out (by kernel_rfl)) (fun _ _ _ h => h) (Or.inl ⟨by rfl, ?_⟩) ?_ ?_
        rotate_left
        ·intro w'
         go_simp
         with_reducible rfl
        rotate_left
        ·simp only [Act.put, zA, zB, zC, i64_w, i32_w]
         rfl
        refine pure_ (i := 7) (N := some 18) (v := ?_) (a' := ?_) (bA 34 255) rfl rfl (any_of HT_.out (by kernel_rfl)) (fun _ _ _ h => h) (Or.inl ⟨by rfl, ?_⟩) ?_ ?_
        rotate_left
        ·intro w'
         go_simp
         with_reducible rfl
        rotate_left
        ·simp only [Act.put, zA, zB, zC, i64_w, i32_w]
         rfl
        refine pure_ (i := 8) (N := some 19) (v := ?_) (a' := ?_) (bA 34 511) rfl rfl (any_of HT_.out (by kernel_rfl)) (fun _ _ _ h => h) (Or.inl ⟨by rfl, ?_⟩) ?_ ?_
        rotate_left
        ·intro w'
         go_simp
         with_reducible rfl
        rotate_left
        ·simp only [Act.put, zA, zB, zC, i64_w, i32_w]
         rfl
        refine pure_ (i := 9) (N := some 20) (v := ?_) (a' := ?_) (bA 34 1023) rfl rfl (any_of HT_.out (by kernel_rfl)) (fun _ _ _ h => h) (Or.inl ⟨by rfl, ?_⟩) ?_ ?_
        rotate_left
        ·intro w'
         go_simp
         with_reducible rfl
        rotate_left
        ·simp only [Act.put, zA, zB, zC, i64_w, i32_w]
         rfl
        refine pure_ (i := 10) (N := some 21) (v := ?_) (a' := ?_) (bA 34 2047) rfl rfl (any_of HT_.out (by kernel_rfl)) (fun _ _ _ h => h) (Or.inl ⟨by rfl, ?_⟩) ?_ ?_
        rotate_left
        ·intro w'
         go_simp
         with_reducible rfl
        rotate_left
        ·simp only [Act.put, zA, zB, zC, i64_w, i32_w]
         rfl
        refine pure_ (i := 11) (N := some 22) (v := ?_) (a' := ?_) (bA 34 4095) rfl rfl (any_of HT_.out (by kernel_rfl)) (fun _ _ _ h => h) (Or.inl ⟨by rfl, ?_⟩) ?_ ?_
        rotate_left
        ·intro w'
         go_simp
         with_reducible rfl
        rotate_left
        ·simp only [Act.put, zA, zB, zC, i64_w, i32_w]
         rfl
        refine take_ (i := 12) (N := some 23) (v := ?_) (a' := ?_) (bA 34 8191) rfl rfl (take_ofW HT_.out HW_.out (by kernel_rfl)) (fun _ _ _ h => h) (Or.inl ⟨by rfl, ?_⟩) hHeld ?_ ?_
        rotate_left
        ·rintro w' ⟨s0, s1, s2, s3⟩
         go_simp
         with_reducible rfl
        rotate_left
        ·simp only [Act.put, zA, zB, zC, i64_w, i32_w]
         rfl
        refine one_ (i := 13) (N := some 24) (bA 34 16383) rfl rfl (one_of HT_.out (by kernel_rfl)) (by decide) (fun K hK => ?_)
        refine goes_ Tryd.func65 (by kernel_rfl) rfl #[.string ((rd_T63 l0 x3_1).f1)] (by rfl) rfl rfl (by (try simp only [List.map_toArray, List.map_cons, List.map_nil]); first | done | rfl | (simp only [List.length_drop, List.length_take]; rfl)) ?_
        with_reducible refine (q2_Named.calls k1 ((rd_T63 l0 x3_1).f1) false _ A7.out).mono ?_
        rintro e w' ⟨rfl, ⟨nd, rfl⟩⟩
        refine ⟨_, rfl, ?_⟩
        refine hK.out _ _ ⟨((HB.out.cell (World.block_lt_of_cell? w _ hw244_0)).trans hw244_0), ((HB.out.cell (World.block_lt_of_cell? w _ hw244_1)).trans hw244_1), ((HB.out.cell (World.block_lt_of_cell? w _ hw246_0)).trans hw246_0), ((HB.out.cell (World.block_lt_of_cell? w _ hw246_1)).trans hw246_1)⟩ (fun hHeld => ?_)
        clear hK K
        refine norm_ (a' := ?_) ?_ ?_
        rotate_left
        ·show Act.put _ (some 24) _ = _
         simp only [Act.put, zA, zB, zC, i64_w, i32_w]
         rfl
        refine pure_ (i := 14) (N := some 25) (v := ?_) (a' := ?_) (bA 34 32767) rfl rfl (any_of HT_.out (by kernel_rfl)) (fun _ _ _ h => h) (Or.inl ⟨by rfl, ?_⟩) ?_ ?_
        rotate_left
        ·intro w'
         go_simp
         with_reducible rfl
        rotate_left
        ·simp only [Act.put, zA, zB, zC, i64_w, i32_w]
         rfl
        refine pure_ (i := 15) (N := some 26) (v := ?_) (a' := ?_) (bA 34 65535) rfl rfl (any_of HT_.out (by kernel_rfl)) (fun _ _ _ h => h) (Or.inl ⟨by rfl, ?_⟩) ?_ ?_
        rotate_left
        ·intro w'
         go_simp
         with_reducible rfl
        rotate_left
        ·simp only [Act.put, zA, zB, zC, i64_w, i32_w]
         rfl
        refine pure_ (i := 16) (N := some 27) (v := ?_) (a' := ?_) (bA 34 131071) rfl rfl (any_of HT_.out (by kernel_rfl)) (fun _ _ _ h => h) (Or.inl ⟨by rfl, ?_⟩) ?_ ?_
        rotate_left
        ·intro w'
         go_simp
         with_reducible rfl
        rotate_left
        ·simp only [Act.put, zA, zB, zC, i64_w, i32_w]
         rfl
        refine pure_ (i := 17) (N := some 28) (v := undef) (a' := ?_) (bA 34 262143) rfl rfl (any_of HT_.out (by kernel_rfl)) (fun _ _ _ h => h) (Or.inr ⟨by rfl, rfl⟩) ?_ ?_
        rotate_left
        ·simp only [Act.put, zA, zB, zC, i64_w, i32_w]
         rfl
        refine pure_ (i := 18) (N := some 29) (v := undef) (a' := ?_) (bA 34 524287) rfl rfl (any_of HT_.out (by kernel_rfl)) (fun _ _ _ h => h) (Or.inr ⟨by rfl, rfl⟩) ?_ ?_
        rotate_left
        ·simp only [Act.put, zA, zB, zC, i64_w, i32_w]
         rfl
        refine pure_ (i := 19) (N := some 30) (v := undef) (a' := ?_) (bA 34 1048575) rfl rfl (any_of HT_.out (by kernel_rfl)) (fun _ _ _ h => h) (Or.inr ⟨by rfl, rfl⟩) ?_ ?_
        rotate_left
        ·simp only [Act.put, zA, zB, zC, i64_w, i32_w]
         rfl
        refine pure_ (i := 20) (N := some 31) (v := undef) (a' := ?_) (bA 34 2097151) rfl rfl (any_of HT_.out (by kernel_rfl)) (fun _ _ _ h => h) (Or.inr ⟨by rfl, rfl⟩) ?_ ?_
        rotate_left
        ·simp only [Act.put, zA, zB, zC, i64_w, i32_w]
         rfl
        refine pure_ (i := 21) (N := some 32) (v := undef) (a' := ?_) (bA 34 4194303) rfl rfl (any_of HT_.out (by kernel_rfl)) (fun _ _ _ h => h) (Or.inr ⟨by rfl, rfl⟩) ?_ ?_
        rotate_left
        ·simp only [Act.put, zA, zB, zC, i64_w, i32_w]
         rfl
        refine pure_ (i := 22) (N := some 33) (v := undef) (a' := ?_) (bA 34 8388607) rfl rfl (any_of HT_.out (by kernel_rfl)) (fun _ _ _ h => h) (Or.inr ⟨by rfl, rfl⟩) ?_ ?_
        rotate_left
        ·simp only [Act.put, zA, zB, zC, i64_w, i32_w]
         rfl
        refine pure_ (i := 23) (N := some 34) (v := undef) (a' := ?_) (bA 34 16777215) rfl rfl (any_of HT_.out (by kernel_rfl)) (fun _ _ _ h => h) (Or.inr ⟨by rfl, rfl⟩) ?_ ?_
        rotate_left
        ·simp only [Act.put, zA, zB, zC, i64_w, i32_w]
         rfl
        refine pure_ (i := 24) (N := some 35) (v := undef) (a' := ?_) (bA 34 33554431) rfl rfl (any_of HT_.out (by kernel_rfl)) (fun _ _ _ h => h) (Or.inr ⟨by rfl, rfl⟩) ?_ ?_
        rotate_left
        ·simp only [Act.put, zA, zB, zC, i64_w, i32_w]
         rfl
        refine pure_ (i := 25) (N := some 36) (v := undef) (a' := ?_) (bA 34 67108863) rfl rfl (any_of HT_.out (by kernel_rfl)) (fun _ _ _ h => h) (Or.inr ⟨by rfl, rfl⟩) ?_ ?_
        rotate_left
        ·simp only [Act.put, zA, zB, zC, i64_w, i32_w]
         rfl
        refine pure_ (i := 26) (N := some 37) (v := undef) (a' := ?_) (bA 34 134217727) rfl rfl (any_of HT_.out (by kernel_rfl)) (fun _ _ _ h => h) (Or.inr ⟨by rfl, rfl⟩) ?_ ?_
        rotate_left
        ·simp only [Act.put, zA, zB, zC, i64_w, i32_w]
         rfl
        refine pure_ (i := 27) (N := some 38) (v := undef) (a' := ?_) (bA 34 268435455) rfl rfl (any_of HT_.out (by kernel_rfl)) (fun _ _ _ h => h) (Or.inr ⟨by rfl, rfl⟩) ?_ ?_
        rotate_left
        ·simp only [Act.put, zA, zB, zC, i64_w, i32_w]
         rfl
        refine pure_ (i := 28) (N := some 39) (v := undef) (a' := ?_) (bA 34 536870911) rfl rfl (any_of HT_.out (by kernel_rfl)) (fun _ _ _ h => h) (Or.inr ⟨by rfl, rfl⟩) ?_ ?_
        rotate_left
        ·simp only [Act.put, zA, zB, zC, i64_w, i32_w]
         rfl
        refine pure_ (i := 29) (N := some 40) (v := undef) (a' := ?_) (bA 34 1073741823) rfl rfl (any_of HT_.out (by kernel_rfl)) (fun _ _ _ h => h) (Or.inr ⟨by rfl, rfl⟩) ?_ ?_
        rotate_left
        ·simp only [Act.put, zA, zB, zC, i64_w, i32_w]
         rfl
        refine pure_ (i := 30) (N := some 41) (v := undef) (a' := ?_) (bA 34 2147483647) rfl rfl (any_of HT_.out (by kernel_rfl)) (fun _ _ _ h => h) (Or.inr ⟨by rfl, rfl⟩) ?_ ?_
        rotate_left
        ·simp only [Act.put, zA, zB, zC, i64_w, i32_w]
         rfl
        refine pure_ (i := 31) (N := some 42) (v := undef) (a' := ?_) (bA 34 4294967295) rfl rfl (any_of HT_.out (by kernel_rfl)) (fun _ _ _ h => h) (Or.inr ⟨by rfl, rfl⟩) ?_ ?_
        rotate_left
        ·simp only [Act.put, zA, zB, zC, i64_w, i32_w]
         rfl
        refine pure_ (i := 32) (N := some 43) (v := undef) (a' := ?_) (bA 34 8589934591) rfl rfl (any_of HT_.out (by kernel_rfl)) (fun _ _ _ h => h) (Or.inr ⟨by rfl, rfl⟩) ?_ ?_
        rotate_left
        ·simp only [Act.put, zA, zB, zC, i64_w, i32_w]
         rfl
        refine pure_ (i := 33) (N := some 44) (v := ?_) (a' := ?_) (bA 34 17179869183) rfl rfl (any_of HT_.out (by kernel_rfl)) (fun _ _ _ h => h) (Or.inl ⟨by rfl, ?_⟩) ?_ ?_
        rotate_left
        ·intro w'
         go_simp
         with_reducible rfl
        rotate_left
        ·simp only [Act.put, zA, zB, zC, i64_w, i32_w]
         rfl
        refine done_ (done_of HT_.out (by kernel_rfl)) ?_
        try go_wp2
        go_meet
        case rel => exact ⟨_, (true), (by first | rfl | (simp; done) | (simp [*]; done)), H', ⟨by have := HK1.out; first | omega | exact Nat.le_refl _⟩, ⟨by repeat (first | (with_reducible first | exact HB.out | apply bal | apply pbN | apply bd1) | exact HB.out)⟩⟩
      ·replace c6 := Bool.eq_false_iff.mpr c6
       subst c6
       have H1 : (q9_Right.j1 k1 l0 x3_1 true) = some r := by rw [if_neg (show ¬ (false = true) by decide)] at H; exact H
       clear H
       have H := H1
       clear H1
       have H' := Asd.mk H
       clear H
       try go_wp2
       have n0_ := Asd.mk (bd1 HB.out)
       clear HB
       have HB := n0_
       clear n0_
       have p244 : 0 <= (x3_1 : Int) := of_decide_eq_true (by first | (with_reducible assumption) | assumption)
       have q244 : x3_1 < (l0.length : Int) := of_decide_eq_true (by first | (with_reducible assumption) | assumption)
       obtain ⟨ad244, e244, hx244_0, hx244_1⟩ := at_T63 HR0.out x3_1 p244 q244
       have hw244_1 := hx244_1
       have hw244_0 := hx244_0
       cases e244
       replace hx244_0 := (HB.out.cell (World.block_lt_of_cell? w _ hx244_0)).trans hx244_0
       replace hx244_1 := (HB.out.cell (World.block_lt_of_cell? w _ hx244_1)).trans hx244_1
       replace p244 := eq_true p244
       replace q244 := eq_true q244
       refine start_ (n := 34) (S := fun w' => w'.cell? (ad244.add ((x3_1).toNat * 2)) = some (.string ((rd_T63 l0 x3_1).f0)) /\ w'.cell? ⟨(ad244.add ((x3_1).toNat * 2)).block, (ad244.add ((x3_1).toNat * 2)).off + 1, none⟩ = some (.string ((rd_T63 l0 x3_1).f1))) (ds := []) (bA 34 0) (by kernel_rfl) rfl rfl ⟨((HB.out.cell (World.block_lt_of_cell? w _ hw244_0)).trans hw244_0), ((HB.out.cell (World.block_lt_of_cell? w _ hw244_1)).trans hw244_1)⟩ (fun hHeld => ?_); refine with_tabW q9_Right.tab4 q9_Right.bits4 (fun HT_ HW_ => ?_)
       generalize wr.drew = w19 at HB hx244_0 hx244_1 hHeld ⊢
       refine pure_ (i := 0) (N := some 11) (v := ?_) (a' := ?_) (bA 34 1) rfl rfl (any_of HT_.out (by kernel_rfl)) (fun _ _ _ h => h) (Or.inl ⟨by rfl, ?_⟩) ?_ ?_
       rotate_left
       ·intro w'
        go_simp
        with_reducible rfl
       rotate_left
       ·simp only [Act.put, zA, zB, zC, i64_w, i32_w]
        rfl
       refine pure_ (i := 1) (N := some 12) (v := ?_) (a' := ?_) (bA 34 3) rfl rfl (any_of HT_.out (by kernel_rfl)) (fun _ _ _ h => h) (Or.inl ⟨by rfl, ?_⟩) ?_ ?_
       rotate_left
       ·intro w'
        go_simp
        with_reducible rfl
       rotate_left
       ·simp only [Act.put, zA, zB, zC, i64_w, i32_w]
        rfl
       refine pure_ (i := 2) (N := some 13) (v := ?_) (a' := ?_) (bA 34 7) rfl rfl (any_of HT_.out (by kernel_rfl)) (fun _ _ _ h => h) (Or.inl ⟨by rfl, ?_⟩) ?_ ?_
       rotate_left
       ·intro w'
        go_simp
        with_reducible rfl
       rotate_left
       ·simp only [Act.put, zA, zB, zC, i64_w, i32_w]
        rfl
       refine pure_ (i := 3) (N := some 14) (v := ?_) (a' := ?_) (bA 34 15) rfl rfl (any_of HT_.out (by kernel_rfl)) (fun _ _ _ h => h) (Or.inl ⟨by rfl, ?_⟩) ?_ ?_
       rotate_left
       ·intro w'
        go_simp
        with_reducible rfl
       rotate_left
       ·simp only [Act.put, zA, zB, zC, i64_w, i32_w]
        rfl
       refine take_ (i := 4) (N := some 15) (v := ?_) (a' := ?_) (bA 34 31) rfl rfl (take_ofW HT_.out HW_.out (by kernel_rfl)) (fun _ _ _ h => h) (Or.inl ⟨by rfl, ?_⟩) hHeld ?_ ?_
       rotate_left
       ·rintro w' ⟨s0, s1⟩
        go_simp
        with_reducible rfl
       rotate_left
       ·simp only [Act.put, zA, zB, zC, i64_w, i32_w]
        rfl
       refine one_ (i := 5) (N := some 16) (bA 34 63) rfl rfl (one_of HT_.out (by kernel_rfl)) (by decide) (fun K hK => ?_)
       refine goes_ Tryd.func36 (by kernel_rfl) rfl #[.string ((rd_T63 l0 x3_1).f0)] (by rfl) rfl rfl (by (try simp only [List.map_toArray, List.map_cons, List.map_nil]); first | done | rfl | (simp only [List.length_drop, List.length_take]; rfl)) ?_
       with_reducible refine (q9_Named.calls k1 ((rd_T63 l0 x3_1).f0) false _ A5.out).mono ?_
       rintro e w20 ⟨rfl, hb⟩
       refine ⟨_, rfl, ?_⟩
       have n0_ := Asd.mk (below_step (by repeat (first | (with_reducible first | exact HB.out | apply bal | apply pbN | apply bd1) | exact HB.out)) hb)
       clear HB
       have HB := n0_
       clear n0_
       (try clear hb)
       (try clear hb2)
       (try clear hk)
       (try clear hi)
       refine hK.out _ _ ⟨((HB.out.cell (World.block_lt_of_cell? w _ hw244_0)).trans hw244_0), ((HB.out.cell (World.block_lt_of_cell? w _ hw244_1)).trans hw244_1)⟩ (fun hHeld => ?_)
       clear hK K
       refine norm_ (a' := ?_) ?_ ?_
       rotate_left
       ·show Act.put _ (some 16) _ = _
        simp only [Act.put, zA, zB, zC, i64_w, i32_w]
        rfl
       refine pure_ (i := 6) (N := some 17) (v := ?_) (a' := ?_) (bA 34 127) rfl rfl (any_of HT_.out (by kernel_rfl)) (fun _ _ _ h => h) (Or.inl ⟨by rfl, ?_⟩) ?_ ?_
       rotate_left
       ·intro w'
        go_simp
        with_reducible rfl
       rotate_left
       ·simp only [Act.put, zA, zB, zC, i64_w, i32_w]
        rfl
       refine pure_ (i := 7) (N := some 18) (v := ?_) (a' := ?_) (bA 34 255) rfl rfl (any_of HT_.out (by kernel_rfl)) (fun _ _ _ h => h) (Or.inl ⟨by rfl, ?_⟩) ?_ ?_
       rotate_left
       ·intro w'
        go_simp
        with_reducible rfl
       rotate_left
       ·simp only [Act.put, zA, zB, zC, i64_w, i32_w]
        rfl
       refine pure_ (i := 8) (N := some 19) (v := undef) (a' := ?_) (bA 34 511) rfl rfl (any_of HT_.out (by kernel_rfl)) (fun _ _ _ h => h) (Or.inr ⟨by rfl, rfl⟩) ?_ ?_
       rotate_left
       ·simp only [Act.put, zA, zB, zC, i64_w, i32_w]
        rfl
       refine pure_ (i := 9) (N := some 20) (v := undef) (a' := ?_) (bA 34 1023) rfl rfl (any_of HT_.out (by kernel_rfl)) (fun _ _ _ h => h) (Or.inr ⟨by rfl, rfl⟩) ?_ ?_
       rotate_left
       ·simp only [Act.put, zA, zB, zC, i64_w, i32_w]
        rfl
       refine pure_ (i := 10) (N := some 21) (v := undef) (a' := ?_) (bA 34 2047) rfl rfl (any_of HT_.out (by kernel_rfl)) (fun _ _ _ h => h) (Or.inr ⟨by rfl, rfl⟩) ?_ ?_
       rotate_left
       ·simp only [Act.put, zA, zB, zC, i64_w, i32_w]
        rfl
       refine pure_ (i := 11) (N := some 22) (v := undef) (a' := ?_) (bA 34 4095) rfl rfl (any_of HT_.out (by kernel_rfl)) (fun _ _ _ h => h) (Or.inr ⟨by rfl, rfl⟩) ?_ ?_
       rotate_left
       ·simp only [Act.put, zA, zB, zC, i64_w, i32_w]
        rfl
       refine pure_ (i := 12) (N := some 23) (v := undef) (a' := ?_) (bA 34 8191) rfl rfl (any_of HT_.out (by kernel_rfl)) (fun _ _ _ h => h) (Or.inr ⟨by rfl, rfl⟩) ?_ ?_
       rotate_left
       ·simp only [Act.put, zA, zB, zC, i64_w, i32_w]
        rfl
       refine pure_ (i := 13) (N := some 24) (v := undef) (a' := ?_) (bA 34 16383) rfl rfl (any_of HT_.out (by kernel_rfl)) (fun _ _ _ h => h) (Or.inr ⟨by rfl, rfl⟩) ?_ ?_
       rotate_left
       ·simp only [Act.put, zA, zB, zC, i64_w, i32_w]
        rfl
       refine pure_ (i := 14) (N := some 25) (v := undef) (a' := ?_) (bA 34 32767) rfl rfl (any_of HT_.out (by kernel_rfl)) (fun _ _ _ h => h) (Or.inr ⟨by rfl, rfl⟩) ?_ ?_
       rotate_left
       ·simp only [Act.put, zA, zB, zC, i64_w, i32_w]
        rfl
       refine pure_ (i := 15) (N := some 26) (v := ?_) (a' := ?_) (bA 34 65535) rfl rfl (any_of HT_.out (by kernel_rfl)) (fun _ _ _ h => h) (Or.inl ⟨by rfl, ?_⟩) ?_ ?_
       rotate_left
       ·intro w'
        go_simp
        with_reducible rfl
       rotate_left
       ·simp only [Act.put, zA, zB, zC, i64_w, i32_w]
        rfl
       refine pure_ (i := 16) (N := some 27) (v := ?_) (a' := ?_) (bA 34 131071) rfl rfl (any_of HT_.out (by kernel_rfl)) (fun _ _ _ h => h) (Or.inl ⟨by rfl, ?_⟩) ?_ ?_
       rotate_left
       ·intro w'
        go_simp
        with_reducible rfl
       rotate_left
       ·simp only [Act.put, zA, zB, zC, i64_w, i32_w]
        rfl
       refine pure_ (i := 17) (N := some 28) (v := undef) (a' := ?_) (bA 34 262143) rfl rfl (any_of HT_.out (by kernel_rfl)) (fun _ _ _ h => h) (Or.inr ⟨by rfl, rfl⟩) ?_ ?_
       rotate_left
       ·simp only [Act.put, zA, zB, zC, i64_w, i32_w]
        rfl
       refine pure_ (i := 18) (N := some 29) (v := undef) (a' := ?_) (bA 34 524287) rfl rfl (any_of HT_.out (by kernel_rfl)) (fun _ _ _ h => h) (Or.inr ⟨by rfl, rfl⟩) ?_ ?_
       rotate_left
       ·simp only [Act.put, zA, zB, zC, i64_w, i32_w]
        rfl
       refine pure_ (i := 19) (N := some 30) (v := undef) (a' := ?_) (bA 34 1048575) rfl rfl (any_of HT_.out (by kernel_rfl)) (fun _ _ _ h => h) (Or.inr ⟨by rfl, rfl⟩) ?_ ?_
       rotate_left
       ·simp only [Act.put, zA, zB, zC, i64_w, i32_w]
        rfl
       refine pure_ (i := 20) (N := some 31) (v := undef) (a' := ?_) (bA 34 2097151) rfl rfl (any_of HT_.out (by kernel_rfl)) (fun _ _ _ h => h) (Or.inr ⟨by rfl, rfl⟩) ?_ ?_
       rotate_left
       ·simp only [Act.put, zA, zB, zC, i64_w, i32_w]
        rfl
       refine pure_ (i := 21) (N := some 32) (v := undef) (a' := ?_) (bA 34 4194303) rfl rfl (any_of HT_.out (by kernel_rfl)) (fun _ _ _ h => h) (Or.inr ⟨by rfl, rfl⟩) ?_ ?_
       rotate_left
       ·simp only [Act.put, zA, zB, zC, i64_w, i32_w]
        rfl
       refine pure_ (i := 22) (N := some 33) (v := undef) (a' := ?_) (bA 34 8388607) rfl rfl (any_of HT_.out (by kernel_rfl)) (fun _ _ _ h => h) (Or.inr ⟨by rfl, rfl⟩) ?_ ?_
       rotate_left
       ·simp only [Act.put, zA, zB, zC, i64_w, i32_w]
        rfl
       refine pure_ (i := 23) (N := some 34) (v := undef) (a' := ?_) (bA 34 16777215) rfl rfl (any_of HT_.out (by kernel_rfl)) (fun _ _ _ h => h) (Or.inr ⟨by rfl, rfl⟩) ?_ ?_
       rotate_left
       ·simp only [Act.put, zA, zB, zC, i64_w, i32_w]
        rfl
       refine pure_ (i := 24) (N := some 35) (v := undef) (a' := ?_) (bA 34 33554431) rfl rfl (any_of HT_.out (by kernel_rfl)) (fun _ _ _ h => h) (Or.inr ⟨by rfl, rfl⟩) ?_ ?_
       rotate_left
       ·simp only [Act.put, zA, zB, zC, i64_w, i32_w]
        rfl
       refine pure_ (i := 25) (N := some 36) (v := undef) (a' := ?_) (bA 34 67108863) rfl rfl (any_of HT_.out (by kernel_rfl)) (fun _ _ _ h => h) (Or.inr ⟨by rfl, rfl⟩) ?_ ?_
       rotate_left
       ·simp only [Act.put, zA, zB, zC, i64_w, i32_w]
        rfl
       refine pure_ (i := 26) (N := some 37) (v := undef) (a' := ?_) (bA 34 134217727) rfl rfl (any_of HT_.out (by kernel_rfl)) (fun _ _ _ h => h) (Or.inr ⟨by rfl, rfl⟩) ?_ ?_
       rotate_left
       ·simp only [Act.put, zA, zB, zC, i64_w, i32_w]
        rfl
       refine pure_ (i := 27) (N := some 38) (v := undef) (a' := ?_) (bA 34 268435455) rfl rfl (any_of HT_.out (by kernel_rfl)) (fun _ _ _ h => h) (Or.inr ⟨by rfl, rfl⟩) ?_ ?_
       rotate_left
       ·simp only [Act.put, zA, zB, zC, i64_w, i32_w]
        rfl
       refine pure_ (i := 28) (N := some 39) (v := undef) (a' := ?_) (bA 34 536870911) rfl rfl (any_of HT_.out (by kernel_rfl)) (fun _ _ _ h => h) (Or.inr ⟨by rfl, rfl⟩) ?_ ?_
       rotate_left
       ·simp only [Act.put, zA, zB, zC, i64_w, i32_w]
        rfl
       refine pure_ (i := 29) (N := some 40) (v := undef) (a' := ?_) (bA 34 1073741823) rfl rfl (any_of HT_.out (by kernel_rfl)) (fun _ _ _ h => h) (Or.inr ⟨by rfl, rfl⟩) ?_ ?_
       rotate_left
       ·simp only [Act.put, zA, zB, zC, i64_w, i32_w]
        rfl
       refine pure_ (i := 30) (N := some 41) (v := undef) (a' := ?_) (bA 34 2147483647) rfl rfl (any_of HT_.out (by kernel_rfl)) (fun _ _ _ h => h) (Or.inr ⟨by rfl, rfl⟩) ?_ ?_
       rotate_left
       ·simp only [Act.put, zA, zB, zC, i64_w, i32_w]
        rfl
       refine pure_ (i := 31) (N := some 42) (v := undef) (a' := ?_) (bA 34 4294967295) rfl rfl (any_of HT_.out (by kernel_rfl)) (fun _ _ _ h => h) (Or.inr ⟨by rfl, rfl⟩) ?_ ?_
       rotate_left
       ·simp only [Act.put, zA, zB, zC, i64_w, i32_w]
        rfl
       refine pure_ (i := 32) (N := some 43) (v := undef) (a' := ?_) (bA 34 8589934591) rfl rfl (any_of HT_.out (by kernel_rfl)) (fun _ _ _ h => h) (Or.inr ⟨by rfl, rfl⟩) ?_ ?_
       rotate_left
       ·simp only [Act.put, zA, zB, zC, i64_w, i32_w]
        rfl
       refine pure_ (i := 33) (N := some 44) (v := ?_) (a' := ?_) (bA 34 17179869183) rfl rfl (any_of HT_.out (by kernel_rfl)) (fun _ _ _ h => h) (Or.inl ⟨by rfl, ?_⟩) ?_ ?_
       rotate_left
       ·intro w'
        go_simp
        with_reducible rfl
       rotate_left
       ·simp only [Act.put, zA, zB, zC, i64_w, i32_w]
        rfl
       refine done_ (done_of HT_.out (by kernel_rfl)) ?_
       try go_wp2
       go_meet
       case rel => exact ⟨_, (true), (by first | rfl | (simp; done) | (simp [*]; done)), H', ⟨by have := HK1.out; first | omega | exact Nat.le_refl _⟩, ⟨by repeat (first | (with_reducible first | exact HB.out | apply bal | apply pbN | apply bd1) | exact HB.out)⟩⟩
     ·rw [if_neg c4] at H
      exact absurd H (by simp)
    case rest =>
     clear HC3
     try clear p2
     try clear q2
     try clear hx2
     try clear c3
     try clear c4
     try clear c6
     try clear c8
     try clear hx244_0
     try clear hx244_1
     try clear hx246_0
     try clear hx246_1
     try clear p244
     try clear p246
     try clear q244
     try clear q246
     obtain ⟨kq, x44_2, rfl, HA, HJ2, HB⟩ := hcut
     cases kq with
     | zero => exact absurd HA.out (by simp [q9_Right.j1])
     | succ kj2 =>
      have H := HA.out
      clear HA
      simp only [q9_Right.j1] at H
      by_cases c21 : x44_2 = true
      ·subst c21
       have H1 : (some false) = some r := by rw [if_pos rfl] at H; exact H
       clear H
       have H := H1
       clear H1
       obtain rfl := Option.some.inj H
       go_wp2
       go_ret
       exact ⟨by first | rfl | (simp [errW_none, errW_some] <;> rfl) | (simp [*, errW_none, errW_some] <;> rfl), by repeat (first | (with_reducible first | exact HB.out | apply bal | apply pbN | apply bd1) | exact HB.out)⟩
      ·replace c21 := Bool.eq_false_iff.mpr c21
       subst c21
       have H1 : (q9_Right.l1 kj2 l0 x3_1 0) = some r := by rw [if_neg (show ¬ (false = true) by decide)] at H; exact H
       clear H
       have H := H1
       clear H1
       have H' := Asd.mk H
       clear H
       go_wp2
       go_loopg [4] kj2 (fun kq v4 w' => ∃ (x4_3 : Int), v4 = .int .i64 x4_3 /\ Asd (q9_Right.l1 kq l0 x3_1 x4_3 = some r) /\ Asd (kq <= kj2) /\ Asd (Below w.heap.size w w'))
       case atStart => exact ⟨(0), (by first | rfl | (simp; done) | (simp [*]; done)), H', ⟨Nat.le_refl _⟩, ⟨by repeat (first | (with_reducible first | exact HB.out | apply bal | apply pbN | apply bd1) | exact HB.out)⟩⟩
       case round =>
        clear H'
        try clear c2
        try clear p2
        try clear q2
        try clear hx2
        try clear c3
        try clear c4
        try clear c6
        try clear c8
        try clear c21
        try clear hx244_0
        try clear hx244_1
        try clear hx246_0
        try clear hx246_1
        try clear p2
        try clear p244
        try clear p246
        try clear q2
        try clear q244
        try clear q246
        obtain ⟨x4_3, rfl, HA, HK3, HB⟩ := hrel
        cases gk with
        | zero => exact absurd HA.out (by simp [q9_Right.l1])
        | succ k3 =>
         have H := HA.out
         clear HA
         simp only [q9_Right.l1] at H
         by_cases c22 : x4_3 < (l0.length : Int)
         ·rw [if_pos c22] at H
          have c22b0 : decide (x4_3 < (l0.length : Int)) = true := decide_eq_true c22
          clear c22
          by_cases c23 : 0 <= x4_3
          ·rw [if_pos c23] at H
           have c23b0 : decide (0 <= x4_3) = true := decide_eq_true c23
           clear c23
           by_cases c24 : 0 <= x3_1
           ·rw [if_pos c24] at H
            have c24b0 : decide (0 <= x3_1) = true := decide_eq_true c24
            clear c24
            by_cases c25 : x3_1 < (l0.length : Int)
            ·rw [if_pos c25] at H
             have c25b0 : decide (x3_1 < (l0.length : Int)) = true := decide_eq_true c25
             clear c25
             replace H := Option.bind_eq_some_iff.mp H
             obtain ⟨t252, A260, H⟩ := H
             replace H : (if t252 = true then (some false) else (q9_Right.l1 k3 l0 x3_1 (wrap64 (x4_3 + 1)))) = some r := H
             have A26 := Asd.mk A260
             clear A260
             by_cases c27 : t252 = true
             ·subst c27
              have H1 : (some false) = some r := by rw [if_pos rfl] at H; exact H
              clear H
              have H := H1
              clear H1
              obtain rfl := Option.some.inj H
              try go_wp2
              have n0_ := Asd.mk (bd1 HB.out)
              clear HB
              have HB := n0_
              clear n0_
              have p250 : 0 <= (x4_3 : Int) := of_decide_eq_true (by first | (with_reducible assumption) | assumption)
              have q250 : x4_3 < (l0.length : Int) := of_decide_eq_true (by first | (with_reducible assumption) | assumption)
              obtain ⟨ad250, e250, hx250_0, hx250_1⟩ := at_T63 HR0.out x4_3 p250 q250
              have hw250_1 := hx250_1
              have hw250_0 := hx250_0
              cases e250
              replace hx250_0 := (HB.out.cell (World.block_lt_of_cell? w _ hx250_0)).trans hx250_0
              replace hx250_1 := (HB.out.cell (World.block_lt_of_cell? w _ hx250_1)).trans hx250_1
              replace p250 := eq_true p250
              replace q250 := eq_true q250
              have p251 : 0 <= (x3_1 : Int) := of_decide_eq_true (by first | (with_reducible assumption) | assumption)
              have q251 : x3_1 < (l0.length : Int) := of_decide_eq_true (by first | (with_reducible assumption) | assumption)
              obtain ⟨ad251, e251, hx251_0, hx251_1⟩ := at_T63 HR0.out x3_1 p251 q251
              have hw251_1 := hx251_1
              have hw251_0 := hx251_0
              obtain rfl : ad250 = ad251 := (by injection e251)
              replace hx251_0 := (HB.out.cell (World.block_lt_of_cell? w _ hx251_0)).trans hx251_0
              replace hx251_1 := (HB.out.cell (World.block_lt_of_cell? w _ hx251_1)).trans hx251_1
              replace p251 := eq_true p251
              replace q251 := eq_true q251
              refine start_ (n := 11) (S := fun w' => w'.cell? (ad250.add ((x4_3).toNat * 2)) = some (.string ((rd_T63 l0 x4_3).f0)) /\ w'.cell? ⟨(ad250.add ((x4_3).toNat * 2)).block, (ad250.add ((x4_3).toNat * 2)).off + 1, none⟩ = some (.string ((rd_T63 l0 x4_3).f1)) /\ w'.cell? (ad250.add ((x3_1).toNat * 2)) = some (.string ((rd_T63 l0 x3_1).f0)) /\ w'.cell? ⟨(ad250.add ((x3_1).toNat * 2)).block, (ad250.add ((x3_1).toNat * 2)).off + 1, none⟩ = some (.string ((rd_T63 l0 x3_1).f1))) (ds := []) (bA 11 0) (by kernel_rfl) rfl rfl ⟨((HB.out.cell (World.block_lt_of_cell? w _ hw250_0)).trans hw250_0), ((HB.out.cell (World.block_lt_of_cell? w _ hw250_1)).trans hw250_1), ((HB.out.cell (World.block_lt_of_cell? w _ hw251_0)).trans hw251_0), ((HB.out.cell (World.block_lt_of_cell? w _ hw251_1)).trans hw251_1)⟩ (fun hHeld => ?_); refine with_tabW q9_Right.tab9 q9_Right.bits9 (fun HT_ HW_ => ?_)
              generalize wr.drew = w28 at HB hx250_0 hx250_1 hx251_0 hx251_1 hHeld ⊢
              refine pure_ (i := 0) (N := some 51) (v := ?_) (a' := ?_) (bA 11 1) rfl rfl (any_of HT_.out (by kernel_rfl)) (fun _ _ _ h => h) (Or.inl ⟨by rfl, ?_⟩) ?_ ?_
              rotate_left
              ·intro w'
               go_simp
               with_reducible rfl
              rotate_left
              ·simp only [Act.put, zA, zB, zC, i64_w, i32_w]
               rfl
              refine pure_ (i := 1) (N := some 52) (v := ?_) (a' := ?_) (bA 11 3) rfl rfl (any_of HT_.out (by kernel_rfl)) (fun _ _ _ h => h) (Or.inl ⟨by rfl, ?_⟩) ?_ ?_
              rotate_left
              ·intro w'
               go_simp
               with_reducible rfl
              rotate_left
              ·simp only [Act.put, zA, zB, zC, i64_w, i32_w]
               rfl
              refine pure_ (i := 2) (N := some 53) (v := ?_) (a' := ?_) (bA 11 7) rfl rfl (any_of HT_.out (by kernel_rfl)) (fun _ _ _ h => h) (Or.inl ⟨by rfl, ?_⟩) ?_ ?_
              rotate_left
              ·intro w'
               go_simp
               with_reducible rfl
              rotate_left
              ·simp only [Act.put, zA, zB, zC, i64_w, i32_w]
               rfl
              refine pure_ (i := 3) (N := some 54) (v := ?_) (a' := ?_) (bA 11 15) rfl rfl (any_of HT_.out (by kernel_rfl)) (fun _ _ _ h => h) (Or.inl ⟨by rfl, ?_⟩) ?_ ?_
              rotate_left
              ·intro w'
               go_simp
               with_reducible rfl
              rotate_left
              ·simp only [Act.put, zA, zB, zC, i64_w, i32_w]
               rfl
              refine pure_ (i := 5) (N := some 56) (v := ?_) (a' := ?_) (bA 11 47) rfl rfl (any_of HT_.out (by kernel_rfl)) (fun _ _ _ h => h) (Or.inl ⟨by rfl, ?_⟩) ?_ ?_
              rotate_left
              ·intro w'
               go_simp
               with_reducible rfl
              rotate_left
              ·simp only [Act.put, zA, zB, zC, i64_w, i32_w]
               rfl
              refine pure_ (i := 6) (N := some 57) (v := ?_) (a' := ?_) (bA 11 111) rfl rfl (any_of HT_.out (by kernel_rfl)) (fun _ _ _ h => h) (Or.inl ⟨by rfl, ?_⟩) ?_ ?_
              rotate_left
              ·intro w'
               go_simp
               with_reducible rfl
              rotate_left
              ·simp only [Act.put, zA, zB, zC, i64_w, i32_w]
               rfl
              refine pure_ (i := 7) (N := some 58) (v := ?_) (a' := ?_) (bA 11 239) rfl rfl (any_of HT_.out (by kernel_rfl)) (fun _ _ _ h => h) (Or.inl ⟨by rfl, ?_⟩) ?_ ?_
              rotate_left
              ·intro w'
               go_simp
               with_reducible rfl
              rotate_left
              ·simp only [Act.put, zA, zB, zC, i64_w, i32_w]
               rfl
              refine pure_ (i := 8) (N := some 59) (v := ?_) (a' := ?_) (bA 11 495) rfl rfl (any_of HT_.out (by kernel_rfl)) (fun _ _ _ h => h) (Or.inl ⟨by rfl, ?_⟩) ?_ ?_
              rotate_left
              ·intro w'
               go_simp
               with_reducible rfl
              rotate_left
              ·simp only [Act.put, zA, zB, zC, i64_w, i32_w]
               rfl
              refine take_ (i := 4) (N := some 55) (v := ?_) (a' := ?_) (bA 11 511) rfl rfl (take_ofW HT_.out HW_.out (by kernel_rfl)) (fun _ _ _ h => h) (Or.inl ⟨by rfl, ?_⟩) hHeld ?_ ?_
              rotate_left
              ·rintro w' ⟨s0, s1, s2, s3⟩
               go_simp
               with_reducible rfl
              rotate_left
              ·simp only [Act.put, zA, zB, zC, i64_w, i32_w]
               rfl
              refine take_ (i := 9) (N := some 60) (v := ?_) (a' := ?_) (bA 11 1023) rfl rfl (take_ofW HT_.out HW_.out (by kernel_rfl)) (fun _ _ _ h => h) (Or.inl ⟨by rfl, ?_⟩) hHeld ?_ ?_
              rotate_left
              ·rintro w' ⟨s0, s1, s2, s3⟩
               go_simp
               with_reducible rfl
              rotate_left
              ·simp only [Act.put, zA, zB, zC, i64_w, i32_w]
               rfl
              refine one_ (i := 10) (N := some 61) (bA 11 2047) rfl rfl (one_of HT_.out (by kernel_rfl)) (by decide) (fun K hK => ?_)
              refine goes_ Tryd.func66 (by kernel_rfl) rfl #[.string ((rd_T63 l0 x4_3).f0), .string ((rd_T63 l0 x3_1).f0)] (by rfl) rfl rfl (by (try simp only [List.map_toArray, List.map_cons, List.map_nil]); first | done | rfl | (simp only [List.length_drop, List.length_take]; rfl)) ?_
              with_reducible refine (q9_above.calls ((rd_T63 l0 x4_3).f0) ((rd_T63 l0 x3_1).f0) true _ A26.out).mono ?_
              rintro e w' ⟨rfl, ⟨nd, rfl⟩⟩
              refine ⟨_, rfl, ?_⟩
              refine hK.out _ _ ⟨((HB.out.cell (World.block_lt_of_cell? w _ hw250_0)).trans hw250_0), ((HB.out.cell (World.block_lt_of_cell? w _ hw250_1)).trans hw250_1), ((HB.out.cell (World.block_lt_of_cell? w _ hw251_0)).trans hw251_0), ((HB.out.cell (World.block_lt_of_cell? w _ hw251_1)).trans hw251_1)⟩ (fun hHeld => ?_)
              clear hK K
              refine norm_ (a' := ?_) ?_ ?_
              rotate_left
              ·show Act.put _ (some 61) _ = _
               simp only [Act.put, zA, zB, zC, i64_w, i32_w]
               rfl
              refine done_ (done_of HT_.out (by kernel_rfl)) ?_
              try go_wp2
              go_ret
              exact ⟨by first | rfl | (simp [errW_none, errW_some] <;> rfl) | (simp [*, errW_none, errW_some] <;> rfl), by repeat (first | (with_reducible first | exact HB.out | apply bal | apply pbN | apply bd1) | exact HB.out)⟩
             ·replace c27 := Bool.eq_false_iff.mpr c27
              subst c27
              have H1 : (q9_Right.l1 k3 l0 x3_1 (wrap64 (x4_3 + 1))) = some r := by rw [if_neg (show ¬ (false = true) by decide)] at H; exact H
              clear H
              have H := H1
              clear H1
              have H' := Asd.mk H
              clear H
              try go_wp2
              have n0_ := Asd.mk (bd1 HB.out)
              clear HB
              have HB := n0_
              clear n0_
              have p250 : 0 <= (x4_3 : Int) := of_decide_eq_true (by first | (with_reducible assumption) | assumption)
              have q250 : x4_3 < (l0.length : Int) := of_decide_eq_true (by first | (with_reducible assumption) | assumption)
              obtain ⟨ad250, e250, hx250_0, hx250_1⟩ := at_T63 HR0.out x4_3 p250 q250
              have hw250_1 := hx250_1
              have hw250_0 := hx250_0
              cases e250
              replace hx250_0 := (HB.out.cell (World.block_lt_of_cell? w _ hx250_0)).trans hx250_0
              replace hx250_1 := (HB.out.cell (World.block_lt_of_cell? w _ hx250_1)).trans hx250_1
              replace p250 := eq_true p250
              replace q250 := eq_true q250
              have p251 : 0 <= (x3_1 : Int) := of_decide_eq_true (by first | (with_reducible assumption) | assumption)
              have q251 : x3_1 < (l0.length : Int) := of_decide_eq_true (by first | (with_reducible assumption) | assumption)
              obtain ⟨ad251, e251, hx251_0, hx251_1⟩ := at_T63 HR0.out x3_1 p251 q251
              have hw251_1 := hx251_1
              have hw251_0 := hx251_0
              obtain rfl : ad250 = ad251 := (by injection e251)
              replace hx251_0 := (HB.out.cell (World.block_lt_of_cell? w _ hx251_0)).trans hx251_0
              replace hx251_1 := (HB.out.cell (World.block_lt_of_cell? w _ hx251_1)).trans hx251_1
              replace p251 := eq_true p251
              replace q251 := eq_true q251
              refine start_ (n := 11) (S := fun w' => w'.cell? (ad250.add ((x4_3).toNat * 2)) = some (.string ((rd_T63 l0 x4_3).f0)) /\ w'.cell? ⟨(ad250.add ((x4_3).toNat * 2)).block, (ad250.add ((x4_3).toNat * 2)).off + 1, none⟩ = some (.string ((rd_T63 l0 x4_3).f1)) /\ w'.cell? (ad250.add ((x3_1).toNat * 2)) = some (.string ((rd_T63 l0 x3_1).f0)) /\ w'.cell? ⟨(ad250.add ((x3_1).toNat * 2)).block, (ad250.add ((x3_1).toNat * 2)).off + 1, none⟩ = some (.string ((rd_T63 l0 x3_1).f1))) (ds := []) (bA 11 0) (by kernel_rfl) rfl rfl ⟨((HB.out.cell (World.block_lt_of_cell? w _ hw250_0)).trans hw250_0), ((HB.out.cell (World.block_lt_of_cell? w _ hw250_1)).trans hw250_1), ((HB.out.cell (World.block_lt_of_cell? w _ hw251_0)).trans hw251_0), ((HB.out.cell (World.block_lt_of_cell? w _ hw251_1)).trans hw251_1)⟩ (fun hHeld => ?_); refine with_tabW q9_Right.tab9 q9_Right.bits9 (fun HT_ HW_ => ?_)
              generalize wr.drew = w29 at HB hx250_0 hx250_1 hx251_0 hx251_1 hHeld ⊢
              refine pure_ (i := 0) (N := some 51) (v := ?_) (a' := ?_) (bA 11 1) rfl rfl (any_of HT_.out (by kernel_rfl)) (fun _ _ _ h => h) (Or.inl ⟨by rfl, ?_⟩) ?_ ?_
              rotate_left
              ·intro w'
               go_simp
               with_reducible rfl
              rotate_left
              ·simp only [Act.put, zA, zB, zC, i64_w, i32_w]
               rfl
              refine pure_ (i := 1) (N := some 52) (v := ?_) (a' := ?_) (bA 11 3) rfl rfl (any_of HT_.out (by kernel_rfl)) (fun _ _ _ h => h) (Or.inl ⟨by rfl, ?_⟩) ?_ ?_
              rotate_left
              ·intro w'
               go_simp
               with_reducible rfl
              rotate_left
              ·simp only [Act.put, zA, zB, zC, i64_w, i32_w]
               rfl
              refine pure_ (i := 2) (N := some 53) (v := ?_) (a' := ?_) (bA 11 7) rfl rfl (any_of HT_.out (by kernel_rfl)) (fun _ _ _ h => h) (Or.inl ⟨by rfl, ?_⟩) ?_ ?_
              rotate_left
              ·intro w'
               go_simp
               with_reducible rfl
              rotate_left
              ·simp only [Act.put, zA, zB, zC, i64_w, i32_w]
               rfl
              refine pure_ (i := 3) (N := some 54) (v := ?_) (a' := ?_) (bA 11 15) rfl rfl (any_of HT_.out (by kernel_rfl)) (fun _ _ _ h => h) (Or.inl ⟨by rfl, ?_⟩) ?_ ?_
              rotate_left
              ·intro w'
               go_simp
               with_reducible rfl
              rotate_left
              ·simp only [Act.put, zA, zB, zC, i64_w, i32_w]
               rfl
              refine pure_ (i := 5) (N := some 56) (v := ?_) (a' := ?_) (bA 11 47) rfl rfl (any_of HT_.out (by kernel_rfl)) (fun _ _ _ h => h) (Or.inl ⟨by rfl, ?_⟩) ?_ ?_
              rotate_left
              ·intro w'
               go_simp
               with_reducible rfl
              rotate_left
              ·simp only [Act.put, zA, zB, zC, i64_w, i32_w]
               rfl
              refine pure_ (i := 6) (N := some 57) (v := ?_) (a' := ?_) (bA 11 111) rfl rfl (any_of HT_.out (by kernel_rfl)) (fun _ _ _ h => h) (Or.inl ⟨by rfl, ?_⟩) ?_ ?_
              rotate_left
              ·intro w'
               go_simp
               with_reducible rfl
              rotate_left
              ·simp only [Act.put, zA, zB, zC, i64_w, i32_w]
               rfl
              refine pure_ (i := 7) (N := some 58) (v := ?_) (a' := ?_) (bA 11 239) rfl rfl (any_of HT_.out (by kernel_rfl)) (fun _ _ _ h => h) (Or.inl ⟨by rfl, ?_⟩) ?_ ?_
              rotate_left
              ·intro w'
               go_simp
               with_reducible rfl
              rotate_left
              ·simp only [Act.put, zA, zB, zC, i64_w, i32_w]
               rfl
              refine pure_ (i := 8) (N := some 59) (v := ?_) (a' := ?_) (bA 11 495) rfl rfl (any_of HT_.out (by kernel_rfl)) (fun _ _ _ h => h) (Or.inl ⟨by rfl, ?_⟩) ?_ ?_
              rotate_left
              ·intro w'
               go_simp
               with_reducible rfl
              rotate_left
              ·simp only [Act.put, zA, zB, zC, i64_w, i32_w]
               rfl
              refine take_ (i := 4) (N := some 55) (v := ?_) (a' := ?_) (bA 11 511) rfl rfl (take_ofW HT_.out HW_.out (by kernel_rfl)) (fun _ _ _ h => h) (Or.inl ⟨by rfl, ?_⟩) hHeld ?_ ?_
              rotate_left
              ·rintro w' ⟨s0, s1, s2, s3⟩
               go_simp
               with_reducible rfl
              rotate_left
              ·simp only [Act.put, zA, zB, zC, i64_w, i32_w]
               rfl
              refine take_ (i := 9) (N := some 60) (v := ?_) (a' := ?_) (bA 11 1023) rfl rfl (take_ofW HT_.out HW_.out (by kernel_rfl)) (fun _ _ _ h => h) (Or.inl ⟨by rfl, ?_⟩) hHeld ?_ ?_
              rotate_left
              ·rintro w' ⟨s0, s1, s2, s3⟩
               go_simp
               with_reducible rfl
              rotate_left
              ·simp only [Act.put, zA, zB, zC, i64_w, i32_w]
               rfl
              refine one_ (i := 10) (N := some 61) (bA 11 2047) rfl rfl (one_of HT_.out (by kernel_rfl)) (by decide) (fun K hK => ?_)
              refine goes_ Tryd.func66 (by kernel_rfl) rfl #[.string ((rd_T63 l0 x4_3).f0), .string ((rd_T63 l0 x3_1).f0)] (by rfl) rfl rfl (by (try simp only [List.map_toArray, List.map_cons, List.map_nil]); first | done | rfl | (simp only [List.length_drop, List.length_take]; rfl)) ?_
              with_reducible refine (q9_above.calls ((rd_T63 l0 x4_3).f0) ((rd_T63 l0 x3_1).f0) false _ A26.out).mono ?_
              rintro e w' ⟨rfl, ⟨nd, rfl⟩⟩
              refine ⟨_, rfl, ?_⟩
              refine hK.out _ _ ⟨((HB.out.cell (World.block_lt_of_cell? w _ hw250_0)).trans hw250_0), ((HB.out.cell (World.block_lt_of_cell? w _ hw250_1)).trans hw250_1), ((HB.out.cell (World.block_lt_of_cell? w _ hw251_0)).trans hw251_0), ((HB.out.cell (World.block_lt_of_cell? w _ hw251_1)).trans hw251_1)⟩ (fun hHeld => ?_)
              clear hK K
              refine norm_ (a' := ?_) ?_ ?_
              rotate_left
              ·show Act.put _ (some 61) _ = _
               simp only [Act.put, zA, zB, zC, i64_w, i32_w]
               rfl
              refine done_ (done_of HT_.out (by kernel_rfl)) ?_
              try go_wp2
              go_roundg k3
              case measure => have := HK1.out; have := HJ2.out; have := HK3.out; omega
              case rel => exact ⟨(wrap64 (x4_3 + 1)), (by first | rfl | (simp; done) | (simp [*]; done)), H', ⟨by have := HK1.out; have := HJ2.out; have := HK3.out; omega⟩, ⟨by repeat (first | (with_reducible first | exact HB.out | apply bal | apply pbN | apply bd1) | exact HB.out)⟩⟩
            ·rw [if_neg c25] at H
             exact absurd H (by simp)
           ·rw [if_neg c24] at H
            exact absurd H (by simp)
          ·rw [if_neg c23] at H
           exact absurd H (by simp)
         ·rw [if_neg c22] at H
          have c22b0 : decide (x4_3 < (l0.length : Int)) = false := decide_eq_false c22
          clear c22
          have H' := Asd.mk H
          clear H
          go_wp2
          go_roundg k3
          case measure => have := HK1.out; have := HJ2.out; have := HK3.out; omega
          case rel => exact ⟨(wrap64 (x3_1 + 1)), (by first | rfl | (simp; done) | (simp [*]; done)), H', ⟨by have := HK1.out; have := HJ2.out; have := HK3.out; omega⟩, ⟨by repeat (first | (with_reducible first | exact HB.out | apply bal | apply pbN | apply bd1) | exact HB.out)⟩⟩
   ·rw [if_neg c2] at H
    have c2b0 : decide (x3_1 < (l0.length : Int)) = false := decide_eq_false c2
    clear c2
    obtain rfl := Option.some.inj H
    go_wp2
    go_ret
    exact ⟨by first | rfl | (simp [errW_none, errW_some] <;> rfl) | (simp [*, errW_none, errW_some] <;> rfl), by repeat (first | (with_reducible first | exact HB.out | apply bal | apply pbN | apply bd1) | exact HB.out)⟩
end Go.Proofs.YtmmionafcmnfoaaDoor.Print
