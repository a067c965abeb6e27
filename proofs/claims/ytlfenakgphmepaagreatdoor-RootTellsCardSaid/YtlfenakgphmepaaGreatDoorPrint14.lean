/- Functions of the program as plain functions, and proofs that the program's calls tell what these tell. Written by a program. -/
import Derived.Test.YtlfenakgphmepaaGreatDoorPrint0
import Derived.Test.YtlfenakgphmepaaGreatDoorPrint9
import Derived.Test.YtlfenakgphmepaaGreatDoorPrint11
import Derived.Test.YtlfenakgphmepaaGreatDoorPrint13
namespace Go.Proofs.YtlfenakgphmepaaGreatDoor.Print
open Go.RowKit YtlfenakgphmepaaGreatDoorW.PrintWords YtlfenakgphmepaaGreatDoorW.PrintLast YtlfenakgphmepaaGreatDoorW.PrintMore YtlfenakgphmepaaGreatDoor.Conv
attribute [local go_sem] max2_int min2_int max_two min_two max_three min_three max_four min_four
set_option linter.unusedVariables false
set_option linter.unusedSimpArgs false
mutual
def sacristyref10_Right.j0 : Nat -> Bool -> Int -> List ByteArray -> List (S39) -> Option (Bool)
 | 0, _, _, _, _ => none
 | k + 1, x24, x184000, x184001, x184002 => if x24 = true then (some false) else (sacristyref10_Right.l0 k 0 x184000 x184001 x184002)
def sacristyref10_Right.l0 : Nat -> Int -> Int -> List ByteArray -> List (S39) -> Option (Bool)
 | 0, _, _, _, _ => none
 | k + 1, x3, x184000, x184001, x184002 => if x3 < (x184002.length : Int) then (if 0 <= x3 then ((sacristyref10_Named.f k ((qT x184002 x3).f0)).bind fun t187 => (if t187 = true then (if x3 > 0 then (if 0 <= (wrap64 (x3 - 1)) then (if (wrap64 (x3 - 1)) < (x184002.length : Int) then (if ((Op.bytesLess (((qT x184002 (wrap64 (x3 - 1))).f0).toList) (((qT x184002 x3).f0).toList)) = true) then ((sacristyref10_packs.f k ((qT x184002 x3).f4)).bind fun t189 => (if t189 = true then ((q9_Right.f k ((qT x184002 x3).f3)).bind fun t190 => (sacristyref10_Right.j2 k x3 (!t190) x184000 x184001 x184002 ((qT x184002 x3).f0) ((qT x184002 x3).f1) ((qT x184002 x3).f2) ((qT x184002 x3).f3) ((qT x184002 x3).f4))) else (sacristyref10_Right.j2 k x3 true x184000 x184001 x184002 ((qT x184002 x3).f0) ((qT x184002 x3).f1) ((qT x184002 x3).f2) ((qT x184002 x3).f3) ((qT x184002 x3).f4)))) else (sacristyref10_Right.j2 k x3 true x184000 x184001 x184002 ((qT x184002 x3).f0) ((qT x184002 x3).f1) ((qT x184002 x3).f2) ((qT x184002 x3).f3) ((qT x184002 x3).f4))) else (none)) else (none)) else ((sacristyref10_packs.f k ((qT x184002 x3).f4)).bind fun t191 => (if t191 = true then ((q9_Right.f k ((qT x184002 x3).f3)).bind fun t192 => (sacristyref10_Right.j2 k x3 (!t192) x184000 x184001 x184002 ((qT x184002 x3).f0) ((qT x184002 x3).f1) ((qT x184002 x3).f2) ((qT x184002 x3).f3) ((qT x184002 x3).f4))) else (sacristyref10_Right.j2 k x3 true x184000 x184001 x184002 ((qT x184002 x3).f0) ((qT x184002 x3).f1) ((qT x184002 x3).f2) ((qT x184002 x3).f3) ((qT x184002 x3).f4))))) else (sacristyref10_Right.j2 k x3 true x184000 x184001 x184002 ((qT x184002 x3).f0) ((qT x184002 x3).f1) ((qT x184002 x3).f2) ((qT x184002 x3).f3) ((qT x184002 x3).f4)))) else (none)) else (some true)
def sacristyref10_Right.j2 : Nat -> Int -> Bool -> Int -> List ByteArray -> List (S39) -> ByteArray -> Bool -> ByteArray -> List (S83) -> List ByteArray -> Option (Bool)
 | 0, _, _, _, _, _, _, _, _, _, _ => none
 | k + 1, x3, x68, x184000, x184001, x184002, x187000, x187001, x187002, x187003, x187004 => if x68 = true then (some false) else ((q9_Named.f k x187002).bind fun t193 => (if t193 = true then (if 0 < (x187002.size : Int) then (if (bt x187002 0) = 104 then (sacristyref10_Right.l0 k (wrap64 (x3 + 1)) x184000 x184001 x184002) else (some false)) else (none)) else (some false)))
end
def sacristyref10_Right.f (k : Nat) (a0_0 : Int) (l0_1 : List ByteArray) (l0_2 : List (S39)) : Option (Bool) := if a0_0 < 0 then (sacristyref10_Right.j0 k true a0_0 l0_1 l0_2) else (if a0_0 > 1099511627776 then (sacristyref10_Right.j0 k true a0_0 l0_1 l0_2) else ((sacristyref10_packs.f k l0_1).bind fun t184 => (if t184 = true then (sacristyref10_Right.j0 k (decide ((l0_2.length : Int) > 16)) a0_0 l0_1 l0_2) else (sacristyref10_Right.j0 k true a0_0 l0_1 l0_2))))
def sacristyref10_Right.T7 : Bool × List (List Nat × List Nat) := (true, [([], []), ([0], [0]), ([1], [1]), ([2], [2]), ([3, 2], [3]), ([4], [4]), ([5, 4], [4, 5]), ([6, 4, 4], [4, 6]), ([7], [7]), ([8, 7], [7, 8]), ([7], [7]), ([10, 7], [7, 10]), ([9, 11, 7], [7, 9, 11]), ([12, 7], [7, 12]), ([13, 7], [7, 13]), ([7], [7]), ([15, 7], [7, 15]), ([14, 16, 7], [7, 14, 16]), ([7, 17, 4], [4, 7, 17]), ([4, 18], [4, 18]), ([19, 7], [19]), ([20], [20]), ([21, 20], [20, 21]), ([22, 20, 20], [20, 22]), ([23, 20], [20, 23]), ([20, 24], [20, 24]), ([25, 23], [25]), ([26], [26]), ([27, 26], [26, 27]), ([28, 26, 26], [26, 28]), ([29, 26], [26, 29]), ([26, 30], [26, 30])])
def sacristyref10_Right.B7 : List Nat := [0, 1, 3, 7, 15, 31, 63, 127, 255, 511, 255, 1279, 4095, 8191, 16383, 255, 33023, 131071, 262143, 524287, 1048575, 2097151, 4194303, 8388607, 16777215, 33554431, 67108863, 134217727, 268435455, 536870911, 1073741823, 2147483647]
theorem sacristyref10_Right.tab7 : rtab .any (opsOf Tryz.f12 7) = sacristyref10_Right.T7 := by kernel_rfl
theorem sacristyref10_Right.bits7 : waitsOk sacristyref10_Right.T7.2 sacristyref10_Right.B7 = true := by kernel_rfl
set_option maxHeartbeats 8000000 in
set_option maxRecDepth 100000 in
theorem sacristyref10_Right.calls (k : Nat) (a0_0 : Int) (A0_1 : Option Addr) (c0_1 : Nat) (l0_1 : List ByteArray) (A0_2 : Option Addr) (c0_2 : Nat) (l0_2 : List (S39)) (r : Bool) (w : World) (hr0_1 : Kd.C Kd.string w A0_1 l0_1.length l0_1) (hc0_1 : l0_1.length <= c0_1) (hr0_2 : Kd.C k39 w A0_2 l0_2.length l0_2) (hc0_2 : l0_2.length <= c0_2) (h : sacristyref10_Right.f k a0_0 l0_1 l0_2 = some r) :
  Calls Tryz.prog 12 #[.agg #[.int .i64 a0_0, .slice A0_1 l0_1.length c0_1, .slice A0_2 l0_2.length c0_2]] w fun e w' => e = .returned (.bool r) /\ Below w.heap.size w w' := by
 have hu25 := Tryz.underlying25
 have hu39 := Tryz.underlying39
 have HR0_1 := am hr0_1
 have HC0_1 := am hc0_1
 clear hr0_1 hc0_1
 have HR0_2 := am hr0_2
 have HC0_2 := am hc0_2
 clear hr0_2 hc0_2
 have HB := am (Below.refl w.heap.size w)
 have H : (if a0_0 < 0 then (sacristyref10_Right.j0 k true a0_0 l0_1 l0_2) else (if a0_0 > 1099511627776 then (sacristyref10_Right.j0 k true a0_0 l0_1 l0_2) else ((sacristyref10_packs.f k l0_1).bind fun t184 => (if t184 = true then (sacristyref10_Right.j0 k (decide ((l0_2.length : Int) > 16)) a0_0 l0_1 l0_2) else (sacristyref10_Right.j0 k true a0_0 l0_1 l0_2))))) = some r := h
 clear h
 have HC2 := am H
 clear H
 go_enter Tryz.func12, Tryz.ntmps12
 go_upto_region 1 with (first | ((with_reducible refine gate_dst (N := 1) rfl ?_); (try (refine gate_guard (by rfl) ?_; dsimp only)); refine box_event ?hg (N := 1) ?hd (cs := #[.int .i64 a0_0, .slice A0_1 l0_1.length c0_1, .slice A0_2 l0_2.length c0_2]) (t := 25) ?hr ?_; (case hd => rfl); (case hg => rfl); (case hr => first | (go_simp; done) | (go_simp; rfl)); intro gb183 hg w3 hbox hb; have n0_ := am (qW (bz HB.out) hb); have n1_ := am (hbox); have n2_ := am ((by rw [hg]; exact (qZ (bz HB.out)) : w.heap.size <= gb183)); have n3_ := am ((by rw [hg]; exact (qZ (bz HB.out)) : w.heap.size <= gb183)); clear HB; have HB := n0_; have BK183 := n1_; have GW183 := n2_; have GE183 := n3_; clear n0_ n1_ n2_ n3_; clear hb hbox hg))
 (try simp only [Act.put, zA, zB, zC])
 go_cut [24] (fun v24 wc => ∃ (kq : Nat) (x24_1 : Bool), v24 = .bool x24_1 /\ Asd (sacristyref10_Right.j0 kq x24_1 a0_0 l0_1 l0_2 = some r) /\ Asd (kq <= k) /\ Asd (wc.heap[gb183]? = some (.cells #[.int .i64 a0_0, (.slice A0_1 l0_1.length c0_1), (.slice A0_2 l0_2.length c0_2)] 25 (0, 0))) /\ Asd (Below w.heap.size w wc))
 case first =>
  have H := HC2.out
  clear HC2
  by_cases c4 : a0_0 < 0
  ·rw [if_pos c4] at H
   have c4b0 : decide (a0_0 < 0) = true := dt c4
   clear c4
   (first | rw [c4b0] | (simp only [i64_w, i32_w]; rw [c4b0]) | skip)
   have H' := am H
   clear H
   have hcz5_0 : w3.cell? ⟨gb183, 0, none⟩ = some (.int .i64 a0_0) := bc BK183.out 0
   have hcz5_1 : w3.cell? ⟨gb183, 1, none⟩ = some (.slice A0_1 l0_1.length c0_1) := bc BK183.out 1
   have hcz5_2 : w3.cell? ⟨gb183, 2, none⟩ = some (.slice A0_2 l0_2.length c0_2) := bc BK183.out 2
   have hfz5_0 := qf BK183.out 0
   have hfz5_1 := qf BK183.out 1
   have hfz5_2 := qf BK183.out 2
   go_wp2
   go_meet
   case rel => exact ⟨_, (true), (ez), H', ⟨by first | omega | exact Nat.le_refl _⟩, ⟨kz BK183.out⟩, ⟨bs1 HB.out GE183.out⟩⟩
  ·rw [if_neg c4] at H
   have c4b0 : decide (a0_0 < 0) = false := df c4
   clear c4
   (first | rw [c4b0] | (simp only [i64_w, i32_w]; rw [c4b0]) | skip)
   by_cases c6 : a0_0 > 1099511627776
   ·rw [if_pos c6] at H
    have c6b0 : decide (1099511627776 < a0_0) = true := dt c6
    clear c6
    have H' := am H
    clear H
    have hcz7_0 : w3.cell? ⟨gb183, 0, none⟩ = some (.int .i64 a0_0) := bc BK183.out 0
    have hcz7_1 : w3.cell? ⟨gb183, 1, none⟩ = some (.slice A0_1 l0_1.length c0_1) := bc BK183.out 1
    have hcz7_2 : w3.cell? ⟨gb183, 2, none⟩ = some (.slice A0_2 l0_2.length c0_2) := bc BK183.out 2
    have hfz7_0 := qf BK183.out 0
    have hfz7_1 := qf BK183.out 1
    have hfz7_2 := qf BK183.out 2
    go_wp2
    go_meet
    case rel => exact ⟨_, (true), (ez), H', ⟨by first | omega | exact Nat.le_refl _⟩, ⟨kz BK183.out⟩, ⟨bs1 HB.out GE183.out⟩⟩
   ·rw [if_neg c6] at H
    have c6b0 : decide (1099511627776 < a0_0) = false := df c6
    clear c6
    replace H := Option.bind_eq_some_iff.mp H
    obtain ⟨t184, A80, H⟩ := H
    replace H : (if t184 = true then (sacristyref10_Right.j0 k (decide ((l0_2.length : Int) > 16)) a0_0 l0_1 l0_2) else (sacristyref10_Right.j0 k true a0_0 l0_1 l0_2)) = some r := H
    have A8 := am A80
    by_cases c9 : t184 = true
    ·subst c9
     have H1 : (sacristyref10_Right.j0 k (decide ((l0_2.length : Int) > 16)) a0_0 l0_1 l0_2) = some r := by rw [if_pos rfl] at H; exact H
     clear H
     have H := H1
     clear H1
     have H' := am H
     clear H
     have hcz10_0 : w3.cell? ⟨gb183, 0, none⟩ = some (.int .i64 a0_0) := bc BK183.out 0
     have hcz10_1 : w3.cell? ⟨gb183, 1, none⟩ = some (.slice A0_1 l0_1.length c0_1) := bc BK183.out 1
     have hcz10_2 : w3.cell? ⟨gb183, 2, none⟩ = some (.slice A0_2 l0_2.length c0_2) := bc BK183.out 2
     have hfz10_0 := qf BK183.out 0
     have hfz10_1 := qf BK183.out 1
     have hfz10_2 := qf BK183.out 2
     go_wp2_with (first | (go_at_call 42; (with_reducible refine (sacristyref10_packs.calls k _ _ l0_1 true _ ?side1 ?side2 A8.out).mono ?_); (case side1 => repeat (first | exact (Kd.C_below HR0_1.out HB.out) | (with_reducible refine Kd.C_alloc ?_ _) | (with_reducible refine Kd.C_drewN ?_ _) | (with_reducible refine Kd.C_drew ?_))); (case side2 => exact HC0_1.out); rintro e w' ⟨rfl, ⟨nd, rfl⟩⟩))
     go_meet
     case rel => exact ⟨_, (decide ((l0_2.length : Int) > 16)), (ez), H', ⟨by first | omega | exact Nat.le_refl _⟩, ⟨kz BK183.out⟩, ⟨bs1 HB.out GE183.out⟩⟩
    ·replace c9 := Bool.eq_false_iff.mpr c9
     subst c9
     have H1 : (sacristyref10_Right.j0 k true a0_0 l0_1 l0_2) = some r := by rw [if_neg (show ¬ (false = true) by decide)] at H; exact H
     clear H
     have H := H1
     clear H1
     have H' := am H
     clear H
     have hcz11_0 : w3.cell? ⟨gb183, 0, none⟩ = some (.int .i64 a0_0) := bc BK183.out 0
     have hcz11_1 : w3.cell? ⟨gb183, 1, none⟩ = some (.slice A0_1 l0_1.length c0_1) := bc BK183.out 1
     have hcz11_2 : w3.cell? ⟨gb183, 2, none⟩ = some (.slice A0_2 l0_2.length c0_2) := bc BK183.out 2
     have hfz11_0 := qf BK183.out 0
     have hfz11_1 := qf BK183.out 1
     have hfz11_2 := qf BK183.out 2
     go_wp2_with (first | (go_at_call 42; (with_reducible refine (sacristyref10_packs.calls k _ _ l0_1 false _ ?side1 ?side2 A8.out).mono ?_); (case side1 => repeat (first | exact (Kd.C_below HR0_1.out HB.out) | (with_reducible refine Kd.C_alloc ?_ _) | (with_reducible refine Kd.C_drewN ?_ _) | (with_reducible refine Kd.C_drew ?_))); (case side2 => exact HC0_1.out); rintro e w' ⟨rfl, ⟨nd, rfl⟩⟩))
     go_meet
     case rel => exact ⟨_, (true), (ez), H', ⟨by first | omega | exact Nat.le_refl _⟩, ⟨kz BK183.out⟩, ⟨bs1 HB.out GE183.out⟩⟩
 case rest =>
  clear HC2
  obtain ⟨kq, x24_1, rfl, HA, HJ1, BK183, HB⟩ := hcut
  cases kq with
  | zero => exact absurd HA.out (by simp [sacristyref10_Right.j0])
  | succ kj1 =>
   have H := HA.out
   clear HA
   simp only [sacristyref10_Right.j0] at H
   by_cases c12 : x24_1 = true
   ·subst c12
    have H1 : (some false) = some r := by rw [if_pos rfl] at H; exact H
    clear H
    have H := H1
    clear H1
    obtain rfl := Option.some.inj H
    go_wp2
    go_ret
    exact ⟨ey, bs1 HB.out GE183.out⟩
   ·replace c12 := Bool.eq_false_iff.mpr c12
    subst c12
    have H1 : (sacristyref10_Right.l0 kj1 0 a0_0 l0_1 l0_2) = some r := by rw [if_neg (show ¬ (false = true) by decide)] at H; exact H
    clear H
    have H := H1
    clear H1
    have H' := am H
    clear H
    go_wp2
    go_loopg [3] kj1 (fun kq v3 w' => ∃ (x3_2 : Int), v3 = .int .i64 x3_2 /\ Asd (sacristyref10_Right.l0 kq x3_2 a0_0 l0_1 l0_2 = some r) /\ Asd (kq <= kj1) /\ Asd (w'.heap[gb183]? = some (.cells #[.int .i64 a0_0, (.slice A0_1 l0_1.length c0_1), (.slice A0_2 l0_2.length c0_2)] 25 (0, 0))) /\ Asd (Below w.heap.size w w'))
    case atStart => exact ⟨(0), (ez), H', ⟨Nat.le_refl _⟩, ⟨kz BK183.out⟩, ⟨bs1 HB.out GE183.out⟩⟩
    case round =>
     clear H'
     obtain ⟨x3_2, rfl, HA, HK2, BK183, HB⟩ := hrel
     cases gk with
     | zero => exact absurd HA.out (by simp [sacristyref10_Right.l0])
     | succ k2 =>
      have H := HA.out
      clear HA
      simp only [sacristyref10_Right.l0] at H
      by_cases c13 : x3_2 < (l0_2.length : Int)
      ·rw [if_pos c13] at H
       have c13b0 : decide (x3_2 < (l0_2.length : Int)) = true := dt c13
       clear c13
       by_cases c14 : 0 <= x3_2
       ·rw [if_pos c14] at H
        have c14b0 : decide (0 <= x3_2) = true := dt c14
        clear c14
        have HC15 := am H
        clear H
        have hcz16_0 : wr.cell? ⟨gb183, 0, none⟩ = some (.int .i64 a0_0) := bc BK183.out 0
        have hcz16_1 : wr.cell? ⟨gb183, 1, none⟩ = some (.slice A0_1 l0_1.length c0_1) := bc BK183.out 1
        have hcz16_2 : wr.cell? ⟨gb183, 2, none⟩ = some (.slice A0_2 l0_2.length c0_2) := bc BK183.out 2
        have hfz16_0 := qf BK183.out 0
        have hfz16_1 := qf BK183.out 1
        have hfz16_2 := qf BK183.out 2
        have p185 : 0 <= (x3_2 : Int) := dz
        have q185 : x3_2 < (l0_2.length : Int) := dz
        obtain ⟨ad185, A185_3, c185_3, A185_4, c185_4, e185, hx185_0, hx185_1, hx185_2, hx185_3, hx185_4, hl185_3, hi185_3, hl185_4, hi185_4⟩ := at_T39 HR0_2.out x3_2 p185 q185
        cases e185
        replace hx185_0 := hZc HB.out hx185_0
        replace hx185_1 := hZc HB.out hx185_1
        replace hx185_2 := hZc HB.out hx185_2
        replace hx185_3 := hZc HB.out hx185_3
        replace hx185_4 := hZc HB.out hx185_4
        have HR185_3 := am hi185_3
        have HC185_3 := am hl185_3
        clear hi185_3 hl185_3
        have HR185_4 := am hi185_4
        have HC185_4 := am hl185_4
        clear hi185_4 hl185_4
        replace p185 := eq_true p185
        replace q185 := eq_true q185
        go_upto_region 7 with (first | ((with_reducible refine gate_dst (N := 4) rfl ?_); (try (refine gate_guard (by rfl) ?_; dsimp only)); refine box_event ?hg (N := 4) ?hd (cs := #[.string (⟨#[]⟩ : ByteArray), .bool false, .string (⟨#[]⟩ : ByteArray), .slice none 0 0, .slice none 0 0]) (t := 39) ?hr ?_; (case hd => rfl); (case hg => rfl); (case hr => first | (go_simp; done) | (go_simp; rfl)); intro gb186 hg w17 hbox hb; have n0_ := am (blk_below (g := gb183) (o := .cells #[.int .i64 a0_0, .slice A0_1 l0_1.length c0_1, .slice (some ad185) l0_2.length c0_2] 25 (0, 0)) (kz BK183.out) hb); have n1_ := am (qW (bs1 HB.out GE183.out) hb); have n2_ := am (hbox); have n3_ := am ((by rw [hg]; exact (qZ (bs1 HB.out GE183.out)) : w.heap.size <= gb186)); have n4_ := am ((by rw [hg]; exact (qZ (bs1 HB.out GE183.out)) : w.heap.size <= gb186)); have n5_ := am ((by rw [hg]; exact Nat.ne_of_lt (blk_lt (g := gb183) (o := .cells #[.int .i64 a0_0, .slice A0_1 l0_1.length c0_1, .slice (some ad185) l0_2.length c0_2] 25 (0, 0)) (kz BK183.out)) : gb183 ≠ gb186)); have n6_ := am ((by rw [hg]; exact Nat.ne_of_gt (blk_lt (g := gb183) (o := .cells #[.int .i64 a0_0, .slice A0_1 l0_1.length c0_1, .slice (some ad185) l0_2.length c0_2] 25 (0, 0)) (kz BK183.out)) : gb186 ≠ gb183)); clear BK183; clear HB; have BK183 := n0_; have HB := n1_; have BK186 := n2_; have GW186 := n3_; have GE186 := n4_; have NB183_186 := n5_; have NB186_183 := n6_; clear n0_ n1_ n2_ n3_ n4_ n5_ n6_; clear hb hbox hg; have hnb18 := NB186_183.out; have hnc18 := NB183_186.out; have hcz19_0 : w17.cell? ⟨gb186, 0, none⟩ = some (.string (⟨#[]⟩ : ByteArray)) := bc BK186.out 0; have hcz19_1 : w17.cell? ⟨gb186, 1, none⟩ = some (.bool false) := bc BK186.out 1; have hcz19_2 : w17.cell? ⟨gb186, 2, none⟩ = some (.string (⟨#[]⟩ : ByteArray)) := bc BK186.out 2; have hcz19_3 : w17.cell? ⟨gb186, 3, none⟩ = some (.slice none 0 0) := bc BK186.out 3; have hcz19_4 : w17.cell? ⟨gb186, 4, none⟩ = some (.slice none 0 0) := bc BK186.out 4; have hfz19_0 := qf BK186.out 0; have hfz19_1 := qf BK186.out 1; have hfz19_2 := qf BK186.out 2; have hfz19_3 := qf BK186.out 3; have hfz19_4 := qf BK186.out 4))
        (try simp only [Act.put, zA, zB, zC])
        go_cut [68] (fun v68 wc => ∃ (kq : Nat) (x68_14 : Bool), v68 = .bool x68_14 /\ Asd (sacristyref10_Right.j2 kq x3_2 x68_14 a0_0 l0_1 l0_2 ((qT l0_2 x3_2).f0) ((qT l0_2 x3_2).f1) ((qT l0_2 x3_2).f2) ((qT l0_2 x3_2).f3) ((qT l0_2 x3_2).f4) = some r) /\ Asd (kq <= k2) /\ Asd (wc.heap[gb183]? = some (.cells #[.int .i64 a0_0, (.slice A0_1 l0_1.length c0_1), (.slice (some ad185) l0_2.length c0_2)] 25 (0, 0))) /\ Asd (wc.heap[gb186]? = some (.cells #[.string ((qT l0_2 x3_2).f0), .bool ((qT l0_2 x3_2).f1), .string ((qT l0_2 x3_2).f2), (.slice A185_3 ((qT l0_2 x3_2).f3).length c185_3), (.slice A185_4 ((qT l0_2 x3_2).f4).length c185_4)] 39 (0, 0))) /\ Asd (Below w.heap.size w wc))
        case first =>
         have H := HC15.out
         clear HC15
         replace H := Option.bind_eq_some_iff.mp H
         obtain ⟨t187, A200, H⟩ := H
         replace H : (if t187 = true then (if x3_2 > 0 then (if 0 <= (wrap64 (x3_2 - 1)) then (if (wrap64 (x3_2 - 1)) < (l0_2.length : Int) then (if ((Op.bytesLess (((qT l0_2 (wrap64 (x3_2 - 1))).f0).toList) (((qT l0_2 x3_2).f0).toList)) = true) then ((sacristyref10_packs.f k2 ((qT l0_2 x3_2).f4)).bind fun t189 => (if t189 = true then ((q9_Right.f k2 ((qT l0_2 x3_2).f3)).bind fun t190 => (sacristyref10_Right.j2 k2 x3_2 (!t190) a0_0 l0_1 l0_2 ((qT l0_2 x3_2).f0) ((qT l0_2 x3_2).f1) ((qT l0_2 x3_2).f2) ((qT l0_2 x3_2).f3) ((qT l0_2 x3_2).f4))) else (sacristyref10_Right.j2 k2 x3_2 true a0_0 l0_1 l0_2 ((qT l0_2 x3_2).f0) ((qT l0_2 x3_2).f1) ((qT l0_2 x3_2).f2) ((qT l0_2 x3_2).f3) ((qT l0_2 x3_2).f4)))) else (sacristyref10_Right.j2 k2 x3_2 true a0_0 l0_1 l0_2 ((qT l0_2 x3_2).f0) ((qT l0_2 x3_2).f1) ((qT l0_2 x3_2).f2) ((qT l0_2 x3_2).f3) ((qT l0_2 x3_2).f4))) else (none)) else (none)) else ((sacristyref10_packs.f k2 ((qT l0_2 x3_2).f4)).bind fun t191 => (if t191 = true then ((q9_Right.f k2 ((qT l0_2 x3_2).f3)).bind fun t192 => (sacristyref10_Right.j2 k2 x3_2 (!t192) a0_0 l0_1 l0_2 ((qT l0_2 x3_2).f0) ((qT l0_2 x3_2).f1) ((qT l0_2 x3_2).f2) ((qT l0_2 x3_2).f3) ((qT l0_2 x3_2).f4))) else (sacristyref10_Right.j2 k2 x3_2 true a0_0 l0_1 l0_2 ((qT l0_2 x3_2).f0) ((qT l0_2 x3_2).f1) ((qT l0_2 x3_2).f2) ((qT l0_2 x3_2).f3) ((qT l0_2 x3_2).f4))))) else (sacristyref10_Right.j2 k2 x3_2 true a0_0 l0_1 l0_2 ((qT l0_2 x3_2).f0) ((qT l0_2 x3_2).f1) ((qT l0_2 x3_2).f2) ((qT l0_2 x3_2).f3) ((qT l0_2 x3_2).f4))) = some r := H
         have A20 := am A200
         by_cases c21 : t187 = true
         ·subst c21
          have H1 : (if x3_2 > 0 then (if 0 <= (wrap64 (x3_2 - 1)) then (if (wrap64 (x3_2 - 1)) < (l0_2.length : Int) then (if ((Op.bytesLess (((qT l0_2 (wrap64 (x3_2 - 1))).f0).toList) (((qT l0_2 x3_2).f0).toList)) = true) then ((sacristyref10_packs.f k2 ((qT l0_2 x3_2).f4)).bind fun t189 => (if t189 = true then ((q9_Right.f k2 ((qT l0_2 x3_2).f3)).bind fun t190 => (sacristyref10_Right.j2 k2 x3_2 (!t190) a0_0 l0_1 l0_2 ((qT l0_2 x3_2).f0) ((qT l0_2 x3_2).f1) ((qT l0_2 x3_2).f2) ((qT l0_2 x3_2).f3) ((qT l0_2 x3_2).f4))) else (sacristyref10_Right.j2 k2 x3_2 true a0_0 l0_1 l0_2 ((qT l0_2 x3_2).f0) ((qT l0_2 x3_2).f1) ((qT l0_2 x3_2).f2) ((qT l0_2 x3_2).f3) ((qT l0_2 x3_2).f4)))) else (sacristyref10_Right.j2 k2 x3_2 true a0_0 l0_1 l0_2 ((qT l0_2 x3_2).f0) ((qT l0_2 x3_2).f1) ((qT l0_2 x3_2).f2) ((qT l0_2 x3_2).f3) ((qT l0_2 x3_2).f4))) else (none)) else (none)) else ((sacristyref10_packs.f k2 ((qT l0_2 x3_2).f4)).bind fun t191 => (if t191 = true then ((q9_Right.f k2 ((qT l0_2 x3_2).f3)).bind fun t192 => (sacristyref10_Right.j2 k2 x3_2 (!t192) a0_0 l0_1 l0_2 ((qT l0_2 x3_2).f0) ((qT l0_2 x3_2).f1) ((qT l0_2 x3_2).f2) ((qT l0_2 x3_2).f3) ((qT l0_2 x3_2).f4))) else (sacristyref10_Right.j2 k2 x3_2 true a0_0 l0_1 l0_2 ((qT l0_2 x3_2).f0) ((qT l0_2 x3_2).f1) ((qT l0_2 x3_2).f2) ((qT l0_2 x3_2).f3) ((qT l0_2 x3_2).f4))))) = some r := by rw [if_pos rfl] at H; exact H
          clear H
          have H := H1
          clear H1
          by_cases c22 : x3_2 > 0
          ·rw [if_pos c22] at H
           have c22b0 : decide (0 < x3_2) = true := dt c22
           clear c22
           (first | rw [c22b0] | (simp only [i64_w, i32_w]; rw [c22b0]) | skip)
           obtain ⟨ji23, hji23⟩ : ∃ j_ : Int, (wrap64 (x3_2 - 1)) = j_ := ⟨_, rfl⟩
           replace H : (if 0 <= (ji23) then (if (ji23) < (l0_2.length : Int) then (if ((Op.bytesLess (((qT l0_2 (ji23)).f0).toList) (((qT l0_2 x3_2).f0).toList)) = true) then ((sacristyref10_packs.f k2 ((qT l0_2 x3_2).f4)).bind fun t189 => (if t189 = true then ((q9_Right.f k2 ((qT l0_2 x3_2).f3)).bind fun t190 => (sacristyref10_Right.j2 k2 x3_2 (!t190) a0_0 l0_1 l0_2 ((qT l0_2 x3_2).f0) ((qT l0_2 x3_2).f1) ((qT l0_2 x3_2).f2) ((qT l0_2 x3_2).f3) ((qT l0_2 x3_2).f4))) else (sacristyref10_Right.j2 k2 x3_2 true a0_0 l0_1 l0_2 ((qT l0_2 x3_2).f0) ((qT l0_2 x3_2).f1) ((qT l0_2 x3_2).f2) ((qT l0_2 x3_2).f3) ((qT l0_2 x3_2).f4)))) else (sacristyref10_Right.j2 k2 x3_2 true a0_0 l0_1 l0_2 ((qT l0_2 x3_2).f0) ((qT l0_2 x3_2).f1) ((qT l0_2 x3_2).f2) ((qT l0_2 x3_2).f3) ((qT l0_2 x3_2).f4))) else (none)) else (none)) = some r := by first | (rw [hji23] at H; exact H) | (simp only [hji23] at H ⊢; exact H)
           (try rw [hji23] at A20)
           have hji23w : (IntKind.i64.wrap (x3_2 - 1)) = ji23 := (i64_w _).trans hji23
           by_cases c24 : 0 <= (ji23)
           ·rw [if_pos c24] at H
            have c24b0 : decide (0 <= (ji23)) = true := dt c24
            clear c24
            by_cases c25 : (ji23) < (l0_2.length : Int)
            ·rw [if_pos c25] at H
             have c25b0 : decide ((ji23) < (l0_2.length : Int)) = true := dt c25
             clear c25
             by_cases c26 : ((Op.bytesLess (((qT l0_2 (ji23)).f0).toList) (((qT l0_2 x3_2).f0).toList)) = true)
             ·rw [if_pos c26] at H
              have c26b0 : (Op.bytesLess (((qT l0_2 (ji23)).f0).toList) (((qT l0_2 x3_2).f0).toList)) = true := c26
              clear c26
              replace H := Option.bind_eq_some_iff.mp H
              obtain ⟨t189, A270, H⟩ := H
              replace H : (if t189 = true then ((q9_Right.f k2 ((qT l0_2 x3_2).f3)).bind fun t190 => (sacristyref10_Right.j2 k2 x3_2 (!t190) a0_0 l0_1 l0_2 ((qT l0_2 x3_2).f0) ((qT l0_2 x3_2).f1) ((qT l0_2 x3_2).f2) ((qT l0_2 x3_2).f3) ((qT l0_2 x3_2).f4))) else (sacristyref10_Right.j2 k2 x3_2 true a0_0 l0_1 l0_2 ((qT l0_2 x3_2).f0) ((qT l0_2 x3_2).f1) ((qT l0_2 x3_2).f2) ((qT l0_2 x3_2).f3) ((qT l0_2 x3_2).f4))) = some r := H
              have A27 := am A270
              by_cases c28 : t189 = true
              ·subst c28
               have H1 : ((q9_Right.f k2 ((qT l0_2 x3_2).f3)).bind fun t190 => (sacristyref10_Right.j2 k2 x3_2 (!t190) a0_0 l0_1 l0_2 ((qT l0_2 x3_2).f0) ((qT l0_2 x3_2).f1) ((qT l0_2 x3_2).f2) ((qT l0_2 x3_2).f3) ((qT l0_2 x3_2).f4))) = some r := by rw [if_pos rfl] at H; exact H
               clear H
               have H := H1
               clear H1
               replace H := Option.bind_eq_some_iff.mp H
               obtain ⟨t190, A290, H⟩ := H
               replace H : (sacristyref10_Right.j2 k2 x3_2 (!t190) a0_0 l0_1 l0_2 ((qT l0_2 x3_2).f0) ((qT l0_2 x3_2).f1) ((qT l0_2 x3_2).f2) ((qT l0_2 x3_2).f3) ((qT l0_2 x3_2).f4)) = some r := H
               have A29 := am A290
               have H' := am H
               clear H
               try go_wp2
               have n0_ : Asd ((((((w17.setCell ⟨gb186, 0, none⟩ (.string ((qT l0_2 x3_2).f0))).setCell ⟨gb186, 1, none⟩ (.bool ((qT l0_2 x3_2).f1))).setCell ⟨gb186, 2, none⟩ (.string ((qT l0_2 x3_2).f2))).setCell ⟨gb186, 3, none⟩ (.slice A185_3 ((qT l0_2 x3_2).f3).length c185_3)).setCell ⟨gb186, 4, none⟩ (.slice A185_4 ((qT l0_2 x3_2).f4).length c185_4)).heap[gb183]? = some (.cells #[.int .i64 a0_0, .slice A0_1 l0_1.length c0_1, .slice (some ad185) l0_2.length c0_2] 25 (0, 0))) := ⟨by exact fz BK183.out NB183_186.out⟩
               have n1_ : Asd ((((((w17.setCell ⟨gb186, 0, none⟩ (.string ((qT l0_2 x3_2).f0))).setCell ⟨gb186, 1, none⟩ (.bool ((qT l0_2 x3_2).f1))).setCell ⟨gb186, 2, none⟩ (.string ((qT l0_2 x3_2).f2))).setCell ⟨gb186, 3, none⟩ (.slice A185_3 ((qT l0_2 x3_2).f3).length c185_3)).setCell ⟨gb186, 4, none⟩ (.slice A185_4 ((qT l0_2 x3_2).f4).length c185_4)).heap[gb186]? = some (.cells #[.string ((qT l0_2 x3_2).f0), .bool ((qT l0_2 x3_2).f1), .string ((qT l0_2 x3_2).f2), .slice A185_3 ((qT l0_2 x3_2).f3).length c185_3, .slice A185_4 ((qT l0_2 x3_2).f4).length c185_4] 39 (0, 0))) := ⟨by (with_reducible repeat (first | refine qN ?_ _ | refine qd ?_ | refine qa ?_ _)); refine blk_put (cs := #[.string ((qT l0_2 x3_2).f0), .bool ((qT l0_2 x3_2).f1), .string ((qT l0_2 x3_2).f2), .slice A185_3 ((qT l0_2 x3_2).f3).length c185_3, .slice none 0 0]) ?_ 4 _ rfl; (with_reducible repeat (first | refine qN ?_ _ | refine qd ?_ | refine qa ?_ _)); refine blk_put (cs := #[.string ((qT l0_2 x3_2).f0), .bool ((qT l0_2 x3_2).f1), .string ((qT l0_2 x3_2).f2), .slice none 0 0, .slice none 0 0]) ?_ 3 _ rfl; (with_reducible repeat (first | refine qN ?_ _ | refine qd ?_ | refine qa ?_ _)); refine blk_put (cs := #[.string ((qT l0_2 x3_2).f0), .bool ((qT l0_2 x3_2).f1), .string (⟨#[]⟩ : ByteArray), .slice none 0 0, .slice none 0 0]) ?_ 2 _ rfl; (with_reducible repeat (first | refine qN ?_ _ | refine qd ?_ | refine qa ?_ _)); refine blk_put (cs := #[.string ((qT l0_2 x3_2).f0), .bool false, .string (⟨#[]⟩ : ByteArray), .slice none 0 0, .slice none 0 0]) ?_ 1 _ rfl; (with_reducible repeat (first | refine qN ?_ _ | refine qd ?_ | refine qa ?_ _)); refine blk_put (cs := #[.string (⟨#[]⟩ : ByteArray), .bool false, .string (⟨#[]⟩ : ByteArray), .slice none 0 0, .slice none 0 0]) ?_ 0 _ rfl; (with_reducible repeat (first | refine qN ?_ _ | refine qd ?_ | refine qa ?_ _)); exact BK186.out⟩
               have n2_ : Asd (Below w.heap.size w (((((w17.setCell ⟨gb186, 0, none⟩ (.string ((qT l0_2 x3_2).f0))).setCell ⟨gb186, 1, none⟩ (.bool ((qT l0_2 x3_2).f1))).setCell ⟨gb186, 2, none⟩ (.string ((qT l0_2 x3_2).f2))).setCell ⟨gb186, 3, none⟩ (.slice A185_3 ((qT l0_2 x3_2).f3).length c185_3)).setCell ⟨gb186, 4, none⟩ (.slice A185_4 ((qT l0_2 x3_2).f4).length c185_4))) := ⟨bs2 HB.out GE183.out GE186.out⟩
               (try clear BK183)
               (try clear BK186)
               (try clear HB)
               generalize (((((w17.setCell ⟨gb186, 0, none⟩ (.string ((qT l0_2 x3_2).f0))).setCell ⟨gb186, 1, none⟩ (.bool ((qT l0_2 x3_2).f1))).setCell ⟨gb186, 2, none⟩ (.string ((qT l0_2 x3_2).f2))).setCell ⟨gb186, 3, none⟩ (.slice A185_3 ((qT l0_2 x3_2).f3).length c185_3)).setCell ⟨gb186, 4, none⟩ (.slice A185_4 ((qT l0_2 x3_2).f4).length c185_4)) = w30 at n0_ n1_ n2_ ⊢
               have BK183 := n0_
               have BK186 := n1_
               have HB := n2_
               clear n0_ n1_ n2_
               have n0_ := am (qd BK183.out)
               have n1_ := am (qd BK186.out)
               have n2_ := am (bd1 HB.out)
               clear BK183
               clear BK186
               clear HB
               have BK183 := n0_
               have BK186 := n1_
               have HB := n2_
               clear n0_ n1_ n2_
               have p188 : 0 <= ((ji23) : Int) := dz
               have q188 : (ji23) < (l0_2.length : Int) := dz
               obtain ⟨ad188, A188_3, c188_3, A188_4, c188_4, e188, hx188_0, hx188_1, hx188_2, hx188_3, hx188_4, hl188_3, hi188_3, hl188_4, hi188_4⟩ := at_T39 HR0_2.out (ji23) p188 q188
               have hw188_4 := hx188_4
               have hw188_3 := hx188_3
               have hw188_2 := hx188_2
               have hw188_1 := hx188_1
               have hw188_0 := hx188_0
               obtain rfl : ad185 = ad188 := (by injection e188)
               replace hx188_0 := hZc HB.out hx188_0
               replace hx188_1 := hZc HB.out hx188_1
               replace hx188_2 := hZc HB.out hx188_2
               replace hx188_3 := hZc HB.out hx188_3
               replace hx188_4 := hZc HB.out hx188_4
               have HR188_3 := am hi188_3
               have HC188_3 := am hl188_3
               clear hi188_3 hl188_3
               have HR188_4 := am hi188_4
               have HC188_4 := am hl188_4
               clear hi188_4 hl188_4
               replace p188 := eq_true p188
               replace q188 := eq_true q188
               refine start_ (n := 32) (S := fun w' => w'.cell? ⟨gb186, 0, none⟩ = some (.string ((qT l0_2 x3_2).f0)) /\ w'.cell? ⟨gb186, 1, none⟩ = some (.bool ((qT l0_2 x3_2).f1)) /\ w'.cell? ⟨gb186, 2, none⟩ = some (.string ((qT l0_2 x3_2).f2)) /\ w'.cell? ⟨gb186, 3, none⟩ = some (.slice A185_3 ((qT l0_2 x3_2).f3).length c185_3) /\ w'.cell? ⟨gb186, 4, none⟩ = some (.slice A185_4 ((qT l0_2 x3_2).f4).length c185_4) /\ w'.cell? ⟨gb183, 0, none⟩ = some (.int .i64 a0_0) /\ w'.cell? ⟨gb183, 1, none⟩ = some (.slice A0_1 l0_1.length c0_1) /\ w'.cell? ⟨gb183, 2, none⟩ = some (.slice (some ad185) l0_2.length c0_2) /\ w'.cell? (ad185.add (((ji23)).toNat * 5)) = some (.string ((qT l0_2 (ji23)).f0)) /\ w'.cell? ⟨(ad185.add (((ji23)).toNat * 5)).block, (ad185.add (((ji23)).toNat * 5)).off + 1, none⟩ = some (.bool ((qT l0_2 (ji23)).f1)) /\ w'.cell? ⟨(ad185.add (((ji23)).toNat * 5)).block, (ad185.add (((ji23)).toNat * 5)).off + 2, none⟩ = some (.string ((qT l0_2 (ji23)).f2)) /\ w'.cell? ⟨(ad185.add (((ji23)).toNat * 5)).block, (ad185.add (((ji23)).toNat * 5)).off + 3, none⟩ = some (.slice A188_3 ((qT l0_2 (ji23)).f3).length c188_3) /\ w'.cell? ⟨(ad185.add (((ji23)).toNat * 5)).block, (ad185.add (((ji23)).toNat * 5)).off + 4, none⟩ = some (.slice A188_4 ((qT l0_2 (ji23)).f4).length c188_4)) (ds := []) (bA 32 0) (by kernel_rfl) rfl rfl ⟨bc BK186.out 0, bc BK186.out 1, bc BK186.out 2, bc BK186.out 3, bc BK186.out 4, bc BK183.out 0, bc BK183.out 1, bc BK183.out 2, (hZc HB.out hw188_0), (hZc HB.out hw188_1), (hZc HB.out hw188_2), (hZc HB.out hw188_3), (hZc HB.out hw188_4)⟩ (fun hHeld => ?_); refine with_tabW sacristyref10_Right.tab7 sacristyref10_Right.bits7 (fun HT_ HW_ => ?_)
               generalize w30.drew = w31 at BK183 BK186 HB HR188_3 HR188_4 hx188_0 hx188_1 hx188_2 hx188_3 hx188_4 hHeld ⊢
               refine py_ 0 37 (bA 32 1) HT_.out ?_
               refine ty_ 1 38 (bA 32 3) HT_.out HW_.out hHeld ?_
               refine oz_ 2 39 (bA 32 7) HT_.out (fun K hK => ?_)
               refine goes_ Tryz.func15 (by kernel_rfl) rfl #[.string ((qT l0_2 x3_2).f0)] (by rfl) rfl rfl mz ?_
               with_reducible refine (sacristyref10_Named.calls k2 ((qT l0_2 x3_2).f0) true _ A20.out).mono ?_
               rintro e w' ⟨rfl, ⟨nd, rfl⟩⟩
               refine ⟨_, rfl, ?_⟩
               refine hK.out _ _ ⟨bc BK186.out 0, bc BK186.out 1, bc BK186.out 2, bc BK186.out 3, bc BK186.out 4, bc BK183.out 0, bc BK183.out 1, bc BK183.out 2, (hZc HB.out hw188_0), (hZc HB.out hw188_1), (hZc HB.out hw188_2), (hZc HB.out hw188_3), (hZc HB.out hw188_4)⟩ (fun hHeld => ?_)
               clear hK K
               refine nz_ 39 ?_
               refine py_ 3 40 (bA 32 15) HT_.out ?_
               refine py_ 4 41 (bA 32 31) HT_.out ?_
               refine py_ 5 42 (bA 32 63) HT_.out ?_
               refine py_ 6 43 (bA 32 127) HT_.out ?_
               refine py_ 7 44 (bA 32 255) HT_.out ?_
               refine py_ 8 45 (bA 32 511) HT_.out ?_
               refine py_ 10 47 (bA 32 1535) HT_.out ?_
               refine py_ 11 48 (bA 32 3583) HT_.out ?_
               refine py_ 15 52 (bA 32 36351) HT_.out ?_
               refine ty_ 9 46 (bA 32 36863) HT_.out HW_.out hHeld ?_
               refine py_ 12 49 (bA 32 40959) HT_.out ?_
               refine py_ 13 50 (bA 32 49151) HT_.out ?_
               refine ty_ 14 51 (bA 32 65535) HT_.out HW_.out hHeld ?_
               refine ty_ 16 53 (bA 32 131071) HT_.out HW_.out hHeld ?_
               refine py_ 17 54 (bA 32 262143) HT_.out ?_
               refine py_ 18 55 (bA 32 524287) HT_.out ?_
               refine py_ 19 56 (bA 32 1048575) HT_.out ?_
               refine py_ 20 57 (bA 32 2097151) HT_.out ?_
               refine py_ 21 58 (bA 32 4194303) HT_.out ?_
               refine ty_ 22 59 (bA 32 8388607) HT_.out HW_.out hHeld ?_
               refine oz_ 23 60 (bA 32 16777215) HT_.out (fun K hK => ?_)
               refine goes_ Tryz.func42 (by kernel_rfl) rfl #[.slice A185_4 ((qT l0_2 x3_2).f4).length c185_4] (by rfl) rfl rfl mz ?_
               with_reducible refine (sacristyref10_packs.calls k2 _ _ ((qT l0_2 x3_2).f4) true _ ?side1 ?side2 A27.out).mono ?_
               (case side1 => repeat (first | exact (Kd.C_below HR185_4.out (bs2 HB.out GE183.out GE186.out)) | (with_reducible refine Kd.C_alloc ?_ _) | (with_reducible refine Kd.C_drewN ?_ _) | (with_reducible refine Kd.C_drew ?_)))
               (case side2 => exact HC185_4.out)
               rintro e w' ⟨rfl, ⟨nd, rfl⟩⟩
               refine ⟨_, rfl, ?_⟩
               refine hK.out _ _ ⟨bc BK186.out 0, bc BK186.out 1, bc BK186.out 2, bc BK186.out 3, bc BK186.out 4, bc BK183.out 0, bc BK183.out 1, bc BK183.out 2, (hZc HB.out hw188_0), (hZc HB.out hw188_1), (hZc HB.out hw188_2), (hZc HB.out hw188_3), (hZc HB.out hw188_4)⟩ (fun hHeld => ?_)
               clear hK K
               refine nz_ 60 ?_
               refine py_ 24 61 (bA 32 33554431) HT_.out ?_
               refine py_ 25 62 (bA 32 67108863) HT_.out ?_
               refine py_ 26 63 (bA 32 134217727) HT_.out ?_
               refine py_ 27 64 (bA 32 268435455) HT_.out ?_
               refine ty_ 28 65 (bA 32 536870911) HT_.out HW_.out hHeld ?_
               refine oz_ 29 66 (bA 32 1073741823) HT_.out (fun K hK => ?_)
               refine goes_ Tryz.func43 (by kernel_rfl) rfl #[.slice A185_3 ((qT l0_2 x3_2).f3).length c185_3] (by rfl) rfl rfl mz ?_
               with_reducible refine (q9_Right.calls k2 _ _ ((qT l0_2 x3_2).f3) t190 _ ?side1 ?side2 A29.out).mono ?_
               (case side1 => repeat (first | exact (Kd.C_below HR185_3.out (bs2 HB.out GE183.out GE186.out)) | (with_reducible refine Kd.C_alloc ?_ _) | (with_reducible refine Kd.C_drewN ?_ _) | (with_reducible refine Kd.C_drew ?_)))
               (case side2 => exact HC185_3.out)
               rintro e w32 ⟨rfl, hb⟩
               refine ⟨_, rfl, ?_⟩
               have n0_ := am (blk_below (g := gb183) (o := .cells #[.int .i64 a0_0, .slice A0_1 l0_1.length c0_1, .slice (some ad185) l0_2.length c0_2] 25 (0, 0)) (kz BK183.out) hb)
               have n1_ := am (blk_below (g := gb186) (o := .cells #[.string ((qT l0_2 x3_2).f0), .bool ((qT l0_2 x3_2).f1), .string ((qT l0_2 x3_2).f2), .slice A185_3 ((qT l0_2 x3_2).f3).length c185_3, .slice A185_4 ((qT l0_2 x3_2).f4).length c185_4] 39 (0, 0)) (kz BK186.out) hb)
               have n2_ := am (qW (bs2 HB.out GE183.out GE186.out) hb)
               clear BK183
               clear BK186
               clear HB
               have BK183 := n0_
               have BK186 := n1_
               have HB := n2_
               clear n0_ n1_ n2_
               (try clear hb)
               (try clear hb2)
               (try clear hk)
               (try clear hi)
               refine hK.out _ _ ⟨bc BK186.out 0, bc BK186.out 1, bc BK186.out 2, bc BK186.out 3, bc BK186.out 4, bc BK183.out 0, bc BK183.out 1, bc BK183.out 2, (hZc HB.out hw188_0), (hZc HB.out hw188_1), (hZc HB.out hw188_2), (hZc HB.out hw188_3), (hZc HB.out hw188_4)⟩ (fun hHeld => ?_)
               clear hK K
               refine nz_ 66 ?_
               refine py_ 30 67 (bA 32 2147483647) HT_.out ?_
               refine py_ 31 68 (bA 32 4294967295) HT_.out ?_
               refine done_ (done_of HT_.out (by kernel_rfl)) ?_
               try go_wp2
               go_meet
               case rel => exact ⟨_, (!t190), (ez), H', ⟨by have := HJ1.out; have := HK2.out; first | omega | exact Nat.le_refl _⟩, ⟨kz BK183.out⟩, ⟨kz BK186.out⟩, ⟨bs2 HB.out GE183.out GE186.out⟩⟩
              ·replace c28 := Bool.eq_false_iff.mpr c28
               subst c28
               have H1 : (sacristyref10_Right.j2 k2 x3_2 true a0_0 l0_1 l0_2 ((qT l0_2 x3_2).f0) ((qT l0_2 x3_2).f1) ((qT l0_2 x3_2).f2) ((qT l0_2 x3_2).f3) ((qT l0_2 x3_2).f4)) = some r := by rw [if_neg (show ¬ (false = true) by decide)] at H; exact H
               clear H
               have H := H1
               clear H1
               have H' := am H
               clear H
               try go_wp2
               have n0_ : Asd ((((((w17.setCell ⟨gb186, 0, none⟩ (.string ((qT l0_2 x3_2).f0))).setCell ⟨gb186, 1, none⟩ (.bool ((qT l0_2 x3_2).f1))).setCell ⟨gb186, 2, none⟩ (.string ((qT l0_2 x3_2).f2))).setCell ⟨gb186, 3, none⟩ (.slice A185_3 ((qT l0_2 x3_2).f3).length c185_3)).setCell ⟨gb186, 4, none⟩ (.slice A185_4 ((qT l0_2 x3_2).f4).length c185_4)).heap[gb183]? = some (.cells #[.int .i64 a0_0, .slice A0_1 l0_1.length c0_1, .slice (some ad185) l0_2.length c0_2] 25 (0, 0))) := ⟨by exact fz BK183.out NB183_186.out⟩
               have n1_ : Asd ((((((w17.setCell ⟨gb186, 0, none⟩ (.string ((qT l0_2 x3_2).f0))).setCell ⟨gb186, 1, none⟩ (.bool ((qT l0_2 x3_2).f1))).setCell ⟨gb186, 2, none⟩ (.string ((qT l0_2 x3_2).f2))).setCell ⟨gb186, 3, none⟩ (.slice A185_3 ((qT l0_2 x3_2).f3).length c185_3)).setCell ⟨gb186, 4, none⟩ (.slice A185_4 ((qT l0_2 x3_2).f4).length c185_4)).heap[gb186]? = some (.cells #[.string ((qT l0_2 x3_2).f0), .bool ((qT l0_2 x3_2).f1), .string ((qT l0_2 x3_2).f2), .slice A185_3 ((qT l0_2 x3_2).f3).length c185_3, .slice A185_4 ((qT l0_2 x3_2).f4).length c185_4] 39 (0, 0))) := ⟨by (with_reducible repeat (first | refine qN ?_ _ | refine qd ?_ | refine qa ?_ _)); refine blk_put (cs := #[.string ((qT l0_2 x3_2).f0), .bool ((qT l0_2 x3_2).f1), .string ((qT l0_2 x3_2).f2), .slice A185_3 ((qT l0_2 x3_2).f3).length c185_3, .slice none 0 0]) ?_ 4 _ rfl; (with_reducible repeat (first | refine qN ?_ _ | refine qd ?_ | refine qa ?_ _)); refine blk_put (cs := #[.string ((qT l0_2 x3_2).f0), .bool ((qT l0_2 x3_2).f1), .string ((qT l0_2 x3_2).f2), .slice none 0 0, .slice none 0 0]) ?_ 3 _ rfl; (with_reducible repeat (first | refine qN ?_ _ | refine qd ?_ | refine qa ?_ _)); refine blk_put (cs := #[.string ((qT l0_2 x3_2).f0), .bool ((qT l0_2 x3_2).f1), .string (⟨#[]⟩ : ByteArray), .slice none 0 0, .slice none 0 0]) ?_ 2 _ rfl; (with_reducible repeat (first | refine qN ?_ _ | refine qd ?_ | refine qa ?_ _)); refine blk_put (cs := #[.string ((qT l0_2 x3_2).f0), .bool false, .string (⟨#[]⟩ : ByteArray), .slice none 0 0, .slice none 0 0]) ?_ 1 _ rfl; (with_reducible repeat (first | refine qN ?_ _ | refine qd ?_ | refine qa ?_ _)); refine blk_put (cs := #[.string (⟨#[]⟩ : ByteArray), .bool false, .string (⟨#[]⟩ : ByteArray), .slice none 0 0, .slice none 0 0]) ?_ 0 _ rfl; (with_reducible repeat (first | refine qN ?_ _ | refine qd ?_ | refine qa ?_ _)); exact BK186.out⟩
               have n2_ : Asd (Below w.heap.size w (((((w17.setCell ⟨gb186, 0, none⟩ (.string ((qT l0_2 x3_2).f0))).setCell ⟨gb186, 1, none⟩ (.bool ((qT l0_2 x3_2).f1))).setCell ⟨gb186, 2, none⟩ (.string ((qT l0_2 x3_2).f2))).setCell ⟨gb186, 3, none⟩ (.slice A185_3 ((qT l0_2 x3_2).f3).length c185_3)).setCell ⟨gb186, 4, none⟩ (.slice A185_4 ((qT l0_2 x3_2).f4).length c185_4))) := ⟨bs2 HB.out GE183.out GE186.out⟩
               (try clear BK183)
               (try clear BK186)
               (try clear HB)
               generalize (((((w17.setCell ⟨gb186, 0, none⟩ (.string ((qT l0_2 x3_2).f0))).setCell ⟨gb186, 1, none⟩ (.bool ((qT l0_2 x3_2).f1))).setCell ⟨gb186, 2, none⟩ (.string ((qT l0_2 x3_2).f2))).setCell ⟨gb186, 3, none⟩ (.slice A185_3 ((qT l0_2 x3_2).f3).length c185_3)).setCell ⟨gb186, 4, none⟩ (.slice A185_4 ((qT l0_2 x3_2).f4).length c185_4)) = w33 at n0_ n1_ n2_ ⊢
               have BK183 := n0_
               have BK186 := n1_
               have HB := n2_
               clear n0_ n1_ n2_
               have n0_ := am (qd BK183.out)
               have n1_ := am (qd BK186.out)
               have n2_ := am (bd1 HB.out)
               clear BK183
               clear BK186
               clear HB
               have BK183 := n0_
               have BK186 := n1_
               have HB := n2_
               clear n0_ n1_ n2_
               have p188 : 0 <= ((ji23) : Int) := dz
               have q188 : (ji23) < (l0_2.length : Int) := dz
               obtain ⟨ad188, A188_3, c188_3, A188_4, c188_4, e188, hx188_0, hx188_1, hx188_2, hx188_3, hx188_4, hl188_3, hi188_3, hl188_4, hi188_4⟩ := at_T39 HR0_2.out (ji23) p188 q188
               have hw188_4 := hx188_4
               have hw188_3 := hx188_3
               have hw188_2 := hx188_2
               have hw188_1 := hx188_1
               have hw188_0 := hx188_0
               obtain rfl : ad185 = ad188 := (by injection e188)
               replace hx188_0 := hZc HB.out hx188_0
               replace hx188_1 := hZc HB.out hx188_1
               replace hx188_2 := hZc HB.out hx188_2
               replace hx188_3 := hZc HB.out hx188_3
               replace hx188_4 := hZc HB.out hx188_4
               have HR188_3 := am hi188_3
               have HC188_3 := am hl188_3
               clear hi188_3 hl188_3
               have HR188_4 := am hi188_4
               have HC188_4 := am hl188_4
               clear hi188_4 hl188_4
               replace p188 := eq_true p188
               replace q188 := eq_true q188
               refine start_ (n := 32) (S := fun w' => w'.cell? ⟨gb186, 0, none⟩ = some (.string ((qT l0_2 x3_2).f0)) /\ w'.cell? ⟨gb186, 1, none⟩ = some (.bool ((qT l0_2 x3_2).f1)) /\ w'.cell? ⟨gb186, 2, none⟩ = some (.string ((qT l0_2 x3_2).f2)) /\ w'.cell? ⟨gb186, 3, none⟩ = some (.slice A185_3 ((qT l0_2 x3_2).f3).length c185_3) /\ w'.cell? ⟨gb186, 4, none⟩ = some (.slice A185_4 ((qT l0_2 x3_2).f4).length c185_4) /\ w'.cell? ⟨gb183, 0, none⟩ = some (.int .i64 a0_0) /\ w'.cell? ⟨gb183, 1, none⟩ = some (.slice A0_1 l0_1.length c0_1) /\ w'.cell? ⟨gb183, 2, none⟩ = some (.slice (some ad185) l0_2.length c0_2) /\ w'.cell? (ad185.add (((ji23)).toNat * 5)) = some (.string ((qT l0_2 (ji23)).f0)) /\ w'.cell? ⟨(ad185.add (((ji23)).toNat * 5)).block, (ad185.add (((ji23)).toNat * 5)).off + 1, none⟩ = some (.bool ((qT l0_2 (ji23)).f1)) /\ w'.cell? ⟨(ad185.add (((ji23)).toNat * 5)).block, (ad185.add (((ji23)).toNat * 5)).off + 2, none⟩ = some (.string ((qT l0_2 (ji23)).f2)) /\ w'.cell? ⟨(ad185.add (((ji23)).toNat * 5)).block, (ad185.add (((ji23)).toNat * 5)).off + 3, none⟩ = some (.slice A188_3 ((qT l0_2 (ji23)).f3).length c188_3) /\ w'.cell? ⟨(ad185.add (((ji23)).toNat * 5)).block, (ad185.add (((ji23)).toNat * 5)).off + 4, none⟩ = some (.slice A188_4 ((qT l0_2 (ji23)).f4).length c188_4)) (ds := []) (bA 32 0) (by kernel_rfl) rfl rfl ⟨bc BK186.out 0, bc BK186.out 1, bc BK186.out 2, bc BK186.out 3, bc BK186.out 4, bc BK183.out 0, bc BK183.out 1, bc BK183.out 2, (hZc HB.out hw188_0), (hZc HB.out hw188_1), (hZc HB.out hw188_2), (hZc HB.out hw188_3), (hZc HB.out hw188_4)⟩ (fun hHeld => ?_); refine with_tabW sacristyref10_Right.tab7 sacristyref10_Right.bits7 (fun HT_ HW_ => ?_)
               generalize w33.drew = w34 at BK183 BK186 HB HR188_3 HR188_4 hx188_0 hx188_1 hx188_2 hx188_3 hx188_4 hHeld ⊢
               refine py_ 0 37 (bA 32 1) HT_.out ?_
               refine ty_ 1 38 (bA 32 3) HT_.out HW_.out hHeld ?_
               refine oz_ 2 39 (bA 32 7) HT_.out (fun K hK => ?_)
               refine goes_ Tryz.func15 (by kernel_rfl) rfl #[.string ((qT l0_2 x3_2).f0)] (by rfl) rfl rfl mz ?_
               with_reducible refine (sacristyref10_Named.calls k2 ((qT l0_2 x3_2).f0) true _ A20.out).mono ?_
               rintro e w' ⟨rfl, ⟨nd, rfl⟩⟩
               refine ⟨_, rfl, ?_⟩
               refine hK.out _ _ ⟨bc BK186.out 0, bc BK186.out 1, bc BK186.out 2, bc BK186.out 3, bc BK186.out 4, bc BK183.out 0, bc BK183.out 1, bc BK183.out 2, (hZc HB.out hw188_0), (hZc HB.out hw188_1), (hZc HB.out hw188_2), (hZc HB.out hw188_3), (hZc HB.out hw188_4)⟩ (fun hHeld => ?_)
               clear hK K
               refine nz_ 39 ?_
               refine py_ 3 40 (bA 32 15) HT_.out ?_
               refine py_ 4 41 (bA 32 31) HT_.out ?_
               refine py_ 5 42 (bA 32 63) HT_.out ?_
               refine py_ 6 43 (bA 32 127) HT_.out ?_
               refine py_ 7 44 (bA 32 255) HT_.out ?_
               refine py_ 8 45 (bA 32 511) HT_.out ?_
               refine py_ 10 47 (bA 32 1535) HT_.out ?_
               refine py_ 11 48 (bA 32 3583) HT_.out ?_
               refine py_ 15 52 (bA 32 36351) HT_.out ?_
               refine ty_ 9 46 (bA 32 36863) HT_.out HW_.out hHeld ?_
               refine py_ 12 49 (bA 32 40959) HT_.out ?_
               refine py_ 13 50 (bA 32 49151) HT_.out ?_
               refine ty_ 14 51 (bA 32 65535) HT_.out HW_.out hHeld ?_
               refine ty_ 16 53 (bA 32 131071) HT_.out HW_.out hHeld ?_
               refine py_ 17 54 (bA 32 262143) HT_.out ?_
               refine py_ 18 55 (bA 32 524287) HT_.out ?_
               refine py_ 19 56 (bA 32 1048575) HT_.out ?_
               refine py_ 20 57 (bA 32 2097151) HT_.out ?_
               refine py_ 21 58 (bA 32 4194303) HT_.out ?_
               refine ty_ 22 59 (bA 32 8388607) HT_.out HW_.out hHeld ?_
               refine oz_ 23 60 (bA 32 16777215) HT_.out (fun K hK => ?_)
               refine goes_ Tryz.func42 (by kernel_rfl) rfl #[.slice A185_4 ((qT l0_2 x3_2).f4).length c185_4] (by rfl) rfl rfl mz ?_
               with_reducible refine (sacristyref10_packs.calls k2 _ _ ((qT l0_2 x3_2).f4) false _ ?side1 ?side2 A27.out).mono ?_
               (case side1 => repeat (first | exact (Kd.C_below HR185_4.out (bs2 HB.out GE183.out GE186.out)) | (with_reducible refine Kd.C_alloc ?_ _) | (with_reducible refine Kd.C_drewN ?_ _) | (with_reducible refine Kd.C_drew ?_)))
               (case side2 => exact HC185_4.out)
               rintro e w' ⟨rfl, ⟨nd, rfl⟩⟩
               refine ⟨_, rfl, ?_⟩
               refine hK.out _ _ ⟨bc BK186.out 0, bc BK186.out 1, bc BK186.out 2, bc BK186.out 3, bc BK186.out 4, bc BK183.out 0, bc BK183.out 1, bc BK183.out 2, (hZc HB.out hw188_0), (hZc HB.out hw188_1), (hZc HB.out hw188_2), (hZc HB.out hw188_3), (hZc HB.out hw188_4)⟩ (fun hHeld => ?_)
               clear hK K
               refine nz_ 60 ?_
               refine py_ 24 61 (bA 32 33554431) HT_.out ?_
               refine py_ 25 62 (bA 32 67108863) HT_.out ?_
               refine py_ 26 63 (bA 32 134217727) HT_.out ?_
               refine pw_ 27 64 (bA 32 268435455) HT_.out ?_
               refine pw_ 28 65 (bA 32 536870911) HT_.out ?_
               refine pw_ 29 66 (bA 32 1073741823) HT_.out ?_
               refine pw_ 30 67 (bA 32 2147483647) HT_.out ?_
               refine py_ 31 68 (bA 32 4294967295) HT_.out ?_
               refine done_ (done_of HT_.out (by kernel_rfl)) ?_
               try go_wp2
               go_meet
               case rel => exact ⟨_, (true), (ez), H', ⟨by have := HJ1.out; have := HK2.out; first | omega | exact Nat.le_refl _⟩, ⟨kz BK183.out⟩, ⟨kz BK186.out⟩, ⟨bs2 HB.out GE183.out GE186.out⟩⟩
             ·rw [if_neg c26] at H
              have c26b0 : (Op.bytesLess (((qT l0_2 (ji23)).f0).toList) (((qT l0_2 x3_2).f0).toList)) = false := by simpa using c26
              clear c26
              have H' := am H
              clear H
              try go_wp2
              have n0_ : Asd ((((((w17.setCell ⟨gb186, 0, none⟩ (.string ((qT l0_2 x3_2).f0))).setCell ⟨gb186, 1, none⟩ (.bool ((qT l0_2 x3_2).f1))).setCell ⟨gb186, 2, none⟩ (.string ((qT l0_2 x3_2).f2))).setCell ⟨gb186, 3, none⟩ (.slice A185_3 ((qT l0_2 x3_2).f3).length c185_3)).setCell ⟨gb186, 4, none⟩ (.slice A185_4 ((qT l0_2 x3_2).f4).length c185_4)).heap[gb183]? = some (.cells #[.int .i64 a0_0, .slice A0_1 l0_1.length c0_1, .slice (some ad185) l0_2.length c0_2] 25 (0, 0))) := ⟨by exact fz BK183.out NB183_186.out⟩
              have n1_ : Asd ((((((w17.setCell ⟨gb186, 0, none⟩ (.string ((qT l0_2 x3_2).f0))).setCell ⟨gb186, 1, none⟩ (.bool ((qT l0_2 x3_2).f1))).setCell ⟨gb186, 2, none⟩ (.string ((qT l0_2 x3_2).f2))).setCell ⟨gb186, 3, none⟩ (.slice A185_3 ((qT l0_2 x3_2).f3).length c185_3)).setCell ⟨gb186, 4, none⟩ (.slice A185_4 ((qT l0_2 x3_2).f4).length c185_4)).heap[gb186]? = some (.cells #[.string ((qT l0_2 x3_2).f0), .bool ((qT l0_2 x3_2).f1), .string ((qT l0_2 x3_2).f2), .slice A185_3 ((qT l0_2 x3_2).f3).length c185_3, .slice A185_4 ((qT l0_2 x3_2).f4).length c185_4] 39 (0, 0))) := ⟨by (with_reducible repeat (first | refine qN ?_ _ | refine qd ?_ | refine qa ?_ _)); refine blk_put (cs := #[.string ((qT l0_2 x3_2).f0), .bool ((qT l0_2 x3_2).f1), .string ((qT l0_2 x3_2).f2), .slice A185_3 ((qT l0_2 x3_2).f3).length c185_3, .slice none 0 0]) ?_ 4 _ rfl; (with_reducible repeat (first | refine qN ?_ _ | refine qd ?_ | refine qa ?_ _)); refine blk_put (cs := #[.string ((qT l0_2 x3_2).f0), .bool ((qT l0_2 x3_2).f1), .string ((qT l0_2 x3_2).f2), .slice none 0 0, .slice none 0 0]) ?_ 3 _ rfl; (with_reducible repeat (first | refine qN ?_ _ | refine qd ?_ | refine qa ?_ _)); refine blk_put (cs := #[.string ((qT l0_2 x3_2).f0), .bool ((qT l0_2 x3_2).f1), .string (⟨#[]⟩ : ByteArray), .slice none 0 0, .slice none 0 0]) ?_ 2 _ rfl; (with_reducible repeat (first | refine qN ?_ _ | refine qd ?_ | refine qa ?_ _)); refine blk_put (cs := #[.string ((qT l0_2 x3_2).f0), .bool false, .string (⟨#[]⟩ : ByteArray), .slice none 0 0, .slice none 0 0]) ?_ 1 _ rfl; (with_reducible repeat (first | refine qN ?_ _ | refine qd ?_ | refine qa ?_ _)); refine blk_put (cs := #[.string (⟨#[]⟩ : ByteArray), .bool false, .string (⟨#[]⟩ : ByteArray), .slice none 0 0, .slice none 0 0]) ?_ 0 _ rfl; (with_reducible repeat (first | refine qN ?_ _ | refine qd ?_ | refine qa ?_ _)); exact BK186.out⟩
              have n2_ : Asd (Below w.heap.size w (((((w17.setCell ⟨gb186, 0, none⟩ (.string ((qT l0_2 x3_2).f0))).setCell ⟨gb186, 1, none⟩ (.bool ((qT l0_2 x3_2).f1))).setCell ⟨gb186, 2, none⟩ (.string ((qT l0_2 x3_2).f2))).setCell ⟨gb186, 3, none⟩ (.slice A185_3 ((qT l0_2 x3_2).f3).length c185_3)).setCell ⟨gb186, 4, none⟩ (.slice A185_4 ((qT l0_2 x3_2).f4).length c185_4))) := ⟨bs2 HB.out GE183.out GE186.out⟩
              (try clear BK183)
              (try clear BK186)
              (try clear HB)
              generalize (((((w17.setCell ⟨gb186, 0, none⟩ (.string ((qT l0_2 x3_2).f0))).setCell ⟨gb186, 1, none⟩ (.bool ((qT l0_2 x3_2).f1))).setCell ⟨gb186, 2, none⟩ (.string ((qT l0_2 x3_2).f2))).setCell ⟨gb186, 3, none⟩ (.slice A185_3 ((qT l0_2 x3_2).f3).length c185_3)).setCell ⟨gb186, 4, none⟩ (.slice A185_4 ((qT l0_2 x3_2).f4).length c185_4)) = w35 at n0_ n1_ n2_ ⊢
              have BK183 := n0_
              have BK186 := n1_
              have HB := n2_
              clear n0_ n1_ n2_
              have n0_ := am (qd BK183.out)
              have n1_ := am (qd BK186.out)
              have n2_ := am (bd1 HB.out)
              clear BK183
              clear BK186
              clear HB
              have BK183 := n0_
              have BK186 := n1_
              have HB := n2_
              clear n0_ n1_ n2_
              have p188 : 0 <= ((ji23) : Int) := dz
              have q188 : (ji23) < (l0_2.length : Int) := dz
              obtain ⟨ad188, A188_3, c188_3, A188_4, c188_4, e188, hx188_0, hx188_1, hx188_2, hx188_3, hx188_4, hl188_3, hi188_3, hl188_4, hi188_4⟩ := at_T39 HR0_2.out (ji23) p188 q188
              have hw188_4 := hx188_4
              have hw188_3 := hx188_3
              have hw188_2 := hx188_2
              have hw188_1 := hx188_1
              have hw188_0 := hx188_0
              obtain rfl : ad185 = ad188 := (by injection e188)
              replace hx188_0 := hZc HB.out hx188_0
              replace hx188_1 := hZc HB.out hx188_1
              replace hx188_2 := hZc HB.out hx188_2
              replace hx188_3 := hZc HB.out hx188_3
              replace hx188_4 := hZc HB.out hx188_4
              have HR188_3 := am hi188_3
              have HC188_3 := am hl188_3
              clear hi188_3 hl188_3
              have HR188_4 := am hi188_4
              have HC188_4 := am hl188_4
              clear hi188_4 hl188_4
              replace p188 := eq_true p188
              replace q188 := eq_true q188
              refine start_ (n := 32) (S := fun w' => w'.cell? ⟨gb186, 0, none⟩ = some (.string ((qT l0_2 x3_2).f0)) /\ w'.cell? ⟨gb186, 1, none⟩ = some (.bool ((qT l0_2 x3_2).f1)) /\ w'.cell? ⟨gb186, 2, none⟩ = some (.string ((qT l0_2 x3_2).f2)) /\ w'.cell? ⟨gb186, 3, none⟩ = some (.slice A185_3 ((qT l0_2 x3_2).f3).length c185_3) /\ w'.cell? ⟨gb186, 4, none⟩ = some (.slice A185_4 ((qT l0_2 x3_2).f4).length c185_4) /\ w'.cell? ⟨gb183, 0, none⟩ = some (.int .i64 a0_0) /\ w'.cell? ⟨gb183, 1, none⟩ = some (.slice A0_1 l0_1.length c0_1) /\ w'.cell? ⟨gb183, 2, none⟩ = some (.slice (some ad185) l0_2.length c0_2) /\ w'.cell? (ad185.add (((ji23)).toNat * 5)) = some (.string ((qT l0_2 (ji23)).f0)) /\ w'.cell? ⟨(ad185.add (((ji23)).toNat * 5)).block, (ad185.add (((ji23)).toNat * 5)).off + 1, none⟩ = some (.bool ((qT l0_2 (ji23)).f1)) /\ w'.cell? ⟨(ad185.add (((ji23)).toNat * 5)).block, (ad185.add (((ji23)).toNat * 5)).off + 2, none⟩ = some (.string ((qT l0_2 (ji23)).f2)) /\ w'.cell? ⟨(ad185.add (((ji23)).toNat * 5)).block, (ad185.add (((ji23)).toNat * 5)).off + 3, none⟩ = some (.slice A188_3 ((qT l0_2 (ji23)).f3).length c188_3) /\ w'.cell? ⟨(ad185.add (((ji23)).toNat * 5)).block, (ad185.add (((ji23)).toNat * 5)).off + 4, none⟩ = some (.slice A188_4 ((qT l0_2 (ji23)).f4).length c188_4)) (ds := []) (bA 32 0) (by kernel_rfl) rfl rfl ⟨bc BK186.out 0, bc BK186.out 1, bc BK186.out 2, bc BK186.out 3, bc BK186.out 4, bc BK183.out 0, bc BK183.out 1, bc BK183.out 2, (hZc HB.out hw188_0), (hZc HB.out hw188_1), (hZc HB.out hw188_2), (hZc HB.out hw188_3), (hZc HB.out hw188_4)⟩ (fun hHeld => ?_); refine with_tabW sacristyref10_Right.tab7 sacristyref10_Right.bits7 (fun HT_ HW_ => ?_)
              generalize w35.drew = w36 at BK183 BK186 HB HR188_3 HR188_4 hx188_0 hx188_1 hx188_2 hx188_3 hx188_4 hHeld ⊢
              refine py_ 0 37 (bA 32 1) HT_.out ?_
              refine ty_ 1 38 (bA 32 3) HT_.out HW_.out hHeld ?_
              refine oz_ 2 39 (bA 32 7) HT_.out (fun K hK => ?_)
              refine goes_ Tryz.func15 (by kernel_rfl) rfl #[.string ((qT l0_2 x3_2).f0)] (by rfl) rfl rfl mz ?_
              with_reducible refine (sacristyref10_Named.calls k2 ((qT l0_2 x3_2).f0) true _ A20.out).mono ?_
              rintro e w' ⟨rfl, ⟨nd, rfl⟩⟩
              refine ⟨_, rfl, ?_⟩
              refine hK.out _ _ ⟨bc BK186.out 0, bc BK186.out 1, bc BK186.out 2, bc BK186.out 3, bc BK186.out 4, bc BK183.out 0, bc BK183.out 1, bc BK183.out 2, (hZc HB.out hw188_0), (hZc HB.out hw188_1), (hZc HB.out hw188_2), (hZc HB.out hw188_3), (hZc HB.out hw188_4)⟩ (fun hHeld => ?_)
              clear hK K
              refine nz_ 39 ?_
              refine py_ 3 40 (bA 32 15) HT_.out ?_
              refine py_ 4 41 (bA 32 31) HT_.out ?_
              refine py_ 5 42 (bA 32 63) HT_.out ?_
              refine py_ 6 43 (bA 32 127) HT_.out ?_
              refine py_ 7 44 (bA 32 255) HT_.out ?_
              refine py_ 8 45 (bA 32 511) HT_.out ?_
              refine py_ 10 47 (bA 32 1535) HT_.out ?_
              refine py_ 11 48 (bA 32 3583) HT_.out ?_
              refine py_ 15 52 (bA 32 36351) HT_.out ?_
              refine ty_ 9 46 (bA 32 36863) HT_.out HW_.out hHeld ?_
              refine py_ 12 49 (bA 32 40959) HT_.out ?_
              refine py_ 13 50 (bA 32 49151) HT_.out ?_
              refine ty_ 14 51 (bA 32 65535) HT_.out HW_.out hHeld ?_
              refine ty_ 16 53 (bA 32 131071) HT_.out HW_.out hHeld ?_
              refine py_ 17 54 (bA 32 262143) HT_.out ?_
              refine py_ 18 55 (bA 32 524287) HT_.out ?_
              refine py_ 19 56 (bA 32 1048575) HT_.out ?_
              refine py_ 20 57 (bA 32 2097151) HT_.out ?_
              refine pw_ 21 58 (bA 32 4194303) HT_.out ?_
              refine pw_ 22 59 (bA 32 8388607) HT_.out ?_
              refine pw_ 23 60 (bA 32 16777215) HT_.out ?_
              refine pw_ 24 61 (bA 32 33554431) HT_.out ?_
              refine py_ 25 62 (bA 32 67108863) HT_.out ?_
              refine py_ 26 63 (bA 32 134217727) HT_.out ?_
              refine pw_ 27 64 (bA 32 268435455) HT_.out ?_
              refine pw_ 28 65 (bA 32 536870911) HT_.out ?_
              refine pw_ 29 66 (bA 32 1073741823) HT_.out ?_
              refine pw_ 30 67 (bA 32 2147483647) HT_.out ?_
              refine py_ 31 68 (bA 32 4294967295) HT_.out ?_
              refine done_ (done_of HT_.out (by kernel_rfl)) ?_
              try go_wp2
              go_meet
              case rel => exact ⟨_, (true), (ez), H', ⟨by have := HJ1.out; have := HK2.out; first | omega | exact Nat.le_refl _⟩, ⟨kz BK183.out⟩, ⟨kz BK186.out⟩, ⟨bs2 HB.out GE183.out GE186.out⟩⟩
            ·rw [if_neg c25] at H
             exact absurd H (by simp)
           ·rw [if_neg c24] at H
            exact absurd H (by simp)
          ·rw [if_neg c22] at H
           have c22b0 : decide (0 < x3_2) = false := df c22
           clear c22
           (first | rw [c22b0] | (simp only [i64_w, i32_w]; rw [c22b0]) | skip)
           replace H := Option.bind_eq_some_iff.mp H
           obtain ⟨t191, A370, H⟩ := H
           replace H : (if t191 = true then ((q9_Right.f k2 ((qT l0_2 x3_2).f3)).bind fun t192 => (sacristyref10_Right.j2 k2 x3_2 (!t192) a0_0 l0_1 l0_2 ((qT l0_2 x3_2).f0) ((qT l0_2 x3_2).f1) ((qT l0_2 x3_2).f2) ((qT l0_2 x3_2).f3) ((qT l0_2 x3_2).f4))) else (sacristyref10_Right.j2 k2 x3_2 true a0_0 l0_1 l0_2 ((qT l0_2 x3_2).f0) ((qT l0_2 x3_2).f1) ((qT l0_2 x3_2).f2) ((qT l0_2 x3_2).f3) ((qT l0_2 x3_2).f4))) = some r := H
           have A37 := am A370
           by_cases c38 : t191 = true
           ·subst c38
            have H1 : ((q9_Right.f k2 ((qT l0_2 x3_2).f3)).bind fun t192 => (sacristyref10_Right.j2 k2 x3_2 (!t192) a0_0 l0_1 l0_2 ((qT l0_2 x3_2).f0) ((qT l0_2 x3_2).f1) ((qT l0_2 x3_2).f2) ((qT l0_2 x3_2).f3) ((qT l0_2 x3_2).f4))) = some r := by rw [if_pos rfl] at H; exact H
            clear H
            have H := H1
            clear H1
            replace H := Option.bind_eq_some_iff.mp H
            obtain ⟨t192, A390, H⟩ := H
            replace H : (sacristyref10_Right.j2 k2 x3_2 (!t192) a0_0 l0_1 l0_2 ((qT l0_2 x3_2).f0) ((qT l0_2 x3_2).f1) ((qT l0_2 x3_2).f2) ((qT l0_2 x3_2).f3) ((qT l0_2 x3_2).f4)) = some r := H
            have A39 := am A390
            have H' := am H
            clear H
            try go_wp2
            have n0_ : Asd ((((((w17.setCell ⟨gb186, 0, none⟩ (.string ((qT l0_2 x3_2).f0))).setCell ⟨gb186, 1, none⟩ (.bool ((qT l0_2 x3_2).f1))).setCell ⟨gb186, 2, none⟩ (.string ((qT l0_2 x3_2).f2))).setCell ⟨gb186, 3, none⟩ (.slice A185_3 ((qT l0_2 x3_2).f3).length c185_3)).setCell ⟨gb186, 4, none⟩ (.slice A185_4 ((qT l0_2 x3_2).f4).length c185_4)).heap[gb183]? = some (.cells #[.int .i64 a0_0, .slice A0_1 l0_1.length c0_1, .slice (some ad185) l0_2.length c0_2] 25 (0, 0))) := ⟨by exact fz BK183.out NB183_186.out⟩
            have n1_ : Asd ((((((w17.setCell ⟨gb186, 0, none⟩ (.string ((qT l0_2 x3_2).f0))).setCell ⟨gb186, 1, none⟩ (.bool ((qT l0_2 x3_2).f1))).setCell ⟨gb186, 2, none⟩ (.string ((qT l0_2 x3_2).f2))).setCell ⟨gb186, 3, none⟩ (.slice A185_3 ((qT l0_2 x3_2).f3).length c185_3)).setCell ⟨gb186, 4, none⟩ (.slice A185_4 ((qT l0_2 x3_2).f4).length c185_4)).heap[gb186]? = some (.cells #[.string ((qT l0_2 x3_2).f0), .bool ((qT l0_2 x3_2).f1), .string ((qT l0_2 x3_2).f2), .slice A185_3 ((qT l0_2 x3_2).f3).length c185_3, .slice A185_4 ((qT l0_2 x3_2).f4).length c185_4] 39 (0, 0))) := ⟨by (with_reducible repeat (first | refine qN ?_ _ | refine qd ?_ | refine qa ?_ _)); refine blk_put (cs := #[.string ((qT l0_2 x3_2).f0), .bool ((qT l0_2 x3_2).f1), .string ((qT l0_2 x3_2).f2), .slice A185_3 ((qT l0_2 x3_2).f3).length c185_3, .slice none 0 0]) ?_ 4 _ rfl; (with_reducible repeat (first | refine qN ?_ _ | refine qd ?_ | refine qa ?_ _)); refine blk_put (cs := #[.string ((qT l0_2 x3_2).f0), .bool ((qT l0_2 x3_2).f1), .string ((qT l0_2 x3_2).f2), .slice none 0 0, .slice none 0 0]) ?_ 3 _ rfl; (with_reducible repeat (first | refine qN ?_ _ | refine qd ?_ | refine qa ?_ _)); refine blk_put (cs := #[.string ((qT l0_2 x3_2).f0), .bool ((qT l0_2 x3_2).f1), .string (⟨#[]⟩ : ByteArray), .slice none 0 0, .slice none 0 0]) ?_ 2 _ rfl; (with_reducible repeat (first | refine qN ?_ _ | refine qd ?_ | refine qa ?_ _)); refine blk_put (cs := #[.string ((qT l0_2 x3_2).f0), .bool false, .string (⟨#[]⟩ : ByteArray), .slice none 0 0, .slice none 0 0]) ?_ 1 _ rfl; (with_reducible repeat (first | refine qN ?_ _ | refine qd ?_ | refine qa ?_ _)); refine blk_put (cs := #[.string (⟨#[]⟩ : ByteArray), .bool false, .string (⟨#[]⟩ : ByteArray), .slice none 0 0, .slice none 0 0]) ?_ 0 _ rfl; (with_reducible repeat (first | refine qN ?_ _ | refine qd ?_ | refine qa ?_ _)); exact BK186.out⟩
            have n2_ : Asd (Below w.heap.size w (((((w17.setCell ⟨gb186, 0, none⟩ (.string ((qT l0_2 x3_2).f0))).setCell ⟨gb186, 1, none⟩ (.bool ((qT l0_2 x3_2).f1))).setCell ⟨gb186, 2, none⟩ (.string ((qT l0_2 x3_2).f2))).setCell ⟨gb186, 3, none⟩ (.slice A185_3 ((qT l0_2 x3_2).f3).length c185_3)).setCell ⟨gb186, 4, none⟩ (.slice A185_4 ((qT l0_2 x3_2).f4).length c185_4))) := ⟨bs2 HB.out GE183.out GE186.out⟩
            (try clear BK183)
            (try clear BK186)
            (try clear HB)
            generalize (((((w17.setCell ⟨gb186, 0, none⟩ (.string ((qT l0_2 x3_2).f0))).setCell ⟨gb186, 1, none⟩ (.bool ((qT l0_2 x3_2).f1))).setCell ⟨gb186, 2, none⟩ (.string ((qT l0_2 x3_2).f2))).setCell ⟨gb186, 3, none⟩ (.slice A185_3 ((qT l0_2 x3_2).f3).length c185_3)).setCell ⟨gb186, 4, none⟩ (.slice A185_4 ((qT l0_2 x3_2).f4).length c185_4)) = w40 at n0_ n1_ n2_ ⊢
            have BK183 := n0_
            have BK186 := n1_
            have HB := n2_
            clear n0_ n1_ n2_
            have n0_ := am (qd BK183.out)
            have n1_ := am (qd BK186.out)
            have n2_ := am (bd1 HB.out)
            clear BK183
            clear BK186
            clear HB
            have BK183 := n0_
            have BK186 := n1_
            have HB := n2_
            clear n0_ n1_ n2_
            refine start_ (n := 32) (S := fun w' => w'.cell? ⟨gb186, 0, none⟩ = some (.string ((qT l0_2 x3_2).f0)) /\ w'.cell? ⟨gb186, 1, none⟩ = some (.bool ((qT l0_2 x3_2).f1)) /\ w'.cell? ⟨gb186, 2, none⟩ = some (.string ((qT l0_2 x3_2).f2)) /\ w'.cell? ⟨gb186, 3, none⟩ = some (.slice A185_3 ((qT l0_2 x3_2).f3).length c185_3) /\ w'.cell? ⟨gb186, 4, none⟩ = some (.slice A185_4 ((qT l0_2 x3_2).f4).length c185_4)) (ds := []) (bA 32 0) (by kernel_rfl) rfl rfl ⟨bc BK186.out 0, bc BK186.out 1, bc BK186.out 2, bc BK186.out 3, bc BK186.out 4⟩ (fun hHeld => ?_); refine with_tabW sacristyref10_Right.tab7 sacristyref10_Right.bits7 (fun HT_ HW_ => ?_)
            generalize w40.drew = w41 at BK183 BK186 HB hHeld ⊢
            refine py_ 0 37 (bA 32 1) HT_.out ?_
            refine ty_ 1 38 (bA 32 3) HT_.out HW_.out hHeld ?_
            refine oz_ 2 39 (bA 32 7) HT_.out (fun K hK => ?_)
            refine goes_ Tryz.func15 (by kernel_rfl) rfl #[.string ((qT l0_2 x3_2).f0)] (by rfl) rfl rfl mz ?_
            with_reducible refine (sacristyref10_Named.calls k2 ((qT l0_2 x3_2).f0) true _ A20.out).mono ?_
            rintro e w' ⟨rfl, ⟨nd, rfl⟩⟩
            refine ⟨_, rfl, ?_⟩
            refine hK.out _ _ ⟨bc BK186.out 0, bc BK186.out 1, bc BK186.out 2, bc BK186.out 3, bc BK186.out 4⟩ (fun hHeld => ?_)
            clear hK K
            refine nz_ 39 ?_
            refine py_ 3 40 (bA 32 15) HT_.out ?_
            refine py_ 4 41 (bA 32 31) HT_.out ?_
            refine py_ 5 42 (bA 32 63) HT_.out ?_
            refine py_ 6 43 (bA 32 127) HT_.out ?_
            refine py_ 7 44 (bA 32 255) HT_.out ?_
            refine pw_ 8 45 (bA 32 511) HT_.out ?_
            refine pw_ 9 46 (bA 32 1023) HT_.out ?_
            refine pw_ 10 47 (bA 32 2047) HT_.out ?_
            refine pw_ 11 48 (bA 32 4095) HT_.out ?_
            refine pw_ 12 49 (bA 32 8191) HT_.out ?_
            refine pw_ 13 50 (bA 32 16383) HT_.out ?_
            refine pw_ 14 51 (bA 32 32767) HT_.out ?_
            refine pw_ 15 52 (bA 32 65535) HT_.out ?_
            refine pw_ 16 53 (bA 32 131071) HT_.out ?_
            refine pw_ 17 54 (bA 32 262143) HT_.out ?_
            refine py_ 18 55 (bA 32 524287) HT_.out ?_
            refine py_ 19 56 (bA 32 1048575) HT_.out ?_
            refine py_ 20 57 (bA 32 2097151) HT_.out ?_
            refine py_ 21 58 (bA 32 4194303) HT_.out ?_
            refine ty_ 22 59 (bA 32 8388607) HT_.out HW_.out hHeld ?_
            refine oz_ 23 60 (bA 32 16777215) HT_.out (fun K hK => ?_)
            refine goes_ Tryz.func42 (by kernel_rfl) rfl #[.slice A185_4 ((qT l0_2 x3_2).f4).length c185_4] (by rfl) rfl rfl mz ?_
            with_reducible refine (sacristyref10_packs.calls k2 _ _ ((qT l0_2 x3_2).f4) true _ ?side1 ?side2 A37.out).mono ?_
            (case side1 => repeat (first | exact (Kd.C_below HR185_4.out (bs2 HB.out GE183.out GE186.out)) | (with_reducible refine Kd.C_alloc ?_ _) | (with_reducible refine Kd.C_drewN ?_ _) | (with_reducible refine Kd.C_drew ?_)))
            (case side2 => exact HC185_4.out)
            rintro e w' ⟨rfl, ⟨nd, rfl⟩⟩
            refine ⟨_, rfl, ?_⟩
            refine hK.out _ _ ⟨bc BK186.out 0, bc BK186.out 1, bc BK186.out 2, bc BK186.out 3, bc BK186.out 4⟩ (fun hHeld => ?_)
            clear hK K
            refine nz_ 60 ?_
            refine py_ 24 61 (bA 32 33554431) HT_.out ?_
            refine py_ 25 62 (bA 32 67108863) HT_.out ?_
            refine py_ 26 63 (bA 32 134217727) HT_.out ?_
            refine py_ 27 64 (bA 32 268435455) HT_.out ?_
            refine ty_ 28 65 (bA 32 536870911) HT_.out HW_.out hHeld ?_
            refine oz_ 29 66 (bA 32 1073741823) HT_.out (fun K hK => ?_)
            refine goes_ Tryz.func43 (by kernel_rfl) rfl #[.slice A185_3 ((qT l0_2 x3_2).f3).length c185_3] (by rfl) rfl rfl mz ?_
            with_reducible refine (q9_Right.calls k2 _ _ ((qT l0_2 x3_2).f3) t192 _ ?side1 ?side2 A39.out).mono ?_
            (case side1 => repeat (first | exact (Kd.C_below HR185_3.out (bs2 HB.out GE183.out GE186.out)) | (with_reducible refine Kd.C_alloc ?_ _) | (with_reducible refine Kd.C_drewN ?_ _) | (with_reducible refine Kd.C_drew ?_)))
            (case side2 => exact HC185_3.out)
            rintro e w42 ⟨rfl, hb⟩
            refine ⟨_, rfl, ?_⟩
            have n0_ := am (blk_below (g := gb183) (o := .cells #[.int .i64 a0_0, .slice A0_1 l0_1.length c0_1, .slice (some ad185) l0_2.length c0_2] 25 (0, 0)) (kz BK183.out) hb)
            have n1_ := am (blk_below (g := gb186) (o := .cells #[.string ((qT l0_2 x3_2).f0), .bool ((qT l0_2 x3_2).f1), .string ((qT l0_2 x3_2).f2), .slice A185_3 ((qT l0_2 x3_2).f3).length c185_3, .slice A185_4 ((qT l0_2 x3_2).f4).length c185_4] 39 (0, 0)) (kz BK186.out) hb)
            have n2_ := am (qW (bs2 HB.out GE183.out GE186.out) hb)
            clear BK183
            clear BK186
            clear HB
            have BK183 := n0_
            have BK186 := n1_
            have HB := n2_
            clear n0_ n1_ n2_
            (try clear hb)
            (try clear hb2)
            (try clear hk)
            (try clear hi)
            refine hK.out _ _ ⟨bc BK186.out 0, bc BK186.out 1, bc BK186.out 2, bc BK186.out 3, bc BK186.out 4⟩ (fun hHeld => ?_)
            clear hK K
            refine nz_ 66 ?_
            refine py_ 30 67 (bA 32 2147483647) HT_.out ?_
            refine py_ 31 68 (bA 32 4294967295) HT_.out ?_
            refine done_ (done_of HT_.out (by kernel_rfl)) ?_
            try go_wp2
            go_meet
            case rel => exact ⟨_, (!t192), (ez), H', ⟨by have := HJ1.out; have := HK2.out; first | omega | exact Nat.le_refl _⟩, ⟨kz BK183.out⟩, ⟨kz BK186.out⟩, ⟨bs2 HB.out GE183.out GE186.out⟩⟩
           ·replace c38 := Bool.eq_false_iff.mpr c38
            subst c38
            have H1 : (sacristyref10_Right.j2 k2 x3_2 true a0_0 l0_1 l0_2 ((qT l0_2 x3_2).f0) ((qT l0_2 x3_2).f1) ((qT l0_2 x3_2).f2) ((qT l0_2 x3_2).f3) ((qT l0_2 x3_2).f4)) = some r := by rw [if_neg (show ¬ (false = true) by decide)] at H; exact H
            clear H
            have H := H1
            clear H1
            have H' := am H
            clear H
            try go_wp2
            have n0_ : Asd ((((((w17.setCell ⟨gb186, 0, none⟩ (.string ((qT l0_2 x3_2).f0))).setCell ⟨gb186, 1, none⟩ (.bool ((qT l0_2 x3_2).f1))).setCell ⟨gb186, 2, none⟩ (.string ((qT l0_2 x3_2).f2))).setCell ⟨gb186, 3, none⟩ (.slice A185_3 ((qT l0_2 x3_2).f3).length c185_3)).setCell ⟨gb186, 4, none⟩ (.slice A185_4 ((qT l0_2 x3_2).f4).length c185_4)).heap[gb183]? = some (.cells #[.int .i64 a0_0, .slice A0_1 l0_1.length c0_1, .slice (some ad185) l0_2.length c0_2] 25 (0, 0))) := ⟨by exact fz BK183.out NB183_186.out⟩
            have n1_ : Asd ((((((w17.setCell ⟨gb186, 0, none⟩ (.string ((qT l0_2 x3_2).f0))).setCell ⟨gb186, 1, none⟩ (.bool ((qT l0_2 x3_2).f1))).setCell ⟨gb186, 2, none⟩ (.string ((qT l0_2 x3_2).f2))).setCell ⟨gb186, 3, none⟩ (.slice A185_3 ((qT l0_2 x3_2).f3).length c185_3)).setCell ⟨gb186, 4, none⟩ (.slice A185_4 ((qT l0_2 x3_2).f4).length c185_4)).heap[gb186]? = some (.cells #[.string ((qT l0_2 x3_2).f0), .bool ((qT l0_2 x3_2).f1), .string ((qT l0_2 x3_2).f2), .slice A185_3 ((qT l0_2 x3_2).f3).length c185_3, .slice A185_4 ((qT l0_2 x3_2).f4).length c185_4] 39 (0, 0))) := ⟨by (with_reducible repeat (first | refine qN ?_ _ | refine qd ?_ | refine qa ?_ _)); refine blk_put (cs := #[.string ((qT l0_2 x3_2).f0), .bool ((qT l0_2 x3_2).f1), .string ((qT l0_2 x3_2).f2), .slice A185_3 ((qT l0_2 x3_2).f3).length c185_3, .slice none 0 0]) ?_ 4 _ rfl; (with_reducible repeat (first | refine qN ?_ _ | refine qd ?_ | refine qa ?_ _)); refine blk_put (cs := #[.string ((qT l0_2 x3_2).f0), .bool ((qT l0_2 x3_2).f1), .string ((qT l0_2 x3_2).f2), .slice none 0 0, .slice none 0 0]) ?_ 3 _ rfl; (with_reducible repeat (first | refine qN ?_ _ | refine qd ?_ | refine qa ?_ _)); refine blk_put (cs := #[.string ((qT l0_2 x3_2).f0), .bool ((qT l0_2 x3_2).f1), .string (⟨#[]⟩ : ByteArray), .slice none 0 0, .slice none 0 0]) ?_ 2 _ rfl; (with_reducible repeat (first | refine qN ?_ _ | refine qd ?_ | refine qa ?_ _)); refine blk_put (cs := #[.string ((qT l0_2 x3_2).f0), .bool false, .string (⟨#[]⟩ : ByteArray), .slice none 0 0, .slice none 0 0]) ?_ 1 _ rfl; (with_reducible repeat (first | refine qN ?_ _ | refine qd ?_ | refine qa ?_ _)); refine blk_put (cs := #[.string (⟨#[]⟩ : ByteArray), .bool false, .string (⟨#[]⟩ : ByteArray), .slice none 0 0, .slice none 0 0]) ?_ 0 _ rfl; (with_reducible repeat (first | refine qN ?_ _ | refine qd ?_ | refine qa ?_ _)); exact BK186.out⟩
            have n2_ : Asd (Below w.heap.size w (((((w17.setCell ⟨gb186, 0, none⟩ (.string ((qT l0_2 x3_2).f0))).setCell ⟨gb186, 1, none⟩ (.bool ((qT l0_2 x3_2).f1))).setCell ⟨gb186, 2, none⟩ (.string ((qT l0_2 x3_2).f2))).setCell ⟨gb186, 3, none⟩ (.slice A185_3 ((qT l0_2 x3_2).f3).length c185_3)).setCell ⟨gb186, 4, none⟩ (.slice A185_4 ((qT l0_2 x3_2).f4).length c185_4))) := ⟨bs2 HB.out GE183.out GE186.out⟩
            (try clear BK183)
            (try clear BK186)
            (try clear HB)
            generalize (((((w17.setCell ⟨gb186, 0, none⟩ (.string ((qT l0_2 x3_2).f0))).setCell ⟨gb186, 1, none⟩ (.bool ((qT l0_2 x3_2).f1))).setCell ⟨gb186, 2, none⟩ (.string ((qT l0_2 x3_2).f2))).setCell ⟨gb186, 3, none⟩ (.slice A185_3 ((qT l0_2 x3_2).f3).length c185_3)).setCell ⟨gb186, 4, none⟩ (.slice A185_4 ((qT l0_2 x3_2).f4).length c185_4)) = w43 at n0_ n1_ n2_ ⊢
            have BK183 := n0_
            have BK186 := n1_
            have HB := n2_
            clear n0_ n1_ n2_
            have n0_ := am (qd BK183.out)
            have n1_ := am (qd BK186.out)
            have n2_ := am (bd1 HB.out)
            clear BK183
            clear BK186
            clear HB
            have BK183 := n0_
            have BK186 := n1_
            have HB := n2_
            clear n0_ n1_ n2_
            refine start_ (n := 32) (S := fun w' => w'.cell? ⟨gb186, 0, none⟩ = some (.string ((qT l0_2 x3_2).f0)) /\ w'.cell? ⟨gb186, 1, none⟩ = some (.bool ((qT l0_2 x3_2).f1)) /\ w'.cell? ⟨gb186, 2, none⟩ = some (.string ((qT l0_2 x3_2).f2)) /\ w'.cell? ⟨gb186, 3, none⟩ = some (.slice A185_3 ((qT l0_2 x3_2).f3).length c185_3) /\ w'.cell? ⟨gb186, 4, none⟩ = some (.slice A185_4 ((qT l0_2 x3_2).f4).length c185_4)) (ds := []) (bA 32 0) (by kernel_rfl) rfl rfl ⟨bc BK186.out 0, bc BK186.out 1, bc BK186.out 2, bc BK186.out 3, bc BK186.out 4⟩ (fun hHeld => ?_); refine with_tabW sacristyref10_Right.tab7 sacristyref10_Right.bits7 (fun HT_ HW_ => ?_)
            generalize w43.drew = w44 at BK183 BK186 HB hHeld ⊢
            refine py_ 0 37 (bA 32 1) HT_.out ?_
            refine ty_ 1 38 (bA 32 3) HT_.out HW_.out hHeld ?_
            refine oz_ 2 39 (bA 32 7) HT_.out (fun K hK => ?_)
            refine goes_ Tryz.func15 (by kernel_rfl) rfl #[.string ((qT l0_2 x3_2).f0)] (by rfl) rfl rfl mz ?_
            with_reducible refine (sacristyref10_Named.calls k2 ((qT l0_2 x3_2).f0) true _ A20.out).mono ?_
            rintro e w' ⟨rfl, ⟨nd, rfl⟩⟩
            refine ⟨_, rfl, ?_⟩
            refine hK.out _ _ ⟨bc BK186.out 0, bc BK186.out 1, bc BK186.out 2, bc BK186.out 3, bc BK186.out 4⟩ (fun hHeld => ?_)
            clear hK K
            refine nz_ 39 ?_
            refine py_ 3 40 (bA 32 15) HT_.out ?_
            refine py_ 4 41 (bA 32 31) HT_.out ?_
            refine py_ 5 42 (bA 32 63) HT_.out ?_
            refine py_ 6 43 (bA 32 127) HT_.out ?_
            refine py_ 7 44 (bA 32 255) HT_.out ?_
            refine pw_ 8 45 (bA 32 511) HT_.out ?_
            refine pw_ 9 46 (bA 32 1023) HT_.out ?_
            refine pw_ 10 47 (bA 32 2047) HT_.out ?_
            refine pw_ 11 48 (bA 32 4095) HT_.out ?_
            refine pw_ 12 49 (bA 32 8191) HT_.out ?_
            refine pw_ 13 50 (bA 32 16383) HT_.out ?_
            refine pw_ 14 51 (bA 32 32767) HT_.out ?_
            refine pw_ 15 52 (bA 32 65535) HT_.out ?_
            refine pw_ 16 53 (bA 32 131071) HT_.out ?_
            refine pw_ 17 54 (bA 32 262143) HT_.out ?_
            refine py_ 18 55 (bA 32 524287) HT_.out ?_
            refine py_ 19 56 (bA 32 1048575) HT_.out ?_
            refine py_ 20 57 (bA 32 2097151) HT_.out ?_
            refine py_ 21 58 (bA 32 4194303) HT_.out ?_
            refine ty_ 22 59 (bA 32 8388607) HT_.out HW_.out hHeld ?_
            refine oz_ 23 60 (bA 32 16777215) HT_.out (fun K hK => ?_)
            refine goes_ Tryz.func42 (by kernel_rfl) rfl #[.slice A185_4 ((qT l0_2 x3_2).f4).length c185_4] (by rfl) rfl rfl mz ?_
            with_reducible refine (sacristyref10_packs.calls k2 _ _ ((qT l0_2 x3_2).f4) false _ ?side1 ?side2 A37.out).mono ?_
            (case side1 => repeat (first | exact (Kd.C_below HR185_4.out (bs2 HB.out GE183.out GE186.out)) | (with_reducible refine Kd.C_alloc ?_ _) | (with_reducible refine Kd.C_drewN ?_ _) | (with_reducible refine Kd.C_drew ?_)))
            (case side2 => exact HC185_4.out)
            rintro e w' ⟨rfl, ⟨nd, rfl⟩⟩
            refine ⟨_, rfl, ?_⟩
            refine hK.out _ _ ⟨bc BK186.out 0, bc BK186.out 1, bc BK186.out 2, bc BK186.out 3, bc BK186.out 4⟩ (fun hHeld => ?_)
            clear hK K
            refine nz_ 60 ?_
            refine py_ 24 61 (bA 32 33554431) HT_.out ?_
            refine py_ 25 62 (bA 32 67108863) HT_.out ?_
            refine py_ 26 63 (bA 32 134217727) HT_.out ?_
            refine pw_ 27 64 (bA 32 268435455) HT_.out ?_
            refine pw_ 28 65 (bA 32 536870911) HT_.out ?_
            refine pw_ 29 66 (bA 32 1073741823) HT_.out ?_
            refine pw_ 30 67 (bA 32 2147483647) HT_.out ?_
            refine py_ 31 68 (bA 32 4294967295) HT_.out ?_
            refine done_ (done_of HT_.out (by kernel_rfl)) ?_
            try go_wp2
            go_meet
            case rel => exact ⟨_, (true), (ez), H', ⟨by have := HJ1.out; have := HK2.out; first | omega | exact Nat.le_refl _⟩, ⟨kz BK183.out⟩, ⟨kz BK186.out⟩, ⟨bs2 HB.out GE183.out GE186.out⟩⟩
         ·replace c21 := Bool.eq_false_iff.mpr c21
          subst c21
          have H1 : (sacristyref10_Right.j2 k2 x3_2 true a0_0 l0_1 l0_2 ((qT l0_2 x3_2).f0) ((qT l0_2 x3_2).f1) ((qT l0_2 x3_2).f2) ((qT l0_2 x3_2).f3) ((qT l0_2 x3_2).f4)) = some r := by rw [if_neg (show ¬ (false = true) by decide)] at H; exact H
          clear H
          have H := H1
          clear H1
          have H' := am H
          clear H
          try go_wp2
          have n0_ : Asd ((((((w17.setCell ⟨gb186, 0, none⟩ (.string ((qT l0_2 x3_2).f0))).setCell ⟨gb186, 1, none⟩ (.bool ((qT l0_2 x3_2).f1))).setCell ⟨gb186, 2, none⟩ (.string ((qT l0_2 x3_2).f2))).setCell ⟨gb186, 3, none⟩ (.slice A185_3 ((qT l0_2 x3_2).f3).length c185_3)).setCell ⟨gb186, 4, none⟩ (.slice A185_4 ((qT l0_2 x3_2).f4).length c185_4)).heap[gb183]? = some (.cells #[.int .i64 a0_0, .slice A0_1 l0_1.length c0_1, .slice (some ad185) l0_2.length c0_2] 25 (0, 0))) := ⟨by exact fz BK183.out NB183_186.out⟩
          have n1_ : Asd ((((((w17.setCell ⟨gb186, 0, none⟩ (.string ((qT l0_2 x3_2).f0))).setCell ⟨gb186, 1, none⟩ (.bool ((qT l0_2 x3_2).f1))).setCell ⟨gb186, 2, none⟩ (.string ((qT l0_2 x3_2).f2))).setCell ⟨gb186, 3, none⟩ (.slice A185_3 ((qT l0_2 x3_2).f3).length c185_3)).setCell ⟨gb186, 4, none⟩ (.slice A185_4 ((qT l0_2 x3_2).f4).length c185_4)).heap[gb186]? = some (.cells #[.string ((qT l0_2 x3_2).f0), .bool ((qT l0_2 x3_2).f1), .string ((qT l0_2 x3_2).f2), .slice A185_3 ((qT l0_2 x3_2).f3).length c185_3, .slice A185_4 ((qT l0_2 x3_2).f4).length c185_4] 39 (0, 0))) := ⟨by (with_reducible repeat (first | refine qN ?_ _ | refine qd ?_ | refine qa ?_ _)); refine blk_put (cs := #[.string ((qT l0_2 x3_2).f0), .bool ((qT l0_2 x3_2).f1), .string ((qT l0_2 x3_2).f2), .slice A185_3 ((qT l0_2 x3_2).f3).length c185_3, .slice none 0 0]) ?_ 4 _ rfl; (with_reducible repeat (first | refine qN ?_ _ | refine qd ?_ | refine qa ?_ _)); refine blk_put (cs := #[.string ((qT l0_2 x3_2).f0), .bool ((qT l0_2 x3_2).f1), .string ((qT l0_2 x3_2).f2), .slice none 0 0, .slice none 0 0]) ?_ 3 _ rfl; (with_reducible repeat (first | refine qN ?_ _ | refine qd ?_ | refine qa ?_ _)); refine blk_put (cs := #[.string ((qT l0_2 x3_2).f0), .bool ((qT l0_2 x3_2).f1), .string (⟨#[]⟩ : ByteArray), .slice none 0 0, .slice none 0 0]) ?_ 2 _ rfl; (with_reducible repeat (first | refine qN ?_ _ | refine qd ?_ | refine qa ?_ _)); refine blk_put (cs := #[.string ((qT l0_2 x3_2).f0), .bool false, .string (⟨#[]⟩ : ByteArray), .slice none 0 0, .slice none 0 0]) ?_ 1 _ rfl; (with_reducible repeat (first | refine qN ?_ _ | refine qd ?_ | refine qa ?_ _)); refine blk_put (cs := #[.string (⟨#[]⟩ : ByteArray), .bool false, .string (⟨#[]⟩ : ByteArray), .slice none 0 0, .slice none 0 0]) ?_ 0 _ rfl; (with_reducible repeat (first | refine qN ?_ _ | refine qd ?_ | refine qa ?_ _)); exact BK186.out⟩
          have n2_ : Asd (Below w.heap.size w (((((w17.setCell ⟨gb186, 0, none⟩ (.string ((qT l0_2 x3_2).f0))).setCell ⟨gb186, 1, none⟩ (.bool ((qT l0_2 x3_2).f1))).setCell ⟨gb186, 2, none⟩ (.string ((qT l0_2 x3_2).f2))).setCell ⟨gb186, 3, none⟩ (.slice A185_3 ((qT l0_2 x3_2).f3).length c185_3)).setCell ⟨gb186, 4, none⟩ (.slice A185_4 ((qT l0_2 x3_2).f4).length c185_4))) := ⟨bs2 HB.out GE183.out GE186.out⟩
          (try clear BK183)
          (try clear BK186)
          (try clear HB)
          generalize (((((w17.setCell ⟨gb186, 0, none⟩ (.string ((qT l0_2 x3_2).f0))).setCell ⟨gb186, 1, none⟩ (.bool ((qT l0_2 x3_2).f1))).setCell ⟨gb186, 2, none⟩ (.string ((qT l0_2 x3_2).f2))).setCell ⟨gb186, 3, none⟩ (.slice A185_3 ((qT l0_2 x3_2).f3).length c185_3)).setCell ⟨gb186, 4, none⟩ (.slice A185_4 ((qT l0_2 x3_2).f4).length c185_4)) = w45 at n0_ n1_ n2_ ⊢
          have BK183 := n0_
          have BK186 := n1_
          have HB := n2_
          clear n0_ n1_ n2_
          have n0_ := am (qd BK183.out)
          have n1_ := am (qd BK186.out)
          have n2_ := am (bd1 HB.out)
          clear BK183
          clear BK186
          clear HB
          have BK183 := n0_
          have BK186 := n1_
          have HB := n2_
          clear n0_ n1_ n2_
          refine start_ (n := 32) (S := fun w' => w'.cell? ⟨gb186, 0, none⟩ = some (.string ((qT l0_2 x3_2).f0)) /\ w'.cell? ⟨gb186, 1, none⟩ = some (.bool ((qT l0_2 x3_2).f1)) /\ w'.cell? ⟨gb186, 2, none⟩ = some (.string ((qT l0_2 x3_2).f2)) /\ w'.cell? ⟨gb186, 3, none⟩ = some (.slice A185_3 ((qT l0_2 x3_2).f3).length c185_3) /\ w'.cell? ⟨gb186, 4, none⟩ = some (.slice A185_4 ((qT l0_2 x3_2).f4).length c185_4)) (ds := []) (bA 32 0) (by kernel_rfl) rfl rfl ⟨bc BK186.out 0, bc BK186.out 1, bc BK186.out 2, bc BK186.out 3, bc BK186.out 4⟩ (fun hHeld => ?_); refine with_tabW sacristyref10_Right.tab7 sacristyref10_Right.bits7 (fun HT_ HW_ => ?_)
          generalize w45.drew = w46 at BK183 BK186 HB hHeld ⊢
          refine py_ 0 37 (bA 32 1) HT_.out ?_
          refine ty_ 1 38 (bA 32 3) HT_.out HW_.out hHeld ?_
          refine oz_ 2 39 (bA 32 7) HT_.out (fun K hK => ?_)
          refine goes_ Tryz.func15 (by kernel_rfl) rfl #[.string ((qT l0_2 x3_2).f0)] (by rfl) rfl rfl mz ?_
          with_reducible refine (sacristyref10_Named.calls k2 ((qT l0_2 x3_2).f0) false _ A20.out).mono ?_
          rintro e w' ⟨rfl, ⟨nd, rfl⟩⟩
          refine ⟨_, rfl, ?_⟩
          refine hK.out _ _ ⟨bc BK186.out 0, bc BK186.out 1, bc BK186.out 2, bc BK186.out 3, bc BK186.out 4⟩ (fun hHeld => ?_)
          clear hK K
          refine nz_ 39 ?_
          refine py_ 3 40 (bA 32 15) HT_.out ?_
          refine py_ 4 41 (bA 32 31) HT_.out ?_
          refine pw_ 5 42 (bA 32 63) HT_.out ?_
          refine pw_ 6 43 (bA 32 127) HT_.out ?_
          refine pw_ 7 44 (bA 32 255) HT_.out ?_
          refine pw_ 8 45 (bA 32 511) HT_.out ?_
          refine pw_ 9 46 (bA 32 1023) HT_.out ?_
          refine pw_ 10 47 (bA 32 2047) HT_.out ?_
          refine pw_ 11 48 (bA 32 4095) HT_.out ?_
          refine pw_ 12 49 (bA 32 8191) HT_.out ?_
          refine pw_ 13 50 (bA 32 16383) HT_.out ?_
          refine pw_ 14 51 (bA 32 32767) HT_.out ?_
          refine pw_ 15 52 (bA 32 65535) HT_.out ?_
          refine pw_ 16 53 (bA 32 131071) HT_.out ?_
          refine pw_ 17 54 (bA 32 262143) HT_.out ?_
          refine pw_ 18 55 (bA 32 524287) HT_.out ?_
          refine py_ 19 56 (bA 32 1048575) HT_.out ?_
          refine py_ 20 57 (bA 32 2097151) HT_.out ?_
          refine pw_ 21 58 (bA 32 4194303) HT_.out ?_
          refine pw_ 22 59 (bA 32 8388607) HT_.out ?_
          refine pw_ 23 60 (bA 32 16777215) HT_.out ?_
          refine pw_ 24 61 (bA 32 33554431) HT_.out ?_
          refine py_ 25 62 (bA 32 67108863) HT_.out ?_
          refine py_ 26 63 (bA 32 134217727) HT_.out ?_
          refine pw_ 27 64 (bA 32 268435455) HT_.out ?_
          refine pw_ 28 65 (bA 32 536870911) HT_.out ?_
          refine pw_ 29 66 (bA 32 1073741823) HT_.out ?_
          refine pw_ 30 67 (bA 32 2147483647) HT_.out ?_
          refine py_ 31 68 (bA 32 4294967295) HT_.out ?_
          refine done_ (done_of HT_.out (by kernel_rfl)) ?_
          try go_wp2
          go_meet
          case rel => exact ⟨_, (true), (ez), H', ⟨by have := HJ1.out; have := HK2.out; first | omega | exact Nat.le_refl _⟩, ⟨kz BK183.out⟩, ⟨kz BK186.out⟩, ⟨bs2 HB.out GE183.out GE186.out⟩⟩
        case rest =>
         clear HC15
         obtain ⟨kq, x68_14, rfl, HA, HJ14, BK183, BK186, HB⟩ := hcut
         cases kq with
         | zero => exact absurd HA.out (by simp [sacristyref10_Right.j2])
         | succ kj14 =>
          have H := HA.out
          clear HA
          simp only [sacristyref10_Right.j2] at H
          by_cases c47 : x68_14 = true
          ·subst c47
           have H1 : (some false) = some r := by rw [if_pos rfl] at H; exact H
           clear H
           have H := H1
           clear H1
           obtain rfl := Option.some.inj H
           go_wp2
           go_ret
           exact ⟨ey, bs2 HB.out GE183.out GE186.out⟩
          ·replace c47 := Bool.eq_false_iff.mpr c47
           subst c47
           have H1 : ((q9_Named.f kj14 ((qT l0_2 x3_2).f2)).bind fun t193 => (if t193 = true then (if 0 < (((qT l0_2 x3_2).f2).size : Int) then (if (bt ((qT l0_2 x3_2).f2) 0) = 104 then (sacristyref10_Right.l0 kj14 (wrap64 (x3_2 + 1)) a0_0 l0_1 l0_2) else (some false)) else (none)) else (some false))) = some r := by rw [if_neg (show ¬ (false = true) by decide)] at H; exact H
           clear H
           have H := H1
           clear H1
           replace H := Option.bind_eq_some_iff.mp H
           obtain ⟨t193, A480, H⟩ := H
           replace H : (if t193 = true then (if 0 < (((qT l0_2 x3_2).f2).size : Int) then (if (bt ((qT l0_2 x3_2).f2) 0) = 104 then (sacristyref10_Right.l0 kj14 (wrap64 (x3_2 + 1)) a0_0 l0_1 l0_2) else (some false)) else (none)) else (some false)) = some r := H
           have A48 := am A480
           by_cases c49 : t193 = true
           ·subst c49
            have H1 : (if 0 < (((qT l0_2 x3_2).f2).size : Int) then (if (bt ((qT l0_2 x3_2).f2) 0) = 104 then (sacristyref10_Right.l0 kj14 (wrap64 (x3_2 + 1)) a0_0 l0_1 l0_2) else (some false)) else (none)) = some r := by rw [if_pos rfl] at H; exact H
            clear H
            have H := H1
            clear H1
            by_cases c50 : 0 < (((qT l0_2 x3_2).f2).size : Int)
            ·rw [if_pos c50] at H
             have c50b0 : decide (0 < (((qT l0_2 x3_2).f2).size : Int)) = true := dt c50
             have c50b1 : decide (0 < ((qT l0_2 x3_2).f2).size) = true := dt (by omega)
             clear c50
             by_cases c52 : (bt ((qT l0_2 x3_2).f2) 0) = 104
             ·rw [if_pos c52] at H
              have c52b0 : ((bt ((qT l0_2 x3_2).f2) 0) == 104) = true := beq_iff_eq.mpr c52
              have c52b1 : ((bt ((qT l0_2 x3_2).f2) 0) != 104) = false := bne_eq_false_iff_eq.mpr c52
              clear c52
              have H' := am H
              clear H
              have hnb53 := NB186_183.out
              have hnc53 := NB183_186.out
              have hcz54_0 : wc.cell? ⟨gb186, 0, none⟩ = some (.string ((qT l0_2 x3_2).f0)) := bc BK186.out 0
              have hcz54_1 : wc.cell? ⟨gb186, 1, none⟩ = some (.bool ((qT l0_2 x3_2).f1)) := bc BK186.out 1
              have hcz54_2 : wc.cell? ⟨gb186, 2, none⟩ = some (.string ((qT l0_2 x3_2).f2)) := bc BK186.out 2
              have hcz54_3 : wc.cell? ⟨gb186, 3, none⟩ = some (.slice A185_3 ((qT l0_2 x3_2).f3).length c185_3) := bc BK186.out 3
              have hcz54_4 : wc.cell? ⟨gb186, 4, none⟩ = some (.slice A185_4 ((qT l0_2 x3_2).f4).length c185_4) := bc BK186.out 4
              have hfz54_0 := qf BK186.out 0
              have hfz54_1 := qf BK186.out 1
              have hfz54_2 := qf BK186.out 2
              have hfz54_3 := qf BK186.out 3
              have hfz54_4 := qf BK186.out 4
              go_wp2_with (first | ((with_reducible refine gate_callee (f := 44) rfl ?_); refine goesL_ (some 71) rfl rfl Tryz.func44 (by kernel_rfl) rfl #[.string ((qT l0_2 x3_2).f2)] rfl mz ?_; (with_reducible refine (q9_Named.calls kj14 ((qT l0_2 x3_2).f2) true _ A48.out).mono ?_); rintro e w55 ⟨rfl, hb⟩; refine ⟨_, rfl, ?_⟩; have n0_ := am (blk_below (g := gb183) (o := .cells #[.int .i64 a0_0, .slice A0_1 l0_1.length c0_1, .slice (some ad185) l0_2.length c0_2] 25 (0, 0)) (kz BK183.out) hb); have n1_ := am (blk_below (g := gb186) (o := .cells #[.string ((qT l0_2 x3_2).f0), .bool ((qT l0_2 x3_2).f1), .string ((qT l0_2 x3_2).f2), .slice A185_3 ((qT l0_2 x3_2).f3).length c185_3, .slice A185_4 ((qT l0_2 x3_2).f4).length c185_4] 39 (0, 0)) (kz BK186.out) hb); have n2_ := am (qW (bs2 HB.out GE183.out GE186.out) hb); clear BK183; clear BK186; clear HB; have BK183 := n0_; have BK186 := n1_; have HB := n2_; clear n0_ n1_ n2_; (try clear hb); (try clear hb2); (try clear hk); (try clear hi); have hcz56_0 : w55.cell? ⟨gb186, 0, none⟩ = some (.string ((qT l0_2 x3_2).f0)) := bc BK186.out 0; have hcz56_1 : w55.cell? ⟨gb186, 1, none⟩ = some (.bool ((qT l0_2 x3_2).f1)) := bc BK186.out 1; have hcz56_2 : w55.cell? ⟨gb186, 2, none⟩ = some (.string ((qT l0_2 x3_2).f2)) := bc BK186.out 2; have hcz56_3 : w55.cell? ⟨gb186, 3, none⟩ = some (.slice A185_3 ((qT l0_2 x3_2).f3).length c185_3) := bc BK186.out 3; have hcz56_4 : w55.cell? ⟨gb186, 4, none⟩ = some (.slice A185_4 ((qT l0_2 x3_2).f4).length c185_4) := bc BK186.out 4; have hfz56_0 := qf BK186.out 0; have hfz56_1 := qf BK186.out 1; have hfz56_2 := qf BK186.out 2; have hfz56_3 := qf BK186.out 3; have hfz56_4 := qf BK186.out 4; have p51 : 0 <= (0 : Int) := (by omega); have q51 : 0 < ((qT l0_2 x3_2).f2).size := (by have : (0 : Int) < (((qT l0_2 x3_2).f2).size : Int) := dz; omega); have hx51 : ∀ h : 0 < ((qT l0_2 x3_2).f2).size, ((((qT l0_2 x3_2).f2)[0]'h).toNat : Int) = bt ((qT l0_2 x3_2).f2) 0 := bt_at ((qT l0_2 x3_2).f2) 0; clear p51; have qi51 : (0 < (((qT l0_2 x3_2).f2).size : Int)) = True := eq_true (dz); replace q51 := eq_true q51))
              go_roundg kj14
              case measure => have := HJ1.out; have := HK2.out; have := HJ14.out; omega
              case rel => exact ⟨(wrap64 (x3_2 + 1)), (ez), H', ⟨by have := HJ1.out; have := HK2.out; have := HJ14.out; omega⟩, ⟨kz BK183.out⟩, ⟨bs2 HB.out GE183.out GE186.out⟩⟩
             ·rw [if_neg c52] at H
              have c52b0 : ((bt ((qT l0_2 x3_2).f2) 0) == 104) = false := beq_eq_false_iff_ne.mpr c52
              have c52b1 : ((bt ((qT l0_2 x3_2).f2) 0) != 104) = true := bne_iff_ne.mpr c52
              obtain rfl := Option.some.inj H
              have hnb57 := NB186_183.out
              have hnc57 := NB183_186.out
              have hcz58_0 : wc.cell? ⟨gb186, 0, none⟩ = some (.string ((qT l0_2 x3_2).f0)) := bc BK186.out 0
              have hcz58_1 : wc.cell? ⟨gb186, 1, none⟩ = some (.bool ((qT l0_2 x3_2).f1)) := bc BK186.out 1
              have hcz58_2 : wc.cell? ⟨gb186, 2, none⟩ = some (.string ((qT l0_2 x3_2).f2)) := bc BK186.out 2
              have hcz58_3 : wc.cell? ⟨gb186, 3, none⟩ = some (.slice A185_3 ((qT l0_2 x3_2).f3).length c185_3) := bc BK186.out 3
              have hcz58_4 : wc.cell? ⟨gb186, 4, none⟩ = some (.slice A185_4 ((qT l0_2 x3_2).f4).length c185_4) := bc BK186.out 4
              have hfz58_0 := qf BK186.out 0
              have hfz58_1 := qf BK186.out 1
              have hfz58_2 := qf BK186.out 2
              have hfz58_3 := qf BK186.out 3
              have hfz58_4 := qf BK186.out 4
              go_wp2_with (first | ((with_reducible refine gate_callee (f := 44) rfl ?_); refine goesL_ (some 71) rfl rfl Tryz.func44 (by kernel_rfl) rfl #[.string ((qT l0_2 x3_2).f2)] rfl mz ?_; (with_reducible refine (q9_Named.calls kj14 ((qT l0_2 x3_2).f2) true _ A48.out).mono ?_); rintro e w59 ⟨rfl, hb⟩; refine ⟨_, rfl, ?_⟩; have n0_ := am (blk_below (g := gb183) (o := .cells #[.int .i64 a0_0, .slice A0_1 l0_1.length c0_1, .slice (some ad185) l0_2.length c0_2] 25 (0, 0)) (kz BK183.out) hb); have n1_ := am (blk_below (g := gb186) (o := .cells #[.string ((qT l0_2 x3_2).f0), .bool ((qT l0_2 x3_2).f1), .string ((qT l0_2 x3_2).f2), .slice A185_3 ((qT l0_2 x3_2).f3).length c185_3, .slice A185_4 ((qT l0_2 x3_2).f4).length c185_4] 39 (0, 0)) (kz BK186.out) hb); have n2_ := am (qW (bs2 HB.out GE183.out GE186.out) hb); clear BK183; clear BK186; clear HB; have BK183 := n0_; have BK186 := n1_; have HB := n2_; clear n0_ n1_ n2_; (try clear hb); (try clear hb2); (try clear hk); (try clear hi); have hcz60_0 : w59.cell? ⟨gb186, 0, none⟩ = some (.string ((qT l0_2 x3_2).f0)) := bc BK186.out 0; have hcz60_1 : w59.cell? ⟨gb186, 1, none⟩ = some (.bool ((qT l0_2 x3_2).f1)) := bc BK186.out 1; have hcz60_2 : w59.cell? ⟨gb186, 2, none⟩ = some (.string ((qT l0_2 x3_2).f2)) := bc BK186.out 2; have hcz60_3 : w59.cell? ⟨gb186, 3, none⟩ = some (.slice A185_3 ((qT l0_2 x3_2).f3).length c185_3) := bc BK186.out 3; have hcz60_4 : w59.cell? ⟨gb186, 4, none⟩ = some (.slice A185_4 ((qT l0_2 x3_2).f4).length c185_4) := bc BK186.out 4; have hfz60_0 := qf BK186.out 0; have hfz60_1 := qf BK186.out 1; have hfz60_2 := qf BK186.out 2; have hfz60_3 := qf BK186.out 3; have hfz60_4 := qf BK186.out 4; have p51 : 0 <= (0 : Int) := (by omega); have q51 : 0 < ((qT l0_2 x3_2).f2).size := (by have : (0 : Int) < (((qT l0_2 x3_2).f2).size : Int) := dz; omega); have hx51 : ∀ h : 0 < ((qT l0_2 x3_2).f2).size, ((((qT l0_2 x3_2).f2)[0]'h).toNat : Int) = bt ((qT l0_2 x3_2).f2) 0 := bt_at ((qT l0_2 x3_2).f2) 0; clear p51; have qi51 : (0 < (((qT l0_2 x3_2).f2).size : Int)) = True := eq_true (dz); replace q51 := eq_true q51))
              go_ret
              exact ⟨ey, bs2 HB.out GE183.out GE186.out⟩
            ·rw [if_neg c50] at H
             exact absurd H (by simp)
           ·replace c49 := Bool.eq_false_iff.mpr c49
            subst c49
            have H1 : (some false) = some r := by rw [if_neg (show ¬ (false = true) by decide)] at H; exact H
            clear H
            have H := H1
            clear H1
            obtain rfl := Option.some.inj H
            have hnb61 := NB186_183.out
            have hnc61 := NB183_186.out
            have hcz62_0 : wc.cell? ⟨gb186, 0, none⟩ = some (.string ((qT l0_2 x3_2).f0)) := bc BK186.out 0
            have hcz62_1 : wc.cell? ⟨gb186, 1, none⟩ = some (.bool ((qT l0_2 x3_2).f1)) := bc BK186.out 1
            have hcz62_2 : wc.cell? ⟨gb186, 2, none⟩ = some (.string ((qT l0_2 x3_2).f2)) := bc BK186.out 2
            have hcz62_3 : wc.cell? ⟨gb186, 3, none⟩ = some (.slice A185_3 ((qT l0_2 x3_2).f3).length c185_3) := bc BK186.out 3
            have hcz62_4 : wc.cell? ⟨gb186, 4, none⟩ = some (.slice A185_4 ((qT l0_2 x3_2).f4).length c185_4) := bc BK186.out 4
            have hfz62_0 := qf BK186.out 0
            have hfz62_1 := qf BK186.out 1
            have hfz62_2 := qf BK186.out 2
            have hfz62_3 := qf BK186.out 3
            have hfz62_4 := qf BK186.out 4
            go_wp2_with (first | ((with_reducible refine gate_callee (f := 44) rfl ?_); refine goesL_ (some 71) rfl rfl Tryz.func44 (by kernel_rfl) rfl #[.string ((qT l0_2 x3_2).f2)] rfl mz ?_; (with_reducible refine (q9_Named.calls kj14 ((qT l0_2 x3_2).f2) false _ A48.out).mono ?_); rintro e w63 ⟨rfl, hb⟩; refine ⟨_, rfl, ?_⟩; have n0_ := am (blk_below (g := gb183) (o := .cells #[.int .i64 a0_0, .slice A0_1 l0_1.length c0_1, .slice (some ad185) l0_2.length c0_2] 25 (0, 0)) (kz BK183.out) hb); have n1_ := am (blk_below (g := gb186) (o := .cells #[.string ((qT l0_2 x3_2).f0), .bool ((qT l0_2 x3_2).f1), .string ((qT l0_2 x3_2).f2), .slice A185_3 ((qT l0_2 x3_2).f3).length c185_3, .slice A185_4 ((qT l0_2 x3_2).f4).length c185_4] 39 (0, 0)) (kz BK186.out) hb); have n2_ := am (qW (bs2 HB.out GE183.out GE186.out) hb); clear BK183; clear BK186; clear HB; have BK183 := n0_; have BK186 := n1_; have HB := n2_; clear n0_ n1_ n2_; (try clear hb); (try clear hb2); (try clear hk); (try clear hi)))
            go_ret
            exact ⟨ey, bs2 HB.out GE183.out GE186.out⟩
       ·rw [if_neg c14] at H
        exact absurd H (by simp)
      ·rw [if_neg c13] at H
       have c13b0 : decide (x3_2 < (l0_2.length : Int)) = false := df c13
       clear c13
       obtain rfl := Option.some.inj H
       have hcz64_0 : wr.cell? ⟨gb183, 0, none⟩ = some (.int .i64 a0_0) := bc BK183.out 0
       have hcz64_1 : wr.cell? ⟨gb183, 1, none⟩ = some (.slice A0_1 l0_1.length c0_1) := bc BK183.out 1
       have hcz64_2 : wr.cell? ⟨gb183, 2, none⟩ = some (.slice A0_2 l0_2.length c0_2) := bc BK183.out 2
       have hfz64_0 := qf BK183.out 0
       have hfz64_1 := qf BK183.out 1
       have hfz64_2 := qf BK183.out 2
       go_wp2
       go_ret
       exact ⟨ey, bs1 HB.out GE183.out⟩
end Go.Proofs.YtlfenakgphmepaaGreatDoor.Print
