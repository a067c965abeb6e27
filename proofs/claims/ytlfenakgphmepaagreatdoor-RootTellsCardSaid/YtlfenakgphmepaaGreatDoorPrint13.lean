/- Functions of the program as plain functions, and proofs that the program's calls tell what these tell. Written by a program. -/
import Derived.Test.YtlfenakgphmepaaGreatDoorPrint0
import Derived.Test.YtlfenakgphmepaaGreatDoorPrint9
import Derived.Test.YtlfenakgphmepaaGreatDoorPrint11
import Derived.Test.YtlfenakgphmepaaGreatDoorPrint12
namespace Go.Proofs.YtlfenakgphmepaaGreatDoor.Print
open Go.RowKit YtlfenakgphmepaaGreatDoorW.PrintWords YtlfenakgphmepaaGreatDoorW.PrintLast YtlfenakgphmepaaGreatDoorW.PrintMore YtlfenakgphmepaaGreatDoor.Conv
attribute [local go_sem] max2_int min2_int max_two min_two max_three min_three max_four min_four
set_option linter.unusedVariables false
set_option linter.unusedSimpArgs false
mutual
def q9_Right.l0 : Nat -> List (S83) -> Int -> Option (Bool)
 | 0, _, _ => none
 | k + 1, x0, x3 => if x3 < (x0.length : Int) then (if 0 <= x3 then ((q9_Named.f k ((rd_T83 x0 x3).f0)).bind fun t175 => (if t175 = true then ((q2_Named.f k ((rd_T83 x0 x3).f1)).bind fun t177 => (if t177 = true then (if x3 > 0 then (if 0 <= (wrap64 (x3 - 1)) then (if (wrap64 (x3 - 1)) < (x0.length : Int) then (q9_Right.j1 k x0 x3 (!(Op.bytesLess (((rd_T83 x0 (wrap64 (x3 - 1))).f0).toList) (((rd_T83 x0 x3).f0).toList)))) else (none)) else (none)) else (q9_Right.j1 k x0 x3 false)) else (q9_Right.j1 k x0 x3 true))) else (q9_Right.j1 k x0 x3 true))) else (none)) else (some (decide ((x0.length : Int) <= 64)))
def q9_Right.j1 : Nat -> List (S83) -> Int -> Bool -> Option (Bool)
 | 0, _, _, _ => none
 | k + 1, x0, x3, x44 => if x44 = true then (some false) else (q9_Right.l1 k x0 x3 0)
def q9_Right.l1 : Nat -> List (S83) -> Int -> Int -> Option (Bool)
 | 0, _, _, _ => none
 | k + 1, x0, x3, x4 => if x4 < (x0.length : Int) then (if 0 <= x4 then (if 0 <= x3 then (if x3 < (x0.length : Int) then ((q9_above.f ((rd_T83 x0 x4).f0) ((rd_T83 x0 x3).f0)).bind fun t182 => (if t182 = true then (some false) else (q9_Right.l1 k x0 x3 (wrap64 (x4 + 1))))) else (none)) else (none)) else (none)) else (q9_Right.l0 k x0 (wrap64 (x3 + 1)))
end
def q9_Right.f (k : Nat) (l0 : List (S83)) : Option (Bool) := q9_Right.l0 k l0 0
def q9_Right.T4 : Bool × List (List Nat × List Nat) := (true, [([], []), ([], []), ([0, 1], [0, 1]), ([2], [2]), ([3], [3]), ([4], [4]), ([5], [5]), ([6, 5], [6]), ([7], [7]), ([7], [7]), ([8, 9, 7], [7, 8, 9]), ([10, 7], [7, 10]), ([11, 7], [7, 11]), ([12, 7, 7], [7, 12]), ([13, 7], [7, 13]), ([7, 14], [7, 14]), ([15, 13], [15]), ([16], [16]), ([17, 16], [16, 17]), ([18, 16, 16], [16, 18]), ([19], [19]), ([19], [19]), ([21, 19], [19, 21]), ([20, 22, 19], [19, 20, 22]), ([23, 19], [19, 23]), ([24, 19], [19, 24]), ([19], [19]), ([19], [19]), ([26, 27, 19], [19, 26, 27]), ([28, 19], [19, 28]), ([29, 19], [19, 29]), ([25, 30, 19], [19, 25, 30]), ([19, 31, 16], [16, 19, 31]), ([16, 32], [16, 32])])
def q9_Right.B4 : List Nat := [0, 0, 3, 7, 15, 31, 63, 127, 255, 255, 1023, 2047, 4095, 8191, 16383, 32767, 65535, 131071, 262143, 524287, 1048575, 1048575, 3145727, 8388607, 16777215, 33554431, 1048575, 1048575, 202375167, 470810623, 1007681535, 2147483647, 4294967295, 8589934591]
theorem q9_Right.tab4 : rtab .any (opsOf Tryz.f43 4) = q9_Right.T4 := by kernel_rfl
theorem q9_Right.bits4 : waitsOk q9_Right.T4.2 q9_Right.B4 = true := by kernel_rfl
def q9_Right.T9 : Bool × List (List Nat × List Nat) := (true, [([], []), ([], []), ([0, 1], [0, 1]), ([2], [2]), ([3], [3]), ([], []), ([], []), ([5, 6], [5, 6]), ([7], [7]), ([8], [8]), ([4, 9], [4, 9])])
def q9_Right.B9 : List Nat := [0, 0, 3, 7, 15, 0, 0, 96, 224, 480, 1023]
theorem q9_Right.tab9 : rtab .any (opsOf Tryz.f43 9) = q9_Right.T9 := by kernel_rfl
theorem q9_Right.bits9 : waitsOk q9_Right.T9.2 q9_Right.B9 = true := by kernel_rfl
set_option maxHeartbeats 8000000 in
set_option maxRecDepth 100000 in
theorem q9_Right.calls (k : Nat) (A0 : Option Addr) (c0 : Nat) (l0 : List (S83)) (r : Bool) (w : World) (hr0 : Kd.C k83 w A0 l0.length l0) (hc0 : l0.length <= c0) (h : q9_Right.f k l0 = some r) :
  Calls Tryz.prog 43 #[.slice A0 l0.length c0] w fun e w' => e = .returned (.bool r) /\ Below w.heap.size w w' := by
 have HR0 := am hr0
 have HC0 := am hc0
 clear hr0 hc0
 have HB := am (Below.refl w.heap.size w)
 have H : (q9_Right.l0 k l0 0) = some r := h
 clear h
 have H' := am H
 clear H
 go_enter Tryz.func43, Tryz.ntmps43
 go_wp2
 go_loopg [3] k (fun kq v3 w' => ∃ (x3_1 : Int), v3 = .int .i64 x3_1 /\ Asd (q9_Right.l0 kq l0 x3_1 = some r) /\ Asd (kq <= k) /\ Asd (Below w.heap.size w w'))
 case atStart => exact ⟨(0), (ez), H', ⟨Nat.le_refl _⟩, ⟨bz HB.out⟩⟩
 case round =>
  clear H'
  obtain ⟨x3_1, rfl, HA, HK1, HB⟩ := hrel
  cases gk with
  | zero => exact absurd HA.out (by simp [q9_Right.l0])
  | succ k1 =>
   have H := HA.out
   clear HA
   simp only [q9_Right.l0] at H
   by_cases c2 : x3_1 < (l0.length : Int)
   ·rw [if_pos c2] at H
    have c2b0 : decide (x3_1 < (l0.length : Int)) = true := dt c2
    clear c2
    have HC3 := am H
    clear H
    go_upto_region 4 with (fail)
    go_cut [44] (fun v44 wc => ∃ (kq : Nat) (x44_2 : Bool), v44 = .bool x44_2 /\ Asd (q9_Right.j1 kq l0 x3_1 x44_2 = some r) /\ Asd (kq <= k1) /\ Asd (Below w.heap.size w wc))
    case first =>
     have H := HC3.out
     clear HC3
     by_cases c4 : 0 <= x3_1
     ·rw [if_pos c4] at H
      have c4b0 : decide (0 <= x3_1) = true := dt c4
      clear c4
      (first | rw [c4b0] | (simp only [i64_w, i32_w]; rw [c4b0]) | skip)
      replace H := Option.bind_eq_some_iff.mp H
      obtain ⟨t175, A50, H⟩ := H
      replace H : (if t175 = true then ((q2_Named.f k1 ((rd_T83 l0 x3_1).f1)).bind fun t177 => (if t177 = true then (if x3_1 > 0 then (if 0 <= (wrap64 (x3_1 - 1)) then (if (wrap64 (x3_1 - 1)) < (l0.length : Int) then (q9_Right.j1 k1 l0 x3_1 (!(Op.bytesLess (((rd_T83 l0 (wrap64 (x3_1 - 1))).f0).toList) (((rd_T83 l0 x3_1).f0).toList)))) else (none)) else (none)) else (q9_Right.j1 k1 l0 x3_1 false)) else (q9_Right.j1 k1 l0 x3_1 true))) else (q9_Right.j1 k1 l0 x3_1 true)) = some r := H
      have A5 := am A50
      by_cases c6 : t175 = true
      ·subst c6
       have H1 : ((q2_Named.f k1 ((rd_T83 l0 x3_1).f1)).bind fun t177 => (if t177 = true then (if x3_1 > 0 then (if 0 <= (wrap64 (x3_1 - 1)) then (if (wrap64 (x3_1 - 1)) < (l0.length : Int) then (q9_Right.j1 k1 l0 x3_1 (!(Op.bytesLess (((rd_T83 l0 (wrap64 (x3_1 - 1))).f0).toList) (((rd_T83 l0 x3_1).f0).toList)))) else (none)) else (none)) else (q9_Right.j1 k1 l0 x3_1 false)) else (q9_Right.j1 k1 l0 x3_1 true))) = some r := by rw [if_pos rfl] at H; exact H
       clear H
       have H := H1
       clear H1
       replace H := Option.bind_eq_some_iff.mp H
       obtain ⟨t177, A70, H⟩ := H
       replace H : (if t177 = true then (if x3_1 > 0 then (if 0 <= (wrap64 (x3_1 - 1)) then (if (wrap64 (x3_1 - 1)) < (l0.length : Int) then (q9_Right.j1 k1 l0 x3_1 (!(Op.bytesLess (((rd_T83 l0 (wrap64 (x3_1 - 1))).f0).toList) (((rd_T83 l0 x3_1).f0).toList)))) else (none)) else (none)) else (q9_Right.j1 k1 l0 x3_1 false)) else (q9_Right.j1 k1 l0 x3_1 true)) = some r := H
       have A7 := am A70
       by_cases c8 : t177 = true
       ·subst c8
        have H1 : (if x3_1 > 0 then (if 0 <= (wrap64 (x3_1 - 1)) then (if (wrap64 (x3_1 - 1)) < (l0.length : Int) then (q9_Right.j1 k1 l0 x3_1 (!(Op.bytesLess (((rd_T83 l0 (wrap64 (x3_1 - 1))).f0).toList) (((rd_T83 l0 x3_1).f0).toList)))) else (none)) else (none)) else (q9_Right.j1 k1 l0 x3_1 false)) = some r := by rw [if_pos rfl] at H; exact H
        clear H
        have H := H1
        clear H1
        by_cases c9 : x3_1 > 0
        ·rw [if_pos c9] at H
         have c9b0 : decide (0 < x3_1) = true := dt c9
         clear c9
         obtain ⟨ji10, hji10⟩ : ∃ j_ : Int, (wrap64 (x3_1 - 1)) = j_ := ⟨_, rfl⟩
         replace H : (if 0 <= (ji10) then (if (ji10) < (l0.length : Int) then (q9_Right.j1 k1 l0 x3_1 (!(Op.bytesLess (((rd_T83 l0 (ji10)).f0).toList) (((rd_T83 l0 x3_1).f0).toList)))) else (none)) else (none)) = some r := by first | (rw [hji10] at H; exact H) | (simp only [hji10] at H ⊢; exact H)
         (try rw [hji10] at A5)
         (try rw [hji10] at A7)
         have hji10w : (IntKind.i64.wrap (x3_1 - 1)) = ji10 := (i64_w _).trans hji10
         by_cases c11 : 0 <= (ji10)
         ·rw [if_pos c11] at H
          have c11b0 : decide (0 <= (ji10)) = true := dt c11
          clear c11
          by_cases c12 : (ji10) < (l0.length : Int)
          ·rw [if_pos c12] at H
           have c12b0 : decide ((ji10) < (l0.length : Int)) = true := dt c12
           clear c12
           have H' := am H
           clear H
           try go_wp2
           have n0_ := am (bd1 HB.out)
           clear HB
           have HB := n0_
           clear n0_
           have p174 : 0 <= (x3_1 : Int) := dz
           have q174 : x3_1 < (l0.length : Int) := dz
           obtain ⟨ad174, e174, hx174_0, hx174_1⟩ := at_T83 HR0.out x3_1 p174 q174
           have hw174_1 := hx174_1
           have hw174_0 := hx174_0
           cases e174
           replace hx174_0 := hZc HB.out hx174_0
           replace hx174_1 := hZc HB.out hx174_1
           replace p174 := eq_true p174
           replace q174 := eq_true q174
           have p176 : 0 <= (x3_1 : Int) := dz
           have q176 : x3_1 < (l0.length : Int) := dz
           obtain ⟨ad176, e176, hx176_0, hx176_1⟩ := at_T83 HR0.out x3_1 p176 q176
           have hw176_1 := hx176_1
           have hw176_0 := hx176_0
           obtain rfl : ad174 = ad176 := (by injection e176)
           replace hx176_0 := hZc HB.out hx176_0
           replace hx176_1 := hZc HB.out hx176_1
           replace p176 := eq_true p176
           replace q176 := eq_true q176
           have p178 : 0 <= ((ji10) : Int) := dz
           have q178 : (ji10) < (l0.length : Int) := dz
           obtain ⟨ad178, e178, hx178_0, hx178_1⟩ := at_T83 HR0.out (ji10) p178 q178
           have hw178_1 := hx178_1
           have hw178_0 := hx178_0
           obtain rfl : ad174 = ad178 := (by injection e178)
           replace hx178_0 := hZc HB.out hx178_0
           replace hx178_1 := hZc HB.out hx178_1
           replace p178 := eq_true p178
           replace q178 := eq_true q178
           have p179 : 0 <= (x3_1 : Int) := dz
           have q179 : x3_1 < (l0.length : Int) := dz
           obtain ⟨ad179, e179, hx179_0, hx179_1⟩ := at_T83 HR0.out x3_1 p179 q179
           have hw179_1 := hx179_1
           have hw179_0 := hx179_0
           obtain rfl : ad174 = ad179 := (by injection e179)
           replace hx179_0 := hZc HB.out hx179_0
           replace hx179_1 := hZc HB.out hx179_1
           replace p179 := eq_true p179
           replace q179 := eq_true q179
           refine start_ (n := 34) (S := fun w' => w'.cell? (ad174.add ((x3_1).toNat * 2)) = some (.string ((rd_T83 l0 x3_1).f0)) /\ w'.cell? ⟨(ad174.add ((x3_1).toNat * 2)).block, (ad174.add ((x3_1).toNat * 2)).off + 1, none⟩ = some (.string ((rd_T83 l0 x3_1).f1)) /\ w'.cell? (ad174.add ((x3_1).toNat * 2)) = some (.string ((rd_T83 l0 x3_1).f0)) /\ w'.cell? ⟨(ad174.add ((x3_1).toNat * 2)).block, (ad174.add ((x3_1).toNat * 2)).off + 1, none⟩ = some (.string ((rd_T83 l0 x3_1).f1)) /\ w'.cell? (ad174.add (((ji10)).toNat * 2)) = some (.string ((rd_T83 l0 (ji10)).f0)) /\ w'.cell? ⟨(ad174.add (((ji10)).toNat * 2)).block, (ad174.add (((ji10)).toNat * 2)).off + 1, none⟩ = some (.string ((rd_T83 l0 (ji10)).f1)) /\ w'.cell? (ad174.add ((x3_1).toNat * 2)) = some (.string ((rd_T83 l0 x3_1).f0)) /\ w'.cell? ⟨(ad174.add ((x3_1).toNat * 2)).block, (ad174.add ((x3_1).toNat * 2)).off + 1, none⟩ = some (.string ((rd_T83 l0 x3_1).f1))) (ds := []) (bA 34 0) (by kernel_rfl) rfl rfl ⟨(hZc HB.out hw174_0), (hZc HB.out hw174_1), (hZc HB.out hw176_0), (hZc HB.out hw176_1), (hZc HB.out hw178_0), (hZc HB.out hw178_1), (hZc HB.out hw179_0), (hZc HB.out hw179_1)⟩ (fun hHeld => ?_); refine with_tabW q9_Right.tab4 q9_Right.bits4 (fun HT_ HW_ => ?_)
           generalize wr.drew = w13 at HB hx174_0 hx174_1 hx176_0 hx176_1 hx178_0 hx178_1 hx179_0 hx179_1 hHeld ⊢
           refine py_ 0 11 (bA 34 1) HT_.out ?_
           refine py_ 1 12 (bA 34 3) HT_.out ?_
           refine py_ 2 13 (bA 34 7) HT_.out ?_
           refine py_ 3 14 (bA 34 15) HT_.out ?_
           refine ty_ 4 15 (bA 34 31) HT_.out HW_.out hHeld ?_
           refine oz_ 5 16 (bA 34 63) HT_.out (fun K hK => ?_)
           refine goes_ Tryz.func44 (by kernel_rfl) rfl #[.string ((rd_T83 l0 x3_1).f0)] (by rfl) rfl rfl mz ?_
           with_reducible refine (q9_Named.calls k1 ((rd_T83 l0 x3_1).f0) true _ A5.out).mono ?_
           rintro e w14 ⟨rfl, hb⟩
           refine ⟨_, rfl, ?_⟩
           have n0_ := am (qW (bz HB.out) hb)
           clear HB
           have HB := n0_
           clear n0_
           (try clear hb)
           (try clear hb2)
           (try clear hk)
           (try clear hi)
           refine hK.out _ _ ⟨(hZc HB.out hw174_0), (hZc HB.out hw174_1), (hZc HB.out hw176_0), (hZc HB.out hw176_1), (hZc HB.out hw178_0), (hZc HB.out hw178_1), (hZc HB.out hw179_0), (hZc HB.out hw179_1)⟩ (fun hHeld => ?_)
           clear hK K
           refine nz_ 16 ?_
           refine py_ 6 17 (bA 34 127) HT_.out ?_
           refine py_ 7 18 (bA 34 255) HT_.out ?_
           refine py_ 8 19 (bA 34 511) HT_.out ?_
           refine py_ 9 20 (bA 34 1023) HT_.out ?_
           refine py_ 10 21 (bA 34 2047) HT_.out ?_
           refine py_ 11 22 (bA 34 4095) HT_.out ?_
           refine ty_ 12 23 (bA 34 8191) HT_.out HW_.out hHeld ?_
           refine oz_ 13 24 (bA 34 16383) HT_.out (fun K hK => ?_)
           refine goes_ Tryz.func65 (by kernel_rfl) rfl #[.string ((rd_T83 l0 x3_1).f1)] (by rfl) rfl rfl mz ?_
           with_reducible refine (q2_Named.calls k1 ((rd_T83 l0 x3_1).f1) true _ A7.out).mono ?_
           rintro e w' ⟨rfl, ⟨nd, rfl⟩⟩
           refine ⟨_, rfl, ?_⟩
           refine hK.out _ _ ⟨(hZc HB.out hw174_0), (hZc HB.out hw174_1), (hZc HB.out hw176_0), (hZc HB.out hw176_1), (hZc HB.out hw178_0), (hZc HB.out hw178_1), (hZc HB.out hw179_0), (hZc HB.out hw179_1)⟩ (fun hHeld => ?_)
           clear hK K
           refine nz_ 24 ?_
           refine py_ 14 25 (bA 34 32767) HT_.out ?_
           refine py_ 15 26 (bA 34 65535) HT_.out ?_
           refine py_ 16 27 (bA 34 131071) HT_.out ?_
           refine py_ 17 28 (bA 34 262143) HT_.out ?_
           refine py_ 18 29 (bA 34 524287) HT_.out ?_
           refine py_ 19 30 (bA 34 1048575) HT_.out ?_
           refine py_ 20 31 (bA 34 2097151) HT_.out ?_
           refine py_ 21 32 (bA 34 4194303) HT_.out ?_
           refine py_ 22 33 (bA 34 8388607) HT_.out ?_
           refine py_ 23 34 (bA 34 16777215) HT_.out ?_
           refine py_ 24 35 (bA 34 33554431) HT_.out ?_
           refine py_ 26 37 (bA 34 100663295) HT_.out ?_
           refine py_ 27 38 (bA 34 234881023) HT_.out ?_
           refine py_ 28 39 (bA 34 503316479) HT_.out ?_
           refine py_ 29 40 (bA 34 1040187391) HT_.out ?_
           refine ty_ 25 36 (bA 34 1073741823) HT_.out HW_.out hHeld ?_
           refine ty_ 30 41 (bA 34 2147483647) HT_.out HW_.out hHeld ?_
           refine py_ 31 42 (bA 34 4294967295) HT_.out ?_
           refine py_ 32 43 (bA 34 8589934591) HT_.out ?_
           refine py_ 33 44 (bA 34 17179869183) HT_.out ?_
           refine done_ (done_of HT_.out (by kernel_rfl)) ?_
           try go_wp2
           go_meet
           case rel => exact ⟨_, (!(Op.bytesLess (((rd_T83 l0 (ji10)).f0).toList) (((rd_T83 l0 x3_1).f0).toList))), (by first | rfl | (simp; done) | (simp only [<- hji10] <;> (first | rfl | simp)) | (simp [*]; done)), H', ⟨by have := HK1.out; first | omega | exact Nat.le_refl _⟩, ⟨bz HB.out⟩⟩
          ·rw [if_neg c12] at H
           exact absurd H (by simp)
         ·rw [if_neg c11] at H
          exact absurd H (by simp)
        ·rw [if_neg c9] at H
         have c9b0 : decide (0 < x3_1) = false := df c9
         clear c9
         have H' := am H
         clear H
         try go_wp2
         have n0_ := am (bd1 HB.out)
         clear HB
         have HB := n0_
         clear n0_
         have p174 : 0 <= (x3_1 : Int) := dz
         have q174 : x3_1 < (l0.length : Int) := dz
         obtain ⟨ad174, e174, hx174_0, hx174_1⟩ := at_T83 HR0.out x3_1 p174 q174
         have hw174_1 := hx174_1
         have hw174_0 := hx174_0
         cases e174
         replace hx174_0 := hZc HB.out hx174_0
         replace hx174_1 := hZc HB.out hx174_1
         replace p174 := eq_true p174
         replace q174 := eq_true q174
         have p176 : 0 <= (x3_1 : Int) := dz
         have q176 : x3_1 < (l0.length : Int) := dz
         obtain ⟨ad176, e176, hx176_0, hx176_1⟩ := at_T83 HR0.out x3_1 p176 q176
         have hw176_1 := hx176_1
         have hw176_0 := hx176_0
         obtain rfl : ad174 = ad176 := (by injection e176)
         replace hx176_0 := hZc HB.out hx176_0
         replace hx176_1 := hZc HB.out hx176_1
         replace p176 := eq_true p176
         replace q176 := eq_true q176
         refine start_ (n := 34) (S := fun w' => w'.cell? (ad174.add ((x3_1).toNat * 2)) = some (.string ((rd_T83 l0 x3_1).f0)) /\ w'.cell? ⟨(ad174.add ((x3_1).toNat * 2)).block, (ad174.add ((x3_1).toNat * 2)).off + 1, none⟩ = some (.string ((rd_T83 l0 x3_1).f1)) /\ w'.cell? (ad174.add ((x3_1).toNat * 2)) = some (.string ((rd_T83 l0 x3_1).f0)) /\ w'.cell? ⟨(ad174.add ((x3_1).toNat * 2)).block, (ad174.add ((x3_1).toNat * 2)).off + 1, none⟩ = some (.string ((rd_T83 l0 x3_1).f1))) (ds := []) (bA 34 0) (by kernel_rfl) rfl rfl ⟨(hZc HB.out hw174_0), (hZc HB.out hw174_1), (hZc HB.out hw176_0), (hZc HB.out hw176_1)⟩ (fun hHeld => ?_); refine with_tabW q9_Right.tab4 q9_Right.bits4 (fun HT_ HW_ => ?_)
         generalize wr.drew = w15 at HB hx174_0 hx174_1 hx176_0 hx176_1 hHeld ⊢
         refine py_ 0 11 (bA 34 1) HT_.out ?_
         refine py_ 1 12 (bA 34 3) HT_.out ?_
         refine py_ 2 13 (bA 34 7) HT_.out ?_
         refine py_ 3 14 (bA 34 15) HT_.out ?_
         refine ty_ 4 15 (bA 34 31) HT_.out HW_.out hHeld ?_
         refine oz_ 5 16 (bA 34 63) HT_.out (fun K hK => ?_)
         refine goes_ Tryz.func44 (by kernel_rfl) rfl #[.string ((rd_T83 l0 x3_1).f0)] (by rfl) rfl rfl mz ?_
         with_reducible refine (q9_Named.calls k1 ((rd_T83 l0 x3_1).f0) true _ A5.out).mono ?_
         rintro e w16 ⟨rfl, hb⟩
         refine ⟨_, rfl, ?_⟩
         have n0_ := am (qW (bz HB.out) hb)
         clear HB
         have HB := n0_
         clear n0_
         (try clear hb)
         (try clear hb2)
         (try clear hk)
         (try clear hi)
         refine hK.out _ _ ⟨(hZc HB.out hw174_0), (hZc HB.out hw174_1), (hZc HB.out hw176_0), (hZc HB.out hw176_1)⟩ (fun hHeld => ?_)
         clear hK K
         refine nz_ 16 ?_
         refine py_ 6 17 (bA 34 127) HT_.out ?_
         refine py_ 7 18 (bA 34 255) HT_.out ?_
         refine py_ 8 19 (bA 34 511) HT_.out ?_
         refine py_ 9 20 (bA 34 1023) HT_.out ?_
         refine py_ 10 21 (bA 34 2047) HT_.out ?_
         refine py_ 11 22 (bA 34 4095) HT_.out ?_
         refine ty_ 12 23 (bA 34 8191) HT_.out HW_.out hHeld ?_
         refine oz_ 13 24 (bA 34 16383) HT_.out (fun K hK => ?_)
         refine goes_ Tryz.func65 (by kernel_rfl) rfl #[.string ((rd_T83 l0 x3_1).f1)] (by rfl) rfl rfl mz ?_
         with_reducible refine (q2_Named.calls k1 ((rd_T83 l0 x3_1).f1) true _ A7.out).mono ?_
         rintro e w' ⟨rfl, ⟨nd, rfl⟩⟩
         refine ⟨_, rfl, ?_⟩
         refine hK.out _ _ ⟨(hZc HB.out hw174_0), (hZc HB.out hw174_1), (hZc HB.out hw176_0), (hZc HB.out hw176_1)⟩ (fun hHeld => ?_)
         clear hK K
         refine nz_ 24 ?_
         refine py_ 14 25 (bA 34 32767) HT_.out ?_
         refine py_ 15 26 (bA 34 65535) HT_.out ?_
         refine py_ 16 27 (bA 34 131071) HT_.out ?_
         refine py_ 17 28 (bA 34 262143) HT_.out ?_
         refine py_ 18 29 (bA 34 524287) HT_.out ?_
         refine py_ 19 30 (bA 34 1048575) HT_.out ?_
         refine pw_ 20 31 (bA 34 2097151) HT_.out ?_
         refine pw_ 21 32 (bA 34 4194303) HT_.out ?_
         refine pw_ 22 33 (bA 34 8388607) HT_.out ?_
         refine pw_ 23 34 (bA 34 16777215) HT_.out ?_
         refine pw_ 24 35 (bA 34 33554431) HT_.out ?_
         refine pw_ 25 36 (bA 34 67108863) HT_.out ?_
         refine pw_ 26 37 (bA 34 134217727) HT_.out ?_
         refine pw_ 27 38 (bA 34 268435455) HT_.out ?_
         refine pw_ 28 39 (bA 34 536870911) HT_.out ?_
         refine pw_ 29 40 (bA 34 1073741823) HT_.out ?_
         refine pw_ 30 41 (bA 34 2147483647) HT_.out ?_
         refine pw_ 31 42 (bA 34 4294967295) HT_.out ?_
         refine py_ 32 43 (bA 34 8589934591) HT_.out ?_
         refine py_ 33 44 (bA 34 17179869183) HT_.out ?_
         refine done_ (done_of HT_.out (by kernel_rfl)) ?_
         try go_wp2
         go_meet
         case rel => exact ⟨_, (false), (ez), H', ⟨by have := HK1.out; first | omega | exact Nat.le_refl _⟩, ⟨bz HB.out⟩⟩
       ·replace c8 := Bool.eq_false_iff.mpr c8
        subst c8
        have H1 : (q9_Right.j1 k1 l0 x3_1 true) = some r := by rw [if_neg (show ¬ (false = true) by decide)] at H; exact H
        clear H
        have H := H1
        clear H1
        have H' := am H
        clear H
        try go_wp2
        have n0_ := am (bd1 HB.out)
        clear HB
        have HB := n0_
        clear n0_
        have p174 : 0 <= (x3_1 : Int) := dz
        have q174 : x3_1 < (l0.length : Int) := dz
        obtain ⟨ad174, e174, hx174_0, hx174_1⟩ := at_T83 HR0.out x3_1 p174 q174
        have hw174_1 := hx174_1
        have hw174_0 := hx174_0
        cases e174
        replace hx174_0 := hZc HB.out hx174_0
        replace hx174_1 := hZc HB.out hx174_1
        replace p174 := eq_true p174
        replace q174 := eq_true q174
        have p176 : 0 <= (x3_1 : Int) := dz
        have q176 : x3_1 < (l0.length : Int) := dz
        obtain ⟨ad176, e176, hx176_0, hx176_1⟩ := at_T83 HR0.out x3_1 p176 q176
        have hw176_1 := hx176_1
        have hw176_0 := hx176_0
        obtain rfl : ad174 = ad176 := (by injection e176)
        replace hx176_0 := hZc HB.out hx176_0
        replace hx176_1 := hZc HB.out hx176_1
        replace p176 := eq_true p176
        replace q176 := eq_true q176
        refine start_ (n := 34) (S := fun w' => w'.cell? (ad174.add ((x3_1).toNat * 2)) = some (.string ((rd_T83 l0 x3_1).f0)) /\ w'.cell? ⟨(ad174.add ((x3_1).toNat * 2)).block, (ad174.add ((x3_1).toNat * 2)).off + 1, none⟩ = some (.string ((rd_T83 l0 x3_1).f1)) /\ w'.cell? (ad174.add ((x3_1).toNat * 2)) = some (.string ((rd_T83 l0 x3_1).f0)) /\ w'.cell? ⟨(ad174.add ((x3_1).toNat * 2)).block, (ad174.add ((x3_1).toNat * 2)).off + 1, none⟩ = some (.string ((rd_T83 l0 x3_1).f1))) (ds := []) (bA 34 0) (by kernel_rfl) rfl rfl ⟨(hZc HB.out hw174_0), (hZc HB.out hw174_1), (hZc HB.out hw176_0), (hZc HB.out hw176_1)⟩ (fun hHeld => ?_); refine with_tabW q9_Right.tab4 q9_Right.bits4 (fun HT_ HW_ => ?_)
        generalize wr.drew = w17 at HB hx174_0 hx174_1 hx176_0 hx176_1 hHeld ⊢
        refine py_ 0 11 (bA 34 1) HT_.out ?_
        refine py_ 1 12 (bA 34 3) HT_.out ?_
        refine py_ 2 13 (bA 34 7) HT_.out ?_
        refine py_ 3 14 (bA 34 15) HT_.out ?_
        refine ty_ 4 15 (bA 34 31) HT_.out HW_.out hHeld ?_
        refine oz_ 5 16 (bA 34 63) HT_.out (fun K hK => ?_)
        refine goes_ Tryz.func44 (by kernel_rfl) rfl #[.string ((rd_T83 l0 x3_1).f0)] (by rfl) rfl rfl mz ?_
        with_reducible refine (q9_Named.calls k1 ((rd_T83 l0 x3_1).f0) true _ A5.out).mono ?_
        rintro e w18 ⟨rfl, hb⟩
        refine ⟨_, rfl, ?_⟩
        have n0_ := am (qW (bz HB.out) hb)
        clear HB
        have HB := n0_
        clear n0_
        (try clear hb)
        (try clear hb2)
        (try clear hk)
        (try clear hi)
        refine hK.out _ _ ⟨(hZc HB.out hw174_0), (hZc HB.out hw174_1), (hZc HB.out hw176_0), (hZc HB.out hw176_1)⟩ (fun hHeld => ?_)
        clear hK K
        refine nz_ 16 ?_
        refine py_ 6 17 (bA 34 127) HT_.out ?_
        refine py_ 7 18 (bA 34 255) HT_.out ?_
        refine py_ 8 19 (bA 34 511) HT_.out ?_
        refine py_ 9 20 (bA 34 1023) HT_.out ?_
        refine py_ 10 21 (bA 34 2047) HT_.out ?_
        refine py_ 11 22 (bA 34 4095) HT_.out ?_
        refine ty_ 12 23 (bA 34 8191) HT_.out HW_.out hHeld ?_
        refine oz_ 13 24 (bA 34 16383) HT_.out (fun K hK => ?_)
        refine goes_ Tryz.func65 (by kernel_rfl) rfl #[.string ((rd_T83 l0 x3_1).f1)] (by rfl) rfl rfl mz ?_
        with_reducible refine (q2_Named.calls k1 ((rd_T83 l0 x3_1).f1) false _ A7.out).mono ?_
        rintro e w' ⟨rfl, ⟨nd, rfl⟩⟩
        refine ⟨_, rfl, ?_⟩
        refine hK.out _ _ ⟨(hZc HB.out hw174_0), (hZc HB.out hw174_1), (hZc HB.out hw176_0), (hZc HB.out hw176_1)⟩ (fun hHeld => ?_)
        clear hK K
        refine nz_ 24 ?_
        refine py_ 14 25 (bA 34 32767) HT_.out ?_
        refine py_ 15 26 (bA 34 65535) HT_.out ?_
        refine py_ 16 27 (bA 34 131071) HT_.out ?_
        refine pw_ 17 28 (bA 34 262143) HT_.out ?_
        refine pw_ 18 29 (bA 34 524287) HT_.out ?_
        refine pw_ 19 30 (bA 34 1048575) HT_.out ?_
        refine pw_ 20 31 (bA 34 2097151) HT_.out ?_
        refine pw_ 21 32 (bA 34 4194303) HT_.out ?_
        refine pw_ 22 33 (bA 34 8388607) HT_.out ?_
        refine pw_ 23 34 (bA 34 16777215) HT_.out ?_
        refine pw_ 24 35 (bA 34 33554431) HT_.out ?_
        refine pw_ 25 36 (bA 34 67108863) HT_.out ?_
        refine pw_ 26 37 (bA 34 134217727) HT_.out ?_
        refine pw_ 27 38 (bA 34 268435455) HT_.out ?_
        refine pw_ 28 39 (bA 34 536870911) HT_.out ?_
        refine pw_ 29 40 (bA 34 1073741823) HT_.out ?_
        refine pw_ 30 41 (bA 34 2147483647) HT_.out ?_
        refine pw_ 31 42 (bA 34 4294967295) HT_.out ?_
        refine pw_ 32 43 (bA 34 8589934591) HT_.out ?_
        refine py_ 33 44 (bA 34 17179869183) HT_.out ?_
        refine done_ (done_of HT_.out (by kernel_rfl)) ?_
        try go_wp2
        go_meet
        case rel => exact ⟨_, (true), (ez), H', ⟨by have := HK1.out; first | omega | exact Nat.le_refl _⟩, ⟨bz HB.out⟩⟩
      ·replace c6 := Bool.eq_false_iff.mpr c6
       subst c6
       have H1 : (q9_Right.j1 k1 l0 x3_1 true) = some r := by rw [if_neg (show ¬ (false = true) by decide)] at H; exact H
       clear H
       have H := H1
       clear H1
       have H' := am H
       clear H
       try go_wp2
       have n0_ := am (bd1 HB.out)
       clear HB
       have HB := n0_
       clear n0_
       have p174 : 0 <= (x3_1 : Int) := dz
       have q174 : x3_1 < (l0.length : Int) := dz
       obtain ⟨ad174, e174, hx174_0, hx174_1⟩ := at_T83 HR0.out x3_1 p174 q174
       have hw174_1 := hx174_1
       have hw174_0 := hx174_0
       cases e174
       replace hx174_0 := hZc HB.out hx174_0
       replace hx174_1 := hZc HB.out hx174_1
       replace p174 := eq_true p174
       replace q174 := eq_true q174
       refine start_ (n := 34) (S := fun w' => w'.cell? (ad174.add ((x3_1).toNat * 2)) = some (.string ((rd_T83 l0 x3_1).f0)) /\ w'.cell? ⟨(ad174.add ((x3_1).toNat * 2)).block, (ad174.add ((x3_1).toNat * 2)).off + 1, none⟩ = some (.string ((rd_T83 l0 x3_1).f1))) (ds := []) (bA 34 0) (by kernel_rfl) rfl rfl ⟨(hZc HB.out hw174_0), (hZc HB.out hw174_1)⟩ (fun hHeld => ?_); refine with_tabW q9_Right.tab4 q9_Right.bits4 (fun HT_ HW_ => ?_)
       generalize wr.drew = w19 at HB hx174_0 hx174_1 hHeld ⊢
       refine py_ 0 11 (bA 34 1) HT_.out ?_
       refine py_ 1 12 (bA 34 3) HT_.out ?_
       refine py_ 2 13 (bA 34 7) HT_.out ?_
       refine py_ 3 14 (bA 34 15) HT_.out ?_
       refine ty_ 4 15 (bA 34 31) HT_.out HW_.out hHeld ?_
       refine oz_ 5 16 (bA 34 63) HT_.out (fun K hK => ?_)
       refine goes_ Tryz.func44 (by kernel_rfl) rfl #[.string ((rd_T83 l0 x3_1).f0)] (by rfl) rfl rfl mz ?_
       with_reducible refine (q9_Named.calls k1 ((rd_T83 l0 x3_1).f0) false _ A5.out).mono ?_
       rintro e w20 ⟨rfl, hb⟩
       refine ⟨_, rfl, ?_⟩
       have n0_ := am (qW (bz HB.out) hb)
       clear HB
       have HB := n0_
       clear n0_
       (try clear hb)
       (try clear hb2)
       (try clear hk)
       (try clear hi)
       refine hK.out _ _ ⟨(hZc HB.out hw174_0), (hZc HB.out hw174_1)⟩ (fun hHeld => ?_)
       clear hK K
       refine nz_ 16 ?_
       refine py_ 6 17 (bA 34 127) HT_.out ?_
       refine py_ 7 18 (bA 34 255) HT_.out ?_
       refine pw_ 8 19 (bA 34 511) HT_.out ?_
       refine pw_ 9 20 (bA 34 1023) HT_.out ?_
       refine pw_ 10 21 (bA 34 2047) HT_.out ?_
       refine pw_ 11 22 (bA 34 4095) HT_.out ?_
       refine pw_ 12 23 (bA 34 8191) HT_.out ?_
       refine pw_ 13 24 (bA 34 16383) HT_.out ?_
       refine pw_ 14 25 (bA 34 32767) HT_.out ?_
       refine py_ 15 26 (bA 34 65535) HT_.out ?_
       refine py_ 16 27 (bA 34 131071) HT_.out ?_
       refine pw_ 17 28 (bA 34 262143) HT_.out ?_
       refine pw_ 18 29 (bA 34 524287) HT_.out ?_
       refine pw_ 19 30 (bA 34 1048575) HT_.out ?_
       refine pw_ 20 31 (bA 34 2097151) HT_.out ?_
       refine pw_ 21 32 (bA 34 4194303) HT_.out ?_
       refine pw_ 22 33 (bA 34 8388607) HT_.out ?_
       refine pw_ 23 34 (bA 34 16777215) HT_.out ?_
       refine pw_ 24 35 (bA 34 33554431) HT_.out ?_
       refine pw_ 25 36 (bA 34 67108863) HT_.out ?_
       refine pw_ 26 37 (bA 34 134217727) HT_.out ?_
       refine pw_ 27 38 (bA 34 268435455) HT_.out ?_
       refine pw_ 28 39 (bA 34 536870911) HT_.out ?_
       refine pw_ 29 40 (bA 34 1073741823) HT_.out ?_
       refine pw_ 30 41 (bA 34 2147483647) HT_.out ?_
       refine pw_ 31 42 (bA 34 4294967295) HT_.out ?_
       refine pw_ 32 43 (bA 34 8589934591) HT_.out ?_
       refine py_ 33 44 (bA 34 17179869183) HT_.out ?_
       refine done_ (done_of HT_.out (by kernel_rfl)) ?_
       try go_wp2
       go_meet
       case rel => exact ⟨_, (true), (ez), H', ⟨by have := HK1.out; first | omega | exact Nat.le_refl _⟩, ⟨bz HB.out⟩⟩
     ·rw [if_neg c4] at H
      exact absurd H (by simp)
    case rest =>
     clear HC3
     obtain ⟨kq, x44_2, rfl, HA, HJ2, HB⟩ := hcut
     cases kq with
     | zero => exact absurd HA.out (by simp [q9_Right.j1])
     | succ kj2 =>
      have H := HA.out
      clear HA
      simp only [q9_Right.j1] at H
      by_cases c21 : x44_2 = true
      ·subst c21
       have H1 : (some false) = some r := by rw [if_pos rfl] at H; exact H
       clear H
       have H := H1
       clear H1
       obtain rfl := Option.some.inj H
       go_wp2
       go_ret
       exact ⟨ey, bz HB.out⟩
      ·replace c21 := Bool.eq_false_iff.mpr c21
       subst c21
       have H1 : (q9_Right.l1 kj2 l0 x3_1 0) = some r := by rw [if_neg (show ¬ (false = true) by decide)] at H; exact H
       clear H
       have H := H1
       clear H1
       have H' := am H
       clear H
       go_wp2
       go_loopg [4] kj2 (fun kq v4 w' => ∃ (x4_3 : Int), v4 = .int .i64 x4_3 /\ Asd (q9_Right.l1 kq l0 x3_1 x4_3 = some r) /\ Asd (kq <= kj2) /\ Asd (Below w.heap.size w w'))
       case atStart => exact ⟨(0), (ez), H', ⟨Nat.le_refl _⟩, ⟨bz HB.out⟩⟩
       case round =>
        clear H'
        obtain ⟨x4_3, rfl, HA, HK3, HB⟩ := hrel
        cases gk with
        | zero => exact absurd HA.out (by simp [q9_Right.l1])
        | succ k3 =>
         have H := HA.out
         clear HA
         simp only [q9_Right.l1] at H
         by_cases c22 : x4_3 < (l0.length : Int)
         ·rw [if_pos c22] at H
          have c22b0 : decide (x4_3 < (l0.length : Int)) = true := dt c22
          clear c22
          by_cases c23 : 0 <= x4_3
          ·rw [if_pos c23] at H
           have c23b0 : decide (0 <= x4_3) = true := dt c23
           clear c23
           by_cases c24 : 0 <= x3_1
           ·rw [if_pos c24] at H
            have c24b0 : decide (0 <= x3_1) = true := dt c24
            clear c24
            by_cases c25 : x3_1 < (l0.length : Int)
            ·rw [if_pos c25] at H
             have c25b0 : decide (x3_1 < (l0.length : Int)) = true := dt c25
             clear c25
             replace H := Option.bind_eq_some_iff.mp H
             obtain ⟨t182, A260, H⟩ := H
             replace H : (if t182 = true then (some false) else (q9_Right.l1 k3 l0 x3_1 (wrap64 (x4_3 + 1)))) = some r := H
             have A26 := am A260
             by_cases c27 : t182 = true
             ·subst c27
              have H1 : (some false) = some r := by rw [if_pos rfl] at H; exact H
              clear H
              have H := H1
              clear H1
              obtain rfl := Option.some.inj H
              try go_wp2
              have n0_ := am (bd1 HB.out)
              clear HB
              have HB := n0_
              clear n0_
              have p180 : 0 <= (x4_3 : Int) := dz
              have q180 : x4_3 < (l0.length : Int) := dz
              obtain ⟨ad180, e180, hx180_0, hx180_1⟩ := at_T83 HR0.out x4_3 p180 q180
              have hw180_1 := hx180_1
              have hw180_0 := hx180_0
              cases e180
              replace hx180_0 := hZc HB.out hx180_0
              replace hx180_1 := hZc HB.out hx180_1
              replace p180 := eq_true p180
              replace q180 := eq_true q180
              have p181 : 0 <= (x3_1 : Int) := dz
              have q181 : x3_1 < (l0.length : Int) := dz
              obtain ⟨ad181, e181, hx181_0, hx181_1⟩ := at_T83 HR0.out x3_1 p181 q181
              have hw181_1 := hx181_1
              have hw181_0 := hx181_0
              obtain rfl : ad180 = ad181 := (by injection e181)
              replace hx181_0 := hZc HB.out hx181_0
              replace hx181_1 := hZc HB.out hx181_1
              replace p181 := eq_true p181
              replace q181 := eq_true q181
              refine start_ (n := 11) (S := fun w' => w'.cell? (ad180.add ((x4_3).toNat * 2)) = some (.string ((rd_T83 l0 x4_3).f0)) /\ w'.cell? ⟨(ad180.add ((x4_3).toNat * 2)).block, (ad180.add ((x4_3).toNat * 2)).off + 1, none⟩ = some (.string ((rd_T83 l0 x4_3).f1)) /\ w'.cell? (ad180.add ((x3_1).toNat * 2)) = some (.string ((rd_T83 l0 x3_1).f0)) /\ w'.cell? ⟨(ad180.add ((x3_1).toNat * 2)).block, (ad180.add ((x3_1).toNat * 2)).off + 1, none⟩ = some (.string ((rd_T83 l0 x3_1).f1))) (ds := []) (bA 11 0) (by kernel_rfl) rfl rfl ⟨(hZc HB.out hw180_0), (hZc HB.out hw180_1), (hZc HB.out hw181_0), (hZc HB.out hw181_1)⟩ (fun hHeld => ?_); refine with_tabW q9_Right.tab9 q9_Right.bits9 (fun HT_ HW_ => ?_)
              generalize wr.drew = w28 at HB hx180_0 hx180_1 hx181_0 hx181_1 hHeld ⊢
              refine py_ 0 51 (bA 11 1) HT_.out ?_
              refine py_ 1 52 (bA 11 3) HT_.out ?_
              refine py_ 2 53 (bA 11 7) HT_.out ?_
              refine py_ 3 54 (bA 11 15) HT_.out ?_
              refine py_ 5 56 (bA 11 47) HT_.out ?_
              refine py_ 6 57 (bA 11 111) HT_.out ?_
              refine py_ 7 58 (bA 11 239) HT_.out ?_
              refine py_ 8 59 (bA 11 495) HT_.out ?_
              refine ty_ 4 55 (bA 11 511) HT_.out HW_.out hHeld ?_
              refine ty_ 9 60 (bA 11 1023) HT_.out HW_.out hHeld ?_
              refine oz_ 10 61 (bA 11 2047) HT_.out (fun K hK => ?_)
              refine goes_ Tryz.func66 (by kernel_rfl) rfl #[.string ((rd_T83 l0 x4_3).f0), .string ((rd_T83 l0 x3_1).f0)] (by rfl) rfl rfl mz ?_
              with_reducible refine (q9_above.calls ((rd_T83 l0 x4_3).f0) ((rd_T83 l0 x3_1).f0) true _ A26.out).mono ?_
              rintro e w' ⟨rfl, ⟨nd, rfl⟩⟩
              refine ⟨_, rfl, ?_⟩
              refine hK.out _ _ ⟨(hZc HB.out hw180_0), (hZc HB.out hw180_1), (hZc HB.out hw181_0), (hZc HB.out hw181_1)⟩ (fun hHeld => ?_)
              clear hK K
              refine nz_ 61 ?_
              refine done_ (done_of HT_.out (by kernel_rfl)) ?_
              try go_wp2
              go_ret
              exact ⟨ey, bz HB.out⟩
             ·replace c27 := Bool.eq_false_iff.mpr c27
              subst c27
              have H1 : (q9_Right.l1 k3 l0 x3_1 (wrap64 (x4_3 + 1))) = some r := by rw [if_neg (show ¬ (false = true) by decide)] at H; exact H
              clear H
              have H := H1
              clear H1
              have H' := am H
              clear H
              try go_wp2
              have n0_ := am (bd1 HB.out)
              clear HB
              have HB := n0_
              clear n0_
              have p180 : 0 <= (x4_3 : Int) := dz
              have q180 : x4_3 < (l0.length : Int) := dz
              obtain ⟨ad180, e180, hx180_0, hx180_1⟩ := at_T83 HR0.out x4_3 p180 q180
              have hw180_1 := hx180_1
              have hw180_0 := hx180_0
              cases e180
              replace hx180_0 := hZc HB.out hx180_0
              replace hx180_1 := hZc HB.out hx180_1
              replace p180 := eq_true p180
              replace q180 := eq_true q180
              have p181 : 0 <= (x3_1 : Int) := dz
              have q181 : x3_1 < (l0.length : Int) := dz
              obtain ⟨ad181, e181, hx181_0, hx181_1⟩ := at_T83 HR0.out x3_1 p181 q181
              have hw181_1 := hx181_1
              have hw181_0 := hx181_0
              obtain rfl : ad180 = ad181 := (by injection e181)
              replace hx181_0 := hZc HB.out hx181_0
              replace hx181_1 := hZc HB.out hx181_1
              replace p181 := eq_true p181
              replace q181 := eq_true q181
              refine start_ (n := 11) (S := fun w' => w'.cell? (ad180.add ((x4_3).toNat * 2)) = some (.string ((rd_T83 l0 x4_3).f0)) /\ w'.cell? ⟨(ad180.add ((x4_3).toNat * 2)).block, (ad180.add ((x4_3).toNat * 2)).off + 1, none⟩ = some (.string ((rd_T83 l0 x4_3).f1)) /\ w'.cell? (ad180.add ((x3_1).toNat * 2)) = some (.string ((rd_T83 l0 x3_1).f0)) /\ w'.cell? ⟨(ad180.add ((x3_1).toNat * 2)).block, (ad180.add ((x3_1).toNat * 2)).off + 1, none⟩ = some (.string ((rd_T83 l0 x3_1).f1))) (ds := []) (bA 11 0) (by kernel_rfl) rfl rfl ⟨(hZc HB.out hw180_0), (hZc HB.out hw180_1), (hZc HB.out hw181_0), (hZc HB.out hw181_1)⟩ (fun hHeld => ?_); refine with_tabW q9_Right.tab9 q9_Right.bits9 (fun HT_ HW_ => ?_)
              generalize wr.drew = w29 at HB hx180_0 hx180_1 hx181_0 hx181_1 hHeld ⊢
              refine py_ 0 51 (bA 11 1) HT_.out ?_
              refine py_ 1 52 (bA 11 3) HT_.out ?_
              refine py_ 2 53 (bA 11 7) HT_.out ?_
              refine py_ 3 54 (bA 11 15) HT_.out ?_
              refine py_ 5 56 (bA 11 47) HT_.out ?_
              refine py_ 6 57 (bA 11 111) HT_.out ?_
              refine py_ 7 58 (bA 11 239) HT_.out ?_
              refine py_ 8 59 (bA 11 495) HT_.out ?_
              refine ty_ 4 55 (bA 11 511) HT_.out HW_.out hHeld ?_
              refine ty_ 9 60 (bA 11 1023) HT_.out HW_.out hHeld ?_
              refine oz_ 10 61 (bA 11 2047) HT_.out (fun K hK => ?_)
              refine goes_ Tryz.func66 (by kernel_rfl) rfl #[.string ((rd_T83 l0 x4_3).f0), .string ((rd_T83 l0 x3_1).f0)] (by rfl) rfl rfl mz ?_
              with_reducible refine (q9_above.calls ((rd_T83 l0 x4_3).f0) ((rd_T83 l0 x3_1).f0) false _ A26.out).mono ?_
              rintro e w' ⟨rfl, ⟨nd, rfl⟩⟩
              refine ⟨_, rfl, ?_⟩
              refine hK.out _ _ ⟨(hZc HB.out hw180_0), (hZc HB.out hw180_1), (hZc HB.out hw181_0), (hZc HB.out hw181_1)⟩ (fun hHeld => ?_)
              clear hK K
              refine nz_ 61 ?_
              refine done_ (done_of HT_.out (by kernel_rfl)) ?_
              try go_wp2
              go_roundg k3
              case measure => have := HK1.out; have := HJ2.out; have := HK3.out; omega
              case rel => exact ⟨(wrap64 (x4_3 + 1)), (ez), H', ⟨by have := HK1.out; have := HJ2.out; have := HK3.out; omega⟩, ⟨bz HB.out⟩⟩
            ·rw [if_neg c25] at H
             exact absurd H (by simp)
           ·rw [if_neg c24] at H
            exact absurd H (by simp)
          ·rw [if_neg c23] at H
           exact absurd H (by simp)
         ·rw [if_neg c22] at H
          have c22b0 : decide (x4_3 < (l0.length : Int)) = false := df c22
          clear c22
          have H' := am H
          clear H
          go_wp2
          go_roundg k3
          case measure => have := HK1.out; have := HJ2.out; have := HK3.out; omega
          case rel => exact ⟨(wrap64 (x3_1 + 1)), (ez), H', ⟨by have := HK1.out; have := HJ2.out; have := HK3.out; omega⟩, ⟨bz HB.out⟩⟩
   ·rw [if_neg c2] at H
    have c2b0 : decide (x3_1 < (l0.length : Int)) = false := df c2
    clear c2
    obtain rfl := Option.some.inj H
    go_wp2
    go_ret
    exact ⟨ey, bz HB.out⟩
end Go.Proofs.YtlfenakgphmepaaGreatDoor.Print
