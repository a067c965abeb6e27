/- The calls of TakePieces answer true, whatever they are handed. -/
import Derived.Test.YtemkgdpfkbpnpaaGreatDoorTakeC
import Derived.Test.YtemkgdpfkbpnpaaGreatDoorSameB
namespace Go.Proofs.YtemkgdpfkbpnpaaGreatDoor.Take
open Go.RowKit Go.Proofs.YtemkgdpfkbpnpaaGreatDoorW.PrintWords Go.Proofs.YtemkgdpfkbpnpaaGreatDoorW.PrintLast Go.Proofs.YtemkgdpfkbpnpaaGreatDoorW.PrintMore Go.Proofs.YtemkgdpfkbpnpaaGreatDoor.Conv Go.Proofs.YtemkgdpfkbpnpaaGreatDoor.Print
set_option linter.unusedVariables false
set_option linter.unusedSimpArgs false
attribute [local go_sem] max2_int min2_int max_two min_two
def pieces.T17 : Bool × List (List Nat × List Nat) := (true, [([], []), ([0], [0]), ([1], [1]), ([1], [1]), ([2, 3, 1], [1, 2, 3]), ([1, 4], [1, 4]), ([5, 1], [5]), ([6], [6]), ([7, 6, 6], [6, 7]), ([6], [6]), ([9, 8, 6], [6, 9]), ([8, 10, 6], [6, 8, 10]), ([6, 11], [6, 11]), ([12, 10], [12]), ([13], [13]), ([14, 13, 13], [13, 14]), ([15, 13], [13, 15]), ([13], [13]), ([17, 15, 13], [13, 17]), ([18, 13], [13, 18]), ([16, 19, 13], [13, 16, 19]), ([13, 20], [13, 20]), ([21, 18], [21]), ([22], [22]), ([22], [22]), ([23, 24, 22, 22], [22, 23, 24]), ([22, 25], [22, 25]), ([26, 25], [26]), ([27], [27]), ([28, 27], [27, 28]), ([27], [27]), ([30, 27], [27, 30]), ([29, 31, 27], [27, 29, 31]), ([27, 32], [27, 32]), ([33, 27, 0, 1, 2, 3, 4, 5, 6, 7, 8, 9, 10, 11, 12, 13, 14, 15, 16, 17, 18, 19, 20, 21, 22, 23, 24, 25, 26, 27, 28, 29, 30, 31, 32, 33], [33])])
def pieces.B17 : List Nat := [0, 1, 3, 3, 15, 31, 63, 127, 255, 127, 1023, 2047, 4095, 8191, 16383, 32767, 65535, 16383, 196607, 458751, 1048575, 2097151, 4194303, 8388607, 8388607, 33554431, 67108863, 134217727, 268435455, 536870911, 268435455, 1342177279, 4294967295, 8589934591, 17179869183]
theorem pieces.tab17 : rtab .any (opsOf Tryz.f3 17) = pieces.T17 := by kernel_rfl
theorem pieces.bits17 : waitsOk pieces.T17.2 pieces.B17 = true := by kernel_rfl
set_option maxRecDepth 100000 in
theorem mid_cut (A : Option Addr) (c : Nat) (xs : List Int) (a n : Nat) (h : a + n <= xs.length) (hc : xs.length <= c) : ∃ A2, (∀ W : World, (Instr.slice 22 (.slice A xs.length c) (some (.int .i64 (a : Int))) (some (.int .i64 ((a : Int) + (n : Int)))) none).run Tryz.prog W = .ok (.slice A2 n (c - a)) W) /\
  (∀ w : World, Kd.C (Kd.int .u8) w A xs.length xs -> Kd.C (Kd.int .u8) w A2 ((xs.drop a).take n).length ((xs.drop a).take n)) := by
 obtain ⟨i0, hi0, _, hsz1, _⟩ := info_parts info5
 obtain ⟨A5, hrun5, hC5, _⟩ := print_mid_of (P := Tryz.prog) (Value.int .u8) 0 22 5 .i64 .i64 Tryz.underlying22 hi0 hsz1 A c xs (a : Int) ((a : Int) + (n : Int)) (by omega) (by omega) (by omega) hc
 have e : (xs.take ((a : Int) + (n : Int)).toNat).drop (a : Int).toNat = (xs.drop a).take n := by
  rw [show ((a : Int) + (n : Int)).toNat = a + n by omega, Int.toNat_natCast, List.drop_take]
  congr 1
  omega
 have hl : ((xs.drop a).take n).length = n := by rw [List.length_take, List.length_drop]; omega
 rw [e, hl, Int.toNat_natCast] at hrun5
 rw [e] at hC5
 exact ⟨A5, hrun5, fun w hC => Kd.C_of_reads (h1 := fun _ => rfl) (hC5 w (Kd.reads_of_C hC))⟩
theorem take_len {s : St} (a b : List Int) (h1 : Alike s (takeS pushR errT ⟨[], a, [], [], -1, false⟩ b)) (hb : Line.Bytes b) (hz : b.length <= 9000) (ha : a.length <= 300000) : s.send.length <= 310000 := by
 have h3 := takeS_sendlen (good_new a) hb (by show [].length + b.length <= 200000; simp; omega)
 rw [h1.1]
 have h4 : (takeS pushR errT ⟨[], a, [], [], -1, false⟩ b).send.length <= a.length + 8008 := h3
 omega
theorem take_more {s : St} (td : List Int) (b : List Int) (p n : Nat) (h : Alike s (takeS pushR errT ⟨[], td, [], [], -1, false⟩ (b.take p))) : Alike (takeS pushR errT s ((b.drop p).take n)) (takeS pushR errT ⟨[], td, [], [], -1, false⟩ (b.take (p + n))) := by
 have h1 := (takeS_alike pushR errT h ((b.drop p).take n)).trans (takeS_two pushR errT td [] [] (b.take p) ((b.drop p).take n))
 rw [<- List.take_add] at h1
 exact h1
theorem take_last {s : St} (td : List Int) (b : List Int) (p : Nat) (h : Alike s (takeS pushR errT ⟨[], td, [], [], -1, false⟩ (b.take p))) : Alike (takeS pushR errT s (b.drop p)) (takeS pushR errT ⟨[], td, [], [], -1, false⟩ b) := by
 have h1 := (takeS_alike pushR errT h (b.drop p)).trans (takeS_two pushR errT td [] [] (b.take p) (b.drop p))
 rw [List.take_append_drop] at h1
 exact h1
theorem flip_apart {a b : Nat -> Prop} (h : ∀ k, a k -> ¬ b k) : ∀ k, b k -> ¬ a k := fun k e e2 => h k e2 e
theorem take_none (a : List Int) : takeS pushR errT ⟨[], a, [], [], -1, false⟩ [] = ⟨[], a, [], [], -1, false⟩ := by
 have hc : Line.cutF [] = ([], [], 0) := by kernel_rfl
 rw [take_hear pushR errT rfl (show (-1 : Int) ≠ -2 by decide) []]
 rw [hear_changes (s := { came := [] ++ [], send := a, ups := [], pack := [], nx := -1, waits := false }) hc rfl]
 rfl
theorem take_fed {s : St} (h : Good s) (p n : Nat) (b : List Int) (hb : Line.Bytes b) (hl : b.length = n) (hz : p + n <= 9000) (hf : s.came.length <= p /\ s.pack.length <= 800000000) : (takeS pushR errT s b).came.length <= p + n /\ (takeS pushR errT s b).pack.length <= 800000000 :=
 ⟨by have := (takeS_good h hb (by omega)).2.1; omega, takeS_pack h hb (by omega) hf.2⟩
set_option maxRecDepth 100000 in
set_option maxHeartbeats 8000000 in
theorem TakePieces_core {w : World} (A0 : Option Addr) (c0 : Nat) (l0 : List Int) (hr0 : Kd.C (Kd.int .u8) w A0 l0.length l0) (hc0 : l0.length <= c0) (hm0 : l0.length <= maxLen) (hp0 : ∀ x ∈ l0, (Lit.int .u8 x).wf = true)
  (A1 : Option Addr) (c1 : Nat) (l1 : List Int) (hr1 : Kd.C (Kd.int .u8) w A1 l1.length l1) (hc1 : l1.length <= c1) (hm1 : l1.length <= maxLen) (hp1 : ∀ x ∈ l1, (Lit.int .u8 x).wf = true) :
  Calls Tryz.prog 3 #[.slice A0 l0.length c0, .slice A1 l1.length c1] w fun e w' => e = .returned (.bool true) /\ Below w.heap.size w w' := by
 have HR0 := Asd.mk hr0
 have HR1 := Asd.mk hr1
 have HC0 := Asd.mk hc0
 have HC1 := Asd.mk hc1
 have HB0 := Asd.mk (bytes_of_wf hp0)
 have HB1 := Asd.mk (bytes_of_wf hp1)
 clear hr0 hr1 hc0 hc1 hm0 hm1 hp0 hp1
 by_cases g0 : (9000 : Int) < (l0.length : Int)
 ·go_enter Tryz.func3, Tryz.ntmps3
  go_wp2_with (first
   | (go_at_call 7; with_reducible refine (head_calls w).mono ?_; rintro e W1 ⟨rfl, hb⟩; have HB := Asd.mk hb; clear hb)
   | (go_at_call 8; with_reducible refine (new_main w _ HB.out).mono ?_; rintro e W2 ⟨g, own, rfl, ht, _, _⟩; replace HB := Asd.mk ht.bel; clear ht))
  go_ret
  exact ⟨rfl, HB.out⟩
 by_cases g1 : (200 : Int) < (l1.length : Int)
 ·go_enter Tryz.func3, Tryz.ntmps3
  go_wp2_with (first
   | (go_at_call 7; with_reducible refine (head_calls w).mono ?_; rintro e W1 ⟨rfl, hb⟩; have HB := Asd.mk hb; clear hb)
   | (go_at_call 8; with_reducible refine (new_main w _ HB.out).mono ?_; rintro e W2 ⟨g, own, rfl, ht, _, _⟩; replace HB := Asd.mk ht.bel; clear ht))
  go_ret
  exact ⟨rfl, HB.out⟩
 have HZ := Asd.mk (show l0.length <= 9000 /\ l1.length <= 200 by omega)
 have htl : (Line.putF (Hello.toldF mainT []).1).1.length <= 4004 * 66 := by
  have h1 := putF_len (Hello.toldF mainT []).1
  have h2 := Hello.told_len mainT []
  omega
 obtain ⟨td, htd⟩ : ∃ td, td = (Line.putF (Hello.toldF mainT []).1).1 := ⟨_, rfl⟩
 rw [<- htd] at htl
 have HTD := Asd.mk htd.symm
 have HTL := Asd.mk htl
 clear htd htl
 go_enter Tryz.func3, Tryz.ntmps3
 go_upto_region 2 with (go_at_call 7; with_reducible refine (head_calls w).mono ?_; rintro e W1 ⟨rfl, hb⟩; have HB := Asd.mk hb; clear hb)
 go_upto_region 3 with (go_at_call 8; with_reducible refine (new_main w _ HB.out).mono ?_; rintro e W2 ⟨g, own, rfl, ht, _, _⟩; rw [HTD.out] at ht; have HT := Asd.mk ht; clear ht HB)
 go_upto_region 4 with (go_at_call 8; with_reducible refine (new_main w _ HT.out.bel).mono ?_; rintro e W3 ⟨g2, ow2, rfl, ht, hb, hn⟩; rw [HTD.out] at ht; have HT2 := Asd.mk ht; have HD := Asd.mk (HT.out.fresh hn); replace HT := Asd.mk (HT.out.below hb); clear ht hb hn)
 go_upto_region 7 with (go_at_call 9; with_reducible refine (take_T HT2.out A0 l0.length c0 l0 rfl (Kd.C_below HR0.out HT2.out.bel) HC0.out HB0.out (by have := HZ.out.1; simp; omega) (by have := HTL.out; simp; omega)).mono ?_; rintro e W4 ⟨rfl, ow3, ht, hg⟩; have hlt := HT.out.lt; replace HT := Asd.mk (HT.out.other hg ht.bel HD.out); replace HD := Asd.mk (hg.apart hlt HD.out); replace HT2 := Asd.mk ht; clear ht hg hlt)
 go_upto_region 9 with (fail)
 obtain ⟨t1, ht1⟩ : ∃ t1, t1 = takeS pushR errT ⟨[], td, [], [], -1, false⟩ l0 := ⟨_, rfl⟩
 rw [<- ht1] at HT2
 have HT1 := Asd.mk ht1
 have HTG := Asd.mk (takeS_pack (good_new td) HB0.out (by have := HZ.out; simp; omega) (by simp))
 rw [<- ht1] at HTG
 have HA0 := Asd.mk (show Alike ⟨[], td, [], [], -1, false⟩ (takeS pushR errT ⟨[], td, [], [], -1, false⟩ (l0.take 0)) from by
  rw [List.take_zero, take_none]
  exact Alike.refl _)
 clear ht1
 go_loopw [8, 9] (fun v8 v9 wr => ∃ (p k : Nat) (ow : Nat -> Prop) (s : St), v8 = .int .i64 p /\ v9 = .int .i64 k /\ Asd (p <= l0.length) /\ Asd (T w wr ow g s) /\ Asd (T w wr ow3 g2 t1) /\ Asd (∀ k, ow3 k -> ¬ ow k) /\ Asd (Alike s (takeS pushR errT ⟨[], td, [], [], -1, false⟩ (l0.take p))) /\ Asd (s.came.length <= p /\ s.pack.length <= 800000000)) (fun _ v9 _ => l1.length - (intOf v9).toNat)
 case atStart => exact ⟨0, 0, own, _, rfl, rfl, ⟨Nat.zero_le _⟩, HT, HT2, HD, HA0, ⟨⟨Nat.zero_le _, by simp⟩⟩⟩
 case round =>
  clear HT HT2 HD HA0
  obtain ⟨p, k, ow, s, rfl, rfl, Hp, HT, HT2, HD, HAL, HFD⟩ := hrel
  by_cases hi : k < l1.length
  ·have d1 : decide ((k : Int) < (l1.length : Int)) = true := decide_eq_true (by omega)
   by_cases ha : p < l0.length
   ·have d2 : decide ((p : Int) < (l0.length : Int)) = true := decide_eq_true (by omega)
    obtain ⟨ad, hAd, hx⟩ := Kd.at_int (Kd.C_below HR1.out HT.out.bel) (k : Int) (by omega) (by omega)
    subst hAd
    rw [Int.toNat_natCast] at hx
    obtain ⟨y, hy, hy2⟩ : ∃ y : Nat, rd l1 (k : Int) = (y : Int) /\ y <= 255 := by
     have hm : rd l1 (k : Int) ∈ l1 := by
      unfold rd
      rw [Int.toNat_natCast, List.getD_eq_getElem?_getD, List.getElem?_eq_getElem hi]
      exact List.getElem_mem hi
     have hb := HB1.out _ hm
     exact ⟨(rd l1 (k : Int)).toNat, by have := hb.1; omega, by have := hb.2; omega⟩
    rw [hy] at hx
    obtain ⟨q, hq⟩ : ∃ q : Nat, q = l0.length - p := ⟨_, rfl⟩
    have m1 : IntKind.i64.wrap ((l0.length : Int) - (p : Int)) = (q : Int) := by rw [i64_w, Line.w64 (by omega) (by omega)]; omega
    have m2 : IntKind.i64.wrap (y : Int) = (y : Int) := by rw [i64_w, Line.w64 (by omega) (by omega)]
    clear hy
    by_cases c : (q : Int) < (y : Int)
    ·have hpn : p + q <= l0.length := by omega
     have m3 : IntKind.i64.wrap ((p : Int) + (q : Int)) = (p : Int) + (q : Int) := by rw [i64_w, Line.w64 (by omega) (by omega)]
     obtain ⟨A5, hrun5, hC5⟩ := mid_cut A0 c0 l0 p q hpn HC0.out
     have HC5 := Asd.mk hC5
     have HPN := Asd.mk hpn
     have HSL := Asd.mk (take_len td (l0.take p) HAL.out (bytes_take HB0.out p) (by rw [List.length_take]; have := HZ.out; omega) (by have := HTL.out; omega))
     have hdl : ((l0.drop p).take q).length = q := by rw [List.length_take, List.length_drop]; omega
     have HDL := Asd.mk hdl
     clear hdl hC5 hq
     go_upto_region 13 with (go_at_call 9; with_reducible refine (take_T HT.out A5 q (c0 - p) ((l0.drop p).take q) HDL.out.symm (HC5.out _ (Kd.C_below HR0.out HT.out.bel)) (by rw [HDL.out]; have := HPN.out; have := HC0.out; omega) (bytes_take (bytes_drop HB0.out p) q) (by rw [HDL.out]; have := HFD.out.1; have := HPN.out; have := HZ.out; omega) (by have := HSL.out; omega)).mono ?_; rintro e W5 ⟨rfl, ow5, ht, hg⟩; have hlt := HT2.out.lt; replace HT2 := Asd.mk (HT2.out.other hg ht.bel (flip_apart HD.out)); replace HD := Asd.mk (flip_apart (hg.apart hlt (flip_apart HD.out))); replace HFD := Asd.mk (take_fed HT.out.good p q ((l0.drop p).take q) (bytes_take (bytes_drop HB0.out p) q) HDL.out (by have := HPN.out; have := HZ.out; omega) HFD.out); replace HAL := Asd.mk (take_more td l0 p q HAL.out); replace HT := Asd.mk ht; clear ht hg hlt)
     go_wp2
     go_round
     ·exact ⟨p + q, k + 1, ow5, _, by go_num, by go_num, HPN, HT, HT2, HD, HAL, HFD⟩
     ·simp [intOf]; omega
    ·have hpn : p + y <= l0.length := by omega
     have m3 : IntKind.i64.wrap ((p : Int) + (y : Int)) = (p : Int) + (y : Int) := by rw [i64_w, Line.w64 (by omega) (by omega)]
     obtain ⟨A5, hrun5, hC5⟩ := mid_cut A0 c0 l0 p y hpn HC0.out
     have HC5 := Asd.mk hC5
     have HPN := Asd.mk hpn
     have HSL := Asd.mk (take_len td (l0.take p) HAL.out (bytes_take HB0.out p) (by rw [List.length_take]; have := HZ.out; omega) (by have := HTL.out; omega))
     have hdl : ((l0.drop p).take y).length = y := by rw [List.length_take, List.length_drop]; omega
     have HDL := Asd.mk hdl
     clear hdl hC5 hq
     go_upto_region 13 with (go_at_call 9; with_reducible refine (take_T HT.out A5 y (c0 - p) ((l0.drop p).take y) HDL.out.symm (HC5.out _ (Kd.C_below HR0.out HT.out.bel)) (by rw [HDL.out]; have := HPN.out; have := HC0.out; omega) (bytes_take (bytes_drop HB0.out p) y) (by rw [HDL.out]; have := HFD.out.1; have := HPN.out; have := HZ.out; omega) (by have := HSL.out; omega)).mono ?_; rintro e W5 ⟨rfl, ow5, ht, hg⟩; have hlt := HT2.out.lt; replace HT2 := Asd.mk (HT2.out.other hg ht.bel (flip_apart HD.out)); replace HD := Asd.mk (flip_apart (hg.apart hlt (flip_apart HD.out))); replace HFD := Asd.mk (take_fed HT.out.good p y ((l0.drop p).take y) (bytes_take (bytes_drop HB0.out p) y) HDL.out (by have := HPN.out; have := HZ.out; omega) HFD.out); replace HAL := Asd.mk (take_more td l0 p y HAL.out); replace HT := Asd.mk ht; clear ht hg hlt)
     go_wp2
     go_round
     ·exact ⟨p + y, k + 1, ow5, _, by go_num, by go_num, HPN, HT, HT2, HD, HAL, HFD⟩
     ·simp [intOf]; omega
   ·have d2 : decide ((p : Int) < (l0.length : Int)) = false := decide_eq_false (by omega)
    have hpl : (p : Int) <= (l0.length : Int) := by have := Hp.out; omega
    obtain ⟨A6, c6, hcut, hC6, hCc6⟩ := drop_cut (Rw.came (Kd.heap_int .u8) HR0.out HT.out.bel HT.out.lo) HC0.out (p : Int) (by omega) hpl
    rw [Int.toNat_natCast] at hcut hC6 hCc6
    have HC6 := Asd.mk hC6
    have HCc6 := Asd.mk hCc6
    have HSL := Asd.mk (take_len td (l0.take p) HAL.out (bytes_take HB0.out p) (by rw [List.length_take]; have := HZ.out; omega) (by have := HTL.out; omega))
    have HDL := Asd.mk (show (l0.drop p).length = l0.length - p from List.length_drop)
    have hpc : (p : Int) <= (c0 : Int) := by have := HC0.out; omega
    clear hC6 hCc6
    go_upto_region 15 with (go_at_call 9; with_reducible refine (take_T HT.out A6 (l0.length - p) c6 (l0.drop p) HDL.out.symm HC6.out.now HCc6.out (bytes_drop HB0.out p) (by rw [HDL.out]; have := HFD.out.1; have := HZ.out; omega) (by have := HSL.out; omega)).mono ?_; rintro e W5 ⟨rfl, ow5, ht, hg⟩; have hlt := HT2.out.lt; replace HT2 := Asd.mk (HT2.out.other hg ht.bel (flip_apart HD.out)); replace HD := Asd.mk (flip_apart (hg.apart hlt (flip_apart HD.out))); replace HFD := Asd.mk (takeS_pack HT.out.good (bytes_drop HB0.out p) (by rw [HDL.out]; have := HFD.out.1; have := HZ.out; omega) HFD.out.2); replace HAL := Asd.mk (take_last td l0 p HAL.out); replace HT := Asd.mk ht; clear ht hg hlt)
    rw [<- HT1.out] at HAL
    generalize takeS pushR errT s (l0.drop p) = s2 at HT HAL HFD
    clear hcut HC6 HCc6 HSL HDL
    obtain ⟨xs, hxs⟩ : ∃ xs, rdyU s2 = xs := ⟨_, rfl⟩
    obtain ⟨ys, hys⟩ : ∃ ys, rdyP s2 = ys := ⟨_, rfl⟩
    obtain ⟨sd, hsd⟩ : ∃ sd, s2.send = sd := ⟨_, rfl⟩
    obtain ⟨b, hb⟩ : ∃ b, s2.waits = b := ⟨_, rfl⟩
    obtain ⟨d, hd⟩ : ∃ d, doneS s2 = d := ⟨_, rfl⟩
    have hx1 := Asd.mk hxs
    have hy1 := Asd.mk hys
    have hs1 := Asd.mk hsd
    have hb1 := Asd.mk hb
    have hd1 := Asd.mk hd
    have hx2 := Asd.mk (show rdyU t1 = xs from HAL.out.rdy.1.symm.trans hxs)
    have hy2 := Asd.mk (show rdyP t1 = ys from HAL.out.rdy.2.symm.trans hys)
    have hs2 := Asd.mk (show t1.send = sd from HAL.out.1.symm.trans hsd)
    have hb2 := Asd.mk (show t1.waits = b from HAL.out.2.2.1.symm.trans hb)
    have hd2 := Asd.mk (show doneS t1 = d from HAL.out.done.symm.trans hd)
    have HLX := Asd.mk (show xs.length <= 16 by rw [<- hxs]; unfold rdyU; split; exact HT.out.good.ups; simp)
    clear hxs hys hsd hb hd
    go_upto_region 16 with (go_at_call 10; with_reducible refine (ready_any HT.out HFD.out xs ys b hx1.out hy1.out hb1.out).mono ?_; rintro e W6 ⟨Ax, cx, Ay, cy, rfl, hx, hy, lx, ly, hbw⟩; have HX1 := Asd.mk (two_row HT.out HT2.out hx); have HY1 := Asd.mk (two_row HT.out HT2.out hy); have HLA := Asd.mk (And.intro lx ly); replace HT := Asd.mk (HT.out.below hbw); replace HT2 := Asd.mk (HT2.out.below hbw); clear hx hy lx ly hbw)
    go_upto_region 17 with (go_at_call 10; with_reducible refine (ready_any HT2.out HTG.out xs ys b hx2.out hy2.out hb2.out).mono ?_; rintro e W17 ⟨Bx, ex, By, ey, rfl, hx, hy, lx, ly, hbw⟩; have HX2 := Asd.mk (two_row HT.out HT2.out hx); have HY2 := Asd.mk (two_row HT.out HT2.out hy); have HLB := Asd.mk (And.intro lx ly); replace HT := Asd.mk (HT.out.below hbw); replace HT2 := Asd.mk (HT2.out.below hbw); replace HX1 := Asd.mk (HX1.out.below hbw); replace HY1 := Asd.mk (HY1.out.below hbw); clear hx hy lx ly hbw)
    obtain ⟨V, hV⟩ : ∃ V : Nat -> Prop, V = fun k => ¬ (ow5 k ∨ ow3 k) /\ k < W17.heap.size := ⟨_, rfl⟩
    have H2 := Asd.mk (show T2 w W17 V ow5 g s2 ow3 g2 t1 from by rw [hV]; exact ⟨HT.out, HT2.out, flip_apart HD.out, fun k e e2 => e2.1 (Or.inl e), fun k e e2 => e2.1 (Or.inr e), fun k e => e.2⟩)
    replace HX1 := Asd.mk (show Kd.F k42 W17 V Ax xs.length xs by rw [hV]; exact HX1.out)
    replace HY1 := Asd.mk (show Kd.F (Kd.int .u8) W17 V Ay ys.length ys by rw [hV]; exact HY1.out)
    replace HX2 := Asd.mk (show Kd.F k42 W17 V Bx xs.length xs by rw [hV]; exact HX2.out)
    replace HY2 := Asd.mk (show Kd.F (Kd.int .u8) W17 V By ys.length ys by rw [hV]; exact HY2.out)
    have HL := Asd.mk (show xs.length <= cx /\ xs.length <= ex from ⟨HLA.out.1, HLB.out.1⟩)
    have HSX := Asd.mk (Hello.sameU_eq xs (by have := HLX.out; omega) (k := 1000) (by have := HLX.out; omega))
    have HS0 := Asd.mk (show Same w W17 V W17.drew from ⟨bd1 H2.out.one.bel, fun k _ => rfl⟩)
    clear hV HT HT2 HD HAL HLA HLB HLX hx1 hx2 hy1 hy2 hb1 hb2 HT1 HFD HTG
    refine start_ (n := 35) (S := Same w W17 V) (ds := []) (bA 35 0) (by kernel_rfl) rfl rfl HS0.out (fun hHeld => ?_)
    refine with_tabW pieces.tab17 pieces.bits17 (fun HT_ HW_ => ?_)
    replace H2 := Asd.mk (H2.out.below (bd1 (Below.refl _ _)))
    clear HS0
    generalize W17.drew = W at hHeld H2 ⊢
    refine pure_ (i := 0) (N := some 98) (v := ?_) (a' := ?_) (bA 35 1) rfl rfl (any_of HT_.out (by kernel_rfl)) (fun _ _ _ h => h) (Or.inl ⟨by rfl, ?_⟩) ?_ ?_
    rotate_left
    ·intro w'
     go_simp
     with_reducible rfl
    rotate_left
    ·simp only [Act.put, zA, zB, zC, i64_w, i32_w]
     rfl
    refine pure_ (i := 1) (N := some 99) (v := ?_) (a' := ?_) (bA 35 3) rfl rfl (any_of HT_.out (by kernel_rfl)) (fun _ _ _ h => h) (Or.inl ⟨by rfl, ?_⟩) ?_ ?_
    rotate_left
    ·intro w'
     go_simp
     with_reducible rfl
    rotate_left
    ·simp only [Act.put, zA, zB, zC, i64_w, i32_w]
     rfl
    refine pure_ (i := 2) (N := some 100) (v := ?_) (a' := ?_) (bA 35 7) rfl rfl (any_of HT_.out (by kernel_rfl)) (fun _ _ _ h => h) (Or.inl ⟨by rfl, ?_⟩) ?_ ?_
    rotate_left
    ·intro w'
     go_simp
     with_reducible rfl
    rotate_left
    ·simp only [Act.put, zA, zB, zC, i64_w, i32_w]
     rfl
    refine pure_ (i := 3) (N := some 101) (v := ?_) (a' := ?_) (bA 35 15) rfl rfl (any_of HT_.out (by kernel_rfl)) (fun _ _ _ h => h) (Or.inl ⟨by rfl, ?_⟩) ?_ ?_
    rotate_left
    ·intro w'
     go_simp
     with_reducible rfl
    rotate_left
    ·simp only [Act.put, zA, zB, zC, i64_w, i32_w]
     rfl
    refine pure_ (i := 4) (N := some 102) (v := .bool true) (a' := ?_) (bA 35 31) rfl rfl (any_of HT_.out (by kernel_rfl)) (fun _ _ _ h => h) (Or.inl ⟨by rfl, ?_⟩) ?_ ?_
    ·intro w'
     first | (go_simp; done) | (go_simp; simp)
    rotate_left
    ·simp only [Act.put, zA, zB, zC, i64_w, i32_w]
     rfl
    refine pure_ (i := 5) (N := some 103) (v := ?_) (a' := ?_) (bA 35 63) rfl rfl (any_of HT_.out (by kernel_rfl)) (fun _ _ _ h => h) (Or.inl ⟨by rfl, ?_⟩) ?_ ?_
    rotate_left
    ·intro w'
     go_simp
     with_reducible rfl
    rotate_left
    ·simp only [Act.put, zA, zB, zC, i64_w, i32_w]
     rfl
    refine pure_ (i := 6) (N := some 104) (v := ?_) (a' := ?_) (bA 35 127) rfl rfl (any_of HT_.out (by kernel_rfl)) (fun _ _ _ h => h) (Or.inl ⟨by rfl, ?_⟩) ?_ ?_
    rotate_left
    ·intro w'
     go_simp
     with_reducible rfl
    rotate_left
    ·simp only [Act.put, zA, zB, zC, i64_w, i32_w]
     rfl
    refine pure_ (i := 7) (N := some 105) (v := ?_) (a' := ?_) (bA 35 255) rfl rfl (any_of HT_.out (by kernel_rfl)) (fun _ _ _ h => h) (Or.inl ⟨by rfl, ?_⟩) ?_ ?_
    rotate_left
    ·intro w'
     go_simp
     with_reducible rfl
    rotate_left
    ·simp only [Act.put, zA, zB, zC, i64_w, i32_w]
     rfl
    refine pure_ (i := 9) (N := some 107) (v := ?_) (a' := ?_) (bA 35 767) rfl rfl (any_of HT_.out (by kernel_rfl)) (fun _ _ _ h => h) (Or.inl ⟨by rfl, ?_⟩) ?_ ?_
    rotate_left
    ·intro w'
     go_simp
     with_reducible rfl
    rotate_left
    ·simp only [Act.put, zA, zB, zC, i64_w, i32_w]
     rfl
    refine one_ (i := 8) (N := some 106) (bA 35 1023) rfl rfl (one_of HT_.out (by kernel_rfl)) (by decide) (fun K hK => ?_)
    refine goes_ Tryz.func11 (by kernel_rfl) rfl #[.pointer (some ⟨g, 0, none⟩)] (by rfl) rfl rfl (by (try simp only [List.map_toArray, List.map_cons, List.map_nil]); first | done | rfl) ?_
    refine (done_T H2.out.one d hd1.out).mono ?_
    rintro e w1 ⟨rfl, rfl⟩
    refine ⟨_, rfl, ?_⟩
    refine hK.out _ _ hHeld (fun hHeld => ?_)
    clear hK K
    refine norm_ (a' := ?_) ?_ ?_
    rotate_left
    ·show Act.put _ (some 106) _ = _
     simp only [Act.put, zA, zB, zC, i64_w, i32_w]
     rfl
    refine one_ (i := 10) (N := some 108) (bA 35 2047) rfl rfl (one_of HT_.out (by kernel_rfl)) (by decide) (fun K hK => ?_)
    refine goes_ Tryz.func11 (by kernel_rfl) rfl #[.pointer (some ⟨g2, 0, none⟩)] (by rfl) rfl rfl (by (try simp only [List.map_toArray, List.map_cons, List.map_nil]); first | done | rfl) ?_
    refine (done_T H2.out.two d hd2.out).mono ?_
    rintro e w1 ⟨rfl, rfl⟩
    refine ⟨_, rfl, ?_⟩
    refine hK.out _ _ hHeld (fun hHeld => ?_)
    clear hK K
    refine norm_ (a' := ?_) ?_ ?_
    rotate_left
    ·show Act.put _ (some 108) _ = _
     simp only [Act.put, zA, zB, zC, i64_w, i32_w]
     rfl
    refine pure_ (i := 11) (N := some 109) (v := .bool true) (a' := ?_) (bA 35 4095) rfl rfl (any_of HT_.out (by kernel_rfl)) (fun _ _ _ h => h) (Or.inl ⟨by rfl, ?_⟩) ?_ ?_
    ·intro w'
     first | (go_simp; done) | (go_simp; simp)
    rotate_left
    ·simp only [Act.put, zA, zB, zC, i64_w, i32_w]
     rfl
    refine pure_ (i := 12) (N := some 110) (v := ?_) (a' := ?_) (bA 35 8191) rfl rfl (any_of HT_.out (by kernel_rfl)) (fun _ _ _ h => h) (Or.inl ⟨by rfl, ?_⟩) ?_ ?_
    rotate_left
    ·intro w'
     go_simp
     with_reducible rfl
    rotate_left
    ·simp only [Act.put, zA, zB, zC, i64_w, i32_w]
     rfl
    refine pure_ (i := 13) (N := some 111) (v := ?_) (a' := ?_) (bA 35 16383) rfl rfl (any_of HT_.out (by kernel_rfl)) (fun _ _ _ h => h) (Or.inl ⟨by rfl, ?_⟩) ?_ ?_
    rotate_left
    ·intro w'
     go_simp
     with_reducible rfl
    rotate_left
    ·simp only [Act.put, zA, zB, zC, i64_w, i32_w]
     rfl
    refine pure_ (i := 14) (N := some 112) (v := ?_) (a' := ?_) (bA 35 32767) rfl rfl (any_of HT_.out (by kernel_rfl)) (fun _ _ _ h => h) (Or.inl ⟨by rfl, ?_⟩) ?_ ?_
    rotate_left
    ·intro w'
     go_simp
     with_reducible rfl
    rotate_left
    ·simp only [Act.put, zA, zB, zC, i64_w, i32_w]
     rfl
    refine pure_ (i := 17) (N := some 115) (v := ?_) (a' := ?_) (bA 35 163839) rfl rfl (any_of HT_.out (by kernel_rfl)) (fun _ _ _ h => h) (Or.inl ⟨by rfl, ?_⟩) ?_ ?_
    rotate_left
    ·intro w'
     go_simp
     with_reducible rfl
    rotate_left
    ·simp only [Act.put, zA, zB, zC, i64_w, i32_w]
     rfl
    refine one_ (i := 15) (N := some 113) (bA 35 196607) rfl rfl (one_of HT_.out (by kernel_rfl)) (by decide) (fun K hK => ?_)
    refine goes_ Tryz.func12 (by kernel_rfl) rfl #[.pointer (some ⟨g, 0, none⟩)] (by rfl) rfl rfl (by (try simp only [List.map_toArray, List.map_cons, List.map_nil]); first | done | rfl) ?_
    refine (out_two H2.out sd hs1.out).mono ?_
    rintro e Wa ⟨Ao, co, owa, rfl, h2, ho, _, hv⟩
    refine ⟨_, rfl, ?_⟩
    replace H2 := Asd.mk h2
    have HO := Asd.mk ho
    clear h2 ho
    refine hK.out _ _ (hHeld.goes H2.out.one.bel hv) (fun hHeld => ?_)
    clear hK K
    refine norm_ (a' := ?_) ?_ ?_
    rotate_left
    ·show Act.put _ (some 113) _ = _
     simp only [Act.put, zA, zB, zC, i64_w, i32_w]
     rfl
    have HOn := Asd.mk (Kd.F_now HO.out)
    refine two_ (i := 16) (j := 18) (Ni := some 114) (Nj := some 116) (bA 35 262143) (bA 35 458751) rfl rfl rfl rfl (two_of HT_.out (by kernel_rfl)) (by decide) (by decide) (fun K hK => ?_) (fun K hK => ?_)
    ·have hcv := Kd.C_string (P := Tryz.prog) (src := 22) (dst := 9) (c := co) Tryz.underlying22 Tryz.underlying5 Tryz.underlying9 HOn.out
     refine value_ (w1 := ?_) (v := ?_) (by rfl) rfl ?_ ?_
     rotate_left 2
     ·go_simp
      constructor
      ·rfl
      ·rfl
     clear hcv
     refine hK.out _ _ hHeld (fun hHeld => ?_)
     clear hK K
     refine norm_ (a' := ?_) ?_ ?_
     rotate_left
     ·show Act.put _ (some 114) _ = _
      simp only [Act.put, zA, zB, zC, i64_w, i32_w]
      rfl
     refine one_ (i := 18) (N := some 116) (bA 35 524287) rfl rfl (one_of HT_.out (by kernel_rfl)) (by decide) (fun K hK => ?_)
     refine goes_ Tryz.func12 (by kernel_rfl) rfl #[.pointer (some ⟨g2, 0, none⟩)] (by rfl) rfl rfl (by (try simp only [List.map_toArray, List.map_cons, List.map_nil]); first | done | rfl) ?_
     refine (out_two H2.out.flip sd hs2.out).mono ?_
     rintro e Wb ⟨Ap, cp, owb, rfl, h2, ho, hk, hv⟩
     refine ⟨_, rfl, ?_⟩
     replace H2 := Asd.mk h2
     have HO2 := Asd.mk (row_keeps HO.out hk)
     have HP := Asd.mk (Kd.F_now ho)
     clear h2 ho hk
     refine hK.out _ _ (hHeld.goes H2.out.one.bel hv) (fun hHeld => ?_)
     clear hK K
     refine norm_ (a' := ?_) ?_ ?_
     rotate_left
     ·show Act.put _ (some 116) _ = _
      simp only [Act.put, zA, zB, zC, i64_w, i32_w]
      rfl
     refine one_ (i := 19) (N := some 117) (bA 35 1048575) rfl rfl (one_of HT_.out (by kernel_rfl)) (by decide) (fun K hK => ?_)
     have hcv := Kd.C_string (P := Tryz.prog) (src := 22) (dst := 9) (c := cp) Tryz.underlying22 Tryz.underlying5 Tryz.underlying9 HP.out
     refine value_ (w1 := ?_) (v := ?_) (by rfl) rfl ?_ ?_
     rotate_left 2
     ·go_simp
      constructor
      ·rfl
      ·rfl
     clear hcv
     refine hK.out _ _ hHeld (fun hHeld => ?_)
     clear hK K
     refine norm_ (a' := ?_) ?_ ?_
     rotate_left
     ·show Act.put _ (some 117) _ = _
      simp only [Act.put, zA, zB, zC, i64_w, i32_w]
      rfl
     refine pure_ (i := 20) (N := some 118) (v := .bool true) (a' := ?_) (bA 35 2097151) rfl rfl (any_of HT_.out (by kernel_rfl)) (fun _ _ _ h => h) (Or.inl ⟨by rfl, ?_⟩) ?_ ?_
     ·intro w'
      first | (go_simp; done) | (go_simp; simp)
     rotate_left
     ·simp only [Act.put, zA, zB, zC, i64_w, i32_w]
      rfl
     refine pure_ (i := 21) (N := some 119) (v := ?_) (a' := ?_) (bA 35 4194303) rfl rfl (any_of HT_.out (by kernel_rfl)) (fun _ _ _ h => h) (Or.inl ⟨by rfl, ?_⟩) ?_ ?_
     rotate_left
     ·intro w'
      go_simp
      with_reducible rfl
     rotate_left
     ·simp only [Act.put, zA, zB, zC, i64_w, i32_w]
      rfl
     refine pure_ (i := 22) (N := some 120) (v := ?_) (a' := ?_) (bA 35 8388607) rfl rfl (any_of HT_.out (by kernel_rfl)) (fun _ _ _ h => h) (Or.inl ⟨by rfl, ?_⟩) ?_ ?_
     rotate_left
     ·intro w'
      go_simp
      with_reducible rfl
     rotate_left
     ·simp only [Act.put, zA, zB, zC, i64_w, i32_w]
      rfl
     refine pure_ (i := 23) (N := some 121) (v := ?_) (a' := ?_) (bA 35 16777215) rfl rfl (any_of HT_.out (by kernel_rfl)) (fun _ _ _ h => h) (Or.inl ⟨by rfl, ?_⟩) ?_ ?_
     rotate_left
     ·intro w'
      go_simp
      with_reducible rfl
     rotate_left
     ·simp only [Act.put, zA, zB, zC, i64_w, i32_w]
      rfl
     refine pure_ (i := 24) (N := some 122) (v := ?_) (a' := ?_) (bA 35 33554431) rfl rfl (any_of HT_.out (by kernel_rfl)) (fun _ _ _ h => h) (Or.inl ⟨by rfl, ?_⟩) ?_ ?_
     rotate_left
     ·intro w'
      go_simp
      with_reducible rfl
     rotate_left
     ·simp only [Act.put, zA, zB, zC, i64_w, i32_w]
      rfl
     refine one_ (i := 25) (N := some 123) (bA 35 67108863) rfl rfl (one_of HT_.out (by kernel_rfl)) (by decide) (fun K hK => ?_)
     refine goes_ Tryz.func13 (by kernel_rfl) rfl #[.slice Ax xs.length cx, .slice Bx xs.length ex] (by rfl) rfl rfl (by (try simp only [List.map_toArray, List.map_cons, List.map_nil]); first | done | rfl) ?_
     refine (q6_SameUpdates.calls 1000 Ax cx xs Bx ex xs true _ (hHeld.row HX1.out) HL.out.1 (hHeld.row HX2.out) HL.out.2 HSX.out).mono ?_
     rintro e Wc ⟨rfl, ⟨nd, rfl⟩⟩
     refine ⟨_, rfl, ?_⟩
     replace H2 := Asd.mk (H2.out.below (pbN (Below.refl _ _) nd))
     refine hK.out _ _ (hHeld.step (pbN (Below.refl _ _) nd) H2.out.lt) (fun hHeld => ?_)
     clear hK K
     refine norm_ (a' := ?_) ?_ ?_
     rotate_left
     ·show Act.put _ (some 123) _ = _
      simp only [Act.put, zA, zB, zC, i64_w, i32_w]
      rfl
     refine pure_ (i := 26) (N := some 124) (v := ?_) (a' := ?_) (bA 35 134217727) rfl rfl (any_of HT_.out (by kernel_rfl)) (fun _ _ _ h => h) (Or.inl ⟨by rfl, ?_⟩) ?_ ?_
     rotate_left
     ·intro w'
      go_simp
      with_reducible rfl
     rotate_left
     ·simp only [Act.put, zA, zB, zC, i64_w, i32_w]
      rfl
     refine pure_ (i := 27) (N := some 125) (v := ?_) (a' := ?_) (bA 35 268435455) rfl rfl (any_of HT_.out (by kernel_rfl)) (fun _ _ _ h => h) (Or.inl ⟨by rfl, ?_⟩) ?_ ?_
     rotate_left
     ·intro w'
      go_simp
      with_reducible rfl
     rotate_left
     ·simp only [Act.put, zA, zB, zC, i64_w, i32_w]
      rfl
     refine pure_ (i := 28) (N := some 126) (v := ?_) (a' := ?_) (bA 35 536870911) rfl rfl (any_of HT_.out (by kernel_rfl)) (fun _ _ _ h => h) (Or.inl ⟨by rfl, ?_⟩) ?_ ?_
     rotate_left
     ·intro w'
      go_simp
      with_reducible rfl
     rotate_left
     ·simp only [Act.put, zA, zB, zC, i64_w, i32_w]
      rfl
     refine pure_ (i := 30) (N := some 128) (v := ?_) (a' := ?_) (bA 35 1610612735) rfl rfl (any_of HT_.out (by kernel_rfl)) (fun _ _ _ h => h) (Or.inl ⟨by rfl, ?_⟩) ?_ ?_
     rotate_left
     ·intro w'
      go_simp
      with_reducible rfl
     rotate_left
     ·simp only [Act.put, zA, zB, zC, i64_w, i32_w]
      rfl
     refine take_ (i := 29) (N := some 127) (v := .string (strOfNums ys)) (a' := ?_) (bA 35 2147483647) rfl rfl (take_ofW HT_.out HW_.out (by kernel_rfl)) (fun _ _ _ h => h) (Or.inl ⟨by rfl, fun w' hS' => ?_⟩) hHeld ?_ ?_
     ·have hcv := Kd.C_string (P := Tryz.prog) (src := 22) (dst := 9) (c := cy) Tryz.underlying22 Tryz.underlying5 Tryz.underlying9 (hS'.row HY1.out)
      first | (go_simp; done) | (go_simp; rfl)
     rotate_left
     ·simp only [Act.put, zA, zB, zC, i64_w, i32_w]
      rfl
     refine take_ (i := 31) (N := some 129) (v := .string (strOfNums ys)) (a' := ?_) (bA 35 4294967295) rfl rfl (take_ofW HT_.out HW_.out (by kernel_rfl)) (fun _ _ _ h => h) (Or.inl ⟨by rfl, fun w' hS' => ?_⟩) hHeld ?_ ?_
     ·have hcv := Kd.C_string (P := Tryz.prog) (src := 22) (dst := 9) (c := ey) Tryz.underlying22 Tryz.underlying5 Tryz.underlying9 (hS'.row HY2.out)
      first | (go_simp; done) | (go_simp; rfl)
     rotate_left
     ·simp only [Act.put, zA, zB, zC, i64_w, i32_w]
      rfl
     refine pure_ (i := 32) (N := some 130) (v := .bool true) (a' := ?_) (bA 35 8589934591) rfl rfl (any_of HT_.out (by kernel_rfl)) (fun _ _ _ h => h) (Or.inl ⟨by rfl, ?_⟩) ?_ ?_
     ·intro w'
      first | (go_simp; done) | (go_simp; simp)
     rotate_left
     ·simp only [Act.put, zA, zB, zC, i64_w, i32_w]
      rfl
     refine pure_ (i := 33) (N := some 131) (v := ?_) (a' := ?_) (bA 35 17179869183) rfl rfl (any_of HT_.out (by kernel_rfl)) (fun _ _ _ h => h) (Or.inl ⟨by rfl, ?_⟩) ?_ ?_
     rotate_left
     ·intro w'
      go_simp
      with_reducible rfl
     rotate_left
     ·simp only [Act.put, zA, zB, zC, i64_w, i32_w]
      rfl
     refine pure_ (i := 34) (N := some 4) (v := ?_) (a' := ?_) (bA 35 34359738367) rfl rfl (any_of HT_.out (by kernel_rfl)) (fun _ _ _ h => h) (Or.inl ⟨by rfl, ?_⟩) ?_ ?_
     rotate_left
     ·intro w'
      go_simp
      with_reducible rfl
     rotate_left
     ·simp only [Act.put, zA, zB, zC, i64_w, i32_w]
      rfl
     refine done_ (done_of HT_.out (by kernel_rfl)) ?_
     try go_wp2
     go_ret
     exact ⟨rfl, hHeld.below⟩
    ·refine goes_ Tryz.func12 (by kernel_rfl) rfl #[.pointer (some ⟨g2, 0, none⟩)] (by rfl) rfl rfl (by (try simp only [List.map_toArray, List.map_cons, List.map_nil]); first | done | rfl) ?_
     refine (out_two H2.out.flip sd hs2.out).mono ?_
     rintro e Wb ⟨Ap, cp, owb, rfl, h2, ho, hk, hv⟩
     refine ⟨_, rfl, ?_⟩
     replace H2 := Asd.mk h2
     have HO2 := Asd.mk (row_keeps HO.out hk)
     have HP := Asd.mk (Kd.F_now ho)
     clear h2 ho hk
     refine hK.out _ _ (hHeld.goes H2.out.one.bel hv) (fun hHeld => ?_)
     clear hK K
     refine norm_ (a' := ?_) ?_ ?_
     rotate_left
     ·show Act.put _ (some 116) _ = _
      simp only [Act.put, zA, zB, zC, i64_w, i32_w]
      rfl
     refine two_ (i := 16) (j := 19) (Ni := some 114) (Nj := some 117) (bA 35 524287) (bA 35 983039) rfl rfl rfl rfl (two_of HT_.out (by kernel_rfl)) (by decide) (by decide) (fun K hK => ?_) (fun K hK => ?_)
     ·have hcv := Kd.C_string (P := Tryz.prog) (src := 22) (dst := 9) (c := co) Tryz.underlying22 Tryz.underlying5 Tryz.underlying9 HO2.out
      refine value_ (w1 := ?_) (v := ?_) (by rfl) rfl ?_ ?_
      rotate_left 2
      ·go_simp
       constructor
       ·rfl
       ·rfl
      clear hcv
      refine hK.out _ _ hHeld (fun hHeld => ?_)
      clear hK K
      refine norm_ (a' := ?_) ?_ ?_
      rotate_left
      ·show Act.put _ (some 114) _ = _
       simp only [Act.put, zA, zB, zC, i64_w, i32_w]
       rfl
      refine one_ (i := 19) (N := some 117) (bA 35 1048575) rfl rfl (one_of HT_.out (by kernel_rfl)) (by decide) (fun K hK => ?_)
      have hcv := Kd.C_string (P := Tryz.prog) (src := 22) (dst := 9) (c := cp) Tryz.underlying22 Tryz.underlying5 Tryz.underlying9 HP.out
      refine value_ (w1 := ?_) (v := ?_) (by rfl) rfl ?_ ?_
      rotate_left 2
      ·go_simp
       constructor
       ·rfl
       ·rfl
      clear hcv
      refine hK.out _ _ hHeld (fun hHeld => ?_)
      clear hK K
      refine norm_ (a' := ?_) ?_ ?_
      rotate_left
      ·show Act.put _ (some 117) _ = _
       simp only [Act.put, zA, zB, zC, i64_w, i32_w]
       rfl
      refine pure_ (i := 20) (N := some 118) (v := .bool true) (a' := ?_) (bA 35 2097151) rfl rfl (any_of HT_.out (by kernel_rfl)) (fun _ _ _ h => h) (Or.inl ⟨by rfl, ?_⟩) ?_ ?_
      ·intro w'
       first | (go_simp; done) | (go_simp; simp)
      rotate_left
      ·simp only [Act.put, zA, zB, zC, i64_w, i32_w]
       rfl
      refine pure_ (i := 21) (N := some 119) (v := ?_) (a' := ?_) (bA 35 4194303) rfl rfl (any_of HT_.out (by kernel_rfl)) (fun _ _ _ h => h) (Or.inl ⟨by rfl, ?_⟩) ?_ ?_
      rotate_left
      ·intro w'
       go_simp
       with_reducible rfl
      rotate_left
      ·simp only [Act.put, zA, zB, zC, i64_w, i32_w]
       rfl
      refine pure_ (i := 22) (N := some 120) (v := ?_) (a' := ?_) (bA 35 8388607) rfl rfl (any_of HT_.out (by kernel_rfl)) (fun _ _ _ h => h) (Or.inl ⟨by rfl, ?_⟩) ?_ ?_
      rotate_left
      ·intro w'
       go_simp
       with_reducible rfl
      rotate_left
      ·simp only [Act.put, zA, zB, zC, i64_w, i32_w]
       rfl
      refine pure_ (i := 23) (N := some 121) (v := ?_) (a' := ?_) (bA 35 16777215) rfl rfl (any_of HT_.out (by kernel_rfl)) (fun _ _ _ h => h) (Or.inl ⟨by rfl, ?_⟩) ?_ ?_
      rotate_left
      ·intro w'
       go_simp
       with_reducible rfl
      rotate_left
      ·simp only [Act.put, zA, zB, zC, i64_w, i32_w]
       rfl
      refine pure_ (i := 24) (N := some 122) (v := ?_) (a' := ?_) (bA 35 33554431) rfl rfl (any_of HT_.out (by kernel_rfl)) (fun _ _ _ h => h) (Or.inl ⟨by rfl, ?_⟩) ?_ ?_
      rotate_left
      ·intro w'
       go_simp
       with_reducible rfl
      rotate_left
      ·simp only [Act.put, zA, zB, zC, i64_w, i32_w]
       rfl
      refine one_ (i := 25) (N := some 123) (bA 35 67108863) rfl rfl (one_of HT_.out (by kernel_rfl)) (by decide) (fun K hK => ?_)
      refine goes_ Tryz.func13 (by kernel_rfl) rfl #[.slice Ax xs.length cx, .slice Bx xs.length ex] (by rfl) rfl rfl (by (try simp only [List.map_toArray, List.map_cons, List.map_nil]); first | done | rfl) ?_
      refine (q6_SameUpdates.calls 1000 Ax cx xs Bx ex xs true _ (hHeld.row HX1.out) HL.out.1 (hHeld.row HX2.out) HL.out.2 HSX.out).mono ?_
      rintro e Wc ⟨rfl, ⟨nd, rfl⟩⟩
      refine ⟨_, rfl, ?_⟩
      replace H2 := Asd.mk (H2.out.below (pbN (Below.refl _ _) nd))
      refine hK.out _ _ (hHeld.step (pbN (Below.refl _ _) nd) H2.out.lt) (fun hHeld => ?_)
      clear hK K
      refine norm_ (a' := ?_) ?_ ?_
      rotate_left
      ·show Act.put _ (some 123) _ = _
       simp only [Act.put, zA, zB, zC, i64_w, i32_w]
       rfl
      refine pure_ (i := 26) (N := some 124) (v := ?_) (a' := ?_) (bA 35 134217727) rfl rfl (any_of HT_.out (by kernel_rfl)) (fun _ _ _ h => h) (Or.inl ⟨by rfl, ?_⟩) ?_ ?_
      rotate_left
      ·intro w'
       go_simp
       with_reducible rfl
      rotate_left
      ·simp only [Act.put, zA, zB, zC, i64_w, i32_w]
       rfl
      refine pure_ (i := 27) (N := some 125) (v := ?_) (a' := ?_) (bA 35 268435455) rfl rfl (any_of HT_.out (by kernel_rfl)) (fun _ _ _ h => h) (Or.inl ⟨by rfl, ?_⟩) ?_ ?_
      rotate_left
      ·intro w'
       go_simp
       with_reducible rfl
      rotate_left
      ·simp only [Act.put, zA, zB, zC, i64_w, i32_w]
       rfl
      refine pure_ (i := 28) (N := some 126) (v := ?_) (a' := ?_) (bA 35 536870911) rfl rfl (any_of HT_.out (by kernel_rfl)) (fun _ _ _ h => h) (Or.inl ⟨by rfl, ?_⟩) ?_ ?_
      rotate_left
      ·intro w'
       go_simp
       with_reducible rfl
      rotate_left
      ·simp only [Act.put, zA, zB, zC, i64_w, i32_w]
       rfl
      refine pure_ (i := 30) (N := some 128) (v := ?_) (a' := ?_) (bA 35 1610612735) rfl rfl (any_of HT_.out (by kernel_rfl)) (fun _ _ _ h => h) (Or.inl ⟨by rfl, ?_⟩) ?_ ?_
      rotate_left
      ·intro w'
       go_simp
       with_reducible rfl
      rotate_left
      ·simp only [Act.put, zA, zB, zC, i64_w, i32_w]
       rfl
      refine take_ (i := 29) (N := some 127) (v := .string (strOfNums ys)) (a' := ?_) (bA 35 2147483647) rfl rfl (take_ofW HT_.out HW_.out (by kernel_rfl)) (fun _ _ _ h => h) (Or.inl ⟨by rfl, fun w' hS' => ?_⟩) hHeld ?_ ?_
      ·have hcv := Kd.C_string (P := Tryz.prog) (src := 22) (dst := 9) (c := cy) Tryz.underlying22 Tryz.underlying5 Tryz.underlying9 (hS'.row HY1.out)
       first | (go_simp; done) | (go_simp; rfl)
      rotate_left
      ·simp only [Act.put, zA, zB, zC, i64_w, i32_w]
       rfl
      refine take_ (i := 31) (N := some 129) (v := .string (strOfNums ys)) (a' := ?_) (bA 35 4294967295) rfl rfl (take_ofW HT_.out HW_.out (by kernel_rfl)) (fun _ _ _ h => h) (Or.inl ⟨by rfl, fun w' hS' => ?_⟩) hHeld ?_ ?_
      ·have hcv := Kd.C_string (P := Tryz.prog) (src := 22) (dst := 9) (c := ey) Tryz.underlying22 Tryz.underlying5 Tryz.underlying9 (hS'.row HY2.out)
       first | (go_simp; done) | (go_simp; rfl)
      rotate_left
      ·simp only [Act.put, zA, zB, zC, i64_w, i32_w]
       rfl
      refine pure_ (i := 32) (N := some 130) (v := .bool true) (a' := ?_) (bA 35 8589934591) rfl rfl (any_of HT_.out (by kernel_rfl)) (fun _ _ _ h => h) (Or.inl ⟨by rfl, ?_⟩) ?_ ?_
      ·intro w'
       first | (go_simp; done) | (go_simp; simp)
      rotate_left
      ·simp only [Act.put, zA, zB, zC, i64_w, i32_w]
       rfl
      refine pure_ (i := 33) (N := some 131) (v := ?_) (a' := ?_) (bA 35 17179869183) rfl rfl (any_of HT_.out (by kernel_rfl)) (fun _ _ _ h => h) (Or.inl ⟨by rfl, ?_⟩) ?_ ?_
      rotate_left
      ·intro w'
       go_simp
       with_reducible rfl
      rotate_left
      ·simp only [Act.put, zA, zB, zC, i64_w, i32_w]
       rfl
      refine pure_ (i := 34) (N := some 4) (v := ?_) (a' := ?_) (bA 35 34359738367) rfl rfl (any_of HT_.out (by kernel_rfl)) (fun _ _ _ h => h) (Or.inl ⟨by rfl, ?_⟩) ?_ ?_
      rotate_left
      ·intro w'
       go_simp
       with_reducible rfl
      rotate_left
      ·simp only [Act.put, zA, zB, zC, i64_w, i32_w]
       rfl
      refine done_ (done_of HT_.out (by kernel_rfl)) ?_
      try go_wp2
      go_ret
      exact ⟨rfl, hHeld.below⟩
     ·have hcv := Kd.C_string (P := Tryz.prog) (src := 22) (dst := 9) (c := cp) Tryz.underlying22 Tryz.underlying5 Tryz.underlying9 HP.out
      refine value_ (w1 := ?_) (v := ?_) (by rfl) rfl ?_ ?_
      rotate_left 2
      ·go_simp
       constructor
       ·rfl
       ·rfl
      clear hcv
      refine hK.out _ _ hHeld (fun hHeld => ?_)
      clear hK K
      refine norm_ (a' := ?_) ?_ ?_
      rotate_left
      ·show Act.put _ (some 117) _ = _
       simp only [Act.put, zA, zB, zC, i64_w, i32_w]
       rfl
      refine one_ (i := 16) (N := some 114) (bA 35 1048575) rfl rfl (one_of HT_.out (by kernel_rfl)) (by decide) (fun K hK => ?_)
      have hcv := Kd.C_string (P := Tryz.prog) (src := 22) (dst := 9) (c := co) Tryz.underlying22 Tryz.underlying5 Tryz.underlying9 HO2.out
      refine value_ (w1 := ?_) (v := ?_) (by rfl) rfl ?_ ?_
      rotate_left 2
      ·go_simp
       constructor
       ·rfl
       ·rfl
      clear hcv
      refine hK.out _ _ hHeld (fun hHeld => ?_)
      clear hK K
      refine norm_ (a' := ?_) ?_ ?_
      rotate_left
      ·show Act.put _ (some 114) _ = _
       simp only [Act.put, zA, zB, zC, i64_w, i32_w]
       rfl
      refine pure_ (i := 20) (N := some 118) (v := .bool true) (a' := ?_) (bA 35 2097151) rfl rfl (any_of HT_.out (by kernel_rfl)) (fun _ _ _ h => h) (Or.inl ⟨by rfl, ?_⟩) ?_ ?_
      ·intro w'
       first | (go_simp; done) | (go_simp; simp)
      rotate_left
      ·simp only [Act.put, zA, zB, zC, i64_w, i32_w]
       rfl
      refine pure_ (i := 21) (N := some 119) (v := ?_) (a' := ?_) (bA 35 4194303) rfl rfl (any_of HT_.out (by kernel_rfl)) (fun _ _ _ h => h) (Or.inl ⟨by rfl, ?_⟩) ?_ ?_
      rotate_left
      ·intro w'
       go_simp
       with_reducible rfl
      rotate_left
      ·simp only [Act.put, zA, zB, zC, i64_w, i32_w]
       rfl
      refine pure_ (i := 22) (N := some 120) (v := ?_) (a' := ?_) (bA 35 8388607) rfl rfl (any_of HT_.out (by kernel_rfl)) (fun _ _ _ h => h) (Or.inl ⟨by rfl, ?_⟩) ?_ ?_
      rotate_left
      ·intro w'
       go_simp
       with_reducible rfl
      rotate_left
      ·simp only [Act.put, zA, zB, zC, i64_w, i32_w]
       rfl
      refine pure_ (i := 23) (N := some 121) (v := ?_) (a' := ?_) (bA 35 16777215) rfl rfl (any_of HT_.out (by kernel_rfl)) (fun _ _ _ h => h) (Or.inl ⟨by rfl, ?_⟩) ?_ ?_
      rotate_left
      ·intro w'
       go_simp
       with_reducible rfl
      rotate_left
      ·simp only [Act.put, zA, zB, zC, i64_w, i32_w]
       rfl
      refine pure_ (i := 24) (N := some 122) (v := ?_) (a' := ?_) (bA 35 33554431) rfl rfl (any_of HT_.out (by kernel_rfl)) (fun _ _ _ h => h) (Or.inl ⟨by rfl, ?_⟩) ?_ ?_
      rotate_left
      ·intro w'
       go_simp
       with_reducible rfl
      rotate_left
      ·simp only [Act.put, zA, zB, zC, i64_w, i32_w]
       rfl
      refine one_ (i := 25) (N := some 123) (bA 35 67108863) rfl rfl (one_of HT_.out (by kernel_rfl)) (by decide) (fun K hK => ?_)
      refine goes_ Tryz.func13 (by kernel_rfl) rfl #[.slice Ax xs.length cx, .slice Bx xs.length ex] (by rfl) rfl rfl (by (try simp only [List.map_toArray, List.map_cons, List.map_nil]); first | done | rfl) ?_
      refine (q6_SameUpdates.calls 1000 Ax cx xs Bx ex xs true _ (hHeld.row HX1.out) HL.out.1 (hHeld.row HX2.out) HL.out.2 HSX.out).mono ?_
      rintro e Wc ⟨rfl, ⟨nd, rfl⟩⟩
      refine ⟨_, rfl, ?_⟩
      replace H2 := Asd.mk (H2.out.below (pbN (Below.refl _ _) nd))
      refine hK.out _ _ (hHeld.step (pbN (Below.refl _ _) nd) H2.out.lt) (fun hHeld => ?_)
      clear hK K
      refine norm_ (a' := ?_) ?_ ?_
      rotate_left
      ·show Act.put _ (some 123) _ = _
       simp only [Act.put, zA, zB, zC, i64_w, i32_w]
       rfl
      refine pure_ (i := 26) (N := some 124) (v := ?_) (a' := ?_) (bA 35 134217727) rfl rfl (any_of HT_.out (by kernel_rfl)) (fun _ _ _ h => h) (Or.inl ⟨by rfl, ?_⟩) ?_ ?_
      rotate_left
      ·intro w'
       go_simp
       with_reducible rfl
      rotate_left
      ·simp only [Act.put, zA, zB, zC, i64_w, i32_w]
       rfl
      refine pure_ (i := 27) (N := some 125) (v := ?_) (a' := ?_) (bA 35 268435455) rfl rfl (any_of HT_.out (by kernel_rfl)) (fun _ _ _ h => h) (Or.inl ⟨by rfl, ?_⟩) ?_ ?_
      rotate_left
      ·intro w'
       go_simp
       with_reducible rfl
      rotate_left
      ·simp only [Act.put, zA, zB, zC, i64_w, i32_w]
       rfl
      refine pure_ (i := 28) (N := some 126) (v := ?_) (a' := ?_) (bA 35 536870911) rfl rfl (any_of HT_.out (by kernel_rfl)) (fun _ _ _ h => h) (Or.inl ⟨by rfl, ?_⟩) ?_ ?_
      rotate_left
      ·intro w'
       go_simp
       with_reducible rfl
      rotate_left
      ·simp only [Act.put, zA, zB, zC, i64_w, i32_w]
       rfl
      refine pure_ (i := 30) (N := some 128) (v := ?_) (a' := ?_) (bA 35 1610612735) rfl rfl (any_of HT_.out (by kernel_rfl)) (fun _ _ _ h => h) (Or.inl ⟨by rfl, ?_⟩) ?_ ?_
      rotate_left
      ·intro w'
       go_simp
       with_reducible rfl
      rotate_left
      ·simp only [Act.put, zA, zB, zC, i64_w, i32_w]
       rfl
      refine take_ (i := 29) (N := some 127) (v := .string (strOfNums ys)) (a' := ?_) (bA 35 2147483647) rfl rfl (take_ofW HT_.out HW_.out (by kernel_rfl)) (fun _ _ _ h => h) (Or.inl ⟨by rfl, fun w' hS' => ?_⟩) hHeld ?_ ?_
      ·have hcv := Kd.C_string (P := Tryz.prog) (src := 22) (dst := 9) (c := cy) Tryz.underlying22 Tryz.underlying5 Tryz.underlying9 (hS'.row HY1.out)
       first | (go_simp; done) | (go_simp; rfl)
      rotate_left
      ·simp only [Act.put, zA, zB, zC, i64_w, i32_w]
       rfl
      refine take_ (i := 31) (N := some 129) (v := .string (strOfNums ys)) (a' := ?_) (bA 35 4294967295) rfl rfl (take_ofW HT_.out HW_.out (by kernel_rfl)) (fun _ _ _ h => h) (Or.inl ⟨by rfl, fun w' hS' => ?_⟩) hHeld ?_ ?_
      ·have hcv := Kd.C_string (P := Tryz.prog) (src := 22) (dst := 9) (c := ey) Tryz.underlying22 Tryz.underlying5 Tryz.underlying9 (hS'.row HY2.out)
       first | (go_simp; done) | (go_simp; rfl)
      rotate_left
      ·simp only [Act.put, zA, zB, zC, i64_w, i32_w]
       rfl
      refine pure_ (i := 32) (N := some 130) (v := .bool true) (a' := ?_) (bA 35 8589934591) rfl rfl (any_of HT_.out (by kernel_rfl)) (fun _ _ _ h => h) (Or.inl ⟨by rfl, ?_⟩) ?_ ?_
      ·intro w'
       first | (go_simp; done) | (go_simp; simp)
      rotate_left
      ·simp only [Act.put, zA, zB, zC, i64_w, i32_w]
       rfl
      refine pure_ (i := 33) (N := some 131) (v := ?_) (a' := ?_) (bA 35 17179869183) rfl rfl (any_of HT_.out (by kernel_rfl)) (fun _ _ _ h => h) (Or.inl ⟨by rfl, ?_⟩) ?_ ?_
      rotate_left
      ·intro w'
       go_simp
       with_reducible rfl
      rotate_left
      ·simp only [Act.put, zA, zB, zC, i64_w, i32_w]
       rfl
      refine pure_ (i := 34) (N := some 4) (v := ?_) (a' := ?_) (bA 35 34359738367) rfl rfl (any_of HT_.out (by kernel_rfl)) (fun _ _ _ h => h) (Or.inl ⟨by rfl, ?_⟩) ?_ ?_
      rotate_left
      ·intro w'
       go_simp
       with_reducible rfl
      rotate_left
      ·simp only [Act.put, zA, zB, zC, i64_w, i32_w]
       rfl
      refine done_ (done_of HT_.out (by kernel_rfl)) ?_
      try go_wp2
      go_ret
      exact ⟨rfl, hHeld.below⟩
  ·have d1 : decide ((k : Int) < (l1.length : Int)) = false := decide_eq_false (by omega)
   have hpl : (p : Int) <= (l0.length : Int) := by have := Hp.out; omega
   obtain ⟨A6, c6, hcut, hC6, hCc6⟩ := drop_cut (Rw.came (Kd.heap_int .u8) HR0.out HT.out.bel HT.out.lo) HC0.out (p : Int) (by omega) hpl
   rw [Int.toNat_natCast] at hcut hC6 hCc6
   have HC6 := Asd.mk hC6
   have HCc6 := Asd.mk hCc6
   have HSL := Asd.mk (take_len td (l0.take p) HAL.out (bytes_take HB0.out p) (by rw [List.length_take]; have := HZ.out; omega) (by have := HTL.out; omega))
   have HDL := Asd.mk (show (l0.drop p).length = l0.length - p from List.length_drop)
   have hpc : (p : Int) <= (c0 : Int) := by have := HC0.out; omega
   clear hC6 hCc6
   go_upto_region 15 with (go_at_call 9; with_reducible refine (take_T HT.out A6 (l0.length - p) c6 (l0.drop p) HDL.out.symm HC6.out.now HCc6.out (bytes_drop HB0.out p) (by rw [HDL.out]; have := HFD.out.1; have := HZ.out; omega) (by have := HSL.out; omega)).mono ?_; rintro e W5 ⟨rfl, ow5, ht, hg⟩; have hlt := HT2.out.lt; replace HT2 := Asd.mk (HT2.out.other hg ht.bel (flip_apart HD.out)); replace HD := Asd.mk (flip_apart (hg.apart hlt (flip_apart HD.out))); replace HFD := Asd.mk (takeS_pack HT.out.good (bytes_drop HB0.out p) (by rw [HDL.out]; have := HFD.out.1; have := HZ.out; omega) HFD.out.2); replace HAL := Asd.mk (take_last td l0 p HAL.out); replace HT := Asd.mk ht; clear ht hg hlt)
   rw [<- HT1.out] at HAL
   generalize takeS pushR errT s (l0.drop p) = s2 at HT HAL HFD
   clear hcut HC6 HCc6 HSL HDL
   obtain ⟨xs, hxs⟩ : ∃ xs, rdyU s2 = xs := ⟨_, rfl⟩
   obtain ⟨ys, hys⟩ : ∃ ys, rdyP s2 = ys := ⟨_, rfl⟩
   obtain ⟨sd, hsd⟩ : ∃ sd, s2.send = sd := ⟨_, rfl⟩
   obtain ⟨b, hb⟩ : ∃ b, s2.waits = b := ⟨_, rfl⟩
   obtain ⟨d, hd⟩ : ∃ d, doneS s2 = d := ⟨_, rfl⟩
   have hx1 := Asd.mk hxs
   have hy1 := Asd.mk hys
   have hs1 := Asd.mk hsd
   have hb1 := Asd.mk hb
   have hd1 := Asd.mk hd
   have hx2 := Asd.mk (show rdyU t1 = xs from HAL.out.rdy.1.symm.trans hxs)
   have hy2 := Asd.mk (show rdyP t1 = ys from HAL.out.rdy.2.symm.trans hys)
   have hs2 := Asd.mk (show t1.send = sd from HAL.out.1.symm.trans hsd)
   have hb2 := Asd.mk (show t1.waits = b from HAL.out.2.2.1.symm.trans hb)
   have hd2 := Asd.mk (show doneS t1 = d from HAL.out.done.symm.trans hd)
   have HLX := Asd.mk (show xs.length <= 16 by rw [<- hxs]; unfold rdyU; split; exact HT.out.good.ups; simp)
   clear hxs hys hsd hb hd
   go_upto_region 16 with (go_at_call 10; with_reducible refine (ready_any HT.out HFD.out xs ys b hx1.out hy1.out hb1.out).mono ?_; rintro e W6 ⟨Ax, cx, Ay, cy, rfl, hx, hy, lx, ly, hbw⟩; have HX1 := Asd.mk (two_row HT.out HT2.out hx); have HY1 := Asd.mk (two_row HT.out HT2.out hy); have HLA := Asd.mk (And.intro lx ly); replace HT := Asd.mk (HT.out.below hbw); replace HT2 := Asd.mk (HT2.out.below hbw); clear hx hy lx ly hbw)
   go_upto_region 17 with (go_at_call 10; with_reducible refine (ready_any HT2.out HTG.out xs ys b hx2.out hy2.out hb2.out).mono ?_; rintro e W17 ⟨Bx, ex, By, ey, rfl, hx, hy, lx, ly, hbw⟩; have HX2 := Asd.mk (two_row HT.out HT2.out hx); have HY2 := Asd.mk (two_row HT.out HT2.out hy); have HLB := Asd.mk (And.intro lx ly); replace HT := Asd.mk (HT.out.below hbw); replace HT2 := Asd.mk (HT2.out.below hbw); replace HX1 := Asd.mk (HX1.out.below hbw); replace HY1 := Asd.mk (HY1.out.below hbw); clear hx hy lx ly hbw)
   obtain ⟨V, hV⟩ : ∃ V : Nat -> Prop, V = fun k => ¬ (ow5 k ∨ ow3 k) /\ k < W17.heap.size := ⟨_, rfl⟩
   have H2 := Asd.mk (show T2 w W17 V ow5 g s2 ow3 g2 t1 from by rw [hV]; exact ⟨HT.out, HT2.out, flip_apart HD.out, fun k e e2 => e2.1 (Or.inl e), fun k e e2 => e2.1 (Or.inr e), fun k e => e.2⟩)
   replace HX1 := Asd.mk (show Kd.F k42 W17 V Ax xs.length xs by rw [hV]; exact HX1.out)
   replace HY1 := Asd.mk (show Kd.F (Kd.int .u8) W17 V Ay ys.length ys by rw [hV]; exact HY1.out)
   replace HX2 := Asd.mk (show Kd.F k42 W17 V Bx xs.length xs by rw [hV]; exact HX2.out)
   replace HY2 := Asd.mk (show Kd.F (Kd.int .u8) W17 V By ys.length ys by rw [hV]; exact HY2.out)
   have HL := Asd.mk (show xs.length <= cx /\ xs.length <= ex from ⟨HLA.out.1, HLB.out.1⟩)
   have HSX := Asd.mk (Hello.sameU_eq xs (by have := HLX.out; omega) (k := 1000) (by have := HLX.out; omega))
   have HS0 := Asd.mk (show Same w W17 V W17.drew from ⟨bd1 H2.out.one.bel, fun k _ => rfl⟩)
   clear hV HT HT2 HD HAL HLA HLB HLX hx1 hx2 hy1 hy2 hb1 hb2 HT1 HFD HTG
   refine start_ (n := 35) (S := Same w W17 V) (ds := []) (bA 35 0) (by kernel_rfl) rfl rfl HS0.out (fun hHeld => ?_)
   refine with_tabW pieces.tab17 pieces.bits17 (fun HT_ HW_ => ?_)
   replace H2 := Asd.mk (H2.out.below (bd1 (Below.refl _ _)))
   clear HS0
   generalize W17.drew = W at hHeld H2 ⊢
   refine pure_ (i := 0) (N := some 98) (v := ?_) (a' := ?_) (bA 35 1) rfl rfl (any_of HT_.out (by kernel_rfl)) (fun _ _ _ h => h) (Or.inl ⟨by rfl, ?_⟩) ?_ ?_
   rotate_left
   ·intro w'
    go_simp
    with_reducible rfl
   rotate_left
   ·simp only [Act.put, zA, zB, zC, i64_w, i32_w]
    rfl
   refine pure_ (i := 1) (N := some 99) (v := ?_) (a' := ?_) (bA 35 3) rfl rfl (any_of HT_.out (by kernel_rfl)) (fun _ _ _ h => h) (Or.inl ⟨by rfl, ?_⟩) ?_ ?_
   rotate_left
   ·intro w'
    go_simp
    with_reducible rfl
   rotate_left
   ·simp only [Act.put, zA, zB, zC, i64_w, i32_w]
    rfl
   refine pure_ (i := 2) (N := some 100) (v := ?_) (a' := ?_) (bA 35 7) rfl rfl (any_of HT_.out (by kernel_rfl)) (fun _ _ _ h => h) (Or.inl ⟨by rfl, ?_⟩) ?_ ?_
   rotate_left
   ·intro w'
    go_simp
    with_reducible rfl
   rotate_left
   ·simp only [Act.put, zA, zB, zC, i64_w, i32_w]
    rfl
   refine pure_ (i := 3) (N := some 101) (v := ?_) (a' := ?_) (bA 35 15) rfl rfl (any_of HT_.out (by kernel_rfl)) (fun _ _ _ h => h) (Or.inl ⟨by rfl, ?_⟩) ?_ ?_
   rotate_left
   ·intro w'
    go_simp
    with_reducible rfl
   rotate_left
   ·simp only [Act.put, zA, zB, zC, i64_w, i32_w]
    rfl
   refine pure_ (i := 4) (N := some 102) (v := .bool true) (a' := ?_) (bA 35 31) rfl rfl (any_of HT_.out (by kernel_rfl)) (fun _ _ _ h => h) (Or.inl ⟨by rfl, ?_⟩) ?_ ?_
   ·intro w'
    first | (go_simp; done) | (go_simp; simp)
   rotate_left
   ·simp only [Act.put, zA, zB, zC, i64_w, i32_w]
    rfl
   refine pure_ (i := 5) (N := some 103) (v := ?_) (a' := ?_) (bA 35 63) rfl rfl (any_of HT_.out (by kernel_rfl)) (fun _ _ _ h => h) (Or.inl ⟨by rfl, ?_⟩) ?_ ?_
   rotate_left
   ·intro w'
    go_simp
    with_reducible rfl
   rotate_left
   ·simp only [Act.put, zA, zB, zC, i64_w, i32_w]
    rfl
   refine pure_ (i := 6) (N := some 104) (v := ?_) (a' := ?_) (bA 35 127) rfl rfl (any_of HT_.out (by kernel_rfl)) (fun _ _ _ h => h) (Or.inl ⟨by rfl, ?_⟩) ?_ ?_
   rotate_left
   ·intro w'
    go_simp
    with_reducible rfl
   rotate_left
   ·simp only [Act.put, zA, zB, zC, i64_w, i32_w]
    rfl
   refine pure_ (i := 7) (N := some 105) (v := ?_) (a' := ?_) (bA 35 255) rfl rfl (any_of HT_.out (by kernel_rfl)) (fun _ _ _ h => h) (Or.inl ⟨by rfl, ?_⟩) ?_ ?_
   rotate_left
   ·intro w'
    go_simp
    with_reducible rfl
   rotate_left
   ·simp only [Act.put, zA, zB, zC, i64_w, i32_w]
    rfl
   refine pure_ (i := 9) (N := some 107) (v := ?_) (a' := ?_) (bA 35 767) rfl rfl (any_of HT_.out (by kernel_rfl)) (fun _ _ _ h => h) (Or.inl ⟨by rfl, ?_⟩) ?_ ?_
   rotate_left
   ·intro w'
    go_simp
    with_reducible rfl
   rotate_left
   ·simp only [Act.put, zA, zB, zC, i64_w, i32_w]
    rfl
   refine one_ (i := 8) (N := some 106) (bA 35 1023) rfl rfl (one_of HT_.out (by kernel_rfl)) (by decide) (fun K hK => ?_)
   refine goes_ Tryz.func11 (by kernel_rfl) rfl #[.pointer (some ⟨g, 0, none⟩)] (by rfl) rfl rfl (by (try simp only [List.map_toArray, List.map_cons, List.map_nil]); first | done | rfl) ?_
   refine (done_T H2.out.one d hd1.out).mono ?_
   rintro e w1 ⟨rfl, rfl⟩
   refine ⟨_, rfl, ?_⟩
   refine hK.out _ _ hHeld (fun hHeld => ?_)
   clear hK K
   refine norm_ (a' := ?_) ?_ ?_
   rotate_left
   ·show Act.put _ (some 106) _ = _
    simp only [Act.put, zA, zB, zC, i64_w, i32_w]
    rfl
   refine one_ (i := 10) (N := some 108) (bA 35 2047) rfl rfl (one_of HT_.out (by kernel_rfl)) (by decide) (fun K hK => ?_)
   refine goes_ Tryz.func11 (by kernel_rfl) rfl #[.pointer (some ⟨g2, 0, none⟩)] (by rfl) rfl rfl (by (try simp only [List.map_toArray, List.map_cons, List.map_nil]); first | done | rfl) ?_
   refine (done_T H2.out.two d hd2.out).mono ?_
   rintro e w1 ⟨rfl, rfl⟩
   refine ⟨_, rfl, ?_⟩
   refine hK.out _ _ hHeld (fun hHeld => ?_)
   clear hK K
   refine norm_ (a' := ?_) ?_ ?_
   rotate_left
   ·show Act.put _ (some 108) _ = _
    simp only [Act.put, zA, zB, zC, i64_w, i32_w]
    rfl
   refine pure_ (i := 11) (N := some 109) (v := .bool true) (a' := ?_) (bA 35 4095) rfl rfl (any_of HT_.out (by kernel_rfl)) (fun _ _ _ h => h) (Or.inl ⟨by rfl, ?_⟩) ?_ ?_
   ·intro w'
    first | (go_simp; done) | (go_simp; simp)
   rotate_left
   ·simp only [Act.put, zA, zB, zC, i64_w, i32_w]
    rfl
   refine pure_ (i := 12) (N := some 110) (v := ?_) (a' := ?_) (bA 35 8191) rfl rfl (any_of HT_.out (by kernel_rfl)) (fun _ _ _ h => h) (Or.inl ⟨by rfl, ?_⟩) ?_ ?_
   rotate_left
   ·intro w'
    go_simp
    with_reducible rfl
   rotate_left
   ·simp only [Act.put, zA, zB, zC, i64_w, i32_w]
    rfl
   refine pure_ (i := 13) (N := some 111) (v := ?_) (a' := ?_) (bA 35 16383) rfl rfl (any_of HT_.out (by kernel_rfl)) (fun _ _ _ h => h) (Or.inl ⟨by rfl, ?_⟩) ?_ ?_
   rotate_left
   ·intro w'
    go_simp
    with_reducible rfl
   rotate_left
   ·simp only [Act.put, zA, zB, zC, i64_w, i32_w]
    rfl
   refine pure_ (i := 14) (N := some 112) (v := ?_) (a' := ?_) (bA 35 32767) rfl rfl (any_of HT_.out (by kernel_rfl)) (fun _ _ _ h => h) (Or.inl ⟨by rfl, ?_⟩) ?_ ?_
   rotate_left
   ·intro w'
    go_simp
    with_reducible rfl
   rotate_left
   ·simp only [Act.put, zA, zB, zC, i64_w, i32_w]
    rfl
   refine pure_ (i := 17) (N := some 115) (v := ?_) (a' := ?_) (bA 35 163839) rfl rfl (any_of HT_.out (by kernel_rfl)) (fun _ _ _ h => h) (Or.inl ⟨by rfl, ?_⟩) ?_ ?_
   rotate_left
   ·intro w'
    go_simp
    with_reducible rfl
   rotate_left
   ·simp only [Act.put, zA, zB, zC, i64_w, i32_w]
    rfl
   refine one_ (i := 15) (N := some 113) (bA 35 196607) rfl rfl (one_of HT_.out (by kernel_rfl)) (by decide) (fun K hK => ?_)
   refine goes_ Tryz.func12 (by kernel_rfl) rfl #[.pointer (some ⟨g, 0, none⟩)] (by rfl) rfl rfl (by (try simp only [List.map_toArray, List.map_cons, List.map_nil]); first | done | rfl) ?_
   refine (out_two H2.out sd hs1.out).mono ?_
   rintro e Wa ⟨Ao, co, owa, rfl, h2, ho, _, hv⟩
   refine ⟨_, rfl, ?_⟩
   replace H2 := Asd.mk h2
   have HO := Asd.mk ho
   clear h2 ho
   refine hK.out _ _ (hHeld.goes H2.out.one.bel hv) (fun hHeld => ?_)
   clear hK K
   refine norm_ (a' := ?_) ?_ ?_
   rotate_left
   ·show Act.put _ (some 113) _ = _
    simp only [Act.put, zA, zB, zC, i64_w, i32_w]
    rfl
   have HOn := Asd.mk (Kd.F_now HO.out)
   refine two_ (i := 16) (j := 18) (Ni := some 114) (Nj := some 116) (bA 35 262143) (bA 35 458751) rfl rfl rfl rfl (two_of HT_.out (by kernel_rfl)) (by decide) (by decide) (fun K hK => ?_) (fun K hK => ?_)
   ·have hcv := Kd.C_string (P := Tryz.prog) (src := 22) (dst := 9) (c := co) Tryz.underlying22 Tryz.underlying5 Tryz.underlying9 HOn.out
    refine value_ (w1 := ?_) (v := ?_) (by rfl) rfl ?_ ?_
    rotate_left 2
    ·go_simp
     constructor
     ·rfl
     ·rfl
    clear hcv
    refine hK.out _ _ hHeld (fun hHeld => ?_)
    clear hK K
    refine norm_ (a' := ?_) ?_ ?_
    rotate_left
    ·show Act.put _ (some 114) _ = _
     simp only [Act.put, zA, zB, zC, i64_w, i32_w]
     rfl
    refine one_ (i := 18) (N := some 116) (bA 35 524287) rfl rfl (one_of HT_.out (by kernel_rfl)) (by decide) (fun K hK => ?_)
    refine goes_ Tryz.func12 (by kernel_rfl) rfl #[.pointer (some ⟨g2, 0, none⟩)] (by rfl) rfl rfl (by (try simp only [List.map_toArray, List.map_cons, List.map_nil]); first | done | rfl) ?_
    refine (out_two H2.out.flip sd hs2.out).mono ?_
    rintro e Wb ⟨Ap, cp, owb, rfl, h2, ho, hk, hv⟩
    refine ⟨_, rfl, ?_⟩
    replace H2 := Asd.mk h2
    have HO2 := Asd.mk (row_keeps HO.out hk)
    have HP := Asd.mk (Kd.F_now ho)
    clear h2 ho hk
    refine hK.out _ _ (hHeld.goes H2.out.one.bel hv) (fun hHeld => ?_)
    clear hK K
    refine norm_ (a' := ?_) ?_ ?_
    rotate_left
    ·show Act.put _ (some 116) _ = _
     simp only [Act.put, zA, zB, zC, i64_w, i32_w]
     rfl
    refine one_ (i := 19) (N := some 117) (bA 35 1048575) rfl rfl (one_of HT_.out (by kernel_rfl)) (by decide) (fun K hK => ?_)
    have hcv := Kd.C_string (P := Tryz.prog) (src := 22) (dst := 9) (c := cp) Tryz.underlying22 Tryz.underlying5 Tryz.underlying9 HP.out
    refine value_ (w1 := ?_) (v := ?_) (by rfl) rfl ?_ ?_
    rotate_left 2
    ·go_simp
     constructor
     ·rfl
     ·rfl
    clear hcv
    refine hK.out _ _ hHeld (fun hHeld => ?_)
    clear hK K
    refine norm_ (a' := ?_) ?_ ?_
    rotate_left
    ·show Act.put _ (some 117) _ = _
     simp only [Act.put, zA, zB, zC, i64_w, i32_w]
     rfl
    refine pure_ (i := 20) (N := some 118) (v := .bool true) (a' := ?_) (bA 35 2097151) rfl rfl (any_of HT_.out (by kernel_rfl)) (fun _ _ _ h => h) (Or.inl ⟨by rfl, ?_⟩) ?_ ?_
    ·intro w'
     first | (go_simp; done) | (go_simp; simp)
    rotate_left
    ·simp only [Act.put, zA, zB, zC, i64_w, i32_w]
     rfl
    refine pure_ (i := 21) (N := some 119) (v := ?_) (a' := ?_) (bA 35 4194303) rfl rfl (any_of HT_.out (by kernel_rfl)) (fun _ _ _ h => h) (Or.inl ⟨by rfl, ?_⟩) ?_ ?_
    rotate_left
    ·intro w'
     go_simp
     with_reducible rfl
    rotate_left
    ·simp only [Act.put, zA, zB, zC, i64_w, i32_w]
     rfl
    refine pure_ (i := 22) (N := some 120) (v := ?_) (a' := ?_) (bA 35 8388607) rfl rfl (any_of HT_.out (by kernel_rfl)) (fun _ _ _ h => h) (Or.inl ⟨by rfl, ?_⟩) ?_ ?_
    rotate_left
    ·intro w'
     go_simp
     with_reducible rfl
    rotate_left
    ·simp only [Act.put, zA, zB, zC, i64_w, i32_w]
     rfl
    refine pure_ (i := 23) (N := some 121) (v := ?_) (a' := ?_) (bA 35 16777215) rfl rfl (any_of HT_.out (by kernel_rfl)) (fun _ _ _ h => h) (Or.inl ⟨by rfl, ?_⟩) ?_ ?_
    rotate_left
    ·intro w'
     go_simp
     with_reducible rfl
    rotate_left
    ·simp only [Act.put, zA, zB, zC, i64_w, i32_w]
     rfl
    refine pure_ (i := 24) (N := some 122) (v := ?_) (a' := ?_) (bA 35 33554431) rfl rfl (any_of HT_.out (by kernel_rfl)) (fun _ _ _ h => h) (Or.inl ⟨by rfl, ?_⟩) ?_ ?_
    rotate_left
    ·intro w'
     go_simp
     with_reducible rfl
    rotate_left
    ·simp only [Act.put, zA, zB, zC, i64_w, i32_w]
     rfl
    refine one_ (i := 25) (N := some 123) (bA 35 67108863) rfl rfl (one_of HT_.out (by kernel_rfl)) (by decide) (fun K hK => ?_)
    refine goes_ Tryz.func13 (by kernel_rfl) rfl #[.slice Ax xs.length cx, .slice Bx xs.length ex] (by rfl) rfl rfl (by (try simp only [List.map_toArray, List.map_cons, List.map_nil]); first | done | rfl) ?_
    refine (q6_SameUpdates.calls 1000 Ax cx xs Bx ex xs true _ (hHeld.row HX1.out) HL.out.1 (hHeld.row HX2.out) HL.out.2 HSX.out).mono ?_
    rintro e Wc ⟨rfl, ⟨nd, rfl⟩⟩
    refine ⟨_, rfl, ?_⟩
    replace H2 := Asd.mk (H2.out.below (pbN (Below.refl _ _) nd))
    refine hK.out _ _ (hHeld.step (pbN (Below.refl _ _) nd) H2.out.lt) (fun hHeld => ?_)
    clear hK K
    refine norm_ (a' := ?_) ?_ ?_
    rotate_left
    ·show Act.put _ (some 123) _ = _
     simp only [Act.put, zA, zB, zC, i64_w, i32_w]
     rfl
    refine pure_ (i := 26) (N := some 124) (v := ?_) (a' := ?_) (bA 35 134217727) rfl rfl (any_of HT_.out (by kernel_rfl)) (fun _ _ _ h => h) (Or.inl ⟨by rfl, ?_⟩) ?_ ?_
    rotate_left
    ·intro w'
     go_simp
     with_reducible rfl
    rotate_left
    ·simp only [Act.put, zA, zB, zC, i64_w, i32_w]
     rfl
    refine pure_ (i := 27) (N := some 125) (v := ?_) (a' := ?_) (bA 35 268435455) rfl rfl (any_of HT_.out (by kernel_rfl)) (fun _ _ _ h => h) (Or.inl ⟨by rfl, ?_⟩) ?_ ?_
    rotate_left
    ·intro w'
     go_simp
     with_reducible rfl
    rotate_left
    ·simp only [Act.put, zA, zB, zC, i64_w, i32_w]
     rfl
    refine pure_ (i := 28) (N := some 126) (v := ?_) (a' := ?_) (bA 35 536870911) rfl rfl (any_of HT_.out (by kernel_rfl)) (fun _ _ _ h => h) (Or.inl ⟨by rfl, ?_⟩) ?_ ?_
    rotate_left
    ·intro w'
     go_simp
     with_reducible rfl
    rotate_left
    ·simp only [Act.put, zA, zB, zC, i64_w, i32_w]
     rfl
    refine pure_ (i := 30) (N := some 128) (v := ?_) (a' := ?_) (bA 35 1610612735) rfl rfl (any_of HT_.out (by kernel_rfl)) (fun _ _ _ h => h) (Or.inl ⟨by rfl, ?_⟩) ?_ ?_
    rotate_left
    ·intro w'
     go_simp
     with_reducible rfl
    rotate_left
    ·simp only [Act.put, zA, zB, zC, i64_w, i32_w]
     rfl
    refine take_ (i := 29) (N := some 127) (v := .string (strOfNums ys)) (a' := ?_) (bA 35 2147483647) rfl rfl (take_ofW HT_.out HW_.out (by kernel_rfl)) (fun _ _ _ h => h) (Or.inl ⟨by rfl, fun w' hS' => ?_⟩) hHeld ?_ ?_
    ·have hcv := Kd.C_string (P := Tryz.prog) (src := 22) (dst := 9) (c := cy) Tryz.underlying22 Tryz.underlying5 Tryz.underlying9 (hS'.row HY1.out)
     first | (go_simp; done) | (go_simp; rfl)
    rotate_left
    ·simp only [Act.put, zA, zB, zC, i64_w, i32_w]
     rfl
    refine take_ (i := 31) (N := some 129) (v := .string (strOfNums ys)) (a' := ?_) (bA 35 4294967295) rfl rfl (take_ofW HT_.out HW_.out (by kernel_rfl)) (fun _ _ _ h => h) (Or.inl ⟨by rfl, fun w' hS' => ?_⟩) hHeld ?_ ?_
    ·have hcv := Kd.C_string (P := Tryz.prog) (src := 22) (dst := 9) (c := ey) Tryz.underlying22 Tryz.underlying5 Tryz.underlying9 (hS'.row HY2.out)
     first | (go_simp; done) | (go_simp; rfl)
    rotate_left
    ·simp only [Act.put, zA, zB, zC, i64_w, i32_w]
     rfl
    refine pure_ (i := 32) (N := some 130) (v := .bool true) (a' := ?_) (bA 35 8589934591) rfl rfl (any_of HT_.out (by kernel_rfl)) (fun _ _ _ h => h) (Or.inl ⟨by rfl, ?_⟩) ?_ ?_
    ·intro w'
     first | (go_simp; done) | (go_simp; simp)
    rotate_left
    ·simp only [Act.put, zA, zB, zC, i64_w, i32_w]
     rfl
    refine pure_ (i := 33) (N := some 131) (v := ?_) (a' := ?_) (bA 35 17179869183) rfl rfl (any_of HT_.out (by kernel_rfl)) (fun _ _ _ h => h) (Or.inl ⟨by rfl, ?_⟩) ?_ ?_
    rotate_left
    ·intro w'
     go_simp
     with_reducible rfl
    rotate_left
    ·simp only [Act.put, zA, zB, zC, i64_w, i32_w]
     rfl
    refine pure_ (i := 34) (N := some 4) (v := ?_) (a' := ?_) (bA 35 34359738367) rfl rfl (any_of HT_.out (by kernel_rfl)) (fun _ _ _ h => h) (Or.inl ⟨by rfl, ?_⟩) ?_ ?_
    rotate_left
    ·intro w'
     go_simp
     with_reducible rfl
    rotate_left
    ·simp only [Act.put, zA, zB, zC, i64_w, i32_w]
     rfl
    refine done_ (done_of HT_.out (by kernel_rfl)) ?_
    try go_wp2
    go_ret
    exact ⟨rfl, hHeld.below⟩
   ·refine goes_ Tryz.func12 (by kernel_rfl) rfl #[.pointer (some ⟨g2, 0, none⟩)] (by rfl) rfl rfl (by (try simp only [List.map_toArray, List.map_cons, List.map_nil]); first | done | rfl) ?_
    refine (out_two H2.out.flip sd hs2.out).mono ?_
    rintro e Wb ⟨Ap, cp, owb, rfl, h2, ho, hk, hv⟩
    refine ⟨_, rfl, ?_⟩
    replace H2 := Asd.mk h2
    have HO2 := Asd.mk (row_keeps HO.out hk)
    have HP := Asd.mk (Kd.F_now ho)
    clear h2 ho hk
    refine hK.out _ _ (hHeld.goes H2.out.one.bel hv) (fun hHeld => ?_)
    clear hK K
    refine norm_ (a' := ?_) ?_ ?_
    rotate_left
    ·show Act.put _ (some 116) _ = _
     simp only [Act.put, zA, zB, zC, i64_w, i32_w]
     rfl
    refine two_ (i := 16) (j := 19) (Ni := some 114) (Nj := some 117) (bA 35 524287) (bA 35 983039) rfl rfl rfl rfl (two_of HT_.out (by kernel_rfl)) (by decide) (by decide) (fun K hK => ?_) (fun K hK => ?_)
    ·have hcv := Kd.C_string (P := Tryz.prog) (src := 22) (dst := 9) (c := co) Tryz.underlying22 Tryz.underlying5 Tryz.underlying9 HO2.out
     refine value_ (w1 := ?_) (v := ?_) (by rfl) rfl ?_ ?_
     rotate_left 2
     ·go_simp
      constructor
      ·rfl
      ·rfl
     clear hcv
     refine hK.out _ _ hHeld (fun hHeld => ?_)
     clear hK K
     refine norm_ (a' := ?_) ?_ ?_
     rotate_left
     ·show Act.put _ (some 114) _ = _
      simp only [Act.put, zA, zB, zC, i64_w, i32_w]
      rfl
     refine one_ (i := 19) (N := some 117) (bA 35 1048575) rfl rfl (one_of HT_.out (by kernel_rfl)) (by decide) (fun K hK => ?_)
     have hcv := Kd.C_string (P := Tryz.prog) (src := 22) (dst := 9) (c := cp) Tryz.underlying22 Tryz.underlying5 Tryz.underlying9 HP.out
     refine value_ (w1 := ?_) (v := ?_) (by rfl) rfl ?_ ?_
     rotate_left 2
     ·go_simp
      constructor
      ·rfl
      ·rfl
     clear hcv
     refine hK.out _ _ hHeld (fun hHeld => ?_)
     clear hK K
     refine norm_ (a' := ?_) ?_ ?_
     rotate_left
     ·show Act.put _ (some 117) _ = _
      simp only [Act.put, zA, zB, zC, i64_w, i32_w]
      rfl
     refine pure_ (i := 20) (N := some 118) (v := .bool true) (a' := ?_) (bA 35 2097151) rfl rfl (any_of HT_.out (by kernel_rfl)) (fun _ _ _ h => h) (Or.inl ⟨by rfl, ?_⟩) ?_ ?_
     ·intro w'
      first | (go_simp; done) | (go_simp; simp)
     rotate_left
     ·simp only [Act.put, zA, zB, zC, i64_w, i32_w]
      rfl
     refine pure_ (i := 21) (N := some 119) (v := ?_) (a' := ?_) (bA 35 4194303) rfl rfl (any_of HT_.out (by kernel_rfl)) (fun _ _ _ h => h) (Or.inl ⟨by rfl, ?_⟩) ?_ ?_
     rotate_left
     ·intro w'
      go_simp
      with_reducible rfl
     rotate_left
     ·simp only [Act.put, zA, zB, zC, i64_w, i32_w]
      rfl
     refine pure_ (i := 22) (N := some 120) (v := ?_) (a' := ?_) (bA 35 8388607) rfl rfl (any_of HT_.out (by kernel_rfl)) (fun _ _ _ h => h) (Or.inl ⟨by rfl, ?_⟩) ?_ ?_
     rotate_left
     ·intro w'
      go_simp
      with_reducible rfl
     rotate_left
     ·simp only [Act.put, zA, zB, zC, i64_w, i32_w]
      rfl
     refine pure_ (i := 23) (N := some 121) (v := ?_) (a' := ?_) (bA 35 16777215) rfl rfl (any_of HT_.out (by kernel_rfl)) (fun _ _ _ h => h) (Or.inl ⟨by rfl, ?_⟩) ?_ ?_
     rotate_left
     ·intro w'
      go_simp
      with_reducible rfl
     rotate_left
     ·simp only [Act.put, zA, zB, zC, i64_w, i32_w]
      rfl
     refine pure_ (i := 24) (N := some 122) (v := ?_) (a' := ?_) (bA 35 33554431) rfl rfl (any_of HT_.out (by kernel_rfl)) (fun _ _ _ h => h) (Or.inl ⟨by rfl, ?_⟩) ?_ ?_
     rotate_left
     ·intro w'
      go_simp
      with_reducible rfl
     rotate_left
     ·simp only [Act.put, zA, zB, zC, i64_w, i32_w]
      rfl
     refine one_ (i := 25) (N := some 123) (bA 35 67108863) rfl rfl (one_of HT_.out (by kernel_rfl)) (by decide) (fun K hK => ?_)
     refine goes_ Tryz.func13 (by kernel_rfl) rfl #[.slice Ax xs.length cx, .slice Bx xs.length ex] (by rfl) rfl rfl (by (try simp only [List.map_toArray, List.map_cons, List.map_nil]); first | done | rfl) ?_
     refine (q6_SameUpdates.calls 1000 Ax cx xs Bx ex xs true _ (hHeld.row HX1.out) HL.out.1 (hHeld.row HX2.out) HL.out.2 HSX.out).mono ?_
     rintro e Wc ⟨rfl, ⟨nd, rfl⟩⟩
     refine ⟨_, rfl, ?_⟩
     replace H2 := Asd.mk (H2.out.below (pbN (Below.refl _ _) nd))
     refine hK.out _ _ (hHeld.step (pbN (Below.refl _ _) nd) H2.out.lt) (fun hHeld => ?_)
     clear hK K
     refine norm_ (a' := ?_) ?_ ?_
     rotate_left
     ·show Act.put _ (some 123) _ = _
      simp only [Act.put, zA, zB, zC, i64_w, i32_w]
      rfl
     refine pure_ (i := 26) (N := some 124) (v := ?_) (a' := ?_) (bA 35 134217727) rfl rfl (any_of HT_.out (by kernel_rfl)) (fun _ _ _ h => h) (Or.inl ⟨by rfl, ?_⟩) ?_ ?_
     rotate_left
     ·intro w'
      go_simp
      with_reducible rfl
     rotate_left
     ·simp only [Act.put, zA, zB, zC, i64_w, i32_w]
      rfl
     refine pure_ (i := 27) (N := some 125) (v := ?_) (a' := ?_) (bA 35 268435455) rfl rfl (any_of HT_.out (by kernel_rfl)) (fun _ _ _ h => h) (Or.inl ⟨by rfl, ?_⟩) ?_ ?_
     rotate_left
     ·intro w'
      go_simp
      with_reducible rfl
     rotate_left
     ·simp only [Act.put, zA, zB, zC, i64_w, i32_w]
      rfl
     refine pure_ (i := 28) (N := some 126) (v := ?_) (a' := ?_) (bA 35 536870911) rfl rfl (any_of HT_.out (by kernel_rfl)) (fun _ _ _ h => h) (Or.inl ⟨by rfl, ?_⟩) ?_ ?_
     rotate_left
     ·intro w'
      go_simp
      with_reducible rfl
     rotate_left
     ·simp only [Act.put, zA, zB, zC, i64_w, i32_w]
      rfl
     refine pure_ (i := 30) (N := some 128) (v := ?_) (a' := ?_) (bA 35 1610612735) rfl rfl (any_of HT_.out (by kernel_rfl)) (fun _ _ _ h => h) (Or.inl ⟨by rfl, ?_⟩) ?_ ?_
     rotate_left
     ·intro w'
      go_simp
      with_reducible rfl
     rotate_left
     ·simp only [Act.put, zA, zB, zC, i64_w, i32_w]
      rfl
     refine take_ (i := 29) (N := some 127) (v := .string (strOfNums ys)) (a' := ?_) (bA 35 2147483647) rfl rfl (take_ofW HT_.out HW_.out (by kernel_rfl)) (fun _ _ _ h => h) (Or.inl ⟨by rfl, fun w' hS' => ?_⟩) hHeld ?_ ?_
     ·have hcv := Kd.C_string (P := Tryz.prog) (src := 22) (dst := 9) (c := cy) Tryz.underlying22 Tryz.underlying5 Tryz.underlying9 (hS'.row HY1.out)
      first | (go_simp; done) | (go_simp; rfl)
     rotate_left
     ·simp only [Act.put, zA, zB, zC, i64_w, i32_w]
      rfl
     refine take_ (i := 31) (N := some 129) (v := .string (strOfNums ys)) (a' := ?_) (bA 35 4294967295) rfl rfl (take_ofW HT_.out HW_.out (by kernel_rfl)) (fun _ _ _ h => h) (Or.inl ⟨by rfl, fun w' hS' => ?_⟩) hHeld ?_ ?_
     ·have hcv := Kd.C_string (P := Tryz.prog) (src := 22) (dst := 9) (c := ey) Tryz.underlying22 Tryz.underlying5 Tryz.underlying9 (hS'.row HY2.out)
      first | (go_simp; done) | (go_simp; rfl)
     rotate_left
     ·simp only [Act.put, zA, zB, zC, i64_w, i32_w]
      rfl
     refine pure_ (i := 32) (N := some 130) (v := .bool true) (a' := ?_) (bA 35 8589934591) rfl rfl (any_of HT_.out (by kernel_rfl)) (fun _ _ _ h => h) (Or.inl ⟨by rfl, ?_⟩) ?_ ?_
     ·intro w'
      first | (go_simp; done) | (go_simp; simp)
     rotate_left
     ·simp only [Act.put, zA, zB, zC, i64_w, i32_w]
      rfl
     refine pure_ (i := 33) (N := some 131) (v := ?_) (a' := ?_) (bA 35 17179869183) rfl rfl (any_of HT_.out (by kernel_rfl)) (fun _ _ _ h => h) (Or.inl ⟨by rfl, ?_⟩) ?_ ?_
     rotate_left
     ·intro w'
      go_simp
      with_reducible rfl
     rotate_left
     ·simp only [Act.put, zA, zB, zC, i64_w, i32_w]
      rfl
     refine pure_ (i := 34) (N := some 4) (v := ?_) (a' := ?_) (bA 35 34359738367) rfl rfl (any_of HT_.out (by kernel_rfl)) (fun _ _ _ h => h) (Or.inl ⟨by rfl, ?_⟩) ?_ ?_
     rotate_left
     ·intro w'
      go_simp
      with_reducible rfl
     rotate_left
     ·simp only [Act.put, zA, zB, zC, i64_w, i32_w]
      rfl
     refine done_ (done_of HT_.out (by kernel_rfl)) ?_
     try go_wp2
     go_ret
     exact ⟨rfl, hHeld.below⟩
    ·have hcv := Kd.C_string (P := Tryz.prog) (src := 22) (dst := 9) (c := cp) Tryz.underlying22 Tryz.underlying5 Tryz.underlying9 HP.out
     refine value_ (w1 := ?_) (v := ?_) (by rfl) rfl ?_ ?_
     rotate_left 2
     ·go_simp
      constructor
      ·rfl
      ·rfl
     clear hcv
     refine hK.out _ _ hHeld (fun hHeld => ?_)
     clear hK K
     refine norm_ (a' := ?_) ?_ ?_
     rotate_left
     ·show Act.put _ (some 117) _ = _
      simp only [Act.put, zA, zB, zC, i64_w, i32_w]
      rfl
     refine one_ (i := 16) (N := some 114) (bA 35 1048575) rfl rfl (one_of HT_.out (by kernel_rfl)) (by decide) (fun K hK => ?_)
     have hcv := Kd.C_string (P := Tryz.prog) (src := 22) (dst := 9) (c := co) Tryz.underlying22 Tryz.underlying5 Tryz.underlying9 HO2.out
     refine value_ (w1 := ?_) (v := ?_) (by rfl) rfl ?_ ?_
     rotate_left 2
     ·go_simp
      constructor
      ·rfl
      ·rfl
     clear hcv
     refine hK.out _ _ hHeld (fun hHeld => ?_)
     clear hK K
     refine norm_ (a' := ?_) ?_ ?_
     rotate_left
     ·show Act.put _ (some 114) _ = _
      simp only [Act.put, zA, zB, zC, i64_w, i32_w]
      rfl
     refine pure_ (i := 20) (N := some 118) (v := .bool true) (a' := ?_) (bA 35 2097151) rfl rfl (any_of HT_.out (by kernel_rfl)) (fun _ _ _ h => h) (Or.inl ⟨by rfl, ?_⟩) ?_ ?_
     ·intro w'
      first | (go_simp; done) | (go_simp; simp)
     rotate_left
     ·simp only [Act.put, zA, zB, zC, i64_w, i32_w]
      rfl
     refine pure_ (i := 21) (N := some 119) (v := ?_) (a' := ?_) (bA 35 4194303) rfl rfl (any_of HT_.out (by kernel_rfl)) (fun _ _ _ h => h) (Or.inl ⟨by rfl, ?_⟩) ?_ ?_
     rotate_left
     ·intro w'
      go_simp
      with_reducible rfl
     rotate_left
     ·simp only [Act.put, zA, zB, zC, i64_w, i32_w]
      rfl
     refine pure_ (i := 22) (N := some 120) (v := ?_) (a' := ?_) (bA 35 8388607) rfl rfl (any_of HT_.out (by kernel_rfl)) (fun _ _ _ h => h) (Or.inl ⟨by rfl, ?_⟩) ?_ ?_
     rotate_left
     ·intro w'
      go_simp
      with_reducible rfl
     rotate_left
     ·simp only [Act.put, zA, zB, zC, i64_w, i32_w]
      rfl
     refine pure_ (i := 23) (N := some 121) (v := ?_) (a' := ?_) (bA 35 16777215) rfl rfl (any_of HT_.out (by kernel_rfl)) (fun _ _ _ h => h) (Or.inl ⟨by rfl, ?_⟩) ?_ ?_
     rotate_left
     ·intro w'
      go_simp
      with_reducible rfl
     rotate_left
     ·simp only [Act.put, zA, zB, zC, i64_w, i32_w]
      rfl
     refine pure_ (i := 24) (N := some 122) (v := ?_) (a' := ?_) (bA 35 33554431) rfl rfl (any_of HT_.out (by kernel_rfl)) (fun _ _ _ h => h) (Or.inl ⟨by rfl, ?_⟩) ?_ ?_
     rotate_left
     ·intro w'
      go_simp
      with_reducible rfl
     rotate_left
     ·simp only [Act.put, zA, zB, zC, i64_w, i32_w]
      rfl
     refine one_ (i := 25) (N := some 123) (bA 35 67108863) rfl rfl (one_of HT_.out (by kernel_rfl)) (by decide) (fun K hK => ?_)
     refine goes_ Tryz.func13 (by kernel_rfl) rfl #[.slice Ax xs.length cx, .slice Bx xs.length ex] (by rfl) rfl rfl (by (try simp only [List.map_toArray, List.map_cons, List.map_nil]); first | done | rfl) ?_
     refine (q6_SameUpdates.calls 1000 Ax cx xs Bx ex xs true _ (hHeld.row HX1.out) HL.out.1 (hHeld.row HX2.out) HL.out.2 HSX.out).mono ?_
     rintro e Wc ⟨rfl, ⟨nd, rfl⟩⟩
     refine ⟨_, rfl, ?_⟩
     replace H2 := Asd.mk (H2.out.below (pbN (Below.refl _ _) nd))
     refine hK.out _ _ (hHeld.step (pbN (Below.refl _ _) nd) H2.out.lt) (fun hHeld => ?_)
     clear hK K
     refine norm_ (a' := ?_) ?_ ?_
     rotate_left
     ·show Act.put _ (some 123) _ = _
      simp only [Act.put, zA, zB, zC, i64_w, i32_w]
      rfl
     refine pure_ (i := 26) (N := some 124) (v := ?_) (a' := ?_) (bA 35 134217727) rfl rfl (any_of HT_.out (by kernel_rfl)) (fun _ _ _ h => h) (Or.inl ⟨by rfl, ?_⟩) ?_ ?_
     rotate_left
     ·intro w'
      go_simp
      with_reducible rfl
     rotate_left
     ·simp only [Act.put, zA, zB, zC, i64_w, i32_w]
      rfl
     refine pure_ (i := 27) (N := some 125) (v := ?_) (a' := ?_) (bA 35 268435455) rfl rfl (any_of HT_.out (by kernel_rfl)) (fun _ _ _ h => h) (Or.inl ⟨by rfl, ?_⟩) ?_ ?_
     rotate_left
     ·intro w'
      go_simp
      with_reducible rfl
     rotate_left
     ·simp only [Act.put, zA, zB, zC, i64_w, i32_w]
      rfl
     refine pure_ (i := 28) (N := some 126) (v := ?_) (a' := ?_) (bA 35 536870911) rfl rfl (any_of HT_.out (by kernel_rfl)) (fun _ _ _ h => h) (Or.inl ⟨by rfl, ?_⟩) ?_ ?_
     rotate_left
     ·intro w'
      go_simp
      with_reducible rfl
     rotate_left
     ·simp only [Act.put, zA, zB, zC, i64_w, i32_w]
      rfl
     refine pure_ (i := 30) (N := some 128) (v := ?_) (a' := ?_) (bA 35 1610612735) rfl rfl (any_of HT_.out (by kernel_rfl)) (fun _ _ _ h => h) (Or.inl ⟨by rfl, ?_⟩) ?_ ?_
     rotate_left
     ·intro w'
      go_simp
      with_reducible rfl
     rotate_left
     ·simp only [Act.put, zA, zB, zC, i64_w, i32_w]
      rfl
     refine take_ (i := 29) (N := some 127) (v := .string (strOfNums ys)) (a' := ?_) (bA 35 2147483647) rfl rfl (take_ofW HT_.out HW_.out (by kernel_rfl)) (fun _ _ _ h => h) (Or.inl ⟨by rfl, fun w' hS' => ?_⟩) hHeld ?_ ?_
     ·have hcv := Kd.C_string (P := Tryz.prog) (src := 22) (dst := 9) (c := cy) Tryz.underlying22 Tryz.underlying5 Tryz.underlying9 (hS'.row HY1.out)
      first | (go_simp; done) | (go_simp; rfl)
     rotate_left
     ·simp only [Act.put, zA, zB, zC, i64_w, i32_w]
      rfl
     refine take_ (i := 31) (N := some 129) (v := .string (strOfNums ys)) (a' := ?_) (bA 35 4294967295) rfl rfl (take_ofW HT_.out HW_.out (by kernel_rfl)) (fun _ _ _ h => h) (Or.inl ⟨by rfl, fun w' hS' => ?_⟩) hHeld ?_ ?_
     ·have hcv := Kd.C_string (P := Tryz.prog) (src := 22) (dst := 9) (c := ey) Tryz.underlying22 Tryz.underlying5 Tryz.underlying9 (hS'.row HY2.out)
      first | (go_simp; done) | (go_simp; rfl)
     rotate_left
     ·simp only [Act.put, zA, zB, zC, i64_w, i32_w]
      rfl
     refine pure_ (i := 32) (N := some 130) (v := .bool true) (a' := ?_) (bA 35 8589934591) rfl rfl (any_of HT_.out (by kernel_rfl)) (fun _ _ _ h => h) (Or.inl ⟨by rfl, ?_⟩) ?_ ?_
     ·intro w'
      first | (go_simp; done) | (go_simp; simp)
     rotate_left
     ·simp only [Act.put, zA, zB, zC, i64_w, i32_w]
      rfl
     refine pure_ (i := 33) (N := some 131) (v := ?_) (a' := ?_) (bA 35 17179869183) rfl rfl (any_of HT_.out (by kernel_rfl)) (fun _ _ _ h => h) (Or.inl ⟨by rfl, ?_⟩) ?_ ?_
     rotate_left
     ·intro w'
      go_simp
      with_reducible rfl
     rotate_left
     ·simp only [Act.put, zA, zB, zC, i64_w, i32_w]
      rfl
     refine pure_ (i := 34) (N := some 4) (v := ?_) (a' := ?_) (bA 35 34359738367) rfl rfl (any_of HT_.out (by kernel_rfl)) (fun _ _ _ h => h) (Or.inl ⟨by rfl, ?_⟩) ?_ ?_
     rotate_left
     ·intro w'
      go_simp
      with_reducible rfl
     rotate_left
     ·simp only [Act.put, zA, zB, zC, i64_w, i32_w]
      rfl
     refine done_ (done_of HT_.out (by kernel_rfl)) ?_
     try go_wp2
     go_ret
     exact ⟨rfl, hHeld.below⟩
end Go.Proofs.YtemkgdpfkbpnpaaGreatDoor.Take
