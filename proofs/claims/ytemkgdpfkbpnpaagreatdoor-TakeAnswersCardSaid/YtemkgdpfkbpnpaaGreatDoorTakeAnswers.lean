/- The calls of TakeAnswers answer true, whatever they are handed. -/
import Derived.Test.YtemkgdpfkbpnpaaGreatDoorTakeErr
import Derived.Test.YtemkgdpfkbpnpaaGreatDoorTakeGreets
namespace Go.Proofs.YtemkgdpfkbpnpaaGreatDoor.Take
open Go.RowKit Go.Proofs.YtemkgdpfkbpnpaaGreatDoorW.PrintWords Go.Proofs.YtemkgdpfkbpnpaaGreatDoorW.PrintLast Go.Proofs.YtemkgdpfkbpnpaaGreatDoorW.PrintMore Go.Proofs.YtemkgdpfkbpnpaaGreatDoor.Conv Go.Proofs.YtemkgdpfkbpnpaaGreatDoor.Print
set_option linter.unusedVariables false
set_option linter.unusedSimpArgs false
theorem bytes_more : Line.Bytes [109, 111, 114, 101] := by
 intro x hx
 simp at hx
 rcases hx with rfl | rfl | rfl | rfl <;> exact ⟨by decide, by decide⟩
theorem bytes_app {a b : List Int} (ha : Line.Bytes a) (hb : Line.Bytes b) : Line.Bytes (a ++ b) := fun x hx => (List.mem_append.1 hx).elim (ha x) (hb x)
theorem said_false {u : List S42} {x : List Line.Ln} (e : Hello.pushF u = (x, false)) (p : List Int) : saidF u p = [] := by
 unfold saidF
 rw [e]
 rfl
def ans.T26 : Bool × List (List Nat × List Nat) := (true, [([], []), ([], []), ([1], [1]), ([0, 2], [0, 2]), ([3], [3]), ([4], [4]), ([4], [4]), ([5, 6, 4], [4, 5, 6]), ([7, 4], [4, 7]), ([4], [4]), ([4], [4]), ([9, 10, 4], [4, 9, 10]), ([11, 4], [4, 11]), ([12, 4], [4, 12]), ([8, 13, 4], [4, 8, 13]), ([4, 14], [4, 14])])
def ans.B26 : List Nat := [0, 0, 2, 7, 15, 31, 31, 127, 255, 31, 31, 1567, 3615, 7711, 16383, 32767]
theorem ans.tab26 : rtab .any (opsOf Tryz.f4 26) = ans.T26 := by kernel_rfl
theorem ans.bits26 : waitsOk ans.T26.2 ans.B26 = true := by kernel_rfl
theorem okU_named {u : List S42} (h : u.all Hello.okU = true) : ∀ y ∈ u, Hello.namedF y.f0 = true := fun y hy => by
 have h1 := List.all_eq_true.1 h y hy
 unfold Hello.okU at h1
 simp only [Bool.and_eq_true] at h1
 exact h1.1
set_option maxRecDepth 100000 in
set_option maxHeartbeats 16000000 in
theorem TakeAnswers_core {w : World} (htab : Lib.TabIs Tryz.prog w "internal/strconv.uint64pow10" .u64 Lib.pow10Tab)
  (A0 : Option Addr) (c0 : Nat) (l0 : List Hello.Up) (hr0 : Kd.C k42 w A0 l0.length l0) (hc0 : l0.length <= c0) (hm0 : l0.length <= maxLen)
  (A1 : Option Addr) (c1 : Nat) (l1 : List Int) (hr1 : Kd.C (Kd.int .u8) w A1 l1.length l1) (hc1 : l1.length <= c1) (hm1 : l1.length <= maxLen) (hp1 : ∀ x ∈ l1, (Lit.int .u8 x).wf = true)
  (a2 : Int) (w2 : (Lit.int .u16 a2).wf = true) (a3 : Int) (w3 : (Lit.int .u8 a3).wf = true) (a4 : Int) (w4 : (Lit.int .u8 a4).wf = true) (a5 : Int) (w5 : (Lit.int .u16 a5).wf = true) :
  Calls Tryz.prog 4 #[.slice A0 l0.length c0, .slice A1 l1.length c1, .int .u16 a2, .int .u8 a3, .int .u8 a4, .int .u16 a5] w fun e w' => e = .returned (.bool true) /\ Below w.heap.size w w' := by
 obtain ⟨gu, hgu, hsu⟩ := Hello.greatU_eq l0 (by simp only [maxLen] at hm0; omega) (k := 20001) (by omega)
 have hz2 := u16_of_wf w2
 have hz3 := u8_of_wf w3
 have hz4 := u8_of_wf w4
 have hz5 := u16_of_wf w5
 have HTB := Asd.mk (show Tb w from Lib.tabBelow_of_tabIs htab)
 have HG := Asd.mk hgu
 have HR0 := Asd.mk hr0
 have HC0 := Asd.mk hc0
 have HR1 := Asd.mk hr1
 have HC1 := Asd.mk hc1
 have HB1 := Asd.mk (bytes_of_wf hp1)
 clear htab hgu hr0 hc0 hr1 hc1 hp1 w2 w3 w4 w5 hm0 hm1
 go_enter Tryz.func4, Tryz.ntmps4
 go_upto_region 2 with (go_at_call 7; with_reducible refine (head_calls w).mono ?_; rintro e W1 ⟨rfl, hb⟩; have HB := Asd.mk hb; clear hb)
 cases gu with
 | true =>
  go_wp2_with (go_at_call 14; with_reducible refine (w9_GreatUpdates.calls 20001 A0 c0 l0 true _ (Kd.C_below HR0.out HB.out) HC0.out HG.out).mono ?_; rintro e W2 ⟨rfl, hb⟩; replace HB := Asd.mk (below_step HB.out hb); clear hb)
  go_ret
  exact ⟨rfl, HB.out⟩
 | false =>
 have hsu := hsu rfl
 have HL0 := Asd.mk hsu.1
 have HSU := Asd.mk (fun y (hy : y ∈ l0) => (⟨by have := hsu.2 y hy; omega, by have := hsu.2 y hy; omega, by have := hsu.2 y hy; omega⟩ : Hello.smallU y))
 clear hsu
 by_cases g1 : (9000 : Int) < (l1.length : Int)
 ·go_wp2_with (go_at_call 14; with_reducible refine (w9_GreatUpdates.calls 20001 A0 c0 l0 false _ (Kd.C_below HR0.out HB.out) HC0.out HG.out).mono ?_; rintro e W2 ⟨rfl, hb⟩; replace HB := Asd.mk (below_step HB.out hb); clear hb)
  go_ret
  exact ⟨rfl, HB.out⟩
 have HLZ := Asd.mk (show l1.length <= 9000 by omega)
 go_upto_region 4 with (go_at_call 14; with_reducible refine (w9_GreatUpdates.calls 20001 A0 c0 l0 false _ (Kd.C_below HR0.out HB.out) HC0.out HG.out).mono ?_; rintro e W2 ⟨rfl, hb⟩; replace HB := Asd.mk (below_step HB.out hb); clear hb)
 obtain ⟨nz, hnz, hnb⟩ : ∃ nz : Nat, Int.tmod a2 9000 = (nz : Int) /\ nz < 9000 := by
  have h1 := Int.tmod_nonneg 9000 hz2.1
  have h2 := Int.tmod_lt_of_pos a2 (show (0 : Int) < 9000 by decide)
  exact ⟨(Int.tmod a2 9000).toNat, by omega, by omega⟩
 have HR12 := Asd.mk (fun (W : World) (h : Below W2.heap.size W2 W) => Kd.C_below HR1.out (below_step HB.out h))
 have hwz : IntKind.i64.wrap (nz : Int) = (nz : Int) := by rw [i64_w, Line.w64 (by omega) (by omega)]
 have HNB := Asd.mk hnb
 have hn0 : (0 : Int) <= (nz : Int) := by omega
 have HN0 := Asd.mk hn0
 clear hnb
 go_upto_region 5 with (first
  | ((with_reducible refine gate_dst (N := 40) rfl ?_); refine Kd.R_lit (Kd.int .u8) (w0 := W2) W2.heap.size 5 ?hg (N := 40) ?hd (xs := ([] : List Int)) (inner := []) (ok := fun _ => True) (okp := fun _ => True) ?hr ?hp (fun _ hk => hk) trivial (Below.refl _ _) (Nat.le_refl _) (by simp) ?_; (case hd => rfl); (case hg => rfl); (case hr => first | (go_simp; done) | (go_simp; rfl)); (case hp => exact (Reps.none _ _)); intro v1 W3 ho hb hg_ hnew_; clear hg_ hnew_; have HO := Asd.mk ho; have HB3 := Asd.mk hb; clear hb ho)
  | ((with_reducible refine gate_builtin (b := .append) (xs := #[.tmp 40, .tmp 41]) rfl ?_); at_builtin; refine Kd.R_append_row (Value.int .u8) (0 : Int) (w0 := W2) W2.heap.size rfl (.tmp 40) (.tmp 41) 22 5 (.int .u8 0) 1 rfl Tryz.underlying22 info5 rfl (by decide) v1 [] l1 A1 l1.length c1 (fun _ => True) rfl rfl (fun _ _ => trivial) HO.out (HR12.out _ HB3.out) HB3.out (below_size HB3.out) (by have := HLZ.out; simp; omega) ?_; intro v2 W4 ho hb hg hat; have HB4 := Asd.mk hb; replace HO := Asd.mk ho; clear hb ho hg hat)
  | (at_builtin; refine Kd.R_append_zeros (Kd.int .u8) (w0 := W2) W2.heap.size rfl (.tmp 42) (.tmp 45) 22 3 5 (.int .u8 0) 1 rfl Tryz.underlying22 Tryz.underlying3 info5 rfl (by decide) (by omega) v2 _ 0 (nz : Int) (fun _ => True) rfl rfl rfl (fun _ _ => trivial) HO.out HN0.out HB4.out (below_size HB4.out) (by have := HLZ.out; have := HNB.out; simp; omega) ?_; intro v3 W5 ho hb hg hat; have HB5 := Asd.mk hb; rw [List.nil_append, Int.toNat_natCast] at ho; replace HO := Asd.mk ho; clear hb ho hg hat; obtain ⟨Ap, cp, rfl⟩ := Kd.R_slice HO.out))
 obtain ⟨p, hp⟩ : ∃ p, p = l1 ++ List.replicate nz (0 : Int) := ⟨_, rfl⟩
 rw [<- hp] at HO
 have hpl : p.length = l1.length + nz := by rw [hp, List.length_append, List.length_replicate]
 have HPB := Asd.mk (show Line.Bytes p by rw [hp]; exact bytes_app HB1.out (fun x hx => by rw [List.eq_of_mem_replicate hx]; exact ⟨by decide, by decide⟩))
 have HPL := Asd.mk hpl
 have HPZ := Asd.mk (show p.length <= 18000 by have := HLZ.out; have := HNB.out; omega)
 have HPc := Asd.mk (Kd.R_reads' HO.out).2.1
 have HPR := Asd.mk (Kd.R_reads' HO.out).2.2
 have HBW5 := Asd.mk (below_step HB.out HB5.out)
 have HSAID := Asd.mk (sacristylaw18_said.calls 100000000 A0 c0 l0 Ap cp p _ W5 (Kd.C_below HR0.out HBW5.out) HC0.out HPR.out HPc.out (said_eq l0 p (by have := HL0.out; omega) HSU.out (by have := HPZ.out; omega)))
 rw [HPL.out] at HSAID
 obtain ⟨x, fi, hpu⟩ : ∃ x fi, Hello.pushF l0 = (x, fi) := ⟨_, _, rfl⟩
 have HPU := Asd.mk hpu
 clear hp hpl hpu HO HB3 HB4 HR12 hwz hn0 HN0
 cases fi with
 | false =>
  rw [said_false HPU.out p] at HSAID
  go_wp2_with (first
   | (go_at_call 15; with_reducible refine HSAID.out.mono ?_; rintro e W6 ⟨v1, rfl, ho, hb⟩; obtain ⟨Aq, cq, rfl⟩ := Kd.R_slice ho; have HB6 := Asd.mk (below_step HBW5.out hb); clear ho hb)
   | (go_at_call 8; with_reducible refine (new_main w _ HB6.out).mono ?_; rintro e W7 ⟨g, own, rfl, ht, _, _⟩; have HB7 := Asd.mk ht.bel; clear ht))
  go_ret
  exact ⟨rfl, HB7.out⟩
 | true =>
 have HSL := Asd.mk (said_len HPU.out p)
 have HSB := Asd.mk (said_bytes l0 p)
 have htl : (Line.putF (Hello.toldF mainT []).1).1.length <= 4004 * 66 := by
  have h1 := putF_len (Hello.toldF mainT []).1
  have h2 := Hello.told_len mainT []
  omega
 obtain ⟨td, htd⟩ : ∃ td, td = (Line.putF (Hello.toldF mainT []).1).1 := ⟨_, rfl⟩
 rw [<- htd] at htl
 have HTD := Asd.mk htd.symm
 have HTL := Asd.mk htl
 have HST := Asd.mk (fun a b hab => said_state HPU.out p HPB.out td a b hab)
 have HS2 := Asd.mk (fun a b hab => said_two HPU.out p HPB.out td a b hab)
 clear htd htl
 obtain ⟨bb, hbb⟩ : ∃ bb, saidF l0 p = bb := ⟨_, rfl⟩
 rw [hbb] at HSL HSB HST HS2 HSAID
 have HBZ := Asd.mk (show 12 <= bb.length /\ bb.length <= 100000 by have h := HSL.out; have := HPZ.out; omega)
 clear hbb
 go_upto_region 6 with (go_at_call 15; with_reducible refine HSAID.out.mono ?_; rintro e W6 ⟨v1, rfl, ho, hb⟩; obtain ⟨Aq, cq, rfl⟩ := Kd.R_slice ho; have HQ := Asd.mk (Kd.R_reads' ho).2.2; have HQc := Asd.mk (Kd.R_reads' ho).2.1; have HB6 := Asd.mk (below_step HBW5.out hb); have HP6 := Asd.mk (Kd.C_below HPR.out hb); clear ho hb)
 have hbz : ¬ (bb.length : Int) = 0 := by have := HBZ.out; omega
 have hbn : ¬ bb = [] := fun e => by have := HBZ.out; rw [e] at this; simp at this
 go_upto_region 7 with (go_at_call 8; with_reducible refine (new_main W6 _ (Below.refl _ _)).mono ?_; rintro e W7 ⟨g, own, rfl, ht, _, _⟩; rw [HTD.out] at ht; have HT := Asd.mk ht; clear ht)
 obtain ⟨m, hm, hmb⟩ : ∃ m : Nat, Int.tmod a5 (bb.length : Int) = (m : Int) /\ m < bb.length := by
  refine ⟨(Int.tmod a5 (bb.length : Int)).toNat, ?_, ?_⟩
  ·have h1 := Int.tmod_nonneg (bb.length : Int) hz5.1
   omega
  ·have h1 := Int.tmod_lt_of_pos a5 (show (0 : Int) < (bb.length : Int) by have := HBZ.out; omega)
   have h2 := Int.tmod_nonneg (bb.length : Int) hz5.1
   omega
 have hq9 : (m : Int) <= (cq : Int) := by have := HQc.out; omega
 have hmi : (m : Int) <= (bb.length : Int) := by omega
 have HMB := Asd.mk hmb
 have m5 : IntKind.i64.wrap a5 = a5 := by rw [i64_w, Line.w64 (by omega) (by omega)]
 have HL9 := Asd.mk (show (bb.take m).length = m by rw [List.length_take]; omega)
 have HLD := Asd.mk (show (bb.drop m).length = bb.length - m from List.length_drop)
 obtain ⟨cm, hcm⟩ := HST.out (bb.take m) (bb.drop m) (List.take_append_drop m bb)
 have HE := Asd.mk hcm
 have HEW := Asd.mk ((HS2.out (bb.take m) (bb.drop m) (List.take_append_drop m bb)).2.2.2.2 (fun e => by have h := congrArg List.length e; rw [List.length_drop] at h; simp at h; omega))
 have HSD := Asd.mk (takeS_sendlen (good_new td) (bytes_take HSB.out m) (by rw [HL9.out]; have := HBZ.out; have := HMB.out; simp; omega))
 have HCL := Asd.mk (takeS_good (good_new td) (bytes_take HSB.out m) (by rw [HL9.out]; have := HBZ.out; have := HMB.out; simp; omega)).2.1
 have HPK := Asd.mk (takeS_pack (good_new td) (bytes_take HSB.out m) (by rw [HL9.out]; have := HBZ.out; have := HMB.out; simp; omega) (by simp))
 clear hcm hmb HST HS2
 go_upto_region 11 with (go_at_call 9; with_reducible refine (take_T HT.out Aq m cq (bb.take m) HL9.out.symm (Kd.C_take (Kd.C_below HQ.out HT.out.bel) (by have := HMB.out; omega)) (by rw [HL9.out]; have := HQc.out; have := HMB.out; omega) (bytes_take HSB.out m) (by rw [HL9.out]; have := HMB.out; have := HBZ.out; simp; omega) (by have := HTL.out; simp; omega)).mono ?_; rintro e W8 ⟨rfl, own8, ht, _⟩; replace HT := Asd.mk ht; clear ht)
 generalize takeS pushR errT ⟨[], td, [], [], -1, false⟩ (bb.take m) = s1 at HT HE HEW HSD HCL HPK
 go_upto_region 12 with (go_at_call 10; with_reducible refine (ready_no HT.out HEW.out (Nat.le_trans HPK.out (by decide))).mono ?_; rintro e W9 ⟨rfl, hb⟩; replace HT := Asd.mk (HT.out.below hb); clear hb)
 have HZA := Asd.mk (show s1.came.length + (bb.drop m).length <= 200000 by rw [HLD.out]; have h := HCL.out; rw [HL9.out] at h; simp only [List.length_nil] at h; have := HBZ.out; have := HMB.out; omega)
 have HZS := Asd.mk (show s1.send.length <= 100000000 by have h : s1.send.length <= td.length + 8008 := HSD.out; have := HTL.out; omega)
 have HCX := Asd.mk (show cm.length <= 100000 by have h := (takeS_good HT.out.good (bytes_drop HSB.out m) HZA.out).2.1; rw [HE.out] at h; have h2 : cm.length <= s1.came.length + (bb.drop m).length := h; rw [HLD.out] at h2; have h3 := HCL.out; rw [HL9.out] at h3; simp only [List.length_nil] at h3; have := HBZ.out; have := HMB.out; omega)
 obtain ⟨Ar, cr, hcut, hR, hRc⟩ := drop_cut (Rw.came (Kd.heap_int .u8) HQ.out HT.out.bel HT.out.lo) HQc.out (m : Int) (by omega) hmi
 rw [Int.toNat_natCast] at hcut hR hRc
 have HR := Asd.mk hR
 have HRc := Asd.mk hRc
 clear hR hRc
 go_upto_region 13 with (go_at_call 9; with_reducible refine (take_T HT.out Ar (bb.length - m) cr (bb.drop m) HLD.out.symm HR.out.now HRc.out (bytes_drop HSB.out m) HZA.out HZS.out).mono ?_; rintro e W10 ⟨rfl, own10, ht, _⟩; rw [HE.out] at ht; replace HT := Asd.mk ht; clear ht)
 have HCMZ := Asd.mk (show cm.length <= 100000 from HCX.out)
 clear hcut HR HRc HE HEW HSD HCL HPK HL9 HLD
 go_upto_region 14 with (go_at_call 12; with_reducible refine (out_T HT.out).mono ?_; rintro e W11 ⟨Ao, co, own11, rfl, _, _, ht, _⟩; replace HT := Asd.mk ht; clear ht)
 have HPZ' := Asd.mk (show p.length <= 1000000000 by have := HPZ.out; omega)
 go_upto_region 15 with (go_at_call 10; with_reducible refine (ready_is HT.out rfl HPZ'.out l0.length (l1.length + nz) rfl HPL.out).mono ?_; rintro e W12 ⟨Ax, cx, Ay, cy, rfl, hx, hy, lx, ly, hb⟩; replace HT := Asd.mk (HT.out.below hb); have HX := Asd.mk hx; have HY := Asd.mk hy; have HLX := Asd.mk (And.intro lx ly); clear hb hx hy lx ly)
 have m3 : IntKind.i64.wrap a3 = a3 := by rw [i64_w, Line.w64 (by omega) (by omega)]
 have m4 : IntKind.i64.wrap a4 = a4 := by rw [i64_w, Line.w64 (by omega) (by omega)]
 have kc := fun (w : World) (C : Array Value) (n c : Nat) => Lib.run_convert_bytes_const (P := Tryz.prog) w 22 5 C n c Tryz.underlying22 Tryz.underlying5
 have HSAME := Asd.mk (Hello.sameU_eq l0 (by have := HL0.out; omega) (k := 1000) (by have := HL0.out; omega))
 have h1 := push_ok HPU.out
 have HPO := Asd.mk h1
 have HCM := Asd.mk HT.out.good
 clear h1
 have HTB12 := Asd.mk (show Tb W12 from HTB.out.below (below_step HB6.out HT.out.bel))
 by_cases he : a3 = 0
 ·subst he
  go_upto_region 16 with (go_at_call 16; with_reducible refine (give_ok_T HT.out rfl a4 (by simp)).mono ?_; rintro e W13 ⟨rfl, own13, ht, hg⟩; rw [List.nil_append] at ht; replace HT := Asd.mk ht; replace HX := Asd.mk (HX.out.go hg); replace HY := Asd.mk (HY.out.go hg); clear ht hg)
  have HGOT := Asd.mk (fun (W' : World) (A : Option Addr) (c : Nat) (hr : Kd.C (Kd.int .u8) W' A (okB l0).length (okB l0)) (hc : (okB l0).length <= c) => got_ok (W := W') l0 HPO.out.2.2.2.2.1 HPO.out.2.2.2.2.2 (okU_named HPO.out.2.2.2.1) 2000 0 0 (fun h => refused_name (okU_named HPO.out.2.2.2.1 _ (List.getElem_mem h))) A c hr hc)
  go_upto_region 17 with (go_at_call 16; with_reducible refine (give_no_T HT.out rfl 0 0).mono ?_; rintro e W15 ⟨rfl, rfl⟩)
  go_upto_region 18 with (first
   | (go_at_call 12; with_reducible refine (out_T HT.out).mono ?_; rintro e W14 ⟨As, cs, own14, rfl, hco, ho, ht, hg⟩; replace HT := Asd.mk ht; have HO := Asd.mk ho; have HOc := Asd.mk hco; replace HX := Asd.mk (HX.out.go hg); replace HY := Asd.mk (HY.out.go hg); clear ho hco ht hg)
   | (go_at_call 17; with_reducible refine (HGOT.out _ As cs HO.out.now HOc.out).mono ?_; rintro e W16 ⟨vn, rfl, ho, hb⟩; obtain ⟨An, cn, rfl⟩ := Kd.R_slice ho; have HN := Asd.mk (HT.out.row hb ho); have HNc := Asd.mk (Kd.R_reads' ho).2.1; have hg := Goes.below (own := own14) hb; replace HX := Asd.mk (HX.out.go hg); replace HY := Asd.mk (HY.out.go hg); replace HT := Asd.mk (HT.out.below hb); clear ho hb hg HO HOc HGOT))
  have HAl := Asd.mk (bal (Below.refl W16.heap.size W16) (.cells #[.int .u8 109, .int .u8 111, .int .u8 114, .int .u8 101] 5 (4, 5)))
  have HRl := Asd.mk (show Rw (Kd.int .u8) (W16.alloc (.cells #[.int .u8 109, .int .u8 111, .int .u8 114, .int .u8 101] 5 (4, 5))) own14 (some ⟨W16.heap.size, 0, none⟩) [(109 : Int), 111, 114, 101].length [109, 111, 114, 101] from lit_row W16 [109, 111, 114, 101] (4, 5) own14 HT.out.lt (by decide))
  have HOV := Asd.mk (take_over pushR errT (s := ⟨cm, [], l0, p, -2, false⟩) rfl rfl [109, 111, 114, 101])
  have HZM := Asd.mk (show cm.length + ([109, 111, 114, 101] : List Int).length <= 200000 by have := HCMZ.out; show cm.length + 4 <= 200000; omega)
  go_upto_region 19 with (go_at_call 9; with_reducible refine (take_T (HT.out.below HAl.out) (some ⟨W16.heap.size, 0, none⟩) 4 4 [109, 111, 114, 101] rfl HRl.out.now (Nat.le_refl _) bytes_more HZM.out (by simp)).mono ?_; rintro e W17 ⟨rfl, own17, ht, hg2⟩; rw [HOV.out] at ht; have hg := (Goes.below (own := own14) HAl.out).trans hg2; replace HX := Asd.mk (HX.out.go hg); replace HY := Asd.mk (HY.out.go hg); replace HN := Asd.mk (HN.out.go hg); replace HT := Asd.mk ht; clear ht hg hg2 HAl HRl)
  have HD := Asd.mk (show doneS ⟨cm, [], l0, p, -2, false⟩ = true from rfl)
  have HW17 := Asd.mk (below_step HB6.out HT.out.bel)
  have HPC := Asd.mk (Kd.C_below HP6.out HT.out.bel)
  clear kc
  go_upto_region 24 with (first
   | (go_at_call 13; with_reducible refine (q6_SameUpdates.calls 1000 Ax cx l0 A0 c0 l0 true _ HX.out.now HLX.out.1 (Kd.C_below HR0.out HW17.out) HC0.out HSAME.out).mono ?_; rintro e W18 ⟨rfl, hb⟩; have hcy := Kd.C_string (P := Tryz.prog) (src := 22) (dst := 9) (c := cy) Tryz.underlying22 Tryz.underlying5 Tryz.underlying9 (Kd.C_below HY.out.now hb.below); have hcp := Kd.C_string (P := Tryz.prog) (src := 22) (dst := 9) (c := cp) Tryz.underlying22 Tryz.underlying5 Tryz.underlying9 (Kd.C_below HPC.out hb.below); rw [HPL.out] at hcy hcp; replace HT := Asd.mk (HT.out.below hb.below); replace HN := Asd.mk (HN.out.below hb.below); clear hb)
   | (go_at_call 11; with_reducible refine (done_T HT.out true HD.out).mono ?_; rintro e w1 ⟨rfl, rfl⟩)
   | (go_at_call 12; with_reducible refine (out_T HT.out).mono ?_; rintro e W19 ⟨Az, cz, own19, rfl, _, _, ht, hg⟩; replace HT := Asd.mk ht; replace HN := Asd.mk (HN.out.go hg); clear ht hg hcy hcp))
  have HNR := Asd.mk HN.out.now
  have HR0' := Asd.mk (Kd.C_below HR0.out (below_step HB6.out HT.out.bel))
  have HBF := Asd.mk (below_step HB6.out HT.out.bel)
  have hnl : (namesL l0).length = l0.length := List.length_map ..
  have hlz : l0.length <= 40 := HL0.out
  go_loopg [30] l0.length (fun gg s30 wr => ∃ kk : Nat, kk <= l0.length /\ l0.length - kk <= gg /\ s30 = .int .i64 kk /\ Asd (Below W19.heap.size W19 wr))
  case atStart => exact ⟨0, Nat.zero_le _, by omega, rfl, ⟨Below.refl _ _⟩⟩
  case round =>
   obtain ⟨kk, hkk, hg, rfl, HBW⟩ := hrel
   by_cases hlt : kk < l0.length
   ·have hltz : (kk : Int) < (l0.length : Int) := by omega
    obtain ⟨ad, rfl, hcn⟩ := (Kd.reads_of_C (enc := Value.string) (d := ByteArray.empty) (h1 := fun _ => rfl) (Kd.C_below HNR.out HBW.out)).2.2 (by omega)
    obtain ⟨ae, rfl, e0, _, _⟩ := at_T42 (Kd.C_below HR0'.out HBW.out) (kk : Int) (by omega) hltz
    have hx : rd_T42 l0 (kk : Int) = l0[kk] := by
     unfold rd_T42
     rw [Int.toNat_natCast, List.getD_eq_getElem?_getD, List.getElem?_eq_getElem hlt]; rfl
    rw [hx, Int.toNat_natCast] at e0
    have hc0 := hcn kk (by rw [hnl]; exact hlt)
    have hx2 : (namesL l0).getD kk ByteArray.empty = l0[kk].f0 := by
     rw [List.getD_eq_getElem?_getD]
     unfold namesL
     rw [List.getElem?_map, List.getElem?_eq_getElem hlt]
     rfl
    rw [hx2] at hc0
    generalize l0[kk].f0 = y at e0 hc0
    have HK := Asd.mk (And.intro hc0 e0)
    clear hcn hc0 e0 hx hx2
    go_upto_region 26 with (fail)
    refine start_ (n := 16) (S := fun w' => Below wr.heap.size wr w') (ds := []) (bA 16 0) (by kernel_rfl) rfl rfl (bd1 (Below.refl _ _)) (fun hHeld => ?_)
    refine with_tabW ans.tab26 ans.bits26 (fun HT_ HW_ => ?_)
    generalize wr.drew = W27 at hHeld ⊢
    refine pure_ (i := 0) (N := some 178) (v := ?_) (a' := ?_) (bA 16 1) rfl rfl (any_of HT_.out (by kernel_rfl)) (fun _ _ _ h => h) (Or.inl ⟨by rfl, ?_⟩) ?_ ?_
    rotate_left
    ·intro w'
     go_simp
     with_reducible rfl
    rotate_left
    ·simp only [Act.put, zA, zB, zC, i64_w, i32_w]
     rfl
    refine pure_ (i := 1) (N := some 179) (v := ?_) (a' := ?_) (bA 16 3) rfl rfl (any_of HT_.out (by kernel_rfl)) (fun _ _ _ h => h) (Or.inl ⟨by rfl, ?_⟩) ?_ ?_
    rotate_left
    ·intro w'
     go_simp
     with_reducible rfl
    rotate_left
    ·simp only [Act.put, zA, zB, zC, i64_w, i32_w]
     rfl
    refine pure_ (i := 2) (N := some 180) (v := ?_) (a' := ?_) (bA 16 7) rfl rfl (any_of HT_.out (by kernel_rfl)) (fun _ _ _ h => h) (Or.inl ⟨by rfl, ?_⟩) ?_ ?_
    rotate_left
    ·intro w'
     go_simp
     with_reducible rfl
    rotate_left
    ·simp only [Act.put, zA, zB, zC, i64_w, i32_w]
     rfl
    refine pure_ (i := 3) (N := some 181) (v := .bool false) (a' := ?_) (bA 16 15) rfl rfl (any_of HT_.out (by kernel_rfl)) (fun _ _ _ h => h) (Or.inl ⟨by rfl, ?_⟩) ?_ ?_
    ·intro w'
     first | (go_simp; done) | (go_simp; simp)
    rotate_left
    ·simp only [Act.put, zA, zB, zC, i64_w, i32_w]
     rfl
    refine pure_ (i := 4) (N := some 182) (v := ?_) (a' := ?_) (bA 16 31) rfl rfl (any_of HT_.out (by kernel_rfl)) (fun _ _ _ h => h) (Or.inl ⟨by rfl, ?_⟩) ?_ ?_
    rotate_left
    ·intro w'
     go_simp
     with_reducible rfl
    rotate_left
    ·simp only [Act.put, zA, zB, zC, i64_w, i32_w]
     rfl
    refine pure_ (i := 5) (N := some 183) (v := ?_) (a' := ?_) (bA 16 63) rfl rfl (any_of HT_.out (by kernel_rfl)) (fun _ _ _ h => h) (Or.inl ⟨by rfl, ?_⟩) ?_ ?_
    rotate_left
    ·intro w'
     go_simp
     with_reducible rfl
    rotate_left
    ·simp only [Act.put, zA, zB, zC, i64_w, i32_w]
     rfl
    refine pure_ (i := 6) (N := some 184) (v := ?_) (a' := ?_) (bA 16 127) rfl rfl (any_of HT_.out (by kernel_rfl)) (fun _ _ _ h => h) (Or.inl ⟨by rfl, ?_⟩) ?_ ?_
    rotate_left
    ·intro w'
     go_simp
     with_reducible rfl
    rotate_left
    ·simp only [Act.put, zA, zB, zC, i64_w, i32_w]
     rfl
    refine pure_ (i := 7) (N := some 185) (v := ?_) (a' := ?_) (bA 16 255) rfl rfl (any_of HT_.out (by kernel_rfl)) (fun _ _ _ h => h) (Or.inl ⟨by rfl, ?_⟩) ?_ ?_
    rotate_left
    ·intro w'
     go_simp
     with_reducible rfl
    rotate_left
    ·simp only [Act.put, zA, zB, zC, i64_w, i32_w]
     rfl
    refine take_ (i := 8) (N := some 186) (v := .string y) (a' := ?_) (bA 16 511) rfl rfl (take_ofW HT_.out HW_.out (by kernel_rfl)) (fun _ _ _ h => h) (Or.inl ⟨by rfl, fun w' hS' => ?_⟩) hHeld ?_ ?_
    ·have kk0 := (hS'.cell (World.block_lt_of_cell? _ _ HK.out.1)).trans HK.out.1
     go_simp
    rotate_left
    ·simp only [Act.put, zA, zB, zC, i64_w, i32_w]
     rfl
    refine pure_ (i := 9) (N := some 187) (v := ?_) (a' := ?_) (bA 16 1023) rfl rfl (any_of HT_.out (by kernel_rfl)) (fun _ _ _ h => h) (Or.inl ⟨by rfl, ?_⟩) ?_ ?_
    rotate_left
    ·intro w'
     go_simp
     with_reducible rfl
    rotate_left
    ·simp only [Act.put, zA, zB, zC, i64_w, i32_w]
     rfl
    refine pure_ (i := 10) (N := some 188) (v := ?_) (a' := ?_) (bA 16 2047) rfl rfl (any_of HT_.out (by kernel_rfl)) (fun _ _ _ h => h) (Or.inl ⟨by rfl, ?_⟩) ?_ ?_
    rotate_left
    ·intro w'
     go_simp
     with_reducible rfl
    rotate_left
    ·simp only [Act.put, zA, zB, zC, i64_w, i32_w]
     rfl
    refine pure_ (i := 11) (N := some 189) (v := ?_) (a' := ?_) (bA 16 4095) rfl rfl (any_of HT_.out (by kernel_rfl)) (fun _ _ _ h => h) (Or.inl ⟨by rfl, ?_⟩) ?_ ?_
    rotate_left
    ·intro w'
     go_simp
     with_reducible rfl
    rotate_left
    ·simp only [Act.put, zA, zB, zC, i64_w, i32_w]
     rfl
    refine pure_ (i := 12) (N := some 190) (v := ?_) (a' := ?_) (bA 16 8191) rfl rfl (any_of HT_.out (by kernel_rfl)) (fun _ _ _ h => h) (Or.inl ⟨by rfl, ?_⟩) ?_ ?_
    rotate_left
    ·intro w'
     go_simp
     with_reducible rfl
    rotate_left
    ·simp only [Act.put, zA, zB, zC, i64_w, i32_w]
     rfl
    refine take_ (i := 13) (N := some 191) (v := .string y) (a' := ?_) (bA 16 16383) rfl rfl (take_ofW HT_.out HW_.out (by kernel_rfl)) (fun _ _ _ h => h) (Or.inl ⟨by rfl, fun w' hS' => ?_⟩) hHeld ?_ ?_
    ·have kk1 := (hS'.cell (World.block_lt_of_cell? _ _ HK.out.2)).trans HK.out.2
     go_simp
    rotate_left
    ·simp only [Act.put, zA, zB, zC, i64_w, i32_w]
     rfl
    refine pure_ (i := 14) (N := some 192) (v := .bool false) (a' := ?_) (bA 16 32767) rfl rfl (any_of HT_.out (by kernel_rfl)) (fun _ _ _ h => h) (Or.inl ⟨by rfl, ?_⟩) ?_ ?_
    ·intro w'
     first | (go_simp; done) | (go_simp; simp)
    rotate_left
    ·simp only [Act.put, zA, zB, zC, i64_w, i32_w]
     rfl
    refine pure_ (i := 15) (N := some 193) (v := .bool false) (a' := ?_) (bA 16 65535) rfl rfl (any_of HT_.out (by kernel_rfl)) (fun _ _ _ h => h) (Or.inl ⟨by rfl, ?_⟩) ?_ ?_
    ·intro w'
     first | (go_simp; done) | (go_simp; simp)
    rotate_left
    ·simp only [Act.put, zA, zB, zC, i64_w, i32_w]
     rfl
    refine done_ (done_of HT_.out (by kernel_rfl)) ?_
    go_wp2
    go_roundg (l0.length - (kk + 1))
    case measure => omega
    case rel => exact ⟨kk + 1, by omega, by omega, (by first | rfl | (rw [Line.w64 (by omega) (by omega)]; rfl)), ⟨below_step HBW.out hHeld⟩⟩
   ·obtain rfl : kk = l0.length := by omega
    go_wp2
    go_ret
    exact ⟨rfl, below_step HBF.out HBW.out⟩
 ·have HN3 := Asd.mk (nums_big (n := a3) (by omega) hz3.2)
  have HN4 := Asd.mk (nums_big (n := a4) hz4.1 hz4.2)
  have HNE := Asd.mk he
  have HS3 := Asd.mk (Nat.le_trans HN3.out.size (show 3 <= 1000 by decide))
  have HS4 := Asd.mk (Nat.le_trans HN4.out.size (show 3 <= 1000 by decide))
  go_upto_region 16 with (go_at_call 16; with_reducible refine (give_err_T HT.out rfl a3 a4 HNE.out (itoaB a3) (itoaB a4) (HN3.out.text HTB12.out) (fun W' h => HN4.out.text (HTB12.out.below h)) HS3.out HS4.out (by simp)).mono ?_; rintro e W13 ⟨rfl, own13, ht, hg⟩; rw [List.nil_append] at ht; replace HT := Asd.mk ht; replace HX := Asd.mk (HX.out.go hg); replace HY := Asd.mk (HY.out.go hg); clear ht hg)
  have HGE := Asd.mk (fun (W' : World) (h : Tb W') (A : Option Addr) (c : Nat) (hr : Kd.C (Kd.int .u8) W' A (errB (itoaB a3) (itoaB a4)).length (errB (itoaB a3) (itoaB a4))) (hc : (errB (itoaB a3) (itoaB a4)).length <= c) => got_big (W := W') HN3.out HN4.out HNE.out h A c hr hc)
  go_upto_region 17 with (go_at_call 16; with_reducible refine (give_no_T HT.out rfl 0 0).mono ?_; rintro e W15 ⟨rfl, rfl⟩)
  go_upto_region 18 with (first
   | (go_at_call 12; with_reducible refine (out_T HT.out).mono ?_; rintro e W14 ⟨As, cs, own14, rfl, hco, ho, ht, hg⟩; replace HT := Asd.mk ht; have HO := Asd.mk ho; have HOc := Asd.mk hco; replace HX := Asd.mk (HX.out.go hg); replace HY := Asd.mk (HY.out.go hg); clear ho hco ht hg)
   | (go_at_call 17; with_reducible refine (HGE.out _ (HTB.out.below (below_step HB6.out HT.out.bel)) As cs HO.out.now HOc.out).mono ?_; rintro e W16 ⟨rfl, hb⟩; have hg := Goes.below (own := own14) hb; replace HX := Asd.mk (HX.out.go hg); replace HY := Asd.mk (HY.out.go hg); replace HT := Asd.mk (HT.out.below hb); clear hb hg HO HOc HGE))
  have HAl := Asd.mk (bal (Below.refl W16.heap.size W16) (.cells #[.int .u8 109, .int .u8 111, .int .u8 114, .int .u8 101] 5 (4, 5)))
  have HRl := Asd.mk (show Rw (Kd.int .u8) (W16.alloc (.cells #[.int .u8 109, .int .u8 111, .int .u8 114, .int .u8 101] 5 (4, 5))) own14 (some ⟨W16.heap.size, 0, none⟩) [(109 : Int), 111, 114, 101].length [109, 111, 114, 101] from lit_row W16 [109, 111, 114, 101] (4, 5) own14 HT.out.lt (by decide))
  have HOV := Asd.mk (take_over pushR errT (s := ⟨cm, [], l0, p, -2, false⟩) rfl rfl [109, 111, 114, 101])
  have HZM := Asd.mk (show cm.length + ([109, 111, 114, 101] : List Int).length <= 200000 by have := HCMZ.out; show cm.length + 4 <= 200000; omega)
  go_upto_region 19 with (go_at_call 9; with_reducible refine (take_T (HT.out.below HAl.out) (some ⟨W16.heap.size, 0, none⟩) 4 4 [109, 111, 114, 101] rfl HRl.out.now (Nat.le_refl _) bytes_more HZM.out (by simp)).mono ?_; rintro e W17 ⟨rfl, own17, ht, hg2⟩; rw [HOV.out] at ht; have hg := (Goes.below (own := own14) HAl.out).trans hg2; replace HX := Asd.mk (HX.out.go hg); replace HY := Asd.mk (HY.out.go hg); replace HT := Asd.mk ht; clear ht hg hg2 HAl HRl)
  have hne1 : (a3 == 0) = false := beq_eq_false_iff_ne.2 he
  have hne2 : (a3 != 0) = true := bne_iff_ne.2 he
  have HD := Asd.mk (show doneS ⟨cm, [], l0, p, -2, false⟩ = true from rfl)
  have HW17 := Asd.mk (below_step HB6.out HT.out.bel)
  have HPC := Asd.mk (Kd.C_below HP6.out HT.out.bel)
  clear kc
  go_wp2_with (first
   | (go_at_call 13; with_reducible refine (q6_SameUpdates.calls 1000 Ax cx l0 A0 c0 l0 true _ HX.out.now HLX.out.1 (Kd.C_below HR0.out HW17.out) HC0.out HSAME.out).mono ?_; rintro e W18 ⟨rfl, hb⟩; have hcy := Kd.C_string (P := Tryz.prog) (src := 22) (dst := 9) (c := cy) Tryz.underlying22 Tryz.underlying5 Tryz.underlying9 (Kd.C_below HY.out.now hb.below); have hcp := Kd.C_string (P := Tryz.prog) (src := 22) (dst := 9) (c := cp) Tryz.underlying22 Tryz.underlying5 Tryz.underlying9 (Kd.C_below HPC.out hb.below); rw [HPL.out] at hcy hcp; replace HT := Asd.mk (HT.out.below hb.below); clear hb)
   | (go_at_call 11; with_reducible refine (done_T HT.out true HD.out).mono ?_; rintro e w1 ⟨rfl, rfl⟩)
   | (go_at_call 12; with_reducible refine (out_T HT.out).mono ?_; rintro e W19 ⟨Az, cz, own19, rfl, _, _, ht, hg⟩; replace HT := Asd.mk ht; clear ht hg hcy hcp))
  go_ret
  exact ⟨rfl, below_step HB6.out HT.out.bel⟩
end Go.Proofs.YtemkgdpfkbpnpaaGreatDoor.Take
