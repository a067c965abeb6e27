/- What one who pushed got. -/
import Derived.Test.YtemkgdpfkbpnpaaGreatDoorTakeLaw
namespace Go.Proofs.YtemkgdpfkbpnpaaGreatDoor.Take
open Go.RowKit Go.Proofs.YtemkgdpfkbpnpaaGreatDoorW.PrintWords Go.Proofs.YtemkgdpfkbpnpaaGreatDoorW.PrintLast Go.Proofs.YtemkgdpfkbpnpaaGreatDoorW.PrintMore Go.Proofs.YtemkgdpfkbpnpaaGreatDoor.Conv Go.Proofs.YtemkgdpfkbpnpaaGreatDoor.Print Go.Proofs.YtemkgdpfkbpnpaaGreatDoor.Line
open Go.Proofs.YtemkgdpfkbpnpaaGreatDoor.Hello hiding Ln cutF cut_eq
set_option linter.unusedVariables false
set_option linter.unusedSimpArgs false
theorem results_tmp4 {fn : Func} {t u v x : Tmp} (h : fn.results = #[.tmp t, .tmp u, .tmp v, .tmp x]) (tmps : Array Value) (P : Program) (w : World) :
  (results fn tmps).run P w = .ok (.tuple #[tmps.getD t undef, tmps.getD u undef, tmps.getD v undef, tmps.getD x undef]) w := by
 simp [results, h]
theorem errL_size (t u : ByteArray) : (errL t u).f1.size = 8 + t.size + u.size := by
 show (((((⟨#[101, 114, 114, 111, 114, 32]⟩ : ByteArray) ++ t) ++ (⟨#[32]⟩ : ByteArray)) ++ u) ++ (⟨#[10]⟩ : ByteArray)).size = _
 rw [ByteArray.size_append, ByteArray.size_append, ByteArray.size_append, ByteArray.size_append]
 show 6 + t.size + 1 + u.size + 1 = _
 omega
theorem line_ok {x : Ln} (h0 : x.f0 = false) (h1 : 0 < x.f1.size) (h2 : x.f1.size <= 4000) : okL x = true := by
 unfold okL
 rw [h0, show ((x.f1.size : Int) == 0) = false from beq_eq_false_iff_ne.2 (by omega), decide_eq_false (by omega)]
 rfl
theorem flush_ok : okL flushLn = true := by decide
theorem err_ok {t u : ByteArray} (h : t.size <= 1000) (h2 : u.size <= 1000) : [errL t u, flushLn].all okL = true := by
 rw [List.all_cons, List.all_cons, List.all_nil, Bool.and_true, Bool.and_eq_true]
 exact ⟨line_ok rfl (by rw [errL_size]; omega) (by rw [errL_size]; omega), flush_ok⟩
theorem err_eq {t u : ByteArray} (h : t.size <= 1000) (h2 : u.size <= 1000) : errB t u = [errL t u, flushLn].flatMap encL := by
 unfold errB
 show (putF [errL t u, flushLn]).1 = _
 unfold putF
 rw [if_pos (err_ok h h2)]
theorem err_cut {t u : ByteArray} (h : t.size <= 1000) (h2 : u.size <= 1000) : line_Cut.f 400000 (errB t u) = some ([errL t u, flushLn], [], 0) := by
 have hok := err_ok h h2
 have he := err_eq h h2
 have hlen : (errB t u).length <= 8008 := putF_len [errL t u, ⟨true, ⟨#[]⟩⟩]
 rw [cut_eq (errB t u) (by rw [he]; exact enc_bytes hok) (by omega) (by omega), he, cutF_enc _ hok]
set_option maxRecDepth 100000 in
set_option maxHeartbeats 4000000 in
theorem got_err {W : World} (t u : ByteArray) (n m : Int) (k : Nat) (ht : t.size <= 1000) (hu : u.size <= 1000) (hf : take_refused.f k (errL t u).f1 = some (n, m, true)) (A : Option Addr) (c : Nat) (hr : Kd.C (Kd.int .u8) W A (errB t u).length (errB t u)) (hc : (errB t u).length <= c) :
  Calls Tryz.prog 17 #[.slice A (errB t u).length c] W fun e w' => e = .returned (.tuple #[.slice none 0 0, .int .i64 n, .int .i64 m, .bool true]) /\ Below W.heap.size W w' := by
 have HCUT := Asd.mk (line_Cut.calls 400000 A c (errB t u) _ _ _ W hr hc (err_cut ht hu))
 have HF := Asd.mk hf
 obtain ⟨us, hus⟩ : ∃ us : List Ln, us = [errL t u, flushLn] := ⟨_, rfl⟩
 rw [<- hus] at HCUT
 have HUL := Asd.mk (show us.length = 2 by rw [hus]; rfl)
 have HIX := Asd.mk (show take_first.f us = some 1 by rw [hus]; rfl)
 have HRD := Asd.mk (show rd_T65 us 0 = errL t u by rw [hus]; rfl)
 clear hr hc hf ht hu hus
 generalize errB t u = bs at HCUT ⊢
 go_enter Tryz.func17, Tryz.ntmps17
 go_upto_region 4 with (first
  | (go_at_call 26; with_reducible refine HCUT.out.mono ?_; rintro e W4 ⟨vu, vp, rfl, ho, ho', hb⟩; obtain ⟨Au, cu, rfl⟩ := Kd.R_slice ho; obtain ⟨Ap, cp, rfl⟩ := Kd.R_slice ho'; have HU := Asd.mk (Kd.R_reads' ho).2.2; have HUc := Asd.mk (Kd.R_reads' ho).2.1; have HB4 := Asd.mk hb; clear ho ho' hb; have hul := HUL.out)
  | (go_at_call 30; have hz := take_first.calls Au cu us 1 _ HU.out HUc.out HIX.out; rw [hul] at hz; with_reducible refine hz.mono ?_; clear hz; rintro e W5 ⟨rfl, hb⟩; have HB5 := Asd.mk (below_step HB4.out hb); replace HU := Asd.mk (Kd.C_below HU.out hb); clear hb))
 obtain ⟨ad, rfl, k0, k1⟩ := at_T65 HU.out 0 (by decide) (by rw [hul]; decide)
 rw [HRD.out] at k0 k1
 rw [show Int.toNat 0 * 2 = 0 from rfl, Hello.add0_block, Hello.add0_off] at k1
 go_wp2_with (go_at_call 31; with_reducible refine (take_refused.calls k _ n m true _ HF.out).mono ?_; rintro e W6 ⟨rfl, hb⟩; have HB6 := Asd.mk (below_step HB5.out hb.below); clear hb k0 k1)
 (try simp only [Exit.inBlock, Exit.then])
 refine bodyPost_ret (results_tmp4 rfl _ _ _) rfl ?_
 exact ⟨rfl, HB6.out⟩
end Go.Proofs.YtemkgdpfkbpnpaaGreatDoor.Take
