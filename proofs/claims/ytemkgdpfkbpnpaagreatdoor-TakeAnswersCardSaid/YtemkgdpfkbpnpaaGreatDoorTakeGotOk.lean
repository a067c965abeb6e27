/- What one who pushed got: names. -/
import Derived.Test.YtemkgdpfkbpnpaaGreatDoorTakeGot
namespace Go.Proofs.YtemkgdpfkbpnpaaGreatDoor.Take
open Go.RowKit Go.Proofs.YtemkgdpfkbpnpaaGreatDoorW.PrintWords Go.Proofs.YtemkgdpfkbpnpaaGreatDoorW.PrintLast Go.Proofs.YtemkgdpfkbpnpaaGreatDoorW.PrintMore Go.Proofs.YtemkgdpfkbpnpaaGreatDoor.Conv Go.Proofs.YtemkgdpfkbpnpaaGreatDoor.Print Go.Proofs.YtemkgdpfkbpnpaaGreatDoor.Line
open Go.Proofs.YtemkgdpfkbpnpaaGreatDoor.Hello hiding Ln cutF cut_eq
set_option linter.unusedVariables false
set_option linter.unusedSimpArgs false
theorem pre_line (p s : ByteArray) (h : p.size + s.size <= 1000000) : strings_CutPrefix.f (p ++ s) p = some (s, true) := by
 have e1 : (p ++ s).extract 0 p.size = p := ByteArray.extract_append_eq_left rfl
 have e2 : (p ++ s).extract p.size (p.size + s.size) = s := ByteArray.extract_append_eq_right rfl rfl
 have hz : (p ++ s).size = p.size + s.size := ByteArray.size_append
 unfold strings_CutPrefix.f sl_CutPrefix.f sl_HasPrefix.f
 rw [hz, if_pos (by omega), if_pos (by omega), if_pos (by omega), Int.toNat_natCast, e1]
 simp only [Option.bind_some]
 rw [if_pos (by simp), if_pos (by omega), if_pos (by omega), e2]
 rfl
def namesL (u : List S42) : List ByteArray := u.map fun y => y.f0
def linesOk (u : List S42) : List Ln := (u.map fun y => okLn y.f0) ++ [flushLn]
theorem okLn_size (s : ByteArray) : (okLn s).f1.size = 4 + s.size := by
 show (((⟨#[111, 107, 32]⟩ : ByteArray) ++ s) ++ (⟨#[10]⟩ : ByteArray)).size = _
 rw [ByteArray.size_append, ByteArray.size_append]
 show 3 + s.size + 1 = _
 omega
theorem okLn_ok {s : ByteArray} (h : s.size <= 1000) : okL (okLn s) = true := line_ok rfl (by rw [okLn_size]; omega) (by rw [okLn_size]; omega)
theorem linesOk_ok {u : List S42} (h : ∀ y ∈ u, y.f0.size <= 1000) : (linesOk u).all okL = true := by
 unfold linesOk
 rw [List.all_append, Bool.and_eq_true]
 refine ⟨List.all_eq_true.2 fun x hx => ?_, by decide⟩
 obtain ⟨y, hy, rfl⟩ := List.mem_map.1 hx
 exact okLn_ok (h y hy)
theorem okB_eq {u : List S42} (h : ∀ y ∈ u, y.f0.size <= 1000) : okB u = (linesOk u).flatMap encL := by
 unfold okB linesOk
 rw [List.flatMap_append]
 congr 1
 ·unfold oksB
  induction u with
  | nil => rfl
  | cons y t ih =>
   rw [List.flatMap_cons, List.map_cons, List.flatMap_cons, ih (fun z hz => h z (List.mem_cons_of_mem _ hz))]
   congr 1
   unfold putF
   rw [if_pos (by rw [List.all_cons, okLn_ok (h y List.mem_cons_self)]; rfl)]
   simp
theorem linesOk_len (u : List S42) : (linesOk u).length = u.length + 1 := by unfold linesOk; simp
theorem okB_len (u : List S42) : (okB u).length <= 4004 * u.length + 4004 := by
 have h1 := oksB_len u
 have h2 := putF_len [flushLn]
 unfold okB
 rw [List.length_append]
 simp only [List.length_singleton] at h2
 omega
theorem ok_cut {u : List S42} (hl : u.length <= 16) (h : ∀ y ∈ u, y.f0.size <= 1000) : line_Cut.f 400000 (okB u) = some (linesOk u, [], 0) := by
 have hok := linesOk_ok h
 have he := okB_eq h
 have hlen := okB_len u
 rw [cut_eq (okB u) (by rw [he]; exact enc_bytes hok) (by omega) (by omega), he, cutF_enc _ hok]
theorem ok_first (u : List S42) : take_first.f (linesOk u) = some (u.length : Int) := by
 have h : take_first.pos (linesOk u) = some u.length := by
  unfold linesOk
  induction u with
  | nil => rfl
  | cons y t ih =>
   rw [List.map_cons, List.cons_append]
   simp only [take_first.pos]
   rw [if_neg (by simp [okLn]), ih]
   rfl
 unfold take_first.f take_first.ix
 rw [h]
theorem ok_get (u : List S42) (k : Nat) (h : k < u.length) : rd_T65 (linesOk u) (k : Int) = okLn u[k].f0 := by
 unfold rd_T65 linesOk
 rw [Int.toNat_natCast, List.getD_eq_getElem?_getD, List.getElem?_append_left (by rw [List.length_map]; exact h), List.getElem?_map, List.getElem?_eq_getElem h]
 rfl
set_option maxRecDepth 100000 in
set_option maxHeartbeats 8000000 in
theorem got_ok {W : World} (u : List S42) (h0 : u.length ≠ 0) (hl : u.length <= 16) (hn : ∀ y ∈ u, namedF y.f0 = true) (k : Nat) (a b : Int) (hf : ∀ h : 0 < u.length, take_refused.f k (okLn u[0].f0).f1 = some (a, b, false)) (A : Option Addr) (c : Nat) (hr : Kd.C (Kd.int .u8) W A (okB u).length (okB u)) (hc : (okB u).length <= c) :
  Calls Tryz.prog 17 #[.slice A (okB u).length c] W fun e w' => ∃ v, e = .returned (.tuple #[v, .int .i64 0, .int .i64 0, .bool true]) /\ Kd.R Kd.string 9 w' W.heap.size (fun _ => True) v (namesL u) /\ Below W.heap.size W w' := by
 have hsz : ∀ y ∈ u, y.f0.size <= 1000 := fun y hy => by have := Hello.named_size (hn y hy); omega
 have HCUT := Asd.mk (line_Cut.calls 400000 A c (okB u) _ _ _ W hr hc (ok_cut hl hsz))
 have HN := Asd.mk hn
 have HS := Asd.mk hsz
 have HG := Asd.mk (fun k h => ok_get u k h)
 obtain ⟨us, hus⟩ : ∃ us : List Ln, us = linesOk u := ⟨_, rfl⟩
 obtain ⟨n, hn2⟩ : ∃ n, n = u.length := ⟨_, rfl⟩
 have HIX := Asd.mk (ok_first u)
 have HUL := Asd.mk (show us.length = n + 1 by rw [hus, linesOk_len, hn2])
 rw [<- hus] at HCUT HG HIX
 have HNU := Asd.mk hn2
 rw [<- hn2] at HIX
 have HF := Asd.mk (show take_refused.f k (rd_T65 us 0).f1 = some (a, b, false) from (congrArg (fun x : Ln => take_refused.f k x.f1) (HG.out 0 (by omega))).trans (hf (by omega)))
 have b1 : (1 : Int) <= (n : Int) := by omega
 have b2 : (n : Int) <= 16 := by omega
 have b3 : ¬ n + 1 < 2 := by omega
 clear hr hc hf hn hsz hus h0 hl hn2
 generalize okB u = bs at HCUT ⊢
 generalize hx0 : (rd_T65 us 0).f1 = x0 at HF
 have HX0 := Asd.mk hx0
 clear hx0
 go_enter Tryz.func17, Tryz.ntmps17
 go_upto_region 4 with (first
  | (go_at_call 26; with_reducible refine HCUT.out.mono ?_; rintro e W4 ⟨vu, vp, rfl, ho, ho', hb⟩; obtain ⟨Au, cu, rfl⟩ := Kd.R_slice ho; obtain ⟨Ap, cp, rfl⟩ := Kd.R_slice ho'; have HU := Asd.mk (Kd.R_reads' ho).2.2; have HUc := Asd.mk (Kd.R_reads' ho).2.1; have HB4 := Asd.mk hb; clear ho ho' hb; have hul := HUL.out)
  | (go_at_call 30; have hz := take_first.calls Au cu us n _ HU.out HUc.out HIX.out; rw [hul] at hz; with_reducible refine hz.mono ?_; clear hz; rintro e W5 ⟨rfl, hb⟩; have HB5 := Asd.mk (below_step HB4.out hb); replace HU := Asd.mk (Kd.C_below HU.out hb); clear hb))
 obtain ⟨ad, rfl, k0, k1⟩ := at_T65 HU.out 0 (by decide) (by rw [hul]; omega)
 rw [show Int.toNat 0 * 2 = 0 from rfl, Hello.add0_block, Hello.add0_off, HX0.out] at k1
 have ec : n + 1 <= cu := by have := HUc.out; omega
 go_wp2_with (go_at_call 31; with_reducible refine (take_refused.calls k _ a b false _ HF.out).mono ?_; rintro e W6 ⟨rfl, hb⟩; have HB6 := Asd.mk (below_step HB5.out hb.below); replace HU := Asd.mk (Kd.C_below HU.out hb.below); clear hb k0 k1)
 go_loopg [12, 67] n (fun gg s12 s67 wr => ∃ kk : Nat, kk <= n /\ n - kk <= gg /\ s67 = .int .i64 kk /\ Asd (Below W6.heap.size W6 wr) /\ Asd (Kd.R Kd.string 9 wr W6.heap.size (fun _ => True) s12 ((namesL u).take kk)))
 case atStart => exact ⟨0, Nat.zero_le _, by omega, rfl, ⟨Below.refl _ _⟩, ⟨Kd.R_nil _ _ _ _ _⟩⟩
 case round =>
  obtain ⟨kk, hkk, hg, rfl, HB6W, HO⟩ := hrel
  have hnl : (namesL u).length = n := by rw [HNU.out]; exact List.length_map ..
  by_cases hlt : kk < n
  ·have hltz : (kk : Int) < (n : Int) := by omega
   have hku : kk < u.length := by rw [<- HNU.out]; exact hlt
   obtain ⟨ad2, had, k0, k1⟩ := at_T65 (Kd.C_below HU.out HB6W.out) (kk : Int) (by omega) (by rw [hul]; omega)
   obtain rfl : ad = ad2 := Option.some.inj had
   clear had
   rw [HG.out kk hku, Int.toNat_natCast] at k0 k1
   have HTK := Asd.mk (show (namesL u).take (kk + 1) = (namesL u).take kk ++ [u[kk].f0] by
    rw [List.take_succ_eq_append_getElem (by rw [hnl]; exact hlt)]
    unfold namesL
    rw [List.getElem_map])
   have HNM := Asd.mk (HN.out _ (List.getElem_mem hku))
   have hyz := HS.out _ (List.getElem_mem hku)
   generalize u[kk].f0 = y at k0 k1 HTK HNM hyz
   have HP1 := Asd.mk (show strings_CutPrefix.f (okLn y).f1 (⟨#[111, 107, 32]⟩ : ByteArray) = some (y ++ (⟨#[10]⟩ : ByteArray), true) by
    show strings_CutPrefix.f (((⟨#[111, 107, 32]⟩ : ByteArray) ++ y) ++ (⟨#[10]⟩ : ByteArray)) _ = _
    rw [ByteArray.append_assoc]
    exact pre_line _ _ (by rw [ByteArray.size_append]; show 3 + (y.size + 1) <= _; omega))
   have HP2 := Asd.mk (show strings_CutSuffix.f (y ++ (⟨#[10]⟩ : ByteArray)) (⟨#[10]⟩ : ByteArray) = some (y, true) by
    rw [Hello.cutSuffix_eq _ (by rw [ByteArray.size_append]; show y.size + 1 <= _; omega), Hello.sufF_line])
   have HP3 := Asd.mk (show refs_Named.f 2000 y = some true by rw [Hello.refnamed_eq y (by omega) (by omega), HNM.out])
   have htl : ((namesL u).take kk).length = kk := by rw [List.length_take, hnl]; omega
   have hll : ((namesL u).take kk).length + 1 < 8796093022208 + 1 := by omega
   generalize (okLn y).f1 = y1 at k0 k1 HP1
   generalize (okLn y).f0 = y0 at k0
   go_upto_region 11 with (fail)
   generalize hWa : World.alloc _ _ = Wa
   have hBa : Below wr.heap.size wr Wa := by rw [<- hWa]; exact bal (Below.refl _ _) _
   have hxa := show Wa.heap[wr.heap.size]? = some (.cells #[.bool y0, .string y1] 65 (0, 0)) by rw [<- hWa]; exact heap_alloc_new _ _
   obtain ⟨m1, _⟩ := box_cell hxa 1 rfl
   have HB6a := Asd.mk (below_step HB6W.out hBa)
   have HOa := Asd.mk (Kd.R_below HO.out hBa)
   clear hWa hBa hxa k0 k1
   go_wp2_with (first
    | (go_at_call 32; with_reducible refine (strings_CutPrefix.calls _ _ _ _ _ HP1.out).mono ?_; rintro e Wb ⟨rfl, hb⟩; have HB6b := Asd.mk (below_step HB6a.out hb.below); have HOb := Asd.mk (Kd.R_below HOa.out hb.below); clear hb m1)
    | (go_at_call 33; with_reducible refine (strings_CutSuffix.calls _ _ _ _ _ HP2.out).mono ?_; rintro e Wc ⟨rfl, hb⟩; have HB6c := Asd.mk (below_step HB6b.out hb.below); have HOc := Asd.mk (Kd.R_below HOb.out hb.below); clear hb)
    | (go_at_call 34; with_reducible refine (refs_Named.calls 2000 y true _ HP3.out).mono ?_; rintro e Wd ⟨rfl, hb⟩; have HB6d := Asd.mk (below_step HB6c.out hb); have HOd := Asd.mk (Kd.R_below HOc.out hb); clear hb)
    | (at_builtin; (refine Kd.R_append Kd.string (w0 := W6) W6.heap.size rfl (.tmp 93) (.tmp 95) 38 9 (.string ⟨#[]⟩) 16 rfl Tryz.underlying38 info9 rfl (by decide) (by omega) u12 ((namesL u).take kk) y [.string y] (fun _ => True) (fun _ => False) rfl rfl ?aP (fun _ hk => hk.elim) ?aF ?aO ?aB ?aS ?aL ?_; (case aP => rfl); (case aB => exact HB6d.out); (case aF => exact fun k hk => trivial); (case aO => exact HOd.out); (case aS => exact HB6d.out.size); (case aL => omega); intro v1 w1 ho hb hg hat; have HOn := Asd.mk ho; have HBn := Asd.mk hb; clear ho hb hg hat)))
   go_roundg (n - (kk + 1))
   case measure => omega
   case rel => exact ⟨kk + 1, by omega, by omega, rfl, HBn, ⟨by rw [HTK.out]; exact HOn.out⟩⟩
  ·obtain rfl : kk = n := by omega
   have hltz : ¬ (kk : Int) < (kk : Int) := by omega
   go_wp2
   (try simp only [Exit.inBlock, Exit.then])
   refine bodyPost_ret (results_tmp4 rfl _ _ _) rfl ?_
   refine ⟨_, rfl, ?_, below_step HB6.out HB6W.out⟩
   have h := HO.out
   rw [List.take_of_length_le (by omega)] at h
   exact Kd.R_lower h HB6.out.size
end Go.Proofs.YtemkgdpfkbpnpaaGreatDoor.Take
