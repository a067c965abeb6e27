/- The calls of ServeAnswers answer true, whatever they are handed. -/
import Derived.Test.YtaadhjpcdnbbeaaGreatDoorServeBig
import Derived.Test.YtaadhjpcdnbbeaaGreatDoorSameB
import Derived.Test.YtaadhjpcdnbbeaaGreatDoorGreat
namespace Go.Proofs.YtaadhjpcdnbbeaaGreatDoor.Serve
open Go.RowKit Go.Proofs.YtaadhjpcdnbbeaaGreatDoorW.PrintWords Go.Proofs.YtaadhjpcdnbbeaaGreatDoorW.PrintLast Go.Proofs.YtaadhjpcdnbbeaaGreatDoorW.PrintMore Go.Proofs.YtaadhjpcdnbbeaaGreatDoor.Conv Go.Proofs.YtaadhjpcdnbbeaaGreatDoor.Print
set_option linter.unusedVariables false
set_option linter.unusedSimpArgs false
theorem bytes_more : Line.Bytes [109, 111, 114, 101] := by
 intro x hx
 simp at hx
 rcases hx with rfl | rfl | rfl | rfl <;> exact ⟨by decide, by decide⟩
theorem ask_false {a b : List ByteArray} {x : List Line.Ln} (e : Hello.askF a b = (x, false)) : x = [] := by
 unfold Hello.askF at e
 split at e
 ·cases e
 ·exact (congrArg Prod.fst e).symm
theorem box2 {B W : World} {b : Nat} {x y : Value} {t : TypeId} (h : Below B.heap.size B W) (hb : B.heap[b]? = some (.cells #[x, y] t (0, 0))) : W.cell? ⟨b, 0, none⟩ = some x /\ W.cell? ⟨b, 1, none⟩ = some y := by
 have e := (h.block b (Array.getElem?_eq_some_iff.1 hb).1).trans hb
 exact ⟨by rw [cell_of_row W b 0 _ _ (0, 0) e]; rfl, by rw [cell_of_row W b 1 _ _ (0, 0) e]; rfl⟩
set_option maxRecDepth 100000 in
set_option maxHeartbeats 8000000 in
theorem ServeAnswers_core {w : World} (htab : Lib.TabIs Tryz.prog w "internal/strconv.uint64pow10" .u64 Lib.pow10Tab)
  (Aw : Option Addr) (cw : Nat) (lw : List ByteArray) (hrw : Kd.C Kd.string w Aw lw.length lw) (hcw : lw.length <= cw) (hmw : lw.length <= maxLen)
  (Ah : Option Addr) (ch : Nat) (lh : List ByteArray) (hrh : Kd.C Kd.string w Ah lh.length lh) (hch : lh.length <= ch) (hmh : lh.length <= maxLen)
  (A1 : Option Addr) (c1 : Nat) (l1 : List Int) (hr1 : Kd.C (Kd.int .u8) w A1 l1.length l1) (hc1 : l1.length <= c1) (hm1 : l1.length <= maxLen) (hp1 : ∀ x ∈ l1, (Lit.int .u8 x).wf = true)
  (a2 : Int) (w2 : (Lit.int .u16 a2).wf = true) (a3 : Int) (w3 : (Lit.int .u8 a3).wf = true) (a4 : Int) (w4 : (Lit.int .u16 a4).wf = true) :
  Calls Tryz.prog 4 #[.agg #[.slice Aw lw.length cw, .slice Ah lh.length ch], .slice A1 l1.length c1, .int .u16 a2, .int .u8 a3, .int .u16 a4] w fun e w' => e = .returned (.bool true) /\ Below w.heap.size w w' := by
 obtain ⟨gw, hgw, hsw⟩ := Hello.greatT_eq lw (by simp only [maxLen] at hmw; omega) (k := 20001) (by omega)
 obtain ⟨gh, hgh, hsh⟩ := Hello.greatT_eq lh (by simp only [maxLen] at hmh; omega) (k := 20001) (by omega)
 have hz2 := u16_of_wf w2
 have hz3 := u8_of_wf w3
 have hz4 := u16_of_wf w4
 have HTB := Asd.mk (Lib.tabBelow_of_tabIs htab)
 have HGW := Asd.mk hgw
 have HGH := Asd.mk hgh
 have HRW := Asd.mk hrw
 have HRH := Asd.mk hrh
 have HCW := Asd.mk hcw
 have HCH := Asd.mk hch
 have HR1 := Asd.mk hr1
 have HC1 := Asd.mk hc1
 have HB1 := Asd.mk (bytes_of_wf hp1)
 clear htab hgw hgh hrw hrh hcw hch hr1 hc1 hp1 w2 w3 w4 hmw hmh hm1
 go_enter Tryz.func4, Tryz.ntmps4
 go_upto_region 1 with (fail)
 generalize hW0 : World.alloc _ _ = W0
 have H5 := Asd.mk (show W0.heap[w.heap.size]? = some (.cells #[.slice Aw lw.length cw, .slice Ah lh.length ch] 29 (0, 0)) from by rw [<- hW0]; exact heap_alloc_new _ _)
 have HB0 := Asd.mk (show Below w.heap.size w W0 from by rw [<- hW0]; exact bal (Below.refl _ _) _)
 clear hW0
 generalize w.heap.size = b5 at H5 ⊢
 go_upto_region 2 with (go_at_call 6; with_reducible refine (head_calls W0).mono ?_; rintro e W1 ⟨rfl, hb⟩; have HB := Asd.mk hb; clear hb)
 obtain ⟨k0, k1⟩ := box2 HB.out H5.out
 cases gw with
 | true =>
  go_wp2_with (go_at_call 13; with_reducible refine (w5_GreatTexts.calls 20001 Aw cw lw true _ (Kd.C_below HRW.out (below_step HB0.out HB.out)) HCW.out HGW.out).mono ?_; rintro e W2 ⟨rfl, hb⟩; replace HB := Asd.mk (below_step HB.out hb); obtain ⟨f0, f1⟩ := box2 HB.out H5.out; clear hb)
  go_ret
  exact ⟨rfl, below_step HB0.out HB.out⟩
 | false =>
 cases gh with
 | true =>
  go_wp2_with (first
   | (go_at_call 13; with_reducible refine (w5_GreatTexts.calls 20001 Aw cw lw false _ (Kd.C_below HRW.out (below_step HB0.out HB.out)) HCW.out HGW.out).mono ?_; rintro e W2 ⟨rfl, hb⟩; replace HB := Asd.mk (below_step HB.out hb); obtain ⟨f0, f1⟩ := box2 HB.out H5.out; clear hb)
   | (go_at_call 13; with_reducible refine (w5_GreatTexts.calls 20001 Ah ch lh true _ (Kd.C_below HRH.out (below_step HB0.out HB.out)) HCH.out HGH.out).mono ?_; rintro e W3 ⟨rfl, hb⟩; replace HB := Asd.mk (below_step HB.out hb); clear hb))
  go_ret
  exact ⟨rfl, below_step HB0.out HB.out⟩
 | false =>
 have hsw := hsw rfl
 have hsh := hsh rfl
 have HSW := Asd.mk hsw
 have HSH := Asd.mk hsh
 clear hsw hsh
 by_cases g1 : (9000 : Int) < (l1.length : Int)
 ·go_wp2_with (first
   | (go_at_call 13; with_reducible refine (w5_GreatTexts.calls 20001 Aw cw lw false _ (Kd.C_below HRW.out (below_step HB0.out HB.out)) HCW.out HGW.out).mono ?_; rintro e W2 ⟨rfl, hb⟩; replace HB := Asd.mk (below_step HB.out hb); obtain ⟨f0, f1⟩ := box2 HB.out H5.out; clear hb)
   | (go_at_call 13; with_reducible refine (w5_GreatTexts.calls 20001 Ah ch lh false _ (Kd.C_below HRH.out (below_step HB0.out HB.out)) HCH.out HGH.out).mono ?_; rintro e W3 ⟨rfl, hb⟩; replace HB := Asd.mk (below_step HB.out hb); clear hb))
  go_ret
  exact ⟨rfl, below_step HB0.out HB.out⟩
 obtain ⟨lb, is, hask⟩ : ∃ lb is, Hello.askF lw lh = (lb, is) := ⟨_, _, rfl⟩
 have HK := Asd.mk ((Hello.ask_eq lw lh (k := 4000000) (by omega) (fun y hy => by have := HSW.out.2 y hy; omega) (fun y hy => by have := HSH.out.2 y hy; omega) (fun y hy => by have := HSW.out.2 y hy; omega) (fun y hy => by have := HSH.out.2 y hy; omega)).trans (congrArg some hask))
 have HASK := Asd.mk hask
 clear hask
 go_upto_region 4 with (first
  | (go_at_call 13; with_reducible refine (w5_GreatTexts.calls 20001 Aw cw lw false _ (Kd.C_below HRW.out (below_step HB0.out HB.out)) HCW.out HGW.out).mono ?_; rintro e W2 ⟨rfl, hb⟩; replace HB := Asd.mk (below_step HB.out hb); obtain ⟨f0, f1⟩ := box2 HB.out H5.out; clear hb)
  | (go_at_call 13; with_reducible refine (w5_GreatTexts.calls 20001 Ah ch lh false _ (Kd.C_below HRH.out (below_step HB0.out HB.out)) HCH.out HGH.out).mono ?_; rintro e W3 ⟨rfl, hb⟩; replace HB := Asd.mk (below_step HB.out hb); clear hb))
 obtain ⟨k2, k3⟩ := box2 HB.out H5.out
 have HT0 := Asd.mk (show Tb W0 from Tb.below HTB.out HB0.out)
 have hlz : (l1.length : Int) <= 9000 := by omega
 have HLZ := Asd.mk (show l1.length <= 9000 by omega)
 cases is with
 | false =>
  obtain rfl : lb = [] := ask_false HASK.out
  have HPUT := Asd.mk (show line_Put.f 100000 [] = some ([], 0) from (Line.put_eq [] (by simp) (k := 100000) (by simp)).trans rfl)
  go_wp2_with (first
   | (go_at_call 14; with_reducible refine (hello_Ask.calls 4000000 Aw cw lw Ah ch lh [] false _ (Kd.C_below HRW.out (below_step HB0.out HB.out)) HCW.out (Kd.C_below HRH.out (below_step HB0.out HB.out)) HCH.out HK.out).mono ?_; rintro e W4 ⟨vl, rfl, ho, hb⟩; obtain ⟨Al, cl, rfl⟩ := Kd.R_slice ho; have HL := Asd.mk (Kd.R_reads' ho).2.2; have HLc := Asd.mk (Kd.R_reads' ho).2.1; replace HB := Asd.mk (below_step HB.out hb); clear ho hb)
   | (go_at_call 15; refine (line_Put.calls 100000 Al cl [] [] 0 _ HL.out HLc.out HPUT.out).mono ?_; rintro e W5 ⟨vq, rfl, ho, hb⟩; obtain ⟨Aq, cq, rfl⟩ := Kd.R_slice ho; replace HB := Asd.mk (below_step HB.out hb); clear ho hb)
   | (go_at_call 7; with_reducible refine (new_main W0 _ HB.out).mono ?_; rintro e W6 ⟨g, own, rfl, ht, _, _⟩; replace HB := Asd.mk ht.bel; clear ht))
  go_ret
  exact ⟨rfl, below_step HB0.out HB.out⟩
 | true =>
 obtain ⟨hputF, hbyt, _, hok⟩ := asks_bytes HASK.out
 have hal := asks_len HASK.out
 have hle := enc_least lb
 have hlb : lb.length <= 1000 := by have h := Hello.ask_len lw lh; rw [HASK.out] at h; exact h
 have hl1 : 1 <= lb.length := by
  have h1 := (Hello.ask_first HASK.out).1
  have h2 := Hello.ends_len (Hello.asks lw lh)
  rw [<- h1] at h2
  omega
 obtain ⟨bb, hbb⟩ : ∃ bb, bb = lb.flatMap Line.encL := ⟨_, rfl⟩
 rw [<- hbb] at hputF hbyt hal hle
 have HPUT := Asd.mk ((Line.put_eq lb (by omega) (k := 100000) (by omega)).trans (congrArg some hputF))
 have HP1 := Asd.mk (show (Line.putF lb).1 = bb by rw [hputF])
 have HBY := Asd.mk hbyt
 have HBZ := Asd.mk (show 4 <= bb.length /\ bb.length <= 19549 by
  have h1 := (Hello.names_size (Hello.ask_first HASK.out).2.2.1).1
  have h2 := HSH.out.1
  omega)
 clear hputF hbyt hal hle hlb hl1 hbb hok
 go_upto_region 5 with (go_at_call 14; with_reducible refine (hello_Ask.calls 4000000 Aw cw lw Ah ch lh lb true _ (Kd.C_below HRW.out (below_step HB0.out HB.out)) HCW.out (Kd.C_below HRH.out (below_step HB0.out HB.out)) HCH.out HK.out).mono ?_; rintro e W4 ⟨vl, rfl, ho, hb⟩; obtain ⟨Al, cl, rfl⟩ := Kd.R_slice ho; have HL := Asd.mk (Kd.R_reads' ho).2.2; have HLc := Asd.mk (Kd.R_reads' ho).2.1; replace HB := Asd.mk (below_step HB.out hb); clear ho hb)
 go_upto_region 6 with (go_at_call 15; with_reducible refine (line_Put.calls 100000 Al cl lb bb 0 _ HL.out HLc.out HPUT.out).mono ?_; rintro e W5 ⟨vq, rfl, ho, hb⟩; obtain ⟨Aq, cq, rfl⟩ := Kd.R_slice ho; have HQ := Asd.mk ho; have HQc := Asd.mk (Kd.R_reads' ho).2.1; replace HB := Asd.mk (below_step HB.out hb); have HZ5 := Asd.mk (below_size hb); clear ho hb HL HLc HPUT)
 have htl : (Line.putF (Hello.toldF mainT []).1).1.length <= 4004 * 66 := by
  have h1 := putF_len (Hello.toldF mainT []).1
  have h2 := Hello.told_len mainT []
  omega
 obtain ⟨td, htd⟩ : ∃ td, td = (Line.putF (Hello.toldF mainT []).1).1 := ⟨_, rfl⟩
 rw [<- htd] at htl
 have HTD := Asd.mk htd.symm
 have HTL := Asd.mk htl
 have hbz : ¬ (bb.length : Int) = 0 := by have := HBZ.out; omega
 have hbn : ¬ bb = [] := fun e => by have := HBZ.out; rw [e] at this; simp at this
 clear htd htl
 go_upto_region 7 with (go_at_call 7; with_reducible refine (new_main W5 _ (Below.refl _ _)).mono ?_; rintro e W6 ⟨g, own, rfl, ht, _, _⟩; rw [HTD.out] at ht; have HT := Asd.mk ht; clear ht)
 obtain ⟨m, hm, hmb⟩ : ∃ m : Nat, Int.tmod a4 (bb.length : Int) = (m : Int) /\ m < bb.length := by
  refine ⟨(Int.tmod a4 (bb.length : Int)).toNat, ?_, ?_⟩
  ·have h1 := Int.tmod_nonneg (bb.length : Int) hz4.1
   omega
  ·have h1 := Int.tmod_lt_of_pos a4 (show (0 : Int) < (bb.length : Int) by have := HBZ.out; omega)
   have h2 := Int.tmod_nonneg (bb.length : Int) hz4.1
   omega
 have hq9 : (m : Int) <= (cq : Int) := by have := HQc.out; omega
 have hmi : (m : Int) <= (bb.length : Int) := by omega
 have HMB := Asd.mk hmb
 have hearly := asks_early HASK.out ⟨[], td, [], [], 0⟩ rfl rfl (bb.take m) (bb.drop m) (by rw [List.take_append_drop]; exact HP1.out.symm) (fun e => by have h := congrArg List.length e; rw [List.length_drop] at h; simp at h; omega)
 rw [HP1.out] at hearly
 have hcm := (takeS_good (good_new td) (bytes_take HBY.out m) (by rw [List.length_take]; have := HBZ.out.2; simp; omega)).2.1
 have HSD := Asd.mk (takeS_sendlen (good_new td) (bytes_take HBY.out m) (by rw [List.length_take]; have := HBZ.out.2; simp; omega))
 have HL9 := Asd.mk (show (bb.take m).length = m by rw [List.length_take]; omega)
 have HLD := Asd.mk (show (bb.drop m).length = bb.length - m from List.length_drop)
 have HE := Asd.mk hearly
 have HCM := Asd.mk hcm
 have HNM := Asd.mk (fun (W : World) (h : Below W5.heap.size W5 W) => Kd.C_below (Kd.R_reads' HQ.out).2.2 h)
 clear hearly hcm HP1 hmb
 go_upto_region 11 with (go_at_call 8; with_reducible refine (take_T HT.out Aq m cq (bb.take m) HL9.out.symm (Kd.C_take (HNM.out _ HT.out.bel) (by have := HMB.out; omega)) (by rw [HL9.out]; have := HQc.out; have := HMB.out; omega) (bytes_take HBY.out m) (by rw [HL9.out]; have := HMB.out; have := HBZ.out; simp; omega) (by have := HTL.out; simp; omega)).mono ?_; rintro e W7 ⟨rfl, own7, ht, hg⟩; replace HT := Asd.mk ht; clear ht hg)
 generalize takeS askR errT ⟨[], td, [], [], 0⟩ (bb.take m) = s1 at HT HE HCM HSD
 go_upto_region 12 with (go_at_call 9; with_reducible refine (ready_no HT.out HE.out.1).mono ?_; rintro e W8 ⟨rfl, hb⟩; replace HT := Asd.mk (HT.out.below hb); clear hb)
 generalize hW8 : World.alloc _ _ = W8b
 have hb8 : Below W8.heap.size W8 W8b := by rw [<- hW8]; exact bal (Below.refl _ _) _
 replace HT := Asd.mk (HT.out.below hb8)
 clear hW8 hb8
 obtain ⟨Ar, cr, hcut, hR, hRc⟩ := drop_cut (Rw.came (Kd.heap_int .u8) (Kd.R_reads' HQ.out).2.2 HT.out.bel HT.out.lo) HQc.out (m : Int) (by omega) hmi
 rw [Int.toNat_natCast] at hcut hR hRc
 have HR := Asd.mk hR
 have HRc := Asd.mk hRc
 have H1 := Asd.mk (HE.out.2.eq (HE.out.2.2.2.1.trans rfl))
 have HCL := Asd.mk (show s1.came.length = m by rw [HCM.out, List.nil_append]; exact HL9.out)
 have HSL := Asd.mk (show s1.send.length <= 100000000 by have h : s1.send.length <= td.length + 8008 := HSD.out; have := HTL.out; omega)
 clear hR hRc HE HSD
 go_upto_region 13 with (go_at_call 8; with_reducible refine (take_T HT.out Ar (bb.length - m) cr (bb.drop m) HLD.out.symm HR.out.now HRc.out (bytes_drop HBY.out m) (by rw [HLD.out, HCL.out]; have := HBZ.out.2; have := HMB.out; omega) HSL.out).mono ?_; rintro e W9 ⟨rfl, own9, ht, hg⟩; rw [H1.out] at ht; replace HT := Asd.mk ht; clear ht hg hcut HR HRc HCL HSL H1 HLD HL9)
 go_upto_region 14 with (go_at_call 11; with_reducible refine (out_T HT.out).mono ?_; rintro e W10 ⟨Ao, co, own10, rfl, _, _, ht, _⟩; replace HT := Asd.mk ht; clear ht)
 go_upto_region 15 with (go_at_call 9; with_reducible refine (ready_is HT.out rfl lw.length lh.length rfl rfl).mono ?_; rintro e W11 ⟨Ax, cx, Ay, cy, rfl, hx, hy, lx, ly, hb⟩; replace HT := Asd.mk (HT.out.below hb); have HX := Asd.mk hx; have HY := Asd.mk hy; have HLX := Asd.mk (And.intro lx ly); clear hb hx hy lx ly)
 generalize hW11 : World.alloc _ _ = W12
 have HBX := Asd.mk (show Bx W12 own10 W11.heap.size #[.slice Ax lw.length cx, .slice Ay lh.length cy] 29 from ⟨by rw [<- hW11]; exact heap_alloc_new _ _, fun e => Nat.lt_irrefl _ (HT.out.lt _ e)⟩)
 have hb12 : Below W11.heap.size W11 W12 := by rw [<- hW11]; exact bal (Below.refl _ _) _
 replace HT := Asd.mk (HT.out.below hb12)
 replace HX := Asd.mk (HX.out.below hb12)
 replace HY := Asd.mk (HY.out.below hb12)
 clear hW11 hb12
 generalize W11.heap.size = bx at HBX ⊢
 obtain ⟨nz, hnz, hnb⟩ : ∃ nz : Nat, Int.tmod a2 9000 = (nz : Int) /\ nz < 9000 := by
  have h1 := Int.tmod_nonneg 9000 hz2.1
  have h2 := Int.tmod_lt_of_pos a2 (show (0 : Int) < 9000 by decide)
  exact ⟨(Int.tmod a2 9000).toNat, by omega, by omega⟩
 have HR12 := Asd.mk (fun (W : World) (h : Below W12.heap.size W12 W) => Kd.C_below HR1.out (below_step HB0.out (below_step HB.out (below_step HT.out.bel h))))
 have hwz : IntKind.i64.wrap (nz : Int) = (nz : Int) := by rw [i64_w, Line.w64 (by omega) (by omega)]
 have HNB := Asd.mk hnb
 have hn0 : (0 : Int) <= (nz : Int) := by omega
 have HN0 := Asd.mk hn0
 clear hnb
 go_upto_region 16 with (first
  | ((with_reducible refine gate_dst (N := 97) rfl ?_); (try (refine gate_guard (by rfl) ?_; dsimp only)); refine Kd.R_lit (Kd.int .u8) _ 5 ?hg (N := 97) ?hd (xs := ([] : List Int)) (inner := []) (ok := fun _ => True) (okp := fun _ => True) ?hr ?hp (fun _ hk => hk) trivial (Below.refl _ _) (Nat.le_refl _) (by simp) ?_; (case hd => rfl); (case hg => rfl); (case hr => first | (go_simp; done) | (go_simp; rfl)); (case hp => exact (Reps.none _ _)); intro v1 W13 ho hb hg_ hnew_; clear hg_ hnew_; have HO := Asd.mk ho; have HB3 := Asd.mk hb; clear hb ho)
  | ((with_reducible refine gate_builtin (b := .append) (xs := #[.tmp 97, .tmp 98]) rfl ?_); (try (refine gate_guard (by rfl) ?_; dsimp only)); at_builtin; refine Kd.R_append_row (Value.int .u8) (0 : Int) (w0 := W12) W12.heap.size rfl (.tmp 97) (.tmp 98) 22 5 (.int .u8 0) 1 rfl Tryz.underlying22 info5 rfl (by decide) v1 [] l1 A1 l1.length c1 (fun _ => True) rfl rfl (fun _ _ => trivial) HO.out (HR12.out _ HB3.out) HB3.out (below_size HB3.out) (by have := HLZ.out; simp; omega) ?_; intro v2 W14 ho hb hg hat; have HB4 := Asd.mk hb; replace HO := Asd.mk ho; clear hb ho hg hat)
  | (at_builtin; refine Kd.R_append_zeros (Kd.int .u8) (w0 := W12) W12.heap.size rfl (.tmp 99) (.tmp 102) 22 3 5 (.int .u8 0) 1 rfl Tryz.underlying22 Tryz.underlying3 info5 rfl (by decide) (by omega) v2 _ 0 (nz : Int) (fun _ => True) rfl rfl rfl (fun _ _ => trivial) HO.out HN0.out HB4.out (below_size HB4.out) (by have := HLZ.out; have := HNB.out; simp; omega) ?_; intro v3 W15 ho hb hg hat; have HB5 := Asd.mk hb; rw [List.nil_append, Int.toNat_natCast] at ho; replace HO := Asd.mk ho; clear hb ho hg hat; obtain ⟨Ap, cp, rfl⟩ := Kd.R_slice HO.out))
 obtain ⟨p, hp⟩ : ∃ p, p = l1 ++ List.replicate nz (0 : Int) := ⟨_, rfl⟩
 rw [<- hp] at HO
 have hpl : p.length = l1.length + nz := by rw [hp, List.length_append, List.length_replicate]
 have HPB := Asd.mk (show Line.Bytes p by rw [hp]; exact bytes_app HB1.out (fun x hx => by rw [List.eq_of_mem_replicate hx]; exact ⟨by decide, by decide⟩))
 have HPL := Asd.mk hpl
 have HPZ := Asd.mk (show p.length <= 18000 by have := HLZ.out; have := HNB.out; omega)
 have HP := Asd.mk (HT.out.row HB5.out HO.out)
 have HPc' := Asd.mk (show p.length <= cp by have h := (Kd.R_reads' HO.out).2.1; have h2 := (Kd.R_reads' HO.out).1; omega)
 have HPZ' := Asd.mk (show p.length <= 1000000 by have := HPZ.out; omega)
 replace HT := Asd.mk (HT.out.below HB5.out)
 replace HX := Asd.mk (HX.out.below HB5.out)
 replace HY := Asd.mk (HY.out.below HB5.out)
 replace HBX := Asd.mk (HBX.out.go (Goes.below HB5.out))
 have n21 := Asd.mk (show (2 : Int) ≠ 1 by decide)
 have HTB15 := Asd.mk (HT0.out.below (below_step HB.out HT.out.bel))
 have m3 : IntKind.i64.wrap a3 = a3 := by rw [i64_w, Line.w64 (by omega) (by omega)]
 have kc := fun (w : World) (C : Array Value) (n c : Nat) => Lib.run_convert_bytes_const (P := Tryz.prog) w 22 5 C n c Tryz.underlying22 Tryz.underlying5
 have HSW2 := Asd.mk (Hello.sameT_eq lw (by have := HSW.out.1; omega) (k := 1000000) (by have := HSW.out.1; omega))
 have HSH2 := Asd.mk (Hello.sameT_eq lh (by have := HSH.out.1; omega) (k := 1000000) (by have := HSH.out.1; omega))
 have HZM := Asd.mk (show bb.length + ([109, 111, 114, 101] : List Int).length <= 20000 by have := HBZ.out.2; show bb.length + 4 <= 20000; omega)
 clear hp hpl HO HB5
 by_cases he : a3 = 0
 ·subst he
  obtain ⟨kp, hkp⟩ := got_pack p HPB.out (by have := HPZ.out; omega)
  have HKP := Asd.mk hkp
  clear hkp
  go_upto_region 17 with (go_at_call 16; with_reducible refine (give_ok_T HT.out rfl Ap (l1.length + nz) cp p HPL.out.symm HP.out HPc'.out HPZ'.out (by simp)).mono ?_; rintro e W16 ⟨rfl, own16, ht, hg⟩; rw [List.nil_append] at ht; replace HT := Asd.mk ht; replace HP := Asd.mk (HP.out.go hg); replace HX := Asd.mk (HX.out.go hg); replace HY := Asd.mk (HY.out.go hg); replace HBX := Asd.mk (HBX.out.go hg); clear ht hg)
  go_upto_region 18 with (go_at_call 16; with_reducible refine (give_no_T HT.out n21.out Ap (l1.length + nz) cp 0).mono ?_; rintro e W17 ⟨rfl, rfl⟩)
  go_upto_region 19 with (first
   | (go_at_call 11; with_reducible refine (out_T HT.out).mono ?_; rintro e W18 ⟨As, cs, own18, rfl, hco, ho, ht, hg⟩; replace HT := Asd.mk ht; have HO := Asd.mk ho; have HOc := Asd.mk hco; replace HP := Asd.mk (HP.out.go hg); replace HX := Asd.mk (HX.out.go hg); replace HY := Asd.mk (HY.out.go hg); replace HBX := Asd.mk (HBX.out.go hg); clear ho hco ht hg)
   | (go_at_call 17; with_reducible refine (serve_Got.calls kp As cs (packB p) _ _ _ _ HO.out.now HOc.out HKP.out).mono ?_; rintro e W19 ⟨vq, rfl, ho, hb⟩; obtain ⟨Aq2, cq2, rfl⟩ := Kd.R_slice ho; have HQ2 := Asd.mk (HT.out.row hb ho); have hg := Goes.below (own := own18) hb; replace HT := Asd.mk (HT.out.below hb); replace HP := Asd.mk (HP.out.go hg); replace HX := Asd.mk (HX.out.go hg); replace HY := Asd.mk (HY.out.go hg); replace HBX := Asd.mk (HBX.out.go hg); clear ho hb hg HO HOc HKP))
  have HAl := Asd.mk (bal (Below.refl W19.heap.size W19) (.cells #[.int .u8 109, .int .u8 111, .int .u8 114, .int .u8 101] 5 (4, 5)))
  have HRl := Asd.mk (show Rw (Kd.int .u8) (W19.alloc (.cells #[.int .u8 109, .int .u8 111, .int .u8 114, .int .u8 101] 5 (4, 5))) own18 (some ⟨W19.heap.size, 0, none⟩) [(109 : Int), 111, 114, 101].length [109, 111, 114, 101] from lit_row W19 [109, 111, 114, 101] (4, 5) own18 HT.out.lt (by decide))
  go_upto_region 20 with (go_at_call 8; with_reducible refine (take_T (HT.out.below HAl.out) (some ⟨W19.heap.size, 0, none⟩) 4 4 [109, 111, 114, 101] rfl HRl.out.now (Nat.le_refl _) bytes_more HZM.out (by simp)).mono ?_; rintro e W20 ⟨rfl, own20, ht, hg2⟩; rw [take_over] at ht; have hg := (Goes.below (own := own18) HAl.out); replace HP := Asd.mk (HP.out.go hg); replace HX := Asd.mk (HX.out.go hg); replace HY := Asd.mk (HY.out.go hg); replace HBX := Asd.mk (HBX.out.go hg); clear hg; have hg := hg2; replace HP := Asd.mk (HP.out.go hg); replace HX := Asd.mk (HX.out.go hg); replace HY := Asd.mk (HY.out.go hg); replace HBX := Asd.mk (HBX.out.go hg); replace HQ2 := Asd.mk ((HQ2.out.below HAl.out).go hg2); replace HT := Asd.mk ht; clear ht hg hg2 HAl HRl)
  have kx0 : W20.cell? ⟨bx, 0, none⟩ = some (.slice Ax lw.length cx) := (box_cell HBX.out.1 0 rfl).1
  have kx1 : W20.cell? ⟨bx, 1, none⟩ = some (.slice Ay lh.length cy) := (box_cell HBX.out.1 1 rfl).1
  obtain ⟨k2, k3⟩ := box2 (below_step HB.out HT.out.bel) H5.out
  have HB20 := Asd.mk (below_step HB0.out (below_step HB.out HT.out.bel))
  have HQ20 := Asd.mk (And.intro HQ2.out HP.out)
  have e20 : (0 : Int) = 0 := rfl
  go_upto_region 22 with (first
   | (go_at_call 12; with_reducible refine (q4_SameTexts.calls 1000000 Ax cx lw Aw cw lw true _ HX.out.now HLX.out.1 (Kd.C_below HRW.out HB20.out) HCW.out HSW2.out).mono ?_; rintro e w1 ⟨rfl, ⟨nd, rfl⟩⟩; have HD1 := Asd.mk (pbN (Below.refl W20.heap.size W20) nd))
   | (go_at_call 12; with_reducible refine (q4_SameTexts.calls 1000000 Ay cy lh Ah ch lh true _ (Kd.C_below HY.out.now HD1.out) HLX.out.2 (Kd.C_below HRH.out (below_step HB20.out HD1.out)) HCH.out HSH2.out).mono ?_; rintro e w1 ⟨rfl, ⟨nd2, rfl⟩⟩; have HD2 := Asd.mk (pbN (Below.refl W20.heap.size W20) (nd + nd2)); replace HT := Asd.mk (HT.out.below HD2.out); have hg := Goes.below (own := own20) HD2.out; replace HP := Asd.mk (HP.out.go hg); replace HQ2 := Asd.mk (HQ2.out.go hg); clear hg)
   | (go_at_call 10; with_reducible refine (done_T HT.out true rfl).mono ?_; rintro e w1 ⟨rfl, rfl⟩)
   | (go_at_call 11; with_reducible refine (out_T HT.out).mono ?_; rintro e W21 ⟨Ao2, co2, own21, rfl, _, _, ht, hg⟩; replace HT := Asd.mk ht; replace HP := Asd.mk (HP.out.go hg); replace HQ2 := Asd.mk (HQ2.out.go hg); clear ht hg))
  have hcq := Kd.C_string (P := Tryz.prog) (src := 22) (dst := 9) (c := cq2) Tryz.underlying22 Tryz.underlying5 Tryz.underlying9 HQ2.out.now
  have hcp := Kd.C_string (P := Tryz.prog) (src := 22) (dst := 9) (c := cp) Tryz.underlying22 Tryz.underlying5 Tryz.underlying9 HP.out.now
  rw [HPL.out] at hcp
  clear HQ2 HP HQ20 HX HY HBX
  go_wp2
  go_ret
  exact ⟨rfl, below_step HB0.out (below_step HB.out HT.out.bel)⟩
 ·have HER := Asd.mk (errs_big (n := a3) (by omega) hz3.2)
  have HNE := Asd.mk he
  have hne1 : (a3 == 0) = false := beq_eq_false_iff_ne.2 he
  have hne2 : (a3 != 0) = true := bne_iff_ne.2 he
  have HES := Asd.mk (show (itoaB a3).size <= 1000 by have := HER.out.size; omega)
  go_upto_region 17 with (go_at_call 16; with_reducible refine (give_err_T HT.out rfl Ap (l1.length + nz) cp a3 HNE.out (itoaB a3) (HER.out.text HTB15.out) HES.out (by simp)).mono ?_; rintro e W16 ⟨rfl, own16, ht, hg⟩; rw [List.nil_append] at ht; replace HT := Asd.mk ht; replace HP := Asd.mk (HP.out.go hg); replace HX := Asd.mk (HX.out.go hg); replace HY := Asd.mk (HY.out.go hg); replace HBX := Asd.mk (HBX.out.go hg); clear ht hg)
  go_upto_region 18 with (go_at_call 16; with_reducible refine (give_no_T HT.out n21.out Ap (l1.length + nz) cp 0).mono ?_; rintro e W17 ⟨rfl, rfl⟩)
  go_upto_region 19 with (first
   | (go_at_call 11; with_reducible refine (out_T HT.out).mono ?_; rintro e W18 ⟨As, cs, own18, rfl, hco, ho, ht, hg⟩; replace HT := Asd.mk ht; have HO := Asd.mk ho; have HOc := Asd.mk hco; replace HP := Asd.mk (HP.out.go hg); replace HX := Asd.mk (HX.out.go hg); replace HY := Asd.mk (HY.out.go hg); replace HBX := Asd.mk (HBX.out.go hg); clear ho hco ht hg)
   | (go_at_call 17; with_reducible refine (got_big HER.out HNE.out (HT0.out.below (below_step HB.out HT.out.bel)) As cs HO.out.now HOc.out).mono ?_; rintro e W19 ⟨rfl, hb⟩; have hg := Goes.below (own := own18) hb; replace HT := Asd.mk (HT.out.below hb); replace HP := Asd.mk (HP.out.go hg); replace HX := Asd.mk (HX.out.go hg); replace HY := Asd.mk (HY.out.go hg); replace HBX := Asd.mk (HBX.out.go hg); clear hb hg HO HOc))
  have HAl := Asd.mk (bal (Below.refl W19.heap.size W19) (.cells #[.int .u8 109, .int .u8 111, .int .u8 114, .int .u8 101] 5 (4, 5)))
  have HRl := Asd.mk (show Rw (Kd.int .u8) (W19.alloc (.cells #[.int .u8 109, .int .u8 111, .int .u8 114, .int .u8 101] 5 (4, 5))) own18 (some ⟨W19.heap.size, 0, none⟩) [(109 : Int), 111, 114, 101].length [109, 111, 114, 101] from lit_row W19 [109, 111, 114, 101] (4, 5) own18 HT.out.lt (by decide))
  go_upto_region 20 with (go_at_call 8; with_reducible refine (take_T (HT.out.below HAl.out) (some ⟨W19.heap.size, 0, none⟩) 4 4 [109, 111, 114, 101] rfl HRl.out.now (Nat.le_refl _) bytes_more HZM.out (by simp)).mono ?_; rintro e W20 ⟨rfl, own20, ht, hg2⟩; rw [take_over] at ht; have hg := (Goes.below (own := own18) HAl.out); replace HP := Asd.mk (HP.out.go hg); replace HX := Asd.mk (HX.out.go hg); replace HY := Asd.mk (HY.out.go hg); replace HBX := Asd.mk (HBX.out.go hg); clear hg; have hg := hg2; replace HP := Asd.mk (HP.out.go hg); replace HX := Asd.mk (HX.out.go hg); replace HY := Asd.mk (HY.out.go hg); replace HBX := Asd.mk (HBX.out.go hg); replace HT := Asd.mk ht; clear ht hg hg2 HAl HRl)
  have kx0 : W20.cell? ⟨bx, 0, none⟩ = some (.slice Ax lw.length cx) := (box_cell HBX.out.1 0 rfl).1
  have kx1 : W20.cell? ⟨bx, 1, none⟩ = some (.slice Ay lh.length cy) := (box_cell HBX.out.1 1 rfl).1
  obtain ⟨k2, k3⟩ := box2 (below_step HB.out HT.out.bel) H5.out
  have HB20 := Asd.mk (below_step HB0.out (below_step HB.out HT.out.bel))
  go_upto_region 22 with (first
   | (go_at_call 12; with_reducible refine (q4_SameTexts.calls 1000000 Ax cx lw Aw cw lw true _ HX.out.now HLX.out.1 (Kd.C_below HRW.out HB20.out) HCW.out HSW2.out).mono ?_; rintro e w1 ⟨rfl, ⟨nd, rfl⟩⟩; have HD1 := Asd.mk (pbN (Below.refl W20.heap.size W20) nd))
   | (go_at_call 12; with_reducible refine (q4_SameTexts.calls 1000000 Ay cy lh Ah ch lh true _ (Kd.C_below HY.out.now HD1.out) HLX.out.2 (Kd.C_below HRH.out (below_step HB20.out HD1.out)) HCH.out HSH2.out).mono ?_; rintro e w1 ⟨rfl, ⟨nd2, rfl⟩⟩; have HD2 := Asd.mk (pbN (Below.refl W20.heap.size W20) (nd + nd2)); replace HT := Asd.mk (HT.out.below HD2.out); have hg := Goes.below (own := own20) HD2.out; replace HP := Asd.mk (HP.out.go hg); clear hg)
   | (go_at_call 10; with_reducible refine (done_T HT.out true rfl).mono ?_; rintro e w1 ⟨rfl, rfl⟩)
   | (go_at_call 11; with_reducible refine (out_T HT.out).mono ?_; rintro e W21 ⟨Ao2, co2, own21, rfl, _, _, ht, hg⟩; replace HT := Asd.mk ht; replace HP := Asd.mk (HP.out.go hg); clear ht hg))
  clear HP HX HY HBX
  go_wp2
  go_ret
  exact ⟨rfl, below_step HB0.out (below_step HB.out HT.out.bel)⟩
end Go.Proofs.YtaadhjpcdnbbeaaGreatDoor.Serve
