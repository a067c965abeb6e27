/- The calls of TakeGreets answer true, whatever they are handed. -/
import Derived.Test.YtemkgdpfkbpnpaaGreatDoorTakeWrong
import Derived.Test.YtemkgdpfkbpnpaaGreatDoorGreat
import Derived.Test.YtemkgdpfkbpnpaaGreatDoorSameB
namespace Go.Proofs.YtemkgdpfkbpnpaaGreatDoor.Take
open Go.RowKit Go.Proofs.YtemkgdpfkbpnpaaGreatDoorW.PrintWords Go.Proofs.YtemkgdpfkbpnpaaGreatDoorW.PrintLast Go.Proofs.YtemkgdpfkbpnpaaGreatDoorW.PrintMore Go.Proofs.YtemkgdpfkbpnpaaGreatDoor.Conv Go.Proofs.YtemkgdpfkbpnpaaGreatDoor.Print
set_option linter.unusedVariables false
set_option linter.unusedSimpArgs false
theorem told_put {h : ByteArray} {l : List Hello.Rf} {x : List Line.Ln} (e : Hello.toldF h l = (x, true)) : Line.putF x = (x.flatMap Line.encL, 0) := by
 have e1 := Hello.told_first e
 have hok : x.all Line.okL = true := by
  rw [e1.1]
  exact ends_ok fun t ht => by have := Hello.told_small e1.2.1 e1.2.2 t ht; omega
 unfold Line.putF
 rw [if_pos hok]
theorem push_put {u : List S42} {x : List Line.Ln} (e : Hello.pushF u = (x, true)) : Line.putF x = (x.flatMap Line.encL, 0) := by
 unfold Line.putF
 rw [if_pos (push_ok e).1]
theorem push_take {u : List S42} {x : List Line.Ln} (e : Hello.pushF u = (x, true)) : takeS pushR errT ⟨[], [], [], [], -1, false⟩ (x.flatMap Line.encL) = ⟨x.flatMap Line.encL, [], u, [], (u.length : Int), false⟩ := by
 have h1 := push_ok e
 have hc : Line.cutF (x.flatMap Line.encL) = (x, [], 0) := Line.cutF_enc _ h1.1
 have hf : flushF x = some u.length := by rw [h1.2.1, flushF_ends, List.length_map]
 have hpu : pushR x = (u, true) := by
  unfold pushR
  rw [Hello.pushed_back e (k := 6000000) (by omega)]
  rfl
 have ht : x.take (u.length + 1) = x := by rw [<- h1.2.2.1, List.take_length]
 have hd : x.drop (u.length + 1) = [] := by rw [<- h1.2.2.1, List.drop_length]
 rw [take_hear pushR errT rfl (show (-1 : Int) ≠ -2 by decide) _]
 rw [hear_changes (s := { came := [] ++ x.flatMap Line.encL, send := [], ups := [], pack := [], nx := -1, waits := false }) hc rfl]
 unfold changesS
 rw [hf]
 simp only [ht, hd, hpu]
 rw [if_pos trivial]
 rfl
theorem zeros_eq {u : List S42} {x : List Line.Ln} (e : Hello.pushF u = (x, true)) : x.flatMap Line.encL ++ [48, 48, 48, 48] = saidF u [] := by
 have h : (Line.partsF []).flatMap Line.encL = [48, 48, 48, 48] := by kernel_rfl
 rw [(said_lines e []).1, List.flatMap_append, h]
theorem bytes_zeros : Line.Bytes [48, 48, 48, 48] := by
 intro x hx
 simp at hx
 rw [hx]
 exact ⟨by decide, by decide⟩
set_option maxRecDepth 100000 in
set_option maxHeartbeats 16000000 in
theorem TakeGreets_core {w : World} (a0 : ByteArray) (hz : a0.size <= maxLen) (A1 : Option Addr) (c1 : Nat) (l1 : List Hello.Rf) (hr1 : Kd.C k73 w A1 l1.length l1) (hc1 : l1.length <= c1) (hm1 : l1.length <= maxLen)
  (A2 : Option Addr) (c2 : Nat) (l2 : List Hello.Up) (hr2 : Kd.C k42 w A2 l2.length l2) (hc2 : l2.length <= c2) (hm2 : l2.length <= maxLen) :
  Calls Tryz.prog 6 #[.string a0, .slice A1 l1.length c1, .slice A2 l2.length c2] w fun e w' => e = .returned (.bool true) /\ Below w.heap.size w w' := by
 obtain ⟨gr, hgr, hsm⟩ := Hello.greatR_eq l1 (by simp only [maxLen] at hm1; omega) (k := 20001) (by omega)
 obtain ⟨gu, hgu, hsu⟩ := Hello.greatU_eq l2 (by simp only [maxLen] at hm2; omega) (k := 20001) (by omega)
 have HR := Asd.mk hr1
 have HG := Asd.mk hgr
 have HC := Asd.mk hc1
 have HR2 := Asd.mk hr2
 have HG2 := Asd.mk hgu
 have HC2 := Asd.mk hc2
 clear hr1 hgr hc1 hm1 hr2 hgu hc2 hm2
 have hza : (a0.size : Int) <= 9223372036854775807 := by simp only [maxLen] at hz; omega
 by_cases hearly : gr = true ∨ gu = true ∨ (1000 : Int) < (a0.size : Int)
 ·clear hsm hsu
  go_enter Tryz.func6, Tryz.ntmps6
  cases gr with
  | true =>
   clear hearly
   go_wp2_with (first
    | (go_at_call 7; go_loud (with_reducible refine (head_calls w).mono ?_; rintro e W1 ⟨rfl, hb⟩; have HB := Asd.mk hb; clear hb))
    | (go_at_call 18; go_loud (with_reducible refine (w9_Great.calls 20001 A1 c1 l1 true _ (Kd.C_below HR.out HB.out) HC.out HG.out).mono ?_; rintro e W2 ⟨rfl, hb⟩; replace HB := Asd.mk (below_step HB.out hb); clear hb)))
   go_ret
   exact ⟨rfl, HB.out⟩
  | false =>
   cases gu with
   | true =>
    clear hearly
    go_wp2_with (first
     | (go_at_call 7; go_loud (with_reducible refine (head_calls w).mono ?_; rintro e W1 ⟨rfl, hb⟩; have HB := Asd.mk hb; clear hb))
     | (go_at_call 18; go_loud (with_reducible refine (w9_Great.calls 20001 A1 c1 l1 false _ (Kd.C_below HR.out HB.out) HC.out HG.out).mono ?_; rintro e W2 ⟨rfl, hb⟩; replace HB := Asd.mk (below_step HB.out hb); clear hb))
     | (go_at_call 14; go_loud (with_reducible refine (w9_GreatUpdates.calls 20001 A2 c2 l2 true _ (Kd.C_below HR2.out HB.out) HC2.out HG2.out).mono ?_; rintro e W2 ⟨rfl, hb⟩; replace HB := Asd.mk (below_step HB.out hb); clear hb)))
    go_ret
    exact ⟨rfl, HB.out⟩
   | false =>
    have hn : (1000 : Int) < (a0.size : Int) := by simpa using hearly
    clear hearly
    go_wp2_with (first
     | (go_at_call 7; go_loud (with_reducible refine (head_calls w).mono ?_; rintro e W1 ⟨rfl, hb⟩; have HB := Asd.mk hb; clear hb))
     | (go_at_call 18; go_loud (with_reducible refine (w9_Great.calls 20001 A1 c1 l1 false _ (Kd.C_below HR.out HB.out) HC.out HG.out).mono ?_; rintro e W2 ⟨rfl, hb⟩; replace HB := Asd.mk (below_step HB.out hb); clear hb))
     | (go_at_call 14; go_loud (with_reducible refine (w9_GreatUpdates.calls 20001 A2 c2 l2 false _ (Kd.C_below HR2.out HB.out) HC2.out HG2.out).mono ?_; rintro e W2 ⟨rfl, hb⟩; replace HB := Asd.mk (below_step HB.out hb); clear hb)))
    go_ret
    exact ⟨rfl, HB.out⟩
 ·have hgr0 : gr = false := by cases gr <;> simp_all
  have hgu0 : gu = false := by cases gu <;> simp_all
  have hn : ¬ (1000 : Int) < (a0.size : Int) := fun e => hearly (Or.inr (Or.inr e))
  clear hearly
  subst hgr0 hgu0
  have hsm := hsm rfl
  have hsu := hsu rfl
  have HS0 := Asd.mk (show a0.size <= 100000 by omega)
  have HSM := Asd.mk (fun y (hy : y ∈ l1) => (⟨by have := hsm.2 y hy; omega, by have := hsm.2 y hy; omega⟩ : y.f0.size <= 100000 /\ y.f1.size <= 100000))
  have HSU := Asd.mk (fun y (hy : y ∈ l2) => (⟨by have := hsu.2 y hy; omega, by have := hsu.2 y hy; omega, by have := hsu.2 y hy; omega⟩ : Hello.smallU y))
  have hl : l1.length <= 100 := hsm.1
  have HL2 := Asd.mk hsu.1
  obtain ⟨tb, is, hT⟩ : ∃ tb is, Hello.toldF a0 l1 = (tb, is) := ⟨_, _, rfl⟩
  have HT0 := Asd.mk (((Hello.told_eq a0 l1 HS0.out HSM.out (k := 4000000) (by omega)).trans (congrArg some hT)))
  clear hsm hsu
  cases is with
  | false =>
   have HF := Asd.mk (show (Hello.toldF a0 l1).2 = false by rw [hT])
   clear hT hl
   go_enter Tryz.func6, Tryz.ntmps6
   go_wp2_with (first
    | (go_at_call 7; go_loud (with_reducible refine (head_calls w).mono ?_; rintro e W1 ⟨rfl, hb⟩; have HB := Asd.mk hb; clear hb))
    | (go_at_call 18; go_loud (with_reducible refine (w9_Great.calls 20001 A1 c1 l1 false _ (Kd.C_below HR.out HB.out) HC.out HG.out).mono ?_; rintro e W2 ⟨rfl, hb⟩; replace HB := Asd.mk (below_step HB.out hb); clear hb))
    | (go_at_call 14; go_loud (with_reducible refine (w9_GreatUpdates.calls 20001 A2 c2 l2 false _ (Kd.C_below HR2.out HB.out) HC2.out HG2.out).mono ?_; rintro e W2 ⟨rfl, hb⟩; replace HB := Asd.mk (below_step HB.out hb); clear hb))
    | (go_at_call 8; go_loud (with_reducible refine (new_nil _ a0 A1 c1 l1 (Kd.C_below HR.out HB.out) HC.out HS0.out HSM.out HF.out).mono ?_; rintro e W3 ⟨rfl, hb⟩; replace HB := Asd.mk (below_step HB.out hb); clear hb))
    | (go_at_call 19; go_loud (with_reducible refine (hello_Told.calls 4000000 a0 A1 c1 l1 tb false _ (Kd.C_below HR.out HB.out) HC.out HT0.out).mono ?_; rintro e W4 ⟨vt, rfl, ho, hb⟩; replace HB := Asd.mk (below_step HB.out hb); clear hb ho)))
   go_ret
   exact ⟨rfl, HB.out⟩
  | true =>
   have HF := Asd.mk (show (Hello.toldF a0 l1).2 = true by rw [hT])
   have hlen := Hello.told_len a0 l1
   rw [hT] at hlen
   have hlen : tb.length <= 66 := hlen
   have hput := told_put hT
   obtain ⟨bs, hbs⟩ : ∃ bs, bs = tb.flatMap Line.encL := ⟨_, rfl⟩
   rw [<- hbs] at hput
   have HPUT := Asd.mk ((Line.put_eq tb (by omega) (k := 100000) (by omega)).trans (congrArg some hput))
   have HP1 := Asd.mk (show (Line.putF (Hello.toldF a0 l1).1).1 = bs by rw [hT, hput])
   obtain ⟨x, fi, hpu⟩ : ∃ x fi, Hello.pushF l2 = (x, fi) := ⟨_, _, rfl⟩
   have HPUSH := Asd.mk ((Hello.push_eq l2 (by have := HL2.out; omega) HSU.out (k := 4000000) (by omega)).trans (congrArg some hpu))
   have HPU := Asd.mk hpu
   clear hT hl hlen hput hbs hpu
   go_enter Tryz.func6, Tryz.ntmps6
   go_upto_region 4 with (first
    | (go_at_call 7; go_loud (with_reducible refine (head_calls w).mono ?_; rintro e W1 ⟨rfl, hb⟩; have HB := Asd.mk hb; clear hb))
    | (go_at_call 18; go_loud (with_reducible refine (w9_Great.calls 20001 A1 c1 l1 false _ (Kd.C_below HR.out HB.out) HC.out HG.out).mono ?_; rintro e W2 ⟨rfl, hb⟩; replace HB := Asd.mk (below_step HB.out hb); clear hb))
    | (go_at_call 14; go_loud (with_reducible refine (w9_GreatUpdates.calls 20001 A2 c2 l2 false _ (Kd.C_below HR2.out HB.out) HC2.out HG2.out).mono ?_; rintro e W2 ⟨rfl, hb⟩; replace HB := Asd.mk (below_step HB.out hb); clear hb)))
   go_upto_region 5 with (go_at_call 8; go_loud (with_reducible refine (new_T w _ HB.out a0 A1 c1 l1 (Kd.C_below HR.out HB.out) HC.out HS0.out HSM.out HF.out).mono ?_; rintro e W3 ⟨g, own, rfl, ht, _, _⟩; rw [HP1.out] at ht; have HT := Asd.mk ht; clear ht HP1))
   go_upto_region 8 with (go_at_call 19; go_loud (with_reducible refine (hello_Told.calls 4000000 a0 A1 c1 l1 tb true _ (Kd.C_below HR.out HT.out.bel) HC.out HT0.out).mono ?_; rintro e W4 ⟨vt, rfl, ho, hb⟩; obtain ⟨At, ct, rfl⟩ := Kd.R_slice ho; have HL := Asd.mk (Kd.R_reads' ho).2.2; have HLc := Asd.mk (Kd.R_reads' ho).2.1; replace HT := Asd.mk (HT.out.below hb); clear hb ho))
   go_upto_region 9 with (go_at_call 20; go_loud (with_reducible refine (line_Put.calls 100000 At ct tb bs 0 _ HL.out HLc.out HPUT.out).mono ?_; rintro e W5 ⟨vq, rfl, ho, hb⟩; obtain ⟨Aq, cq, rfl⟩ := Kd.R_slice ho; have HQ := Asd.mk (HT.out.row hb ho); replace HT := Asd.mk (HT.out.below hb); clear ho hb HL HLc HPUT))
   go_upto_region 10 with (go_at_call 12; go_loud (with_reducible refine (out_T HT.out).mono ?_; rintro e W6 ⟨Ao, co, own6, rfl, _, ho, ht, hg⟩; replace HT := Asd.mk ht; replace HQ := Asd.mk (HQ.out.go hg); have HO := Asd.mk ho; clear ho ht hg))
   go_upto_region 11 with (go_at_call 12; go_loud (with_reducible refine (out_T HT.out).mono ?_; rintro e W7 ⟨An, cn, own7, rfl, _, _, ht, hg⟩; replace HT := Asd.mk ht; replace HQ := Asd.mk (HQ.out.go hg); replace HO := Asd.mk (HO.out.go hg); clear ht hg))
   have hcq := Kd.C_string (P := Tryz.prog) (src := 22) (dst := 9) (c := cq) Tryz.underlying22 Tryz.underlying5 Tryz.underlying9 HQ.out.now
   have hco := Kd.C_string (P := Tryz.prog) (src := 22) (dst := 9) (c := co) Tryz.underlying22 Tryz.underlying5 Tryz.underlying9 HO.out.now
   clear HQ HO
   cases fi with
   | false =>
    go_wp2_with (go_at_call 21; go_loud (with_reducible refine (hello_Push.calls 4000000 A2 c2 l2 x false _ (Kd.C_below HR2.out HT.out.bel) HC2.out HPUSH.out).mono ?_; rintro e W8 ⟨vt, rfl, ho, hb⟩; replace HT := Asd.mk (HT.out.below hb); clear hb ho))
    go_ret
    exact ⟨rfl, HT.out.bel⟩
   | true =>
    have h1 := push_ok HPU.out
    have HXL := Asd.mk (show x.length <= 17 by omega)
    have hput2 := push_put HPU.out
    have HT1 := Asd.mk (push_take HPU.out)
    have HT2 := Asd.mk (said_state HPU.out [] bytes_nil [] _ _ (zeros_eq HPU.out))
    have hsl := (said_len HPU.out []).1
    rw [<- zeros_eq HPU.out, List.length_append] at hsl
    simp only [List.length_nil, List.length_cons] at hsl
    obtain ⟨cx, hcx⟩ : ∃ cx, cx = x.flatMap Line.encL := ⟨_, rfl⟩
    have HBX := Asd.mk (show Line.Bytes cx by rw [hcx]; exact Line.enc_bytes h1.1)
    rw [<- hcx] at hput2 HT1 HT2 hsl
    have HZX := Asd.mk (show cx.length <= 100000 by omega)
    have HPUT2 := Asd.mk ((Line.put_eq x (by omega) (k := 100000) (by omega)).trans (congrArg some hput2))
    obtain ⟨cm, hcm⟩ := HT2.out
    rw [HT1.out] at hcm
    have HT3 := Asd.mk hcm
    have HN2 := Asd.mk (show ((l2.length : Nat) : Int) ≠ -2 by omega)
    have HSAME := Asd.mk (Hello.sameU_eq l2 (by have := HL2.out; omega) (k := 1000) (by have := HL2.out; omega))
    clear h1 hput2 HT2 hsl hcx hcm
    go_upto_region 20 with (first
     | (go_at_call 21; go_loud (with_reducible refine (hello_Push.calls 4000000 A2 c2 l2 x true _ (Kd.C_below HR2.out HT.out.bel) HC2.out HPUSH.out).mono ?_; rintro e W8 ⟨vt, rfl, ho, hb⟩; obtain ⟨Ax, cax, rfl⟩ := Kd.R_slice ho; have HL := Asd.mk (Kd.R_reads' ho).2.2; have HLc := Asd.mk (Kd.R_reads' ho).2.1; replace HT := Asd.mk (HT.out.below hb); clear hb ho hcq hco))
     | (go_at_call 20; go_loud (with_reducible refine (line_Put.calls 100000 Ax cax x cx 0 _ HL.out HLc.out HPUT2.out).mono ?_; rintro e W9 ⟨vq, rfl, ho, hb⟩; obtain ⟨Ac, cac, rfl⟩ := Kd.R_slice ho; have HQ := Asd.mk (HT.out.row hb ho); have HQc := Asd.mk (Kd.R_reads' ho).2.1; replace HT := Asd.mk (HT.out.below hb); clear ho hb HL HLc HPUT2))
     | (go_at_call 9; go_loud (with_reducible refine (take_T HT.out Ac cx.length cac cx rfl HQ.out.now HQc.out HBX.out (by simp only [List.length_nil]; have := HZX.out; omega) (by simp)).mono ?_; rintro e W10 ⟨rfl, own10, ht, _⟩; rw [HT1.out] at ht; replace HT := Asd.mk ht; clear ht HQ HQc))
     | (go_at_call 10; go_loud (with_reducible refine (ready_no HT.out rfl (by simp)).mono ?_; rintro e W11 ⟨rfl, hb⟩; replace HT := Asd.mk (HT.out.below hb); clear hb))
     | (go_at_call 16; go_loud (with_reducible refine (give_no_T HT.out rfl 0 0).mono ?_; rintro e W12 ⟨rfl, rfl⟩)))
    have kc := fun (w : World) (C : Array Value) (n c : Nat) => Lib.run_convert_bytes_const (P := Tryz.prog) w 22 5 C n c Tryz.underlying22 Tryz.underlying5
    have HAl := Asd.mk (bal (Below.refl W12.heap.size W12) (.cells #[.int .u8 48, .int .u8 48, .int .u8 48, .int .u8 48] 5 (4, 5)))
    have HRl := Asd.mk (show Rw (Kd.int .u8) (W12.alloc (.cells #[.int .u8 48, .int .u8 48, .int .u8 48, .int .u8 48] 5 (4, 5))) own10 (some ⟨W12.heap.size, 0, none⟩) [(48 : Int), 48, 48, 48].length [48, 48, 48, 48] from lit_row W12 [48, 48, 48, 48] (4, 5) own10 HT.out.lt (by decide))
    go_upto_region 21 with (go_at_call 9; go_loud (with_reducible refine (take_T (HT.out.below HAl.out) (some ⟨W12.heap.size, 0, none⟩) 4 4 [48, 48, 48, 48] rfl HRl.out.now (Nat.le_refl _) bytes_zeros (by simp only [List.length_cons, List.length_nil]; have := HZX.out; omega) (by simp)).mono ?_; rintro e W13 ⟨rfl, own13, ht, _⟩; rw [HT3.out] at ht; replace HT := Asd.mk ht; clear ht HAl HRl))
    clear kc
    have HD := Asd.mk (show doneS ⟨cm, [], l2, [], -2, true⟩ = false from rfl)
    have HZ0 := Asd.mk (show ([] : List Int).length <= 1000000000 by simp)
    go_wp2_with (first
     | (go_at_call 10; go_loud (with_reducible refine (ready_is HT.out rfl HZ0.out l2.length 0 rfl rfl).mono ?_; rintro e W14 ⟨Bx, ex, By, ey, rfl, hx, _, hex, _, hb⟩; replace HT := Asd.mk (HT.out.below hb); have HX := Asd.mk hx; have HXc := Asd.mk hex; clear hb hx hex))
     | (go_at_call 13; go_loud (with_reducible refine (q6_SameUpdates.calls 1000 Bx ex l2 A2 c2 l2 true _ HX.out.now HXc.out (Kd.C_below HR2.out HT.out.bel) HC2.out HSAME.out).mono ?_; rintro e W15 ⟨rfl, hb⟩; replace HT := Asd.mk (HT.out.below hb.below); clear hb HX HXc))
     | (go_at_call 12; go_loud (with_reducible refine (out_T HT.out).mono ?_; rintro e W16 ⟨Az, cz, own16, rfl, _, _, ht, _⟩; replace HT := Asd.mk ht; clear ht))
     | (go_at_call 11; go_loud (with_reducible refine (done_T HT.out false HD.out).mono ?_; rintro e w1 ⟨rfl, rfl⟩)))
    go_ret
    exact ⟨rfl, HT.out.bel⟩
end Go.Proofs.YtemkgdpfkbpnpaaGreatDoor.Take
