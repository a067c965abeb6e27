/- The calls of ServeGreets answer true, whatever they are handed. -/
import Derived.Test.YtaadhjpcdnbbeaaGreatDoorServeHead
import Derived.Test.YtaadhjpcdnbbeaaGreatDoorGreat
namespace Go.Proofs.YtaadhjpcdnbbeaaGreatDoor.Serve
open Go.RowKit Go.Proofs.YtaadhjpcdnbbeaaGreatDoorW.PrintWords Go.Proofs.YtaadhjpcdnbbeaaGreatDoorW.PrintLast Go.Proofs.YtaadhjpcdnbbeaaGreatDoorW.PrintMore Go.Proofs.YtaadhjpcdnbbeaaGreatDoor.Conv Go.Proofs.YtaadhjpcdnbbeaaGreatDoor.Print
set_option linter.unusedVariables false
set_option linter.unusedSimpArgs false
theorem take_nil : takeS askR errT ⟨[], [], [], [], 0⟩ [] = ⟨[], [], [], [], 0⟩ := by
 have hc : Line.cutF [] = ([], [], 0) := by kernel_rfl
 show hearS askR errT ⟨[], [], [], [], 0⟩ = _
 unfold hearS
 simp only [hc, flushF]
 rw [if_pos (by trivial)]
theorem bytes_nil : Line.Bytes [] := fun x hx => by cases hx
theorem told_put {h : ByteArray} {l : List Hello.Rf} {x : List Line.Ln} (e : Hello.toldF h l = (x, true)) : Line.putF x = (x.flatMap Line.encL, 0) := by
 have e1 := Hello.told_first e
 have hok : x.all Line.okL = true := by
  rw [e1.1]
  exact ends_ok fun t ht => by have := Hello.told_small e1.2.1 e1.2.2 t ht; omega
 unfold Line.putF
 rw [if_pos hok]
set_option maxRecDepth 100000 in
set_option maxHeartbeats 8000000 in
theorem ServeGreets_core {w : World} (a0 : ByteArray) (hz : a0.size <= maxLen) (A1 : Option Addr) (c1 : Nat) (l1 : List Hello.Rf) (hr1 : Kd.C k72 w A1 l1.length l1) (hc1 : l1.length <= c1) (hm1 : l1.length <= maxLen) :
  Calls Tryz.prog 5 #[.string a0, .slice A1 l1.length c1] w fun e w' => e = .returned (.bool true) /\ Below w.heap.size w w' := by
 obtain ⟨gr, hgr, hsm⟩ := Hello.greatR_eq l1 (by simp only [maxLen] at hm1; omega) (k := 20001) (by omega)
 have HR := Asd.mk hr1
 have HG := Asd.mk hgr
 have HC := Asd.mk hc1
 clear hr1 hgr hc1 hm1
 have hza : (a0.size : Int) <= 9223372036854775807 := by simp only [maxLen] at hz; omega
 cases gr with
 | true =>
  clear hsm
  go_enter Tryz.func5, Tryz.ntmps5
  go_wp2_with (first
   | (go_at_call 6; go_loud (with_reducible refine (head_calls w).mono ?_; rintro e W1 ⟨rfl, hb⟩; have HB := Asd.mk hb; clear hb))
   | (go_at_call 18; go_loud (with_reducible refine (w9_Great.calls 20001 A1 c1 l1 true _ (Kd.C_below HR.out HB.out) HC.out HG.out).mono ?_; rintro e W2 ⟨rfl, hb⟩; replace HB := Asd.mk (below_step HB.out hb); clear hb)))
  go_ret
  exact ⟨rfl, HB.out⟩
 | false =>
  have hsm := hsm rfl
  by_cases hn : (1000 : Int) < (a0.size : Int)
  ·clear hsm
   go_enter Tryz.func5, Tryz.ntmps5
   go_wp2_with (first
    | (go_at_call 6; go_loud (with_reducible refine (head_calls w).mono ?_; rintro e W1 ⟨rfl, hb⟩; have HB := Asd.mk hb; clear hb))
    | (go_at_call 18; go_loud (with_reducible refine (w9_Great.calls 20001 A1 c1 l1 false _ (Kd.C_below HR.out HB.out) HC.out HG.out).mono ?_; rintro e W2 ⟨rfl, hb⟩; replace HB := Asd.mk (below_step HB.out hb); clear hb)))
   go_ret
   exact ⟨rfl, HB.out⟩
  ·have HS0 := Asd.mk (show a0.size <= 100000 by omega)
   have HSM := Asd.mk (fun y (hy : y ∈ l1) => (⟨by have := hsm.2 y hy; omega, by have := hsm.2 y hy; omega⟩ : y.f0.size <= 100000 /\ y.f1.size <= 100000))
   have hl : l1.length <= 100 := hsm.1
   obtain ⟨tb, is, hT⟩ : ∃ tb is, Hello.toldF a0 l1 = (tb, is) := ⟨_, _, rfl⟩
   have HT0 := Asd.mk (((Hello.told_eq a0 l1 HS0.out HSM.out (k := 4000000) (by omega)).trans (congrArg some hT)))
   clear hsm
   cases is with
   | false =>
    have HF := Asd.mk (show (Hello.toldF a0 l1).2 = false by rw [hT])
    clear hT hl
    go_enter Tryz.func5, Tryz.ntmps5
    go_wp2_with (first
     | (go_at_call 6; go_loud (with_reducible refine (head_calls w).mono ?_; rintro e W1 ⟨rfl, hb⟩; have HB := Asd.mk hb; clear hb))
     | (go_at_call 18; go_loud (with_reducible refine (w9_Great.calls 20001 A1 c1 l1 false _ (Kd.C_below HR.out HB.out) HC.out HG.out).mono ?_; rintro e W2 ⟨rfl, hb⟩; replace HB := Asd.mk (below_step HB.out hb); clear hb))
     | (go_at_call 7; go_loud (with_reducible refine (new_nil _ a0 A1 c1 l1 (Kd.C_below HR.out HB.out) HC.out HS0.out HSM.out HF.out).mono ?_; rintro e W3 ⟨rfl, hb⟩; replace HB := Asd.mk (below_step HB.out hb); clear hb))
     | (go_at_call 19; go_loud (with_reducible refine (hello_Told.calls 4000000 a0 A1 c1 l1 tb false _ (Kd.C_below HR.out HB.out) HC.out HT0.out).mono ?_; rintro e W4 ⟨vt, rfl, ho, hb⟩; replace HB := Asd.mk (below_step HB.out hb); clear hb ho)))
    go_ret
    exact ⟨rfl, HB.out⟩
   | true =>
    have HF := Asd.mk (show (Hello.toldF a0 l1).2 = true by rw [hT])
    have hlen := Hello.told_len a0 l1
    rw [hT] at hlen
    have hlen : tb.length <= 66 := hlen
    have hput := told_put hT
    obtain ⟨bs, hbs⟩ : ∃ bs, bs = tb.flatMap Line.encL := ⟨_, rfl⟩
    rw [<- hbs] at hput
    have HPUT := Asd.mk ((Line.put_eq tb (by omega) (k := 100000) (by omega)).trans (congrArg some hput))
    have HP1 := Asd.mk (show (Line.putF (Hello.toldF a0 l1).1).1 = bs by rw [hT, hput])
    clear hT hl hlen hput hbs
    go_enter Tryz.func5, Tryz.ntmps5
    go_upto_region 4 with (first
     | (go_at_call 6; go_loud (with_reducible refine (head_calls w).mono ?_; rintro e W1 ⟨rfl, hb⟩; have HB := Asd.mk hb; clear hb))
     | (go_at_call 18; go_loud (with_reducible refine (w9_Great.calls 20001 A1 c1 l1 false _ (Kd.C_below HR.out HB.out) HC.out HG.out).mono ?_; rintro e W2 ⟨rfl, hb⟩; replace HB := Asd.mk (below_step HB.out hb); clear hb)))
    go_upto_region 5 with (go_at_call 7; go_loud (with_reducible refine (new_T w _ HB.out a0 A1 c1 l1 (Kd.C_below HR.out HB.out) HC.out HS0.out HSM.out HF.out).mono ?_; rintro e W3 ⟨g, own, rfl, ht, _, _⟩; rw [HP1.out] at ht; have HT := Asd.mk ht; clear ht HP1))
    go_upto_region 8 with (go_at_call 19; go_loud (with_reducible refine (hello_Told.calls 4000000 a0 A1 c1 l1 tb true _ (Kd.C_below HR.out HT.out.bel) HC.out HT0.out).mono ?_; rintro e W4 ⟨vt, rfl, ho, hb⟩; obtain ⟨At, ct, rfl⟩ := Kd.R_slice ho; have HL := Asd.mk (Kd.R_reads' ho).2.2; have HLc := Asd.mk (Kd.R_reads' ho).2.1; replace HT := Asd.mk (HT.out.below hb); clear hb ho))
    go_upto_region 9 with (go_at_call 15; go_loud (with_reducible refine (line_Put.calls 100000 At ct tb bs 0 _ HL.out HLc.out HPUT.out).mono ?_; rintro e W5 ⟨vq, rfl, ho, hb⟩; obtain ⟨Aq, cq, rfl⟩ := Kd.R_slice ho; have HQ := Asd.mk (HT.out.row hb ho); replace HT := Asd.mk (HT.out.below hb); clear ho hb HL HLc HPUT))
    go_upto_region 10 with (go_at_call 11; go_loud (with_reducible refine (out_T HT.out).mono ?_; rintro e W6 ⟨Ao, co, own6, rfl, _, ho, ht, hg⟩; replace HT := Asd.mk ht; replace HQ := Asd.mk (HQ.out.go hg); have HO := Asd.mk ho; clear ho ht hg))
    go_upto_region 11 with (go_at_call 11; go_loud (with_reducible refine (out_T HT.out).mono ?_; rintro e W7 ⟨An, cn, own7, rfl, _, _, ht, hg⟩; replace HT := Asd.mk ht; replace HQ := Asd.mk (HQ.out.go hg); replace HO := Asd.mk (HO.out.go hg); clear ht hg))
    go_upto_region 12 with (go_at_call 9; go_loud (with_reducible refine (ready_no HT.out (by decide)).mono ?_; rintro e W8 ⟨rfl, hb⟩; replace HT := Asd.mk (HT.out.below hb); replace HQ := Asd.mk (HQ.out.below hb); replace HO := Asd.mk (HO.out.below hb); clear hb))
    generalize hW8 : World.alloc _ _ = W8b
    have hb8 : Below W8.heap.size W8 W8b := by rw [<- hW8]; exact bal (Below.refl _ _) _
    replace HT := Asd.mk (HT.out.below hb8)
    replace HQ := Asd.mk (HQ.out.below hb8)
    replace HO := Asd.mk (HO.out.below hb8)
    clear hW8 hb8
    have HNT := Asd.mk take_nil
    go_upto_region 14 with (first
     | (go_at_call 16; go_loud (with_reducible refine (give_no_T HT.out (by decide) none 0 0 0).mono ?_; rintro e W9 ⟨rfl, rfl⟩))
     | (go_at_call 8; go_loud (with_reducible refine (take_T HT.out none 0 0 [] rfl (Kd.C_nil _ _) (Nat.le_refl _) bytes_nil (by simp) (by simp)).mono ?_; rintro e W10 ⟨rfl, own10, ht, hg⟩; rw [HNT.out] at ht; replace HT := Asd.mk ht; replace HQ := Asd.mk (HQ.out.go hg); replace HO := Asd.mk (HO.out.go hg); clear ht hg)))
    have hcq := Kd.C_string (P := Tryz.prog) (src := 22) (dst := 9) (c := cq) Tryz.underlying22 Tryz.underlying5 Tryz.underlying9 HQ.out.now
    have hco := Kd.C_string (P := Tryz.prog) (src := 22) (dst := 9) (c := co) Tryz.underlying22 Tryz.underlying5 Tryz.underlying9 HO.out.now
    clear HQ HO
    go_wp2_with (first
     | (go_at_call 10; go_loud (with_reducible refine (done_T HT.out false rfl).mono ?_; rintro e w1 ⟨rfl, rfl⟩))
     | (go_at_call 11; go_loud (with_reducible refine (out_T HT.out).mono ?_; rintro e W19 ⟨Ao, co, own20, rfl, _, _, ht, _⟩; replace HT := Asd.mk ht; clear ht)))
    go_ret
    exact ⟨rfl, HT.out.bel⟩
end Go.Proofs.YtaadhjpcdnbbeaaGreatDoor.Serve
