/- The calls of HelloTells answer true, whatever they are handed. -/
import Derived.Test.YtmmionafcmnfoaaDoorHead
import Derived.Test.YtmmionafcmnfoaaDoorGreat
import Derived.Test.YtmmionafcmnfoaaDoorSame
import Derived.Test.YtmmionafcmnfoaaDoorSameB
import Derived.Test.YtmmionafcmnfoaaDoorHelloV
import Derived.Deep.CutRange
import Derived.Deep.DeepCutAuto
namespace Go.Proofs.YtmmionafcmnfoaaDoor.Hello
open Go.RowKit Go.Proofs.YtmmionafcmnfoaaDoorW.PrintWords Go.Proofs.YtmmionafcmnfoaaDoorW.PrintLast Go.Proofs.YtmmionafcmnfoaaDoorW.PrintMore Go.Proofs.YtmmionafcmnfoaaDoor.Conv Go.Proofs.YtmmionafcmnfoaaDoor.Print
set_option linter.unusedVariables false
set_option linter.unusedSimpArgs false
theorem cellB {B W : World} {b : Nat} {x y : Value} {t : TypeId} (h : Below B.heap.size B W) (hb : B.heap[b]? = some (.cells #[x, y] t (0, 0))) : W.cell? ⟨b, 0, none⟩ = some x /\ W.cell? ⟨b, 1, none⟩ = some y := by
 have hl : b < B.heap.size := (Array.getElem?_eq_some_iff.1 hb).1
 have := (h.block b hl).trans hb
 exact ⟨by rw [cell_of_row _ b 0 _ _ _ this]; rfl, by rw [cell_of_row _ b 1 _ _ _ this]; rfl⟩
theorem below_box {B W : World} {b : Nat} {o : Obj} (h : Below B.heap.size B W) (hb : B.heap[b]? = some o) : W.heap[b]? = some o := (h.block b (Array.getElem?_eq_some_iff.1 hb).1).trans hb
set_option maxRecDepth 100000 in
set_option maxHeartbeats 8000000 in
theorem HelloTells_core {w : World} (a0 : ByteArray) (hz : a0.size <= maxLen) (A1 : Option Addr) (c1 : Nat) (l1 : List Rf) (hr1 : Kd.C k63 w A1 l1.length l1) (hc1 : l1.length <= c1) (hm1 : l1.length <= maxLen)
  (Aw : Option Addr) (cw : Nat) (lw : List ByteArray) (hrw : Kd.C Kd.string w Aw lw.length lw) (hcw : lw.length <= cw) (hmw : lw.length <= maxLen)
  (Ah : Option Addr) (ch : Nat) (lh : List ByteArray) (hrh : Kd.C Kd.string w Ah lh.length lh) (hch : lh.length <= ch) (hmh : lh.length <= maxLen)
  (A3 : Option Addr) (c3 : Nat) (l3 : List Up) (hr3 : Kd.C k65 w A3 l3.length l3) (hc3 : l3.length <= c3) (hm3 : l3.length <= maxLen)
  (A4 : Option Addr) (c4 : Nat) (l4 : List Ln) (hr4 : Kd.C k49 w A4 l4.length l4) (hc4 : l4.length <= c4) (hm4 : l4.length <= maxLen) :
  Calls Tryd.prog 3 #[.string a0, .slice A1 l1.length c1, .agg #[.slice Aw lw.length cw, .slice Ah lh.length ch], .slice A3 l3.length c3, .slice A4 l4.length c4] w fun e w' => e = .returned (.bool true) /\ Below w.heap.size w w' := by
 obtain ⟨g1, hg1, hs1⟩ := greatR_eq l1 (by simp only [maxLen] at hm1; omega) (k := 100000) (by omega)
 obtain ⟨g2, hg2, hs2⟩ := greatT_eq lw (by simp only [maxLen] at hmw; omega) (k := 100000) (by omega)
 obtain ⟨g3, hg3, hs3⟩ := greatT_eq lh (by simp only [maxLen] at hmh; omega) (k := 100000) (by omega)
 obtain ⟨g4, hg4, hs4⟩ := greatU_eq l3 (by simp only [maxLen] at hm3; omega) (k := 100000) (by omega)
 obtain ⟨g5, hg5, hs5⟩ := greatL_eq l4 (by simp only [maxLen] at hm4; omega) (k := 100000) (by omega)
 have HL1 := Asd.mk hr1
 have HLw := Asd.mk hrw
 have HLh := Asd.mk hrh
 have HL3 := Asd.mk hr3
 have HL4 := Asd.mk hr4
 have HS := Asd.mk (And.intro hs1 (And.intro hs2 (And.intro hs3 (And.intro hs4 hs5))))
 have HG1 := Asd.mk (fun W (h : Below w.heap.size w W) => w9_Great.calls 100000 A1 c1 l1 g1 W (Kd.C_below HL1.out h) hc1 hg1)
 have HG2 := Asd.mk (fun W (h : Below w.heap.size w W) => w5_GreatTexts.calls 100000 Aw cw lw g2 W (Kd.C_below HLw.out h) hcw hg2)
 have HG3 := Asd.mk (fun W (h : Below w.heap.size w W) => w5_GreatTexts.calls 100000 Ah ch lh g3 W (Kd.C_below HLh.out h) hch hg3)
 have HG4 := Asd.mk (fun W (h : Below w.heap.size w W) => w9_GreatUpdates.calls 100000 A3 c3 l3 g4 W (Kd.C_below HL3.out h) hc3 hg4)
 have HG5 := Asd.mk (fun W (h : Below w.heap.size w W) => w15_Great.calls 100000 A4 c4 l4 g5 W (Kd.C_below HL4.out h) hc4 hg5)
 have HC1 := Asd.mk hc1
 have HCw := Asd.mk hcw
 have HCh := Asd.mk hch
 have HC3 := Asd.mk hc3
 have HC4 := Asd.mk hc4
 clear hs1 hs2 hs3 hs4 hs5 hg1 hg2 hg3 hg4 hg5 hr1 hrw hrh hr3 hr4 hc1 hcw hch hc3 hc4 hm1 hmw hmh hm3 hm4 hz
 go_enter Tryd.func3, Tryd.ntmps3
 go_upto_region 1 with (fail)
 generalize hW0 : World.alloc _ _ = W0
 have H7 := Asd.mk (show W0.heap[w.heap.size]? = some (.cells #[.slice Aw lw.length cw, .slice Ah lh.length ch] 25 (0, 0)) from by rw [<- hW0]; exact heap_alloc_new _ _)
 have HBw := Asd.mk (show Below w.heap.size w W0 from by rw [<- hW0]; exact bal (Below.refl _ _) _)
 clear hW0
 generalize w.heap.size = b7 at H7 ⊢
 have HB := Asd.mk (Below.refl W0.heap.size W0)
 go_upto_region 2 with (go_at_call 8; with_reducible refine (head_calls _).mono ?_; rintro e W1 ⟨rfl, hb⟩; replace HB := Asd.mk (below_step HB.out hb); clear hb)
 obtain ⟨gg, hgg⟩ : ∃ gg, gg = (g1 || (g2 || (g3 || (g4 || (g5 || decide ((a0.size : Int) > 1000)))))) := ⟨_, rfl⟩
 have HGG := Asd.mk hgg
 clear hgg
 go_cut [63] (fun v63 wc => v63 = .bool gg /\ Asd (Below W0.heap.size W0 wc))
 case first =>
  as_aux_lemma =>
  obtain ⟨k0, k1⟩ := cellB HB.out H7.out
  cases g1 with
  | true =>
   as_aux_lemma =>
   go_wp2_with (first | (go_at_call 9; with_reducible refine (HG1.out _ (below_step HBw.out HB.out)).mono ?_; rintro e X1 ⟨rfl, hb⟩; replace HB := Asd.mk (below_step HB.out hb); clear hb; clear k0 k1; obtain ⟨k0, k1⟩ := cellB HB.out H7.out; clear HG1))
   go_meet
   exact ⟨by rw [HGG.out]; simp, HB⟩
  | false =>
  cases g2 with
  | true =>
   as_aux_lemma =>
   go_wp2_with (first | (go_at_call 9; with_reducible refine (HG1.out _ (below_step HBw.out HB.out)).mono ?_; rintro e X1 ⟨rfl, hb⟩; replace HB := Asd.mk (below_step HB.out hb); clear hb; clear k0 k1; obtain ⟨k0, k1⟩ := cellB HB.out H7.out; clear HG1) | (go_at_call 10; with_reducible refine (HG2.out _ (below_step HBw.out HB.out)).mono ?_; rintro e X2 ⟨rfl, hb⟩; replace HB := Asd.mk (below_step HB.out hb); clear hb; clear k0 k1; obtain ⟨k0, k1⟩ := cellB HB.out H7.out; clear HG2))
   go_meet
   exact ⟨by rw [HGG.out]; simp, HB⟩
  | false =>
  cases g3 with
  | true =>
   as_aux_lemma =>
   go_wp2_with (first | (go_at_call 9; with_reducible refine (HG1.out _ (below_step HBw.out HB.out)).mono ?_; rintro e X1 ⟨rfl, hb⟩; replace HB := Asd.mk (below_step HB.out hb); clear hb; clear k0 k1; obtain ⟨k0, k1⟩ := cellB HB.out H7.out; clear HG1) | (go_at_call 10; with_reducible refine (HG2.out _ (below_step HBw.out HB.out)).mono ?_; rintro e X2 ⟨rfl, hb⟩; replace HB := Asd.mk (below_step HB.out hb); clear hb; clear k0 k1; obtain ⟨k0, k1⟩ := cellB HB.out H7.out; clear HG2) | (go_at_call 10; with_reducible refine (HG3.out _ (below_step HBw.out HB.out)).mono ?_; rintro e X3 ⟨rfl, hb⟩; replace HB := Asd.mk (below_step HB.out hb); clear hb; clear k0 k1; obtain ⟨k0, k1⟩ := cellB HB.out H7.out; clear HG3))
   go_meet
   exact ⟨by rw [HGG.out]; simp, HB⟩
  | false =>
  cases g4 with
  | true =>
   as_aux_lemma =>
   go_wp2_with (first | (go_at_call 9; with_reducible refine (HG1.out _ (below_step HBw.out HB.out)).mono ?_; rintro e X1 ⟨rfl, hb⟩; replace HB := Asd.mk (below_step HB.out hb); clear hb; clear k0 k1; obtain ⟨k0, k1⟩ := cellB HB.out H7.out; clear HG1) | (go_at_call 10; with_reducible refine (HG2.out _ (below_step HBw.out HB.out)).mono ?_; rintro e X2 ⟨rfl, hb⟩; replace HB := Asd.mk (below_step HB.out hb); clear hb; clear k0 k1; obtain ⟨k0, k1⟩ := cellB HB.out H7.out; clear HG2) | (go_at_call 10; with_reducible refine (HG3.out _ (below_step HBw.out HB.out)).mono ?_; rintro e X3 ⟨rfl, hb⟩; replace HB := Asd.mk (below_step HB.out hb); clear hb; clear k0 k1; obtain ⟨k0, k1⟩ := cellB HB.out H7.out; clear HG3) | (go_at_call 11; with_reducible refine (HG4.out _ (below_step HBw.out HB.out)).mono ?_; rintro e X4 ⟨rfl, hb⟩; replace HB := Asd.mk (below_step HB.out hb); clear hb; clear k0 k1; obtain ⟨k0, k1⟩ := cellB HB.out H7.out; clear HG4))
   go_meet
   exact ⟨by rw [HGG.out]; simp, HB⟩
  | false =>
  cases g5 with
  | true =>
   as_aux_lemma =>
   go_wp2_with (first | (go_at_call 9; with_reducible refine (HG1.out _ (below_step HBw.out HB.out)).mono ?_; rintro e X1 ⟨rfl, hb⟩; replace HB := Asd.mk (below_step HB.out hb); clear hb; clear k0 k1; obtain ⟨k0, k1⟩ := cellB HB.out H7.out; clear HG1) | (go_at_call 10; with_reducible refine (HG2.out _ (below_step HBw.out HB.out)).mono ?_; rintro e X2 ⟨rfl, hb⟩; replace HB := Asd.mk (below_step HB.out hb); clear hb; clear k0 k1; obtain ⟨k0, k1⟩ := cellB HB.out H7.out; clear HG2) | (go_at_call 10; with_reducible refine (HG3.out _ (below_step HBw.out HB.out)).mono ?_; rintro e X3 ⟨rfl, hb⟩; replace HB := Asd.mk (below_step HB.out hb); clear hb; clear k0 k1; obtain ⟨k0, k1⟩ := cellB HB.out H7.out; clear HG3) | (go_at_call 11; with_reducible refine (HG4.out _ (below_step HBw.out HB.out)).mono ?_; rintro e X4 ⟨rfl, hb⟩; replace HB := Asd.mk (below_step HB.out hb); clear hb; clear k0 k1; obtain ⟨k0, k1⟩ := cellB HB.out H7.out; clear HG4) | (go_at_call 12; with_reducible refine (HG5.out _ (below_step HBw.out HB.out)).mono ?_; rintro e X5 ⟨rfl, hb⟩; replace HB := Asd.mk (below_step HB.out hb); clear hb; clear k0 k1; obtain ⟨k0, k1⟩ := cellB HB.out H7.out; clear HG5))
   go_meet
   exact ⟨by rw [HGG.out]; simp, HB⟩
  | false =>
  by_cases hbig : (a0.size : Int) > 1000
  ·have t1 : decide ((a0.size : Int) > 1000) = true := decide_eq_true hbig
   have t2 : decide ((1000 : Int) < (a0.size : Int)) = true := decide_eq_true hbig
   have t3 : decide (1000 < a0.size) = true := decide_eq_true (by omega)
   go_wp2_with (first | (go_at_call 9; with_reducible refine (HG1.out _ (below_step HBw.out HB.out)).mono ?_; rintro e X1 ⟨rfl, hb⟩; replace HB := Asd.mk (below_step HB.out hb); clear hb; clear k0 k1; obtain ⟨k0, k1⟩ := cellB HB.out H7.out; clear HG1) | (go_at_call 10; with_reducible refine (HG2.out _ (below_step HBw.out HB.out)).mono ?_; rintro e X2 ⟨rfl, hb⟩; replace HB := Asd.mk (below_step HB.out hb); clear hb; clear k0 k1; obtain ⟨k0, k1⟩ := cellB HB.out H7.out; clear HG2) | (go_at_call 10; with_reducible refine (HG3.out _ (below_step HBw.out HB.out)).mono ?_; rintro e X3 ⟨rfl, hb⟩; replace HB := Asd.mk (below_step HB.out hb); clear hb; clear k0 k1; obtain ⟨k0, k1⟩ := cellB HB.out H7.out; clear HG3) | (go_at_call 11; with_reducible refine (HG4.out _ (below_step HBw.out HB.out)).mono ?_; rintro e X4 ⟨rfl, hb⟩; replace HB := Asd.mk (below_step HB.out hb); clear hb; clear k0 k1; obtain ⟨k0, k1⟩ := cellB HB.out H7.out; clear HG4) | (go_at_call 12; with_reducible refine (HG5.out _ (below_step HBw.out HB.out)).mono ?_; rintro e X5 ⟨rfl, hb⟩; replace HB := Asd.mk (below_step HB.out hb); clear hb; clear k0 k1; obtain ⟨k0, k1⟩ := cellB HB.out H7.out; clear HG5))
   go_meet
   exact ⟨by rw [HGG.out, t1]; simp, HB⟩
  ·have t1 : decide ((a0.size : Int) > 1000) = false := decide_eq_false hbig
   have t2 : decide ((1000 : Int) < (a0.size : Int)) = false := decide_eq_false hbig
   have t3 : decide (1000 < a0.size) = false := decide_eq_false (by omega)
   go_wp2_with (first | (go_at_call 9; with_reducible refine (HG1.out _ (below_step HBw.out HB.out)).mono ?_; rintro e X1 ⟨rfl, hb⟩; replace HB := Asd.mk (below_step HB.out hb); clear hb; clear k0 k1; obtain ⟨k0, k1⟩ := cellB HB.out H7.out; clear HG1) | (go_at_call 10; with_reducible refine (HG2.out _ (below_step HBw.out HB.out)).mono ?_; rintro e X2 ⟨rfl, hb⟩; replace HB := Asd.mk (below_step HB.out hb); clear hb; clear k0 k1; obtain ⟨k0, k1⟩ := cellB HB.out H7.out; clear HG2) | (go_at_call 10; with_reducible refine (HG3.out _ (below_step HBw.out HB.out)).mono ?_; rintro e X3 ⟨rfl, hb⟩; replace HB := Asd.mk (below_step HB.out hb); clear hb; clear k0 k1; obtain ⟨k0, k1⟩ := cellB HB.out H7.out; clear HG3) | (go_at_call 11; with_reducible refine (HG4.out _ (below_step HBw.out HB.out)).mono ?_; rintro e X4 ⟨rfl, hb⟩; replace HB := Asd.mk (below_step HB.out hb); clear hb; clear k0 k1; obtain ⟨k0, k1⟩ := cellB HB.out H7.out; clear HG4) | (go_at_call 12; with_reducible refine (HG5.out _ (below_step HBw.out HB.out)).mono ?_; rintro e X5 ⟨rfl, hb⟩; replace HB := Asd.mk (below_step HB.out hb); clear hb; clear k0 k1; obtain ⟨k0, k1⟩ := cellB HB.out H7.out; clear HG5))
   go_meet
   exact ⟨by rw [HGG.out, t1]; simp, HB⟩
 case rest =>
 as_aux_lemma =>
  clear HG1 HG2 HG3 HG4 HG5 HB
  obtain ⟨rfl, HB⟩ := hcut
  cases gg with
  | true =>
   as_aux_lemma =>
   go_wp2
   go_ret
   exact ⟨rfl, HBw.out.trans (HB.out.mono HBw.out.size)⟩
  | false =>
  obtain ⟨b1, b2, b3, b4, b5, b6⟩ : g1 = false /\ g2 = false /\ g3 = false /\ g4 = false /\ g5 = false /\ a0.size <= 1000 := by
   have h := HGG.out.symm
   simp only [Bool.or_eq_false_iff] at h
   refine ⟨h.1, h.2.1, h.2.2.1, h.2.2.2.1, h.2.2.2.2.1, ?_⟩
   have := of_decide_eq_false h.2.2.2.2.2
   omega
  have s1 := HS.out.1 b1
  have s2 := HS.out.2.1 b2
  have s3 := HS.out.2.2.1 b3
  have s4 := HS.out.2.2.2.1 b4
  have s5 := HS.out.2.2.2.2 b5
  clear b1 b2 b3 b4 b5 HGG HS
  obtain ⟨tb, is, hT⟩ : ∃ tb is, toldF a0 l1 = (tb, is) := ⟨_, _, rfl⟩
  obtain ⟨ab, in', hA⟩ : ∃ ab i, askF lw lh = (ab, i) := ⟨_, _, rfl⟩
  obtain ⟨pb, on, hP⟩ : ∃ pb i, pushF l3 = (pb, i) := ⟨_, _, rfl⟩
  have n1 : tb.length <= 66 := by have h := told_len a0 l1; rw [hT] at h; exact h
  have n2 : ab.length <= 1000 := by have h := ask_len lw lh; rw [hA] at h; exact h
  have n3 : pb.length <= 17 := by have h := push_len l3; rw [hP] at h; exact h
  have HCT := Asd.mk (fun W (h : Below W0.heap.size W0 W) => hello_Told.calls 4000000 a0 A1 c1 l1 _ _ W (Kd.C_below HL1.out (below_step HBw.out h)) HC1.out ((told_eq a0 l1 (by omega) (fun y hy => by have := s1.2 y hy; omega) (by omega)).trans (congrArg some hT)))
  have HCT' := Asd.mk (fun W (h : Below W0.heap.size W0 W) => q6_Told.calls 600000000 a0 A1 c1 l1 _ _ W (Kd.C_below HL1.out (below_step HBw.out h)) HC1.out ((rtold_eq a0 l1 (by omega) (by omega)).trans (congrArg some hT)))
  have HCA := Asd.mk (fun W (h : Below W0.heap.size W0 W) => hello_Ask.calls 4000000 Aw cw lw Ah ch lh _ _ W (Kd.C_below HLw.out (below_step HBw.out h)) HCw.out (Kd.C_below HLh.out (below_step HBw.out h)) HCh.out ((ask_eq lw lh (by omega) (fun y hy => by have := s2.2 y hy; omega) (fun y hy => by have := s3.2 y hy; omega) (fun y hy => by have := s2.2 y hy; omega) (fun y hy => by have := s3.2 y hy; omega)).trans (congrArg some hA)))
  have HCA' := Asd.mk (fun W (h : Below W0.heap.size W0 W) => q6_Ask.calls 4000000 Aw cw lw Ah ch lh _ _ W (Kd.C_below HLw.out (below_step HBw.out h)) HCw.out (Kd.C_below HLh.out (below_step HBw.out h)) HCh.out ((rask_eq lw lh (by omega) (by omega) (by omega) (by omega) (by omega)).trans (congrArg some hA)))
  have HCP := Asd.mk (fun W (h : Below W0.heap.size W0 W) => hello_Push.calls 4000000 A3 c3 l3 _ _ W (Kd.C_below HL3.out (below_step HBw.out h)) HC3.out ((push_eq l3 (by omega) (fun y hy => by have := s4.2 y hy; exact ⟨by omega, by omega, by omega⟩) (by omega)).trans (congrArg some hP)))
  have HCP' := Asd.mk (fun W (h : Below W0.heap.size W0 W) => q6_Push.calls 4000000 A3 c3 l3 _ _ W (Kd.C_below HL3.out (below_step HBw.out h)) HC3.out ((rpush_eq l3 (by omega) (by omega)).trans (congrArg some hP)))
  have S1 := Asd.mk (sameL_eq tb (by omega) (k := 100000) (by omega))
  have S2 := Asd.mk (sameL_eq ab (by omega) (k := 100000) (by omega))
  have S3 := Asd.mk (sameL_eq pb (by omega) (k := 100000) (by omega))
  obtain ⟨hh, hq, bh, z1, f1, f1'⟩ := heard_same l4 (by omega) (fun y hy => by have := s5.2 y hy; omega) (k1 := 6000000) (k2 := 600000000) (by omega) (by omega)
  obtain ⟨xw, xh, ba, ⟨z2, z3⟩, f2, f2'⟩ := asked_same l4 (by omega) (fun y hy => by have := s5.2 y hy; omega) (k1 := 6000000) (k2 := 600000000) (by omega) (by omega)
  obtain ⟨ys, bp, z4, f3, f3'⟩ := pushed_same l4 (by omega) (fun y hy => by have := s5.2 y hy; omega) (k1 := 6000000) (k2 := 600000000) (by omega) (by omega)
  have T1 := Asd.mk (sameR_eq hq (by omega) (k := 1000000000) (by omega))
  have T2 := Asd.mk (sameT_eq xw (by omega) (k := 1000000000) (by omega))
  have T3 := Asd.mk (sameT_eq xh (by omega) (k := 1000000000) (by omega))
  have T4 := Asd.mk (sameU_eq ys (by omega) (k := 1000000000) (by omega))
  have HCL := Asd.mk (fun W (h : Below W0.heap.size W0 W) => Kd.C_below HL4.out (below_step HBw.out h))
  have F1 := Asd.mk f1
  have F1' := Asd.mk f1'
  have F2 := Asd.mk f2
  have F2' := Asd.mk f2'
  have F3 := Asd.mk f3
  have F3' := Asd.mk f3'
  clear s1 s2 s3 s4 s5 hT hA hP b6 n1 n2 n3 f1 f1' f2 f2' f3 f3' z1 z2 z3 z4
  go_upto_region 5 with (go_at_call 13; with_reducible refine (HCT.out _ HB.out).mono ?_; rintro e X1 ⟨v1, rfl, ho, hb⟩; obtain ⟨At, cAt, rfl⟩ := Kd.R_slice ho; have HAt := Asd.mk (Kd.R_reads' ho).2.2; have HAtc := Asd.mk (Kd.R_reads' ho).2.1; replace HB := Asd.mk (below_step HB.out hb); clear ho hb HCT)
  go_upto_region 6 with (go_at_call 14; with_reducible refine (HCT'.out _ HB.out).mono ?_; rintro e X2 ⟨v1, rfl, ho, hb⟩; replace HAt := Asd.mk (Kd.C_below HAt.out hb); obtain ⟨Ar, cAr, rfl⟩ := Kd.R_slice ho; have HAr := Asd.mk (Kd.R_reads' ho).2.2; have HArc := Asd.mk (Kd.R_reads' ho).2.1; replace HB := Asd.mk (below_step HB.out hb); clear ho hb HCT')
  obtain ⟨k0, k1⟩ := cellB HB.out H7.out
  go_upto_region 7 with (go_at_call 15; with_reducible refine (HCA.out _ HB.out).mono ?_; rintro e X3 ⟨v1, rfl, ho, hb⟩; replace HAt := Asd.mk (Kd.C_below HAt.out hb); replace HAr := Asd.mk (Kd.C_below HAr.out hb); obtain ⟨Aa, cAa, rfl⟩ := Kd.R_slice ho; have HAa := Asd.mk (Kd.R_reads' ho).2.2; have HAac := Asd.mk (Kd.R_reads' ho).2.1; replace HB := Asd.mk (below_step HB.out hb); clear ho hb HCA)
  clear k0 k1
  obtain ⟨k0, k1⟩ := cellB HB.out H7.out
  go_upto_region 8 with (go_at_call 16; with_reducible refine (HCA'.out _ HB.out).mono ?_; rintro e X4 ⟨v1, rfl, ho, hb⟩; replace HAt := Asd.mk (Kd.C_below HAt.out hb); replace HAr := Asd.mk (Kd.C_below HAr.out hb); replace HAa := Asd.mk (Kd.C_below HAa.out hb); obtain ⟨Ab, cAb, rfl⟩ := Kd.R_slice ho; have HAb := Asd.mk (Kd.R_reads' ho).2.2; have HAbc := Asd.mk (Kd.R_reads' ho).2.1; replace HB := Asd.mk (below_step HB.out hb); clear ho hb HCA')
  clear k0 k1
  go_upto_region 9 with (go_at_call 17; with_reducible refine (HCP.out _ HB.out).mono ?_; rintro e X5 ⟨v1, rfl, ho, hb⟩; replace HAt := Asd.mk (Kd.C_below HAt.out hb); replace HAr := Asd.mk (Kd.C_below HAr.out hb); replace HAa := Asd.mk (Kd.C_below HAa.out hb); replace HAb := Asd.mk (Kd.C_below HAb.out hb); obtain ⟨Ap, cAp, rfl⟩ := Kd.R_slice ho; have HAp := Asd.mk (Kd.R_reads' ho).2.2; have HApc := Asd.mk (Kd.R_reads' ho).2.1; replace HB := Asd.mk (below_step HB.out hb); clear ho hb HCP)
  go_upto_region 10 with (go_at_call 18; with_reducible refine (HCP'.out _ HB.out).mono ?_; rintro e X6 ⟨v1, rfl, ho, hb⟩; replace HAt := Asd.mk (Kd.C_below HAt.out hb); replace HAr := Asd.mk (Kd.C_below HAr.out hb); replace HAa := Asd.mk (Kd.C_below HAa.out hb); replace HAb := Asd.mk (Kd.C_below HAb.out hb); replace HAp := Asd.mk (Kd.C_below HAp.out hb); obtain ⟨Aq, cAq, rfl⟩ := Kd.R_slice ho; have HAq := Asd.mk (Kd.R_reads' ho).2.2; have HAqc := Asd.mk (Kd.R_reads' ho).2.1; replace HB := Asd.mk (below_step HB.out hb); clear ho hb HCP')
  have e1 : (is != is) = false := by cases is <;> rfl
  have e2 : (in' != in') = false := by cases in' <;> rfl
  have e3 : (on != on) = false := by cases on <;> rfl
  go_upto_if 127 with (first | (go_at_call 19; with_reducible refine (q5_Same.calls 100000 At cAt tb Ar cAr tb true _ HAt.out HAtc.out HAr.out HArc.out S1.out).mono ?_; rintro e X7 ⟨rfl, hd⟩; have hb := hd.below; clear hd; replace HB := Asd.mk (below_step HB.out hb); replace HAt := Asd.mk (Kd.C_below HAt.out hb); replace HAr := Asd.mk (Kd.C_below HAr.out hb); replace HAa := Asd.mk (Kd.C_below HAa.out hb); replace HAb := Asd.mk (Kd.C_below HAb.out hb); replace HAp := Asd.mk (Kd.C_below HAp.out hb); replace HAq := Asd.mk (Kd.C_below HAq.out hb); clear hb) | (go_at_call 19; with_reducible refine (q5_Same.calls 100000 Aa cAa ab Ab cAb ab true _ HAa.out HAac.out HAb.out HAbc.out S2.out).mono ?_; rintro e X8 ⟨rfl, hd⟩; have hb := hd.below; clear hd; replace HB := Asd.mk (below_step HB.out hb); replace HAt := Asd.mk (Kd.C_below HAt.out hb); replace HAr := Asd.mk (Kd.C_below HAr.out hb); replace HAa := Asd.mk (Kd.C_below HAa.out hb); replace HAb := Asd.mk (Kd.C_below HAb.out hb); replace HAp := Asd.mk (Kd.C_below HAp.out hb); replace HAq := Asd.mk (Kd.C_below HAq.out hb); clear hb) | (go_at_call 19; with_reducible refine (q5_Same.calls 100000 Ap cAp pb Aq cAq pb true _ HAp.out HApc.out HAq.out HAqc.out S3.out).mono ?_; rintro e X9 ⟨rfl, hd⟩; have hb := hd.below; clear hd; replace HB := Asd.mk (below_step HB.out hb); replace HAt := Asd.mk (Kd.C_below HAt.out hb); replace HAr := Asd.mk (Kd.C_below HAr.out hb); replace HAa := Asd.mk (Kd.C_below HAa.out hb); replace HAb := Asd.mk (Kd.C_below HAb.out hb); replace HAp := Asd.mk (Kd.C_below HAp.out hb); replace HAq := Asd.mk (Kd.C_below HAq.out hb); clear hb))
  clear e1 e2 e3 S1 S2 S3 HAt HAtc HAr HArc HAa HAac HAb HAbc HAp HApc HAq HAqc
  go_upto_region 13 with (go_at_call 20; with_reducible refine (hello_Heard.calls 6000000 A4 c4 l4 _ _ _ _ (HCL.out _ HB.out) HC4.out F1.out).mono ?_; rintro e Y1 ⟨v1, rfl, ho, hb⟩; obtain ⟨Ak, cAk, rfl⟩ := Kd.R_slice ho; have HAk := Asd.mk (Kd.R_reads' ho).2.2; have HAkc := Asd.mk (Kd.R_reads' ho).2.1; replace HB := Asd.mk (below_step HB.out hb); clear ho hb F1)
  go_upto_region 14 with (go_at_call 21; with_reducible refine (q6_Heard.calls 600000000 A4 c4 l4 _ _ _ _ (HCL.out _ HB.out) HC4.out F1'.out).mono ?_; rintro e Y2 ⟨v1, rfl, ho, hb⟩; replace HAk := Asd.mk (Kd.C_below HAk.out hb); obtain ⟨Al, cAl, rfl⟩ := Kd.R_slice ho; have HAl := Asd.mk (Kd.R_reads' ho).2.2; have HAlc := Asd.mk (Kd.R_reads' ho).2.1; replace HB := Asd.mk (below_step HB.out hb); clear ho hb F1')
  go_upto_region 15 with (go_at_call 22; with_reducible refine (hello_Asked.calls 6000000 A4 c4 l4 _ _ _ _ (HCL.out _ HB.out) HC4.out F2.out).mono ?_; rintro e Y3 ⟨v1, v2, rfl, ho, ho', hb⟩; replace HAk := Asd.mk (Kd.C_below HAk.out hb); replace HAl := Asd.mk (Kd.C_below HAl.out hb); obtain ⟨Ax, cAx, rfl⟩ := Kd.R_slice ho; have HAx := Asd.mk (Kd.R_reads' ho).2.2; have HAxc := Asd.mk (Kd.R_reads' ho).2.1; obtain ⟨Ay, cAy, rfl⟩ := Kd.R_slice ho'; have HAy := Asd.mk (Kd.R_reads' ho').2.2; have HAyc := Asd.mk (Kd.R_reads' ho').2.1; replace HB := Asd.mk (below_step HB.out hb); clear ho ho' hb F2)
  generalize hW : World.alloc _ _ = Z3
  have HX1 := Asd.mk (show Z3.heap[Y3.heap.size]? = some (.cells #[.slice Ax xw.length cAx, .slice Ay xh.length cAy] 25 (0, 0)) from by rw [<- hW]; exact heap_alloc_new _ _)
  have hb : Below Y3.heap.size Y3 Z3 := by rw [<- hW]; exact bal (Below.refl _ _) _
  replace HAk := Asd.mk (Kd.C_below HAk.out hb); replace HAl := Asd.mk (Kd.C_below HAl.out hb); replace HAx := Asd.mk (Kd.C_below HAx.out hb); replace HAy := Asd.mk (Kd.C_below HAy.out hb)
  replace HB := Asd.mk (below_step HB.out hb)
  clear hW hb
  generalize Y3.heap.size = bx at HX1 ⊢
  go_upto_region 16 with (go_at_call 23; with_reducible refine (q6_Asked.calls 600000000 A4 c4 l4 _ _ _ _ (HCL.out _ HB.out) HC4.out F2'.out).mono ?_; rintro e Y4 ⟨v1, v2, rfl, ho, ho', hb⟩; replace HAk := Asd.mk (Kd.C_below HAk.out hb); replace HAl := Asd.mk (Kd.C_below HAl.out hb); replace HAx := Asd.mk (Kd.C_below HAx.out hb); replace HAy := Asd.mk (Kd.C_below HAy.out hb); replace HX1 := Asd.mk (below_box hb HX1.out); obtain ⟨Bx, cBx, rfl⟩ := Kd.R_slice ho; have HBx := Asd.mk (Kd.R_reads' ho).2.2; have HBxc := Asd.mk (Kd.R_reads' ho).2.1; obtain ⟨By, cBy, rfl⟩ := Kd.R_slice ho'; have HBy := Asd.mk (Kd.R_reads' ho').2.2; have HByc := Asd.mk (Kd.R_reads' ho').2.1; replace HB := Asd.mk (below_step HB.out hb); clear ho ho' hb F2')
  generalize hW : World.alloc _ _ = Z4
  have HX2 := Asd.mk (show Z4.heap[Y4.heap.size]? = some (.cells #[.slice Bx xw.length cBx, .slice By xh.length cBy] 25 (0, 0)) from by rw [<- hW]; exact heap_alloc_new _ _)
  have hb : Below Y4.heap.size Y4 Z4 := by rw [<- hW]; exact bal (Below.refl _ _) _
  replace HAk := Asd.mk (Kd.C_below HAk.out hb); replace HAl := Asd.mk (Kd.C_below HAl.out hb); replace HAx := Asd.mk (Kd.C_below HAx.out hb); replace HAy := Asd.mk (Kd.C_below HAy.out hb); replace HBx := Asd.mk (Kd.C_below HBx.out hb); replace HBy := Asd.mk (Kd.C_below HBy.out hb); replace HX1 := Asd.mk (below_box hb HX1.out)
  replace HB := Asd.mk (below_step HB.out hb)
  clear hW hb
  generalize Y4.heap.size = by_ at HX2 ⊢
  go_upto_region 17 with (go_at_call 24; with_reducible refine (hello_Pushed.calls 6000000 A4 c4 l4 _ _ _ (HCL.out _ HB.out) HC4.out F3.out).mono ?_; rintro e Y5 ⟨v1, rfl, ho, hb⟩; replace HAk := Asd.mk (Kd.C_below HAk.out hb); replace HAl := Asd.mk (Kd.C_below HAl.out hb); replace HAx := Asd.mk (Kd.C_below HAx.out hb); replace HAy := Asd.mk (Kd.C_below HAy.out hb); replace HBx := Asd.mk (Kd.C_below HBx.out hb); replace HBy := Asd.mk (Kd.C_below HBy.out hb); replace HX1 := Asd.mk (below_box hb HX1.out); replace HX2 := Asd.mk (below_box hb HX2.out); obtain ⟨Au, cAu, rfl⟩ := Kd.R_slice ho; have HAu := Asd.mk (Kd.R_reads' ho).2.2; have HAuc := Asd.mk (Kd.R_reads' ho).2.1; replace HB := Asd.mk (below_step HB.out hb); clear ho hb F3)
  go_upto_region 18 with (go_at_call 25; with_reducible refine (q6_Pushed.calls 600000000 A4 c4 l4 _ _ _ (HCL.out _ HB.out) HC4.out F3'.out).mono ?_; rintro e Y6 ⟨v1, rfl, ho, hb⟩; replace HAk := Asd.mk (Kd.C_below HAk.out hb); replace HAl := Asd.mk (Kd.C_below HAl.out hb); replace HAx := Asd.mk (Kd.C_below HAx.out hb); replace HAy := Asd.mk (Kd.C_below HAy.out hb); replace HBx := Asd.mk (Kd.C_below HBx.out hb); replace HBy := Asd.mk (Kd.C_below HBy.out hb); replace HAu := Asd.mk (Kd.C_below HAu.out hb); replace HX1 := Asd.mk (below_box hb HX1.out); replace HX2 := Asd.mk (below_box hb HX2.out); obtain ⟨Av, cAv, rfl⟩ := Kd.R_slice ho; have HAv := Asd.mk (Kd.R_reads' ho).2.2; have HAvc := Asd.mk (Kd.R_reads' ho).2.1; replace HB := Asd.mk (below_step HB.out hb); clear ho hb F3')
  have HZ := Asd.mk (show Below W0.heap.size W0 Y6 from HB.out)
  replace HB := Asd.mk (Below.refl Y6.heap.size Y6)
  obtain ⟨m0, m1⟩ := cellB HB.out HX1.out
  obtain ⟨o0, o1⟩ := cellB HB.out HX2.out
  go_wp2_with (first | (go_at_call 26; with_reducible refine (q9_Same.calls 1000000000 Ak cAk hq Al cAl hq true _ (Kd.C_below HAk.out HB.out) HAkc.out (Kd.C_below HAl.out HB.out) HAlc.out T1.out).mono ?_; rintro e V1 ⟨rfl, hd⟩; replace HB := Asd.mk (below_step HB.out hd.below); clear hd m0 m1 o0 o1; obtain ⟨m0, m1⟩ := cellB HB.out HX1.out; obtain ⟨o0, o1⟩ := cellB HB.out HX2.out) | (go_at_call 27; with_reducible refine (q4_SameTexts.calls 1000000000 Ax cAx xw Bx cBx xw true _ (Kd.C_below HAx.out HB.out) HAxc.out (Kd.C_below HBx.out HB.out) HBxc.out T2.out).mono ?_; rintro e V2 ⟨rfl, hd⟩; replace HB := Asd.mk (below_step HB.out hd.below); clear hd m0 m1 o0 o1; obtain ⟨m0, m1⟩ := cellB HB.out HX1.out; obtain ⟨o0, o1⟩ := cellB HB.out HX2.out) | (go_at_call 27; with_reducible refine (q4_SameTexts.calls 1000000000 Ay cAy xh By cBy xh true _ (Kd.C_below HAy.out HB.out) HAyc.out (Kd.C_below HBy.out HB.out) HByc.out T3.out).mono ?_; rintro e V3 ⟨rfl, hd⟩; replace HB := Asd.mk (below_step HB.out hd.below); clear hd m0 m1 o0 o1; obtain ⟨m0, m1⟩ := cellB HB.out HX1.out; obtain ⟨o0, o1⟩ := cellB HB.out HX2.out) | (go_at_call 28; with_reducible refine (q6_SameUpdates.calls 1000000000 Au cAu ys Av cAv ys true _ (Kd.C_below HAu.out HB.out) HAuc.out (Kd.C_below HAv.out HB.out) HAvc.out T4.out).mono ?_; rintro e V4 ⟨rfl, hd⟩; replace HB := Asd.mk (below_step HB.out hd.below); clear hd m0 m1 o0 o1; obtain ⟨m0, m1⟩ := cellB HB.out HX1.out; obtain ⟨o0, o1⟩ := cellB HB.out HX2.out))
  go_ret
  exact ⟨rfl, HBw.out.trans ((HZ.out.trans (HB.out.mono HZ.out.size)).mono HBw.out.size)⟩
end Go.Proofs.YtmmionafcmnfoaaDoor.Hello
