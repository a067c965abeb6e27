/- The calls of HelloBack answer true, whatever they are handed. -/
import Derived.Test.YtmmionafcmnfoaaDoorHead
import Derived.Test.YtmmionafcmnfoaaDoorGreat
import Derived.Test.YtmmionafcmnfoaaDoorSame
import Derived.Deep.CutRange
import Derived.Deep.DeepCutAuto
namespace Go.Proofs.YtmmionafcmnfoaaDoor.Hello
open Go.RowKit Go.Proofs.YtmmionafcmnfoaaDoorW.PrintWords Go.Proofs.YtmmionafcmnfoaaDoorW.PrintLast Go.Proofs.YtmmionafcmnfoaaDoorW.PrintMore Go.Proofs.YtmmionafcmnfoaaDoor.Conv Go.Proofs.YtmmionafcmnfoaaDoor.Print
set_option linter.unusedVariables false
set_option linter.unusedSimpArgs false
theorem okU_small {y : Up} (h : okU y = true) : smallU y := by
  unfold okU at h
  simp only [Bool.and_eq_true] at h
  have h0 := named_size h.1
  have h1 := mayF_size h.2.1
  have h2 := mayF_size h.2.2.1
  exact ⟨by omega, by omega, by omega⟩
theorem cellB {B W : World} {b : Nat} {x y : Value} {t : TypeId} (h : Below B.heap.size B W) (hb : B.heap[b]? = some (.cells #[x, y] t (0, 0))) : W.cell? ⟨b, 0, none⟩ = some x ∧ W.cell? ⟨b, 1, none⟩ = some y := by
  have hl : b < B.heap.size := (Array.getElem?_eq_some_iff.1 hb).1
  have := (h.block b hl).trans hb
  exact ⟨by rw [cell_of_row _ b 0 _ _ _ this]; rfl, by rw [cell_of_row _ b 1 _ _ _ this]; rfl⟩
set_option maxRecDepth 100000 in
set_option maxHeartbeats 8000000 in
theorem HelloBack_core {w : World} (a0 : ByteArray) (hz : a0.size ≤ maxLen) (A1 : Option Addr) (c1 : Nat) (l1 : List Rf) (hr1 : Kd.C k63 w A1 l1.length l1) (hc1 : l1.length ≤ c1) (hm1 : l1.length ≤ maxLen)
    (Aw : Option Addr) (cw : Nat) (lw : List ByteArray) (hrw : Kd.C Kd.string w Aw lw.length lw) (hcw : lw.length ≤ cw) (hmw : lw.length ≤ maxLen)
    (Ah : Option Addr) (ch : Nat) (lh : List ByteArray) (hrh : Kd.C Kd.string w Ah lh.length lh) (hch : lh.length ≤ ch) (hmh : lh.length ≤ maxLen)
    (A3 : Option Addr) (c3 : Nat) (l3 : List Up) (hr3 : Kd.C k65 w A3 l3.length l3) (hc3 : l3.length ≤ c3) (hm3 : l3.length ≤ maxLen)
    (A4 : Option Addr) (c4 : Nat) (l4 : List Ln) (hr4 : Kd.C k49 w A4 l4.length l4) (hc4 : l4.length ≤ c4) (hm4 : l4.length ≤ maxLen) :
    Calls Tryd.prog 4 #[.string a0, .slice A1 l1.length c1, .agg #[.slice Aw lw.length cw, .slice Ah lh.length ch], .slice A3 l3.length c3, .slice A4 l4.length c4] w fun e w' => e = .returned (.bool true) ∧ Below w.heap.size w w' := by
  obtain ⟨g1, hg1, hs1⟩ := greatR_eq l1 (by simp only [maxLen] at hm1; omega) (k := 100000) (by omega)
  obtain ⟨g2, hg2, hs2⟩ := greatT_eq lw (by simp only [maxLen] at hmw; omega) (k := 100000) (by omega)
  obtain ⟨g3, hg3, hs3⟩ := greatT_eq lh (by simp only [maxLen] at hmh; omega) (k := 100000) (by omega)
  obtain ⟨g4, hg4, hs4⟩ := greatU_eq l3 (by simp only [maxLen] at hm3; omega) (k := 100000) (by omega)
  obtain ⟨g5, hg5, hs5⟩ := greatL_eq l4 (by simp only [maxLen] at hm4; omega) (k := 100000) (by omega)
  have HL1 := Aside0.mk hr1
  have HLw := Aside0.mk hrw
  have HLh := Aside0.mk hrh
  have HL3 := Aside0.mk hr3
  have HL4 := Aside0.mk hr4
  have HS := Aside0.mk (And.intro hs1 (And.intro hs2 (And.intro hs3 (And.intro hs4 hs5))))
  have HG1 := Aside0.mk (fun W (h : Below w.heap.size w W) => sacristylaw09_Great.calls 100000 A1 c1 l1 g1 W (Kd.C_below HL1.out h) hc1 hg1)
  have HG2 := Aside0.mk (fun W (h : Below w.heap.size w W) => sacristylaw05_GreatTexts.calls 100000 Aw cw lw g2 W (Kd.C_below HLw.out h) hcw hg2)
  have HG3 := Aside0.mk (fun W (h : Below w.heap.size w W) => sacristylaw05_GreatTexts.calls 100000 Ah ch lh g3 W (Kd.C_below HLh.out h) hch hg3)
  have HG4 := Aside0.mk (fun W (h : Below w.heap.size w W) => sacristylaw09_GreatUpdates.calls 100000 A3 c3 l3 g4 W (Kd.C_below HL3.out h) hc3 hg4)
  have HG5 := Aside0.mk (fun W (h : Below w.heap.size w W) => sacristylaw15_Great.calls 100000 A4 c4 l4 g5 W (Kd.C_below HL4.out h) hc4 hg5)
  have HC1 := Aside0.mk hc1
  have HCw := Aside0.mk hcw
  have HCh := Aside0.mk hch
  have HC3 := Aside0.mk hc3
  have HC4 := Aside0.mk hc4
  clear hs1 hs2 hs3 hs4 hs5 hg1 hg2 hg3 hg4 hg5 hr1 hrw hrh hr3 hr4 hc1 hcw hch hc3 hc4 hm1 hmw hmh hm3 hm4 hz
  go_enter Tryd.func4, Tryd.ntmps4
  go_upto_region 1 with (fail)
  generalize hW0 : World.alloc _ _ = W0
  have H7 := Aside0.mk (show W0.heap[w.heap.size]? = some (.cells #[.slice Aw lw.length cw, .slice Ah lh.length ch] 25 (0, 0)) from by rw [← hW0]; exact heap_alloc_new _ _)
  have HBw := Aside0.mk (show Below w.heap.size w W0 from by rw [← hW0]; exact below_alloc (Below.refl _ _) _)
  clear hW0
  generalize w.heap.size = b7 at H7 ⊢
  have HB := Aside0.mk (Below.refl W0.heap.size W0)
  go_upto_region 2 with (go_at_call 8; with_reducible refine (head_calls _).mono ?_; rintro e W1 ⟨rfl, hb⟩; replace HB := Aside0.mk (below_step HB.out hb); clear hb)
  obtain ⟨gg, hgg⟩ : ∃ gg, gg = (g1 || (g2 || (g3 || (g4 || (g5 || decide ((a0.size : Int) > 1000)))))) := ⟨_, rfl⟩
  have HGG := Aside0.mk hgg
  clear hgg
  go_cut [63] (fun v63 wc => v63 = .bool gg ∧ Aside0 (Below W0.heap.size W0 wc))
  case first =>
    as_aux_lemma =>
    obtain ⟨k0, k1⟩ := cellB HB.out H7.out
    cases g1 with
    | true =>
      as_aux_lemma =>
      go_wp2_with (first | (go_at_call 9; with_reducible refine (HG1.out _ (below_step HBw.out HB.out)).mono ?_; rintro e X1 ⟨rfl, hb⟩; replace HB := Aside0.mk (below_step HB.out hb); clear hb; clear k0 k1; obtain ⟨k0, k1⟩ := cellB HB.out H7.out; clear HG1))
      go_meet
      exact ⟨by rw [HGG.out]; simp, HB⟩
    | false =>
    cases g2 with
    | true =>
      as_aux_lemma =>
      go_wp2_with (first | (go_at_call 9; with_reducible refine (HG1.out _ (below_step HBw.out HB.out)).mono ?_; rintro e X1 ⟨rfl, hb⟩; replace HB := Aside0.mk (below_step HB.out hb); clear hb; clear k0 k1; obtain ⟨k0, k1⟩ := cellB HB.out H7.out; clear HG1) | (go_at_call 10; with_reducible refine (HG2.out _ (below_step HBw.out HB.out)).mono ?_; rintro e X2 ⟨rfl, hb⟩; replace HB := Aside0.mk (below_step HB.out hb); clear hb; clear k0 k1; obtain ⟨k0, k1⟩ := cellB HB.out H7.out; clear HG2))
      go_meet
      exact ⟨by rw [HGG.out]; simp, HB⟩
    | false =>
    cases g3 with
    | true =>
      as_aux_lemma =>
      go_wp2_with (first | (go_at_call 9; with_reducible refine (HG1.out _ (below_step HBw.out HB.out)).mono ?_; rintro e X1 ⟨rfl, hb⟩; replace HB := Aside0.mk (below_step HB.out hb); clear hb; clear k0 k1; obtain ⟨k0, k1⟩ := cellB HB.out H7.out; clear HG1) | (go_at_call 10; with_reducible refine (HG2.out _ (below_step HBw.out HB.out)).mono ?_; rintro e X2 ⟨rfl, hb⟩; replace HB := Aside0.mk (below_step HB.out hb); clear hb; clear k0 k1; obtain ⟨k0, k1⟩ := cellB HB.out H7.out; clear HG2) | (go_at_call 10; with_reducible refine (HG3.out _ (below_step HBw.out HB.out)).mono ?_; rintro e X3 ⟨rfl, hb⟩; replace HB := Aside0.mk (below_step HB.out hb); clear hb; clear k0 k1; obtain ⟨k0, k1⟩ := cellB HB.out H7.out; clear HG3))
      go_meet
      exact ⟨by rw [HGG.out]; simp, HB⟩
    | false =>
    cases g4 with
    | true =>
      as_aux_lemma =>
      go_wp2_with (first | (go_at_call 9; with_reducible refine (HG1.out _ (below_step HBw.out HB.out)).mono ?_; rintro e X1 ⟨rfl, hb⟩; replace HB := Aside0.mk (below_step HB.out hb); clear hb; clear k0 k1; obtain ⟨k0, k1⟩ := cellB HB.out H7.out; clear HG1) | (go_at_call 10; with_reducible refine (HG2.out _ (below_step HBw.out HB.out)).mono ?_; rintro e X2 ⟨rfl, hb⟩; replace HB := Aside0.mk (below_step HB.out hb); clear hb; clear k0 k1; obtain ⟨k0, k1⟩ := cellB HB.out H7.out; clear HG2) | (go_at_call 10; with_reducible refine (HG3.out _ (below_step HBw.out HB.out)).mono ?_; rintro e X3 ⟨rfl, hb⟩; replace HB := Aside0.mk (below_step HB.out hb); clear hb; clear k0 k1; obtain ⟨k0, k1⟩ := cellB HB.out H7.out; clear HG3) | (go_at_call 11; with_reducible refine (HG4.out _ (below_step HBw.out HB.out)).mono ?_; rintro e X4 ⟨rfl, hb⟩; replace HB := Aside0.mk (below_step HB.out hb); clear hb; clear k0 k1; obtain ⟨k0, k1⟩ := cellB HB.out H7.out; clear HG4))
      go_meet
      exact ⟨by rw [HGG.out]; simp, HB⟩
    | false =>
    cases g5 with
    | true =>
      as_aux_lemma =>
      go_wp2_with (first | (go_at_call 9; with_reducible refine (HG1.out _ (below_step HBw.out HB.out)).mono ?_; rintro e X1 ⟨rfl, hb⟩; replace HB := Aside0.mk (below_step HB.out hb); clear hb; clear k0 k1; obtain ⟨k0, k1⟩ := cellB HB.out H7.out; clear HG1) | (go_at_call 10; with_reducible refine (HG2.out _ (below_step HBw.out HB.out)).mono ?_; rintro e X2 ⟨rfl, hb⟩; replace HB := Aside0.mk (below_step HB.out hb); clear hb; clear k0 k1; obtain ⟨k0, k1⟩ := cellB HB.out H7.out; clear HG2) | (go_at_call 10; with_reducible refine (HG3.out _ (below_step HBw.out HB.out)).mono ?_; rintro e X3 ⟨rfl, hb⟩; replace HB := Aside0.mk (below_step HB.out hb); clear hb; clear k0 k1; obtain ⟨k0, k1⟩ := cellB HB.out H7.out; clear HG3) | (go_at_call 11; with_reducible refine (HG4.out _ (below_step HBw.out HB.out)).mono ?_; rintro e X4 ⟨rfl, hb⟩; replace HB := Aside0.mk (below_step HB.out hb); clear hb; clear k0 k1; obtain ⟨k0, k1⟩ := cellB HB.out H7.out; clear HG4) | (go_at_call 12; with_reducible refine (HG5.out _ (below_step HBw.out HB.out)).mono ?_; rintro e X5 ⟨rfl, hb⟩; replace HB := Aside0.mk (below_step HB.out hb); clear hb; clear k0 k1; obtain ⟨k0, k1⟩ := cellB HB.out H7.out; clear HG5))
      go_meet
      exact ⟨by rw [HGG.out]; simp, HB⟩
    | false =>
    by_cases hbig : (a0.size : Int) > 1000
    · have t1 : decide ((a0.size : Int) > 1000) = true := decide_eq_true hbig
      have t2 : decide ((1000 : Int) < (a0.size : Int)) = true := decide_eq_true hbig
      have t3 : decide (1000 < a0.size) = true := decide_eq_true (by omega)
      go_wp2_with (first | (go_at_call 9; with_reducible refine (HG1.out _ (below_step HBw.out HB.out)).mono ?_; rintro e X1 ⟨rfl, hb⟩; replace HB := Aside0.mk (below_step HB.out hb); clear hb; clear k0 k1; obtain ⟨k0, k1⟩ := cellB HB.out H7.out; clear HG1) | (go_at_call 10; with_reducible refine (HG2.out _ (below_step HBw.out HB.out)).mono ?_; rintro e X2 ⟨rfl, hb⟩; replace HB := Aside0.mk (below_step HB.out hb); clear hb; clear k0 k1; obtain ⟨k0, k1⟩ := cellB HB.out H7.out; clear HG2) | (go_at_call 10; with_reducible refine (HG3.out _ (below_step HBw.out HB.out)).mono ?_; rintro e X3 ⟨rfl, hb⟩; replace HB := Aside0.mk (below_step HB.out hb); clear hb; clear k0 k1; obtain ⟨k0, k1⟩ := cellB HB.out H7.out; clear HG3) | (go_at_call 11; with_reducible refine (HG4.out _ (below_step HBw.out HB.out)).mono ?_; rintro e X4 ⟨rfl, hb⟩; replace HB := Aside0.mk (below_step HB.out hb); clear hb; clear k0 k1; obtain ⟨k0, k1⟩ := cellB HB.out H7.out; clear HG4) | (go_at_call 12; with_reducible refine (HG5.out _ (below_step HBw.out HB.out)).mono ?_; rintro e X5 ⟨rfl, hb⟩; replace HB := Aside0.mk (below_step HB.out hb); clear hb; clear k0 k1; obtain ⟨k0, k1⟩ := cellB HB.out H7.out; clear HG5))
      go_meet
      exact ⟨by rw [HGG.out, t1]; simp, HB⟩
    · have t1 : decide ((a0.size : Int) > 1000) = false := decide_eq_false hbig
      have t2 : decide ((1000 : Int) < (a0.size : Int)) = false := decide_eq_false hbig
      have t3 : decide (1000 < a0.size) = false := decide_eq_false (by omega)
      go_wp2_with (first | (go_at_call 9; with_reducible refine (HG1.out _ (below_step HBw.out HB.out)).mono ?_; rintro e X1 ⟨rfl, hb⟩; replace HB := Aside0.mk (below_step HB.out hb); clear hb; clear k0 k1; obtain ⟨k0, k1⟩ := cellB HB.out H7.out; clear HG1) | (go_at_call 10; with_reducible refine (HG2.out _ (below_step HBw.out HB.out)).mono ?_; rintro e X2 ⟨rfl, hb⟩; replace HB := Aside0.mk (below_step HB.out hb); clear hb; clear k0 k1; obtain ⟨k0, k1⟩ := cellB HB.out H7.out; clear HG2) | (go_at_call 10; with_reducible refine (HG3.out _ (below_step HBw.out HB.out)).mono ?_; rintro e X3 ⟨rfl, hb⟩; replace HB := Aside0.mk (below_step HB.out hb); clear hb; clear k0 k1; obtain ⟨k0, k1⟩ := cellB HB.out H7.out; clear HG3) | (go_at_call 11; with_reducible refine (HG4.out _ (below_step HBw.out HB.out)).mono ?_; rintro e X4 ⟨rfl, hb⟩; replace HB := Aside0.mk (below_step HB.out hb); clear hb; clear k0 k1; obtain ⟨k0, k1⟩ := cellB HB.out H7.out; clear HG4) | (go_at_call 12; with_reducible refine (HG5.out _ (below_step HBw.out HB.out)).mono ?_; rintro e X5 ⟨rfl, hb⟩; replace HB := Aside0.mk (below_step HB.out hb); clear hb; clear k0 k1; obtain ⟨k0, k1⟩ := cellB HB.out H7.out; clear HG5))
      go_meet
      exact ⟨by rw [HGG.out, t1]; simp, HB⟩
  case rest =>
  as_aux_lemma =>
    clear HG1 HG2 HG3 HG4 HG5 HB
    obtain ⟨rfl, HB⟩ := hcut
    cases gg with
    | true =>
      as_aux_lemma =>
      go_wp2
      go_ret
      exact ⟨rfl, HBw.out.trans (HB.out.mono HBw.out.size)⟩
    | false =>
    obtain ⟨b1, b2, b3, b4, b5, b6⟩ : g1 = false ∧ g2 = false ∧ g3 = false ∧ g4 = false ∧ g5 = false ∧ a0.size ≤ 1000 := by
      have h := HGG.out.symm
      simp only [Bool.or_eq_false_iff] at h
      refine ⟨h.1, h.2.1, h.2.2.1, h.2.2.2.1, h.2.2.2.2.1, ?_⟩
      have := of_decide_eq_false h.2.2.2.2.2
      omega
    have s1 := HS.out.1 b1
    have s2 := HS.out.2.1 b2
    have s3 := HS.out.2.2.1 b3
    have s4 := HS.out.2.2.2.1 b4
    have s5 := HS.out.2.2.2.2 b5
    clear b1 b2 b3 b4 b5 HGG HS
    obtain ⟨tb, is, hT⟩ : ∃ tb is, toldF a0 l1 = (tb, is) := ⟨_, _, rfl⟩
    obtain ⟨ab, in', hA⟩ : ∃ ab i, askF lw lh = (ab, i) := ⟨_, _, rfl⟩
    obtain ⟨pb, on, hP⟩ : ∃ pb i, pushF l3 = (pb, i) := ⟨_, _, rfl⟩
    have HCT := Aside0.mk (fun W (h : Below W0.heap.size W0 W) => hello_Told.calls 4000000 a0 A1 c1 l1 _ _ W (Kd.C_below HL1.out (below_step HBw.out h)) HC1.out ((told_eq a0 l1 (by omega) (fun y hy => by have := s1.2 y hy; omega) (by omega)).trans (congrArg some hT)))
    have HCA := Aside0.mk (fun W (h : Below W0.heap.size W0 W) => hello_Ask.calls 4000000 Aw cw lw Ah ch lh _ _ W (Kd.C_below HLw.out (below_step HBw.out h)) HCw.out (Kd.C_below HLh.out (below_step HBw.out h)) HCh.out ((ask_eq lw lh (by omega) (fun y hy => by have := s2.2 y hy; omega) (fun y hy => by have := s3.2 y hy; omega) (fun y hy => by have := s2.2 y hy; omega) (fun y hy => by have := s3.2 y hy; omega)).trans (congrArg some hA)))
    have HCP := Aside0.mk (fun W (h : Below W0.heap.size W0 W) => hello_Push.calls 4000000 A3 c3 l3 _ _ W (Kd.C_below HL3.out (below_step HBw.out h)) HC3.out ((push_eq l3 (by omega) (fun y hy => by have := s4.2 y hy; exact ⟨by omega, by omega, by omega⟩) (by omega)).trans (congrArg some hP)))
    have HSR := Aside0.mk (sameR_eq l1 (by omega) (k := 1000) (by omega))
    have HSW := Aside0.mk (sameT_eq lw (by omega) (k := 1000) (by omega))
    have HSH := Aside0.mk (sameT_eq lh (by omega) (k := 1000) (by omega))
    have HSU := Aside0.mk (sameU_eq l3 (by omega) (k := 1000) (by omega))
    have HSL := Aside0.mk (sameL_eq l4 (by omega) (k := 100000) (by omega))
    have H5 := Aside0.mk s5
    have HT := Aside0.mk hT
    have HA := Aside0.mk hA
    have HP := Aside0.mk hP
    clear s1 s2 s3 s4 s5 hT hA hP b6
    go_upto_if 71 with ((go_at_call 13; with_reducible refine (HCT.out _ HB.out).mono ?_; rintro e X1 ⟨v1, rfl, ho, hb⟩; obtain ⟨At, cAt, rfl⟩ := Kd.R_slice ho; have HAt := Aside0.mk (Kd.R_reads' ho).2.2; have HAtc := Aside0.mk (Kd.R_reads' ho).2.1; replace HB := Aside0.mk (below_step HB.out hb); clear ho hb))
    go_cut [13] (fun v13 wc => Aside0 (Below W0.heap.size W0 wc))
    case first =>
      as_aux_lemma =>
      cases is with
      | false => go_wp2_with fail; go_meet; exact HB
      | true =>
        as_aux_lemma =>
        go_wp2_with (first | (go_at_call 20; with_reducible refine (hello_Heard.calls 4000000 At cAt tb _ _ _ _ HAt.out HAtc.out (heard_back HT.out (by omega))).mono ?_; rintro e X2 ⟨v1, rfl, ho, hb⟩; obtain ⟨Al, cl, rfl⟩ := Kd.R_slice ho; have HAl := Aside0.mk (Kd.R_reads' ho).2.2; have HAlc := Aside0.mk (Kd.R_reads' ho).2.1; replace HB := Aside0.mk (below_step HB.out hb); clear ho hb) | (go_at_call 26; with_reducible refine (sacristyref09_Same.calls 1000 Al cl l1 A1 c1 l1 true _ HAl.out HAlc.out (Kd.C_below HL1.out (below_step HBw.out HB.out)) HC1.out HSR.out).mono ?_; rintro e X3 ⟨rfl, hb⟩; replace HB := Aside0.mk (below_step HB.out hb.below); clear hb))
        go_meet
        exact HB
    case rest =>
    as_aux_lemma =>
    clear HB HAt HAtc HCT
    have HB := hcut
    clear hcut

    obtain ⟨k0, k1⟩ := cellB HB.out H7.out
    go_upto_if 96 with (go_at_call 15; with_reducible refine (HCA.out _ HB.out).mono ?_; rintro e X1 ⟨v1, rfl, ho, hb⟩; obtain ⟨At, cAt, rfl⟩ := Kd.R_slice ho; have HAt := Aside0.mk (Kd.R_reads' ho).2.2; have HAtc := Aside0.mk (Kd.R_reads' ho).2.1; replace HB := Aside0.mk (below_step HB.out hb); clear ho hb k0 k1)
    go_cut [18] (fun v18 wc => Aside0 (Below W0.heap.size W0 wc))
    case first =>
      as_aux_lemma =>
      cases in' with
      | false => go_wp2_with fail; go_meet; exact HB
      | true =>
        as_aux_lemma =>
        go_upto_region 12 with (go_at_call 22; with_reducible refine (hello_Asked.calls 4000000 At cAt ab _ _ _ _ HAt.out HAtc.out (asked_back HA.out (by omega))).mono ?_; rintro e X2 ⟨v1, v2, rfl, ho, ho', hb⟩; obtain ⟨Ax, cx, rfl⟩ := Kd.R_slice ho; obtain ⟨Ay, cy, rfl⟩ := Kd.R_slice ho'; have HAx := Aside0.mk (Kd.R_reads' ho).2.2; have HAxc := Aside0.mk (Kd.R_reads' ho).2.1; have HAy := Aside0.mk (Kd.R_reads' ho').2.2; have HAyc := Aside0.mk (Kd.R_reads' ho').2.1; replace HB := Aside0.mk (below_step HB.out hb); clear ho ho' hb)
        generalize hW : World.alloc _ _ = W6
        have H9 := Aside0.mk (show W6.heap[X2.heap.size]? = some (.cells #[.slice Ax lw.length cx, .slice Ay lh.length cy] 25 (0, 0)) from by rw [← hW]; exact heap_alloc_new _ _)
        replace HAx := Aside0.mk (show Kd.C Kd.string W6 Ax lw.length lw from by rw [← hW]; exact Kd.C_alloc HAx.out _)
        replace HAy := Aside0.mk (show Kd.C Kd.string W6 Ay lh.length lh from by rw [← hW]; exact Kd.C_alloc HAy.out _)
        replace HB := Aside0.mk (show Below W0.heap.size W0 W6 from by rw [← hW]; exact below_alloc HB.out _)
        clear hW
        generalize X2.heap.size = b9 at H9 ⊢
        have HB6 := Aside0.mk (Below.refl W6.heap.size W6)
        obtain ⟨k0, k1⟩ := cellB HB.out H7.out
        obtain ⟨m0, m1⟩ := cellB HB6.out H9.out
        go_wp2_with (first | (go_at_call 27; with_reducible refine (sacristyref04_SameTexts.calls 1000 Ax cx lw Aw cw lw true _ (Kd.C_below HAx.out HB6.out) HAxc.out (Kd.C_below HLw.out (below_step HBw.out HB.out)) HCw.out HSW.out).mono ?_; rintro e X3 ⟨rfl, hb⟩; replace HB := Aside0.mk (below_step HB.out hb.below); replace HB6 := Aside0.mk (below_step HB6.out hb.below); clear hb k0 k1 m0 m1; obtain ⟨k0, k1⟩ := cellB HB.out H7.out; obtain ⟨m0, m1⟩ := cellB HB6.out H9.out) | (go_at_call 27; with_reducible refine (sacristyref04_SameTexts.calls 1000 Ay cy lh Ah ch lh true _ (Kd.C_below HAy.out HB6.out) HAyc.out (Kd.C_below HLh.out (below_step HBw.out HB.out)) HCh.out HSH.out).mono ?_; rintro e X4 ⟨rfl, hb⟩; replace HB := Aside0.mk (below_step HB.out hb.below); clear hb k0 k1 m0 m1))
        go_meet
        exact HB
    case rest =>
    as_aux_lemma =>
    clear HB HAt HAtc HCA
    have HB := hcut
    clear hcut
    go_upto_if 125 with (go_at_call 17; with_reducible refine (HCP.out _ HB.out).mono ?_; rintro e X1 ⟨v1, rfl, ho, hb⟩; obtain ⟨At, cAt, rfl⟩ := Kd.R_slice ho; have HAt := Aside0.mk (Kd.R_reads' ho).2.2; have HAtc := Aside0.mk (Kd.R_reads' ho).2.1; replace HB := Aside0.mk (below_step HB.out hb); clear ho hb)
    go_cut [22] (fun v22 wc => Aside0 (Below W0.heap.size W0 wc))
    case first =>
      as_aux_lemma =>
      cases on with
      | false => go_wp2_with fail; go_meet; exact HB
      | true =>
        as_aux_lemma =>
        go_wp2_with (first | (go_at_call 24; with_reducible refine (hello_Pushed.calls 6000000 At cAt pb _ _ _ HAt.out HAtc.out (pushed_back HP.out (by omega))).mono ?_; rintro e X2 ⟨v1, rfl, ho, hb⟩; obtain ⟨Al, cl, rfl⟩ := Kd.R_slice ho; have HAl := Aside0.mk (Kd.R_reads' ho).2.2; have HAlc := Aside0.mk (Kd.R_reads' ho).2.1; replace HB := Aside0.mk (below_step HB.out hb); clear ho hb) | (go_at_call 28; with_reducible refine (sacristyref16_SameUpdates.calls 1000 Al cl l3 A3 c3 l3 true _ HAl.out HAlc.out (Kd.C_below HL3.out (below_step HBw.out HB.out)) HC3.out HSU.out).mono ?_; rintro e X3 ⟨rfl, hb⟩; replace HB := Aside0.mk (below_step HB.out hb.below); clear hb))
        go_meet
        exact HB
    case rest =>
    as_aux_lemma =>
    clear HB HAt HAtc HCP
    have HB := hcut
    clear hcut
    obtain ⟨⟨hh, hk, bh⟩, hf1, hd1⟩ := heard_eq l4 (by have := H5.out; omega) (fun y hy => by have := H5.out.2 y hy; omega) (k := 6000000) (by omega)
    obtain ⟨⟨xw, xh, ba⟩, hf2, hd2⟩ := asked_eq l4 (by have := H5.out; omega) (fun y hy => by have := H5.out.2 y hy; omega) (k := 6000000) (by omega)
    obtain ⟨⟨ys, bp⟩, hf3, hd3⟩ := pushed_eq l4 (by have := H5.out; omega) (fun y hy => by have := H5.out.2 y hy; omega) (k := 6000000) (by omega)
    have I1 : Aside0 (bh = true → toldF hh hk = (l4, true)) := ⟨fun e => by
      rcases hd1 with ⟨h, e2⟩ | ⟨_, e2⟩
      · rw [Prod.mk.injEq, Prod.mk.injEq] at e2; rw [e2.1, e2.2.1]; exact h
      · rw [Prod.mk.injEq, Prod.mk.injEq] at e2; rw [e2.2.2] at e; cases e⟩
    have I2 : Aside0 (ba = true → askF xw xh = (l4, true)) := ⟨fun e => by
      rcases hd2 with ⟨h, e2⟩ | ⟨_, e2⟩
      · rw [Prod.mk.injEq, Prod.mk.injEq] at e2; rw [e2.1, e2.2.1]; exact h
      · rw [Prod.mk.injEq, Prod.mk.injEq] at e2; rw [e2.2.2] at e; cases e⟩
    have I3 : Aside0 (bp = true → pushF ys = (l4, true)) := ⟨fun e => by
      rcases hd3 with ⟨h, e2⟩ | ⟨_, e2⟩
      · rw [Prod.mk.injEq] at e2; rw [e2.1]; exact h
      · rw [Prod.mk.injEq] at e2; rw [e2.2] at e; cases e⟩
    have F1 := Aside0.mk hf1
    have F2 := Aside0.mk hf2
    have F3 := Aside0.mk hf3
    clear hd1 hd2 hd3 hf1 hf2 hf3 HT HA HP HSR HSW HSH HSU
    have CL := fun W (h : Below W0.heap.size W0 W) => Kd.C_below HL4.out (below_step HBw.out h)
    have HCL := Aside0.mk CL
    clear CL
    go_upto_region 20 with (go_at_call 20; with_reducible refine (hello_Heard.calls 6000000 A4 c4 l4 _ _ _ _ (HCL.out _ HB.out) HC4.out F1.out).mono ?_; rintro e X1 ⟨v1, rfl, ho, hb⟩; obtain ⟨Ak, ck, rfl⟩ := Kd.R_slice ho; have HAk := Aside0.mk (Kd.R_reads' ho).2.2; have HAkc := Aside0.mk (Kd.R_reads' ho).2.1; replace HB := Aside0.mk (below_step HB.out hb); clear ho hb F1)
    go_upto_region 21 with (go_at_call 22; with_reducible refine (hello_Asked.calls 6000000 A4 c4 l4 _ _ _ _ (HCL.out _ HB.out) HC4.out F2.out).mono ?_; rintro e X2 ⟨v1, v2, rfl, ho, ho', hb⟩; obtain ⟨Ax, cx, rfl⟩ := Kd.R_slice ho; obtain ⟨Ay, cy, rfl⟩ := Kd.R_slice ho'; have HAx := Aside0.mk (Kd.R_reads' ho).2.2; have HAxc := Aside0.mk (Kd.R_reads' ho).2.1; have HAy := Aside0.mk (Kd.R_reads' ho').2.2; have HAyc := Aside0.mk (Kd.R_reads' ho').2.1; replace HAk := Aside0.mk (Kd.C_below HAk.out hb); replace HB := Aside0.mk (below_step HB.out hb); clear ho ho' hb F2)
    generalize hW : World.alloc _ _ = W6
    have H9 := Aside0.mk (show W6.heap[X2.heap.size]? = some (.cells #[.slice Ax xw.length cx, .slice Ay xh.length cy] 25 (0, 0)) from by rw [← hW]; exact heap_alloc_new _ _)
    replace HAk := Aside0.mk (show Kd.C k63 W6 Ak hk.length hk from by rw [← hW]; exact Kd.C_alloc HAk.out _)
    replace HAx := Aside0.mk (show Kd.C Kd.string W6 Ax xw.length xw from by rw [← hW]; exact Kd.C_alloc HAx.out _)
    replace HAy := Aside0.mk (show Kd.C Kd.string W6 Ay xh.length xh from by rw [← hW]; exact Kd.C_alloc HAy.out _)
    replace HB := Aside0.mk (show Below W0.heap.size W0 W6 from by rw [← hW]; exact below_alloc HB.out _)
    clear hW
    generalize X2.heap.size = b9 at H9 ⊢
    go_upto_if 155 with (go_at_call 24; with_reducible refine (hello_Pushed.calls 6000000 A4 c4 l4 _ _ _ (HCL.out _ HB.out) HC4.out F3.out).mono ?_; rintro e X3 ⟨v1, rfl, ho, hb⟩; obtain ⟨Au, cu, rfl⟩ := Kd.R_slice ho; have HAu := Aside0.mk (Kd.R_reads' ho).2.2; have HAuc := Aside0.mk (Kd.R_reads' ho).2.1; replace H9 := Aside0.mk ((hb.block b9 (Array.getElem?_eq_some_iff.1 H9.out).1).trans H9.out); replace HAk := Aside0.mk (Kd.C_below HAk.out hb); replace HAx := Aside0.mk (Kd.C_below HAx.out hb); replace HAy := Aside0.mk (Kd.C_below HAy.out hb); replace HB := Aside0.mk (below_step HB.out hb); clear ho hb F3)
    have HX := Aside0.mk (show Below W0.heap.size W0 X3 from HB.out)
    replace HB := Aside0.mk (Below.refl X3.heap.size X3)
    -- at the if
    go_cut [27] (fun v27 wc => v27 = .bool bh ∧ Aside0 (Below X3.heap.size X3 wc))
    case first =>
      as_aux_lemma =>
      cases bh with
      | false => go_wp2_with fail; go_meet; exact ⟨rfl, HB⟩
      | true =>
        as_aux_lemma =>
        have e1 := I1.out rfl
        have e2 := told_first e1
        have e3 := rightGo_out hk hk none e2.2.2
        have HC := Aside0.mk (fun W (h : Below X3.heap.size X3 W) => hello_Told.calls 4000000 hh Ak ck hk _ _ W (Kd.C_below HAk.out h) HAkc.out ((told_eq hh hk (by have := named_size e2.2.1; omega) (fun y hy => by have h := e3.2 y hy; have := named_size h.1; have := id_size h.2; omega) (by omega)).trans (congrArg some e1)))
        clear e1 e2 e3
        go_wp2_with (first | (go_at_call 13; with_reducible refine (HC.out _ HB.out).mono ?_; rintro e X4 ⟨v1, rfl, ho, hb⟩; obtain ⟨Ae, ce, rfl⟩ := Kd.R_slice ho; have HAe := Aside0.mk (Kd.R_reads' ho).2.2; have HAec := Aside0.mk (Kd.R_reads' ho).2.1; replace HB := Aside0.mk (below_step HB.out hb); clear ho hb) | (go_at_call 19; with_reducible refine (sacristyref15_Same.calls 100000 Ae ce l4 A4 c4 l4 true _ HAe.out HAec.out (HCL.out _ (below_step HX.out HB.out)) HC4.out HSL.out).mono ?_; rintro e X5 ⟨rfl, hb⟩; replace HB := Aside0.mk (below_step HB.out hb.below); clear hb))
        go_meet
        exact ⟨rfl, HB⟩
    case rest =>
    as_aux_lemma =>
    clear HB
    obtain ⟨rfl, HB⟩ := hcut
    go_upto_if 170 with fail
    go_cut [29] (fun v29 wc => v29 = .bool ba ∧ Aside0 (Below X3.heap.size X3 wc))
    case first =>
      as_aux_lemma =>
      cases ba with
      | false => go_wp2_with fail; go_meet; exact ⟨rfl, HB⟩
      | true =>
        as_aux_lemma =>
        have e1 := I2.out rfl
        have e2 := ask_first e1
        have e3 := names_size e2.2.2.1
        have e4 := names_size e2.2.2.2
        have HC := Aside0.mk (fun W (h : Below X3.heap.size X3 W) => hello_Ask.calls 4000000 Ax cx xw Ay cy xh _ _ W (Kd.C_below HAx.out h) HAxc.out (Kd.C_below HAy.out h) HAyc.out ((ask_eq xw xh (by omega) (fun y hy => by have := e3.2 y hy; omega) (fun y hy => by have := e4.2 y hy; omega) (fun y hy => by have := e3.2 y hy; omega) (fun y hy => by have := e4.2 y hy; omega)).trans (congrArg some e1)))
        clear e1 e2 e3 e4
        obtain ⟨m0, m1⟩ := cellB HB.out H9.out
        go_wp2_with (first | (go_at_call 15; with_reducible refine (HC.out _ HB.out).mono ?_; rintro e X4 ⟨v1, rfl, ho, hb⟩; obtain ⟨Ae, ce, rfl⟩ := Kd.R_slice ho; have HAe := Aside0.mk (Kd.R_reads' ho).2.2; have HAec := Aside0.mk (Kd.R_reads' ho).2.1; replace HB := Aside0.mk (below_step HB.out hb); clear ho hb) | (go_at_call 19; with_reducible refine (sacristyref15_Same.calls 100000 Ae ce l4 A4 c4 l4 true _ HAe.out HAec.out (HCL.out _ (below_step HX.out HB.out)) HC4.out HSL.out).mono ?_; rintro e X5 ⟨rfl, hb⟩; replace HB := Aside0.mk (below_step HB.out hb.below); clear hb))
        go_meet
        exact ⟨rfl, HB⟩
    case rest =>
    as_aux_lemma =>
    clear HB
    obtain ⟨rfl, HB⟩ := hcut
    go_upto_if 184 with fail
    go_cut [31] (fun v31 wc => v31 = .bool bp ∧ Aside0 (Below X3.heap.size X3 wc))
    case first =>
      as_aux_lemma =>
      cases bp with
      | false => go_wp2_with fail; go_meet; exact ⟨rfl, HB⟩
      | true =>
        as_aux_lemma =>
        have e1 := I3.out rfl
        have e2 := push_first e1
        have HC := Aside0.mk (fun W (h : Below X3.heap.size X3 W) => hello_Push.calls 4000000 Au cu ys _ _ W (Kd.C_below HAu.out h) HAuc.out ((push_eq ys (by omega) (fun y hy => okU_small (List.all_eq_true.1 e2.2.1 y hy)) (by omega)).trans (congrArg some e1)))
        clear e1 e2
        go_wp2_with (first | (go_at_call 17; with_reducible refine (HC.out _ HB.out).mono ?_; rintro e X4 ⟨v1, rfl, ho, hb⟩; obtain ⟨Ae, ce, rfl⟩ := Kd.R_slice ho; have HAe := Aside0.mk (Kd.R_reads' ho).2.2; have HAec := Aside0.mk (Kd.R_reads' ho).2.1; replace HB := Aside0.mk (below_step HB.out hb); clear ho hb) | (go_at_call 19; with_reducible refine (sacristyref15_Same.calls 100000 Ae ce l4 A4 c4 l4 true _ HAe.out HAec.out (HCL.out _ (below_step HX.out HB.out)) HC4.out HSL.out).mono ?_; rintro e X5 ⟨rfl, hb⟩; replace HB := Aside0.mk (below_step HB.out hb.below); clear hb))
        go_meet
        exact ⟨rfl, HB⟩
    case rest =>
    as_aux_lemma =>
    clear HB
    obtain ⟨rfl, HB⟩ := hcut
    have N1 : ¬ (bh = true ∧ ba = true) := fun e => not_told_ask (I1.out e.1) (I2.out e.2)
    have N2 : ¬ (bh = true ∧ bp = true) := fun e => not_told_push (I1.out e.1) (I3.out e.2)
    have N3 : ¬ (ba = true ∧ bp = true) := fun e => not_ask_push (I2.out e.1) (I3.out e.2)
    cases bh <;> cases ba <;> cases bp
    all_goals first
      | exact absurd ⟨rfl, rfl⟩ N1
      | exact absurd ⟨rfl, rfl⟩ N2
      | exact absurd ⟨rfl, rfl⟩ N3
      | (clear N1 N2 N3; go_wp2; go_ret; exact ⟨rfl, HBw.out.trans ((HX.out.trans (HB.out.mono HX.out.size)).mono HBw.out.size)⟩)
end Go.Proofs.YtmmionafcmnfoaaDoor.Hello
