/- The calls of HelloFits answer true, whatever they are handed. -/
import Derived.Test.YtmmionafcmnfoaaDoorHead
import Derived.Test.YtmmionafcmnfoaaDoorGreat
import Derived.Test.YtmmionafcmnfoaaDoorSame
import Derived.Test.YtmmionafcmnfoaaDoorLineR
import Derived.Deep.CutRange
import Derived.Deep.DeepCutAuto
namespace Go.Proofs.YtmmionafcmnfoaaDoor.Hello
open Go.RowKit Go.Proofs.YtmmionafcmnfoaaDoorW.PrintWords Go.Proofs.YtmmionafcmnfoaaDoorW.PrintLast Go.Proofs.YtmmionafcmnfoaaDoorW.PrintMore Go.Proofs.YtmmionafcmnfoaaDoor.Conv Go.Proofs.YtmmionafcmnfoaaDoor.Print
set_option linter.unusedVariables false
set_option linter.unusedSimpArgs false
theorem ends_ok {ts : List ByteArray} (h : ∀ s ∈ ts, s.size + 1 ≤ 300) : (endsF ts).all Line.okL = true := by
  unfold endsF
  rw [List.all_append, Bool.and_eq_true]
  refine ⟨List.all_eq_true.2 fun x hx => ?_, by decide⟩
  obtain ⟨s, hs, rfl⟩ := List.mem_map.1 hx
  have h1 := h s hs
  have hz : (lineOf s).f1.size = s.size + 1 := by show (s ++ (⟨#[10]⟩ : ByteArray)).size = _; rw [ByteArray.size_append]; rfl
  unfold Line.okL
  rw [hz, show (lineOf s).f0 = false from rfl, show (((s.size + 1 : Nat) : Int) == 0) = false from by simp; omega, decide_eq_false (by omega)]
  rfl
theorem told_ok (h : ByteArray) (l : List Rf) : (toldF h l).1.all Line.okL = true := by
  unfold toldF
  split
  · rename_i c
    exact ends_ok fun s hs => by have := told_small c.1 c.2 s hs; omega
  · rfl
theorem ask_ok (a b : List ByteArray) : (askF a b).1.all Line.okL = true := by
  unfold askF
  split
  · rename_i c
    exact ends_ok fun s hs => by have := asks_small c.2.1 c.2.2 s hs; omega
  · rfl
theorem push_ok (u : List Up) : (pushF u).1.all Line.okL = true := by
  unfold pushF
  split
  · rename_i c
    exact ends_ok fun s hs => push_small c.1 s hs
  · rfl
theorem enc_len : ∀ (l : List Ln), l.all Line.okL = true → (l.flatMap Line.encL).length ≤ 4004 * l.length
  | [], _ => by simp
  | x :: l, h => by
    rw [List.all_cons, Bool.and_eq_true] at h
    have h1 := Line.okL_size h.1
    have h2 := enc_len l h.2
    rw [List.flatMap_cons, List.length_append, Line.encL_length, List.length_cons]
    omega
theorem fits_put (l : List Ln) (h : l.all Line.okL = true) (hl : l.length ≤ 2000) : sacristyref15_Put.f 20000000 l = some (l.flatMap Line.encL, 0) := by
  rw [Line.rput_eq l (by omega) (by omega)]
  unfold Line.putF
  rw [if_pos h]
theorem fits_cut (l : List Ln) (h : l.all Line.okL = true) (hl : l.length ≤ 2000) : sacristyref15_Cut.f 20000000 (l.flatMap Line.encL) = some (l, [], 0) := by
  have hn := enc_len l h
  rw [Line.rcut_eq _ (Line.enc_bytes h) (by omega) (by omega), Line.cutF_enc l h]
theorem cellB {B W : World} {b : Nat} {x y : Value} {t : TypeId} (h : Below B.heap.size B W) (hb : B.heap[b]? = some (.cells #[x, y] t (0, 0))) : W.cell? ⟨b, 0, none⟩ = some x ∧ W.cell? ⟨b, 1, none⟩ = some y := by
  have hl : b < B.heap.size := (Array.getElem?_eq_some_iff.1 hb).1
  have := (h.block b hl).trans hb
  exact ⟨by rw [cell_of_row _ b 0 _ _ _ this]; rfl, by rw [cell_of_row _ b 1 _ _ _ this]; rfl⟩
set_option maxRecDepth 100000 in
set_option maxHeartbeats 8000000 in
theorem HelloFits_core {w : World} (a0 : ByteArray) (hz : a0.size ≤ maxLen) (A1 : Option Addr) (c1 : Nat) (l1 : List Rf) (hr1 : Kd.C k63 w A1 l1.length l1) (hc1 : l1.length ≤ c1) (hm1 : l1.length ≤ maxLen)
    (Aw : Option Addr) (cw : Nat) (lw : List ByteArray) (hrw : Kd.C Kd.string w Aw lw.length lw) (hcw : lw.length ≤ cw) (hmw : lw.length ≤ maxLen)
    (Ah : Option Addr) (ch : Nat) (lh : List ByteArray) (hrh : Kd.C Kd.string w Ah lh.length lh) (hch : lh.length ≤ ch) (hmh : lh.length ≤ maxLen)
    (A3 : Option Addr) (c3 : Nat) (l3 : List Up) (hr3 : Kd.C k65 w A3 l3.length l3) (hc3 : l3.length ≤ c3) (hm3 : l3.length ≤ maxLen) :
    Calls Tryd.prog 7 #[.string a0, .slice A1 l1.length c1, .agg #[.slice Aw lw.length cw, .slice Ah lh.length ch], .slice A3 l3.length c3] w fun e w' => e = .returned (.bool true) ∧ Below w.heap.size w w' := by
  obtain ⟨g1, hg1, hs1⟩ := greatR_eq l1 (by simp only [maxLen] at hm1; omega) (k := 100000) (by omega)
  obtain ⟨g2, hg2, hs2⟩ := greatT_eq lw (by simp only [maxLen] at hmw; omega) (k := 100000) (by omega)
  obtain ⟨g3, hg3, hs3⟩ := greatT_eq lh (by simp only [maxLen] at hmh; omega) (k := 100000) (by omega)
  obtain ⟨g4, hg4, hs4⟩ := greatU_eq l3 (by simp only [maxLen] at hm3; omega) (k := 100000) (by omega)
  have HL1 := Aside0.mk hr1
  have HLw := Aside0.mk hrw
  have HLh := Aside0.mk hrh
  have HL3 := Aside0.mk hr3
  have HS := Aside0.mk (And.intro hs1 (And.intro hs2 (And.intro hs3 hs4)))
  have HG1 := Aside0.mk (fun W (h : Below w.heap.size w W) => sacristylaw09_Great.calls 100000 A1 c1 l1 g1 W (Kd.C_below HL1.out h) hc1 hg1)
  have HG2 := Aside0.mk (fun W (h : Below w.heap.size w W) => sacristylaw05_GreatTexts.calls 100000 Aw cw lw g2 W (Kd.C_below HLw.out h) hcw hg2)
  have HG3 := Aside0.mk (fun W (h : Below w.heap.size w W) => sacristylaw05_GreatTexts.calls 100000 Ah ch lh g3 W (Kd.C_below HLh.out h) hch hg3)
  have HG4 := Aside0.mk (fun W (h : Below w.heap.size w W) => sacristylaw09_GreatUpdates.calls 100000 A3 c3 l3 g4 W (Kd.C_below HL3.out h) hc3 hg4)
  have HC1 := Aside0.mk hc1
  have HCw := Aside0.mk hcw
  have HCh := Aside0.mk hch
  have HC3 := Aside0.mk hc3
  clear hs1 hs2 hs3 hs4 hg1 hg2 hg3 hg4 hr1 hrw hrh hr3 hc1 hcw hch hc3 hm1 hmw hmh hm3 hz
  go_enter Tryd.func7, Tryd.ntmps7
  go_upto_region 1 with (fail)
  generalize hW0 : World.alloc _ _ = W0
  have H7 := Aside0.mk (show W0.heap[w.heap.size]? = some (.cells #[.slice Aw lw.length cw, .slice Ah lh.length ch] 25 (0, 0)) from by rw [← hW0]; exact heap_alloc_new _ _)
  have HBw := Aside0.mk (show Below w.heap.size w W0 from by rw [← hW0]; exact below_alloc (Below.refl _ _) _)
  clear hW0
  generalize w.heap.size = b7 at H7 ⊢
  have HB := Aside0.mk (Below.refl W0.heap.size W0)
  go_upto_region 2 with (go_at_call 8; refine (head_calls _).mono ?_; rintro e W1 ⟨rfl, hb⟩; replace HB := Aside0.mk (below_step HB.out hb); clear hb)
  obtain ⟨gg, hgg⟩ : ∃ gg, gg = (g1 || (g2 || (g3 || (g4 || decide ((a0.size : Int) > 1000))))) := ⟨_, rfl⟩
  have HGG := Aside0.mk hgg
  clear hgg
  go_cut [43] (fun v43 wc => v43 = .bool gg ∧ Aside0 (Below W0.heap.size W0 wc))
  case first =>
    as_aux_lemma =>
    obtain ⟨k0, k1⟩ := cellB HB.out H7.out
    cases g1 with
    | true =>
      as_aux_lemma =>
      go_wp2_with (first | (go_at_call 9; with_reducible refine (HG1.out _ (below_step HBw.out HB.out)).mono ?_; rintro e X1 ⟨rfl, hb⟩; replace HB := Aside0.mk (below_step HB.out hb); clear hb; clear k0 k1; obtain ⟨k0, k1⟩ := cellB HB.out H7.out; clear HG1))
      go_meet
      exact ⟨by rw [HGG.out]; simp, HB⟩
    | false =>
    cases g2 with
    | true =>
      as_aux_lemma =>
      go_wp2_with (first | (go_at_call 9; with_reducible refine (HG1.out _ (below_step HBw.out HB.out)).mono ?_; rintro e X1 ⟨rfl, hb⟩; replace HB := Aside0.mk (below_step HB.out hb); clear hb; clear k0 k1; obtain ⟨k0, k1⟩ := cellB HB.out H7.out; clear HG1) | (go_at_call 10; with_reducible refine (HG2.out _ (below_step HBw.out HB.out)).mono ?_; rintro e X2 ⟨rfl, hb⟩; replace HB := Aside0.mk (below_step HB.out hb); clear hb; clear k0 k1; obtain ⟨k0, k1⟩ := cellB HB.out H7.out; clear HG2))
      go_meet
      exact ⟨by rw [HGG.out]; simp, HB⟩
    | false =>
    cases g3 with
    | true =>
      as_aux_lemma =>
      go_wp2_with (first | (go_at_call 9; with_reducible refine (HG1.out _ (below_step HBw.out HB.out)).mono ?_; rintro e X1 ⟨rfl, hb⟩; replace HB := Aside0.mk (below_step HB.out hb); clear hb; clear k0 k1; obtain ⟨k0, k1⟩ := cellB HB.out H7.out; clear HG1) | (go_at_call 10; with_reducible refine (HG2.out _ (below_step HBw.out HB.out)).mono ?_; rintro e X2 ⟨rfl, hb⟩; replace HB := Aside0.mk (below_step HB.out hb); clear hb; clear k0 k1; obtain ⟨k0, k1⟩ := cellB HB.out H7.out; clear HG2) | (go_at_call 10; with_reducible refine (HG3.out _ (below_step HBw.out HB.out)).mono ?_; rintro e X3 ⟨rfl, hb⟩; replace HB := Aside0.mk (below_step HB.out hb); clear hb; clear k0 k1; obtain ⟨k0, k1⟩ := cellB HB.out H7.out; clear HG3))
      go_meet
      exact ⟨by rw [HGG.out]; simp, HB⟩
    | false =>
    cases g4 with
    | true =>
      as_aux_lemma =>
      go_wp2_with (first | (go_at_call 9; with_reducible refine (HG1.out _ (below_step HBw.out HB.out)).mono ?_; rintro e X1 ⟨rfl, hb⟩; replace HB := Aside0.mk (below_step HB.out hb); clear hb; clear k0 k1; obtain ⟨k0, k1⟩ := cellB HB.out H7.out; clear HG1) | (go_at_call 10; with_reducible refine (HG2.out _ (below_step HBw.out HB.out)).mono ?_; rintro e X2 ⟨rfl, hb⟩; replace HB := Aside0.mk (below_step HB.out hb); clear hb; clear k0 k1; obtain ⟨k0, k1⟩ := cellB HB.out H7.out; clear HG2) | (go_at_call 10; with_reducible refine (HG3.out _ (below_step HBw.out HB.out)).mono ?_; rintro e X3 ⟨rfl, hb⟩; replace HB := Aside0.mk (below_step HB.out hb); clear hb; clear k0 k1; obtain ⟨k0, k1⟩ := cellB HB.out H7.out; clear HG3) | (go_at_call 11; with_reducible refine (HG4.out _ (below_step HBw.out HB.out)).mono ?_; rintro e X4 ⟨rfl, hb⟩; replace HB := Aside0.mk (below_step HB.out hb); clear hb; clear k0 k1; obtain ⟨k0, k1⟩ := cellB HB.out H7.out; clear HG4))
      go_meet
      exact ⟨by rw [HGG.out]; simp, HB⟩
    | false =>
    by_cases hbig : (a0.size : Int) > 1000
    · have t1 : decide ((a0.size : Int) > 1000) = true := decide_eq_true hbig
      have t2 : decide ((1000 : Int) < (a0.size : Int)) = true := decide_eq_true hbig
      have t3 : decide (1000 < a0.size) = true := decide_eq_true (by omega)
      go_wp2_with (first | (go_at_call 9; with_reducible refine (HG1.out _ (below_step HBw.out HB.out)).mono ?_; rintro e X1 ⟨rfl, hb⟩; replace HB := Aside0.mk (below_step HB.out hb); clear hb; clear k0 k1; obtain ⟨k0, k1⟩ := cellB HB.out H7.out; clear HG1) | (go_at_call 10; with_reducible refine (HG2.out _ (below_step HBw.out HB.out)).mono ?_; rintro e X2 ⟨rfl, hb⟩; replace HB := Aside0.mk (below_step HB.out hb); clear hb; clear k0 k1; obtain ⟨k0, k1⟩ := cellB HB.out H7.out; clear HG2) | (go_at_call 10; with_reducible refine (HG3.out _ (below_step HBw.out HB.out)).mono ?_; rintro e X3 ⟨rfl, hb⟩; replace HB := Aside0.mk (below_step HB.out hb); clear hb; clear k0 k1; obtain ⟨k0, k1⟩ := cellB HB.out H7.out; clear HG3) | (go_at_call 11; with_reducible refine (HG4.out _ (below_step HBw.out HB.out)).mono ?_; rintro e X4 ⟨rfl, hb⟩; replace HB := Aside0.mk (below_step HB.out hb); clear hb; clear k0 k1; obtain ⟨k0, k1⟩ := cellB HB.out H7.out; clear HG4))
      go_meet
      exact ⟨by rw [HGG.out, t1]; simp, HB⟩
    · have t1 : decide ((a0.size : Int) > 1000) = false := decide_eq_false hbig
      have t2 : decide ((1000 : Int) < (a0.size : Int)) = false := decide_eq_false hbig
      have t3 : decide (1000 < a0.size) = false := decide_eq_false (by omega)
      go_wp2_with (first | (go_at_call 9; with_reducible refine (HG1.out _ (below_step HBw.out HB.out)).mono ?_; rintro e X1 ⟨rfl, hb⟩; replace HB := Aside0.mk (below_step HB.out hb); clear hb; clear k0 k1; obtain ⟨k0, k1⟩ := cellB HB.out H7.out; clear HG1) | (go_at_call 10; with_reducible refine (HG2.out _ (below_step HBw.out HB.out)).mono ?_; rintro e X2 ⟨rfl, hb⟩; replace HB := Aside0.mk (below_step HB.out hb); clear hb; clear k0 k1; obtain ⟨k0, k1⟩ := cellB HB.out H7.out; clear HG2) | (go_at_call 10; with_reducible refine (HG3.out _ (below_step HBw.out HB.out)).mono ?_; rintro e X3 ⟨rfl, hb⟩; replace HB := Aside0.mk (below_step HB.out hb); clear hb; clear k0 k1; obtain ⟨k0, k1⟩ := cellB HB.out H7.out; clear HG3) | (go_at_call 11; with_reducible refine (HG4.out _ (below_step HBw.out HB.out)).mono ?_; rintro e X4 ⟨rfl, hb⟩; replace HB := Aside0.mk (below_step HB.out hb); clear hb; clear k0 k1; obtain ⟨k0, k1⟩ := cellB HB.out H7.out; clear HG4))
      go_meet
      exact ⟨by rw [HGG.out, t1]; simp, HB⟩
  case rest =>
  as_aux_lemma =>
    clear HG1 HG2 HG3 HG4 HB
    obtain ⟨rfl, HB⟩ := hcut
    cases gg with
    | true =>
      as_aux_lemma =>
      go_wp2
      go_ret
      exact ⟨rfl, HBw.out.trans (HB.out.mono HBw.out.size)⟩
    | false =>
    obtain ⟨b1, b2, b3, b4, b6⟩ : g1 = false ∧ g2 = false ∧ g3 = false ∧ g4 = false ∧ a0.size ≤ 1000 := by
      have h := HGG.out.symm
      simp only [Bool.or_eq_false_iff] at h
      refine ⟨h.1, h.2.1, h.2.2.1, h.2.2.2.1, ?_⟩
      have := of_decide_eq_false h.2.2.2.2
      omega
    have s1 := HS.out.1 b1
    have s2 := HS.out.2.1 b2
    have s3 := HS.out.2.2.1 b3
    have s4 := HS.out.2.2.2 b4
    clear b1 b2 b3 b4 HGG HS
    obtain ⟨tb, is, hT⟩ : ∃ tb is, toldF a0 l1 = (tb, is) := ⟨_, _, rfl⟩
    obtain ⟨ab, in', hA⟩ : ∃ ab i, askF lw lh = (ab, i) := ⟨_, _, rfl⟩
    obtain ⟨pb, on, hP⟩ : ∃ pb i, pushF l3 = (pb, i) := ⟨_, _, rfl⟩
    have q1 : tb.all Line.okL = true ∧ tb.length ≤ 66 := by have h1 := told_ok a0 l1; have h2 := told_len a0 l1; rw [hT] at h1 h2; exact ⟨h1, h2⟩
    have q2 : ab.all Line.okL = true ∧ ab.length ≤ 1000 := by have h1 := ask_ok lw lh; have h2 := ask_len lw lh; rw [hA] at h1 h2; exact ⟨h1, h2⟩
    have q3 : pb.all Line.okL = true ∧ pb.length ≤ 17 := by have h1 := push_ok l3; have h2 := push_len l3; rw [hP] at h1 h2; exact ⟨h1, h2⟩
    have HCT := Aside0.mk (fun W (h : Below W0.heap.size W0 W) => hello_Told.calls 4000000 a0 A1 c1 l1 _ _ W (Kd.C_below HL1.out (below_step HBw.out h)) HC1.out ((told_eq a0 l1 (by omega) (fun y hy => by have := s1.2 y hy; omega) (by omega)).trans (congrArg some hT)))
    have HCA := Aside0.mk (fun W (h : Below W0.heap.size W0 W) => hello_Ask.calls 4000000 Aw cw lw Ah ch lh _ _ W (Kd.C_below HLw.out (below_step HBw.out h)) HCw.out (Kd.C_below HLh.out (below_step HBw.out h)) HCh.out ((ask_eq lw lh (by omega) (fun y hy => by have := s2.2 y hy; omega) (fun y hy => by have := s3.2 y hy; omega) (fun y hy => by have := s2.2 y hy; omega) (fun y hy => by have := s3.2 y hy; omega)).trans (congrArg some hA)))
    have HCP := Aside0.mk (fun W (h : Below W0.heap.size W0 W) => hello_Push.calls 4000000 A3 c3 l3 _ _ W (Kd.C_below HL3.out (below_step HBw.out h)) HC3.out ((push_eq l3 (by omega) (fun y hy => by have := s4.2 y hy; exact ⟨by omega, by omega, by omega⟩) (by omega)).trans (congrArg some hP)))
    obtain ⟨al, hal⟩ : ∃ al, al = (([] ++ tb) ++ ab) ++ pb := ⟨_, rfl⟩
    have hao : al.all Line.okL = true := by rw [hal, List.nil_append, List.all_append, List.all_append, q1.1, q2.1, q3.1]; rfl
    have hall : al.length ≤ 2000 := by rw [hal, List.nil_append, List.length_append, List.length_append]; omega
    obtain ⟨en, hp, hq⟩ : ∃ en, sacristyref15_Put.f 20000000 al = some (en, 0) ∧ sacristyref15_Cut.f 20000000 en = some (al, [], 0) := ⟨_, fits_put al hao hall, fits_cut al hao hall⟩
    have HPUT := Aside0.mk hp
    have HCUT := Aside0.mk hq
    have HSAME := Aside0.mk (sameL_eq al (by omega) (k := 100000) (by omega))
    have HAL := Aside0.mk hal
    have HQ := Aside0.mk (And.intro q1.2 (And.intro q2.2 q3.2))
    clear s1 s2 s3 s4 hT hA hP b6 q1 q2 q3 hal hao hall hp hq
    go_upto_region 5 with (go_at_call 13; with_reducible refine (HCT.out _ HB.out).mono ?_; rintro e X1 ⟨v1, rfl, ho, hb⟩; obtain ⟨At, cAt, rfl⟩ := Kd.R_slice ho; have HAt := Aside0.mk (Kd.R_reads' ho).2.2; have HAtc := Aside0.mk (Kd.R_reads' ho).2.1; replace HB := Aside0.mk (below_step HB.out hb); clear ho hb HCT)
    obtain ⟨k0, k1⟩ := cellB HB.out H7.out
    go_upto_region 6 with (go_at_call 15; with_reducible refine (HCA.out _ HB.out).mono ?_; rintro e X2 ⟨v1, rfl, ho, hb⟩; obtain ⟨Aa, cAa, rfl⟩ := Kd.R_slice ho; have HAa := Aside0.mk (Kd.R_reads' ho).2.2; have HAac := Aside0.mk (Kd.R_reads' ho).2.1; replace HB := Aside0.mk (below_step HB.out hb); replace HAt := Aside0.mk (Kd.C_below HAt.out hb); clear ho hb k0 k1 HCA)
    go_upto_region 7 with (go_at_call 17; with_reducible refine (HCP.out _ HB.out).mono ?_; rintro e X3 ⟨v1, rfl, ho, hb⟩; obtain ⟨Ap, cAp, rfl⟩ := Kd.R_slice ho; have HAp := Aside0.mk (Kd.R_reads' ho).2.2; have HApc := Aside0.mk (Kd.R_reads' ho).2.1; replace HB := Aside0.mk (below_step HB.out hb); replace HAt := Aside0.mk (Kd.C_below HAt.out hb); replace HAa := Aside0.mk (Kd.C_below HAa.out hb); clear ho hb HCP)
    have HX := Aside0.mk (show Below W0.heap.size W0 X3 from HB.out)
    replace HB := Aside0.mk (Below.refl X3.heap.size X3)
    go_upto_region 8 with (first
      | ((with_reducible refine gate_dst (N := 61) rfl ?_); refine Kd.R_lit k49 (w0 := X3) X3.heap.size 49 ?hg (N := 61) ?hd (xs := ([] : List Ln)) (inner := []) (ok := fun _ => True) (okp := fun _ => True) ?hr ?hp (fun _ hk => hk) trivial (Below.refl _ _) (Nat.le_refl _) (by simp) ?_; (case hd => rfl); (case hg => rfl); (case hr => first | (go_simp; done) | (go_simp; rfl)); (case hp => exact (Reps.none _ _)); intro v61 w61 ho hb hg_ hnew_; clear hg_ hnew_; have Hv61 := Aside0.mk ho; replace HB := Aside0.mk hb; clear ho hb)
      | ((with_reducible refine gate_builtin (b := .append) (xs := #[.tmp 61, .tmp 62]) rfl ?_); at_builtin; refine Kd.R_append_rows k49 (w0 := X3) X3.heap.size rfl (.tmp 61) (.tmp 62) 27 49 (.agg #[(.bool false), (.string ⟨#[]⟩)]) 24 rfl Tryd.underlying27 info49 rfl (by decide) (by omega) v61 [] tb At tb.length cAt (fun _ => True) (fun k => some k ≠ v61.ownBlock) rfl rfl Hv61.out (Kd.C_below HAt.out HB.out) (fun x cs h => by rw [k49_open h]; exact k49_mkM _ _ _ x) (fun _ h => ⟨trivial, h⟩) (fun _ _ => trivial) HB.out HB.out.size (by have := HQ.out; simp only [List.length_append, List.length_nil]; omega) ?_; intro v63 w63 ho hb hg_ hat; clear hg_ hat; have Hv63 := Aside0.mk ho; replace HB := Aside0.mk hb; clear ho hb Hv61)
      | ((with_reducible refine gate_builtin (b := .append) (xs := #[.tmp 63, .tmp 64]) rfl ?_); at_builtin; refine Kd.R_append_rows k49 (w0 := X3) X3.heap.size rfl (.tmp 63) (.tmp 64) 27 49 (.agg #[(.bool false), (.string ⟨#[]⟩)]) 24 rfl Tryd.underlying27 info49 rfl (by decide) (by omega) v63 ([] ++ tb) ab Aa ab.length cAa (fun _ => True) (fun k => some k ≠ v63.ownBlock) rfl rfl Hv63.out (Kd.C_below HAa.out HB.out) (fun x cs h => by rw [k49_open h]; exact k49_mkM _ _ _ x) (fun _ h => ⟨trivial, h⟩) (fun _ _ => trivial) HB.out HB.out.size (by have := HQ.out; simp only [List.length_append, List.length_nil]; omega) ?_; intro v65 w65 ho hb hg_ hat; clear hg_ hat; have Hv65 := Aside0.mk ho; replace HB := Aside0.mk hb; clear ho hb Hv63)
      | ((with_reducible refine gate_builtin (b := .append) (xs := #[.tmp 65, .tmp 66]) rfl ?_); at_builtin; refine Kd.R_append_rows k49 (w0 := X3) X3.heap.size rfl (.tmp 65) (.tmp 66) 27 49 (.agg #[(.bool false), (.string ⟨#[]⟩)]) 24 rfl Tryd.underlying27 info49 rfl (by decide) (by omega) v65 (([] ++ tb) ++ ab) pb Ap pb.length cAp (fun _ => True) (fun k => some k ≠ v65.ownBlock) rfl rfl Hv65.out (Kd.C_below HAp.out HB.out) (fun x cs h => by rw [k49_open h]; exact k49_mkM _ _ _ x) (fun _ h => ⟨trivial, h⟩) (fun _ _ => trivial) HB.out HB.out.size (by have := HQ.out; simp only [List.length_append, List.length_nil]; omega) ?_; intro v67 w67 ho hb hg_ hat; clear hg_ hat; have Hv67 := Aside0.mk ho; replace HB := Aside0.mk hb; clear ho hb Hv65))
    have Hv67' : Aside0 (Kd.R k49 49 w67 X3.heap.size (fun _ => True) v67 al) := ⟨by rw [HAL.out]; exact Hv67.out⟩
    obtain ⟨Al, cl, rfl⟩ := Kd.R_slice Hv67'.out
    have HAl := Aside0.mk (Kd.R_reads' Hv67'.out).2.2
    have HAlc := Aside0.mk (Kd.R_reads' Hv67'.out).2.1
    clear Hv67 Hv67' HAL HQ HAt HAa HAp
    replace HB := Aside0.mk (HX.out.trans (HB.out.mono HX.out.size))
    go_upto_region 9 with (go_at_call 30; with_reducible refine (sacristyref15_Put.calls 20000000 Al cl al _ _ _ HAl.out HAlc.out HPUT.out).mono ?_; rintro e X4 ⟨v1, rfl, ho, hb⟩; obtain ⟨Ab, cb, rfl⟩ := Kd.R_slice ho; have HAb := Aside0.mk (Kd.R_reads' ho).2.2; have HAbc := Aside0.mk (Kd.R_reads' ho).2.1; replace HAl := Aside0.mk (Kd.C_below HAl.out hb); replace HB := Aside0.mk (below_step HB.out hb); clear ho hb HPUT)
    go_upto_region 10 with (go_at_call 31; with_reducible refine (sacristyref15_Cut.calls 20000000 _ Ab cb en _ _ _ _ (Kd.V_mk HAbc.out (Kd.C_F (Kd.heap_int .u8) HAb.out)) HCUT.out).mono ?_; rintro e X5 ⟨v1, v2, rfl, ho, ho', hb⟩; obtain ⟨Ac, cc, rfl⟩ := Kd.R_slice ho; obtain ⟨Ar, cr, rfl⟩ := Kd.R_slice ho'; have HAc := Aside0.mk (Kd.R_reads' ho).2.2; have HAcc := Aside0.mk (Kd.R_reads' ho).2.1; replace HAl := Aside0.mk (Kd.C_below HAl.out hb); replace HB := Aside0.mk (below_step HB.out hb); clear ho ho' hb HCUT HAb HAbc)
    go_wp2_with (go_at_call 19; with_reducible refine (sacristyref15_Same.calls 100000 Ac cc al Al cl al true _ HAc.out HAcc.out HAl.out HAlc.out HSAME.out).mono ?_; rintro e X6 ⟨rfl, hb⟩; replace HB := Aside0.mk (below_step HB.out hb.below); clear hb)
    go_ret
    exact ⟨rfl, HBw.out.trans (HB.out.mono HBw.out.size)⟩
end Go.Proofs.YtmmionafcmnfoaaDoor.Hello
