/- The plain laws of two rows: what the functions of LineBack and LineMany say. -/
import Derived.Test.YtigcmhidbekgbaaLine
import Derived.Test.YtigcmhidbekgbaaPrint6
import Derived.Test.YtigcmhidbekgbaaPrint9
namespace Go.Proofs.Ytigcmhidbekgbaa.Line
open Go.RowKit Go.Proofs.YtigcmhidbekgbaaW.PrintWords Go.Proofs.YtigcmhidbekgbaaW.PrintLast Go.Proofs.YtigcmhidbekgbaaW.PrintMore Go.Proofs.Ytigcmhidbekgbaa.Conv Go.Proofs.Ytigcmhidbekgbaa.Print

theorem joinE_length (l : List Ln) : (l.flatMap encL).length = 4 * l.length + sizes l := by
  induction l with
  | nil => rfl
  | cons x l ih => rw [List.flatMap_cons, List.length_append, ih, encL_length]; simp only [sizes, List.map_cons, List.sum_cons, List.length_cons]; omega
theorem cutB_len (b : List Int) (hB : Bytes b) : (cutB b).1.length ≤ b.length := by have := (cutB_facts b hB).1; omega
theorem back_j1 (x1 : List Int) (hB : Bytes x1) (hl : x1.length ≤ 20000) {k : Nat} (hk : 300000 ≤ k) : sacristylaw15_LineBack.j1 (k + 1) x1 true = some true := by
  have hlen := cutB_len x1 hB
  simp only [sacristylaw15_LineBack.j1]
  rw [cut_eq x1 hB (by omega) (by omega)]
  simp only [Option.bind_some, cutF]
  by_cases h : (cutB x1).2.2 = 0
  · rw [if_pos h]
    simp only [if_pos trivial]
    obtain ⟨ho, hb⟩ := cutB_back x1 hB h
    rw [put_eq _ (by omega) (by omega)]
    simp only [Option.bind_some, putF, ho, if_pos trivial]
    rw [if_pos (by
      rw [strOf_size, strOf_size]
      have := congrArg List.length hb
      rw [List.length_append] at this
      omega)]
    rw [strOf_append, hb]
    simp
  · rw [if_neg h]
    simp
theorem back_true (l : List Ln) (b : List Int) (hB : Bytes b) (hl : l.length ≤ 9223372036854775807) : sacristylaw15_LineBack.f 400000 l b = some true := by
  unfold sacristylaw15_LineBack.f
  rw [show sacristylaw15_head.f = some true from rfl]
  obtain ⟨g, hg, hs⟩ := great_eq l hl (k := 400000) (by omega)
  rw [hg]
  simp only [Option.bind_some]
  cases g with
  | true => simp [sacristylaw15_LineBack.j0]
  | false =>
    have hs := hs rfl
    rw [if_neg (by simp)]
    by_cases hb : (b.length : Int) > 20000
    · simp only [decide_eq_true hb]
      simp [sacristylaw15_LineBack.j0]
    · simp only [decide_eq_false hb]
      simp only [sacristylaw15_LineBack.j0]
      rw [if_neg (by simp), put_eq l (by omega) (by omega)]
      simp only [Option.bind_some, putF]
      by_cases ho : l.all okL = true
      · simp only [ho, if_pos trivial]
        rw [cut_eq _ (enc_bytes ho) (by rw [joinE_length]; omega) (by rw [joinE_length]; omega), cutF_enc l ho]
        simp only [Option.bind_some, if_pos trivial, List.length_nil, Int.ofNat_zero]
        rw [same_eq l (by omega) (by omega)]
        simp only [Option.bind_some, if_pos trivial]

        exact back_j1 b hB (by omega) (by omega)
      · rw [if_neg ho, if_neg (by decide)]
        exact back_j1 b hB (by omega) (by omega)
theorem putF_append (a b : List Ln) (ha : a.all okL = true) (hb : b.all okL = true) : putF (a ++ b) = (a.flatMap encL ++ b.flatMap encL, 0) := by
  unfold putF
  rw [if_pos (by rw [List.all_append, ha, hb]; rfl), List.flatMap_append]
theorem putF_not (a b : List Ln) (h : ¬ (a.all okL = true ∧ b.all okL = true)) : putF (a ++ b) = ([], 1) := by
  unfold putF
  rw [if_neg (by rw [List.all_append, Bool.and_eq_true]; exact h)]
theorem many_true (l m : List Ln) (hl : l.length ≤ 9223372036854775807) (hm : m.length ≤ 9223372036854775807) : sacristylaw15_LineMany.f 800000 l m = some true := by
  unfold sacristylaw15_LineMany.f
  rw [show sacristylaw15_head.f = some true from rfl]
  obtain ⟨g, hg, hs⟩ := great_eq l hl (k := 800000) (by omega)
  obtain ⟨g', hg', hs'⟩ := great_eq m hm (k := 800000) (by omega)
  rw [hg, hg']
  simp only [Option.bind_some]
  cases g with
  | true => simp [sacristylaw15_LineMany.j0]
  | false =>
    have hs := hs rfl
    rw [if_neg (by simp)]
    cases g' with
    | true => simp [sacristylaw15_LineMany.j0]
    | false =>
      have hs' := hs' rfl
      simp only [sacristylaw15_LineMany.j0]
      rw [if_neg (by simp), put_eq l (by omega) (by omega), put_eq m (by omega) (by omega)]
      simp only [Option.bind_some, List.nil_append, List.length_nil]
      rw [if_pos (by omega), if_pos (by omega), put_eq (l ++ m) (by rw [List.length_append]; omega) (by rw [List.length_append]; omega)]
      simp only [Option.bind_some]
      by_cases ho : l.all okL = true
      · by_cases ho' : m.all okL = true
        · rw [putF_append l m ho ho']
          have e1 : putF l = (l.flatMap encL, 0) := by unfold putF; rw [if_pos ho]
          have e2 : putF m = (m.flatMap encL, 0) := by unfold putF; rw [if_pos ho']
          rw [e1, e2]
          simp only [if_pos trivial]
          have j1 := joinE_length l
          have j2 := joinE_length m
          simp only [sacristylaw15_LineMany.j1, Option.bind_some, List.nil_append, List.length_nil]
          have hc : line_Cut.f 799998 (l.flatMap encL ++ m.flatMap encL) = some (l ++ m, [], 0) := by
            rw [cut_eq _ ((enc_bytes ho).append (enc_bytes ho')) (by rw [List.length_append]; omega) (by rw [List.length_append]; omega)]
            rw [← List.flatMap_append, cutF_enc _ (by rw [List.all_append, ho, ho']; rfl)]
          rw [if_neg (by simp), if_pos (by omega), if_pos (by omega), hc]
          simp only [Option.bind_some, if_pos trivial]
          rw [if_pos (by rw [strOf_size, strOf_size]; omega), if_pos (by rw [strOf_append]), if_pos (by simp), if_pos (by omega), if_pos (by omega), same_eq _ (by rw [List.length_append]; omega) (by rw [List.length_append]; omega)]
          rfl
        · rw [putF_not l m (by simp [ho'])]
          have e2 : putF m = ([], 1) := by unfold putF; rw [if_neg ho']
          rw [e2]
          have e1 : (putF l).2 = 0 := by unfold putF; rw [if_pos ho]
          rw [if_pos e1]
          simp [sacristylaw15_LineMany.j1]
      · rw [putF_not l m (by simp [ho])]
        have e1 : (putF l).2 = 1 := by unfold putF; rw [if_neg ho]
        rw [if_neg (by rw [e1]; decide)]
        simp [sacristylaw15_LineMany.j1]
end Go.Proofs.Ytigcmhidbekgbaa.Line
