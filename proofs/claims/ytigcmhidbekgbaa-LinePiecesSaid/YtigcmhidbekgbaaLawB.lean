/- The plain law of LinePieces: what its function says is true. -/
import Derived.Test.YtigcmhidbekgbaaLine
import Derived.Test.YtigcmhidbekgbaaLawA
import Derived.Test.YtigcmhidbekgbaaPrint7
namespace Go.Proofs.Ytigcmhidbekgbaa.Line
open Go.RowKit Go.Proofs.YtigcmhidbekgbaaW.PrintWords Go.Proofs.YtigcmhidbekgbaaW.PrintLast Go.Proofs.YtigcmhidbekgbaaW.PrintMore Go.Proofs.Ytigcmhidbekgbaa.Conv Go.Proofs.Ytigcmhidbekgbaa.Print

theorem cutF_ok {b : List Int} (h : (cutB b).2.2 = 0) : cutF b = ((cutB b).1, (cutB b).2.1, 0) := if_pos h
theorem cutF_bad {b : List Int} (h : (cutB b).2.2 ≠ 0) : cutF b = ([], [], 3) := if_neg h
theorem pieces_true (b : List Int) (a1 : Int) (hB : Bytes b) (h0 : 0 ≤ a1) (h1 : a1 ≤ 65535) : sacristylaw15_LinePieces.f 100000 b a1 = some true := by
  unfold sacristylaw15_LinePieces.f
  rw [show sacristylaw15_head.f = some true from rfl]
  simp only [Option.bind_some]
  by_cases hl : (b.length : Int) > 20000
  · rw [if_pos hl]
  · rw [if_neg hl, w64 (x := (b.length : Int) + 1) (by omega) (by omega), w64 (x := a1) (by omega) (by omega), if_neg (by omega)]
    obtain ⟨j, hj, hj2⟩ : ∃ j : Nat, Int.tmod a1 ((b.length : Int) + 1) = j ∧ j ≤ b.length := by
      have e := Int.tmod_eq_emod_of_nonneg (b := (b.length : Int) + 1) h0
      have p := Int.emod_nonneg a1 (b := (b.length : Int) + 1) (by omega)
      have q := Int.emod_lt_of_pos a1 (b := (b.length : Int) + 1) (by omega)
      exact ⟨(Int.tmod a1 ((b.length : Int) + 1)).toNat, by omega, by omega⟩
    rw [hj, Int.toNat_natCast, cut_eq b hB (by omega) (by omega)]
    simp only [Option.bind_some]
    rw [if_pos (by omega), if_pos (by omega)]
    have hbq : b.take j ++ b.drop j = b := List.take_append_drop j b
    have hp := hB.take j
    have hq := hB.drop j
    have lp : (b.take j).length ≤ 20000 := by rw [List.length_take]; omega
    have lq : (b.drop j).length ≤ 20000 := by rw [List.length_drop]; omega
    generalize b.take j = p at *
    generalize b.drop j = q at *
    have two := cutB_two p q
    rw [hbq] at two
    rw [cut_eq p hp (by omega) (by omega)]
    simp only [Option.bind_some, List.nil_append, List.length_nil]
    by_cases hc : (cutB p).2.2 = 0
    · have eB := two.1 hc
      obtain ⟨f1, f2, f3, f4⟩ := cutB_facts p hp
      have hB2 := f3.append hq
      have hl2 : ((cutB p).2.1 ++ q).length ≤ 40000 := by rw [List.length_append]; omega
      rw [cutF_ok hc]
      simp only [if_pos trivial]
      rw [if_pos (by omega), if_pos (by omega), cut_eq _ hB2 (by omega) (by omega)]
      simp only [Option.bind_some]
      obtain ⟨g1, g2, g3, g4⟩ := cutB_facts _ hB2
      by_cases hd : (cutB ((cutB p).2.1 ++ q)).2.2 = 0
      · have hb : (cutB b).2.2 = 0 := by rw [eB]; exact hd
        rw [cutF_ok hd, cutF_ok hb]
        simp only [if_pos trivial]
        have e1 : (cutB b).1 = (cutB p).1 ++ (cutB ((cutB p).2.1 ++ q)).1 := by rw [eB]
        have e2 : (cutB b).2.1 = (cutB ((cutB p).2.1 ++ q)).2.1 := by rw [eB]
        rw [e1, e2, if_pos (by omega), if_pos (by omega), same_eq _ (by rw [List.length_append]; omega) (by rw [List.length_append]; omega)]
        simp
      · have hb : (cutB b).2.2 ≠ 0 := by rw [eB]; exact hd
        rw [cutF_bad hd, cutF_bad hb]
        simp
    · have hb := (two.2 hc).2
      rw [cutF_bad hc, cutF_bad (by omega)]
      simp
end Go.Proofs.Ytigcmhidbekgbaa.Line
