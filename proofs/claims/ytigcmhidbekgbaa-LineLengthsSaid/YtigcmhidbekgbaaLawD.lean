/- What LineLengths asks of the cut, in plain lists. -/
import Derived.Test.YtigcmhidbekgbaaLawC
namespace Go.Proofs.Ytigcmhidbekgbaa.Line
open Go.RowKit Go.Proofs.YtigcmhidbekgbaaW.PrintWords Go.Proofs.YtigcmhidbekgbaaW.PrintLast Go.Proofs.YtigcmhidbekgbaaW.PrintMore Go.Proofs.Ytigcmhidbekgbaa.Conv Go.Proofs.Ytigcmhidbekgbaa.Print

theorem len_flush {d1 d2 d3 d4 : Int} (h : len4 d1 d2 d3 d4 = 0) : cutF (d1 :: d2 :: d3 :: d4 :: []) = ([⟨true, ⟨#[]⟩⟩], [], 0) := by
  have e : cutB (d1 :: d2 :: d3 :: d4 :: []) = ([⟨true, ⟨#[]⟩⟩], [], 0) := by
    show cutR (3 + 1) _ = _
    rw [cutR_flush h, cutR_short _ _ (by simp)]
  unfold cutF
  rw [e]
  rfl
theorem len_line {d1 d2 d3 d4 n : Int} (h : len4 d1 d2 d3 d4 = n) (h1 : 5 ≤ n) (h2 : n ≤ 4004) (t : List Int) (ht : (t.length : Int) = n - 4) : ∃ s : ByteArray, (s.size : Int) = n - 4 ∧ cutF (d1 :: d2 :: d3 :: d4 :: t) = ([⟨false, s⟩], [], 0) := by
  have hl : (d1 :: d2 :: d3 :: d4 :: t).length = n.toNat := by simp only [List.length_cons]; omega
  have e : cutB (d1 :: d2 :: d3 :: d4 :: t) = ([⟨false, strOfNums t⟩], [], 0) := by
    show cutR (t.length + 3 + 1) _ = _
    rw [cutR_line (by omega) (by rw [hl, h]; omega) (by omega), h, List.take_of_length_le (i := n.toNat) (by rw [hl]; exact Nat.le_refl _), List.drop_of_length_le (i := n.toNat) (by rw [hl]; exact Nat.le_refl _), cutR_short _ _ (by simp)]
    rfl
  refine ⟨strOfNums t, by rw [strOf_size]; exact ht, ?_⟩
  unfold cutF
  rw [e]
  rfl
theorem len_bad {d1 d2 d3 d4 n : Int} (h : len4 d1 d2 d3 d4 = n) (h1 : n < 0 ∨ (0 < n ∧ n ≤ 4) ∨ 4004 < n) (t : List Int) : cutF (d1 :: d2 :: d3 :: d4 :: t) = ([], [], 3) := by
  have e : (cutB (d1 :: d2 :: d3 :: d4 :: t)).2.2 = 3 := by
    show (cutR (t.length + 3 + 1) _).2.2 = _
    rw [cutR_bad (by rw [h]; exact h1)]
  unfold cutF
  rw [e]
  rfl
theorem len_c (c d2 d3 d4 : Int) : ∃ us ps g, cutF [c, d2, d3, d4] = (us, ps, g) ∧ (hexv c < 0 → g = 3) := by
  by_cases h : hexv c < 0
  · exact ⟨_, _, _, len_bad (n := -1) (by unfold len4; rw [if_pos (.inl h)]) (.inl (by omega)) _, fun _ => rfl⟩
  · exact ⟨_, _, _, rfl, fun e => absurd e h⟩
theorem hexv_neg {c : Int} (h : ¬ (48 ≤ c ∧ c ≤ 57)) (h2 : ¬ (97 ≤ c ∧ c ≤ 102)) : hexv c < 0 := by unfold hexv; rw [if_neg h, if_neg h2]; omega
theorem store_reads {W : World} {g : Nat} {d1 d2 d3 d4 : Int} (a : Int) (hb : W.heap[g]? = some (.cells #[.int .u8 d1, .int .u8 d2, .int .u8 d3, .int .u8 d4] 5 (0, 0))) :
    Kd.C (Kd.int .u8) (W.setCell ⟨g, 0, none⟩ (.int .u8 a)) (some ⟨g, 0, none⟩) [a, d2, d3, d4].length [a, d2, d3, d4] := by
  have hg : g < W.heap.size := (Array.getElem?_eq_some_iff.1 hb).1
  have hb2 : (W.setCell ⟨g, 0, none⟩ (.int .u8 a)).heap[g]? = some (.cells #[.int .u8 a, .int .u8 d2, .int .u8 d3, .int .u8 d4] 5 (0, 0)) := by
    rw [Array.getElem?_eq_getElem hg] at hb
    simp [World.setCell, hg, Array.getElem_modify, Option.some.inj hb]
  refine C_nums rfl (by simp) (fun j hj => ?_)
  rw [cell_of_row _ _ j _ _ _ hb2]
  match j, hj with
  | 0, _ => rfl
  | 1, _ => rfl
  | 2, _ => rfl
  | 3, _ => rfl
  | n + 4, h => simp at h; omega
end Go.Proofs.Ytigcmhidbekgbaa.Line
