/- The plain law of LineParts: what its function says is true; parts of bytes, the reference's too. -/
import Derived.Test.YtigcmhidbekgbaaLine
import Derived.Test.YtigcmhidbekgbaaLawA
import Derived.Test.YtigcmhidbekgbaaPrint8
namespace Go.Proofs.Ytigcmhidbekgbaa.Line
open Go.RowKit Go.Proofs.YtigcmhidbekgbaaW.PrintWords Go.Proofs.YtigcmhidbekgbaaW.PrintLast Go.Proofs.YtigcmhidbekgbaaW.PrintMore Go.Proofs.Ytigcmhidbekgbaa.Conv Go.Proofs.Ytigcmhidbekgbaa.Print

theorem pieces_nil : pieces [] = [] := rfl
theorem pieces_length (b : List Int) : (pieces b).length = (b.length + 3999) / 4000 := by unfold pieces; simp
theorem pieces_get (b : List Int) (i : Nat) (h : i < (pieces b).length) : (pieces b)[i] = (b.drop (4000 * i)).take 4000 := by
  rw [List.getElem_of_eq (show pieces b = (List.range ((b.length + 3999) / 4000)).map fun i => (b.drop (4000 * i)).take 4000 from rfl) h]
  simp
theorem pieces_cons (b : List Int) (h : b ≠ []) : pieces b = b.take 4000 :: pieces (b.drop 4000) := by
  have hl : 0 < b.length := List.length_pos_iff.2 h
  unfold pieces
  rw [show (b.length + 3999) / 4000 = ((b.drop 4000).length + 3999) / 4000 + 1 by rw [List.length_drop]; omega, List.range_succ_eq_map, List.map_cons, List.map_map]
  congr 1
  refine List.map_congr_left fun i _ => ?_
  simp only [Function.comp, List.drop_drop]
  congr 2
  omega
theorem lineOf_bytes {p : List Int} (h : Bytes p) : bytesOf (lineOf p).f1 = p := bytesOf_strOf h
theorem pieces_join (n : Nat) : ∀ b : List Int, b.length ≤ n → Bytes b → ((pieces b).map lineOf).flatMap (fun x => bytesOf x.f1) = b := by
  induction n with
  | zero => intro b hb _; obtain rfl := List.eq_nil_of_length_eq_zero (Nat.le_zero.1 hb); rfl
  | succ n ih =>
    intro b hb hB
    by_cases h : b = []
    · subst h; rfl
    · have hl : 0 < b.length := List.length_pos_iff.2 h
      rw [pieces_cons b h, List.map_cons, List.flatMap_cons, lineOf_bytes (hB.take 4000), ih (b.drop 4000) (by rw [List.length_drop]; omega) (hB.drop 4000), List.take_append_drop]
def flushL : Ln := ⟨true, ⟨#[]⟩⟩
def partsF (b : List Int) : List Ln := (pieces b).map lineOf ++ [flushL]
theorem parts_eq (b : List Int) (h : b.length < 140737488355328) : line_Parts.f b = some (partsF b) := if_pos h
theorem partsF_length (b : List Int) : (partsF b).length = (b.length + 3999) / 4000 + 1 := by unfold partsF; rw [List.length_append, List.length_map, pieces_length]; rfl
theorem partsF_join (b : List Int) (hB : Bytes b) : joinF (partsF b) = b := by
  unfold joinF partsF
  rw [List.flatMap_append, pieces_join b.length b (Nat.le_refl _) hB]
  simp [flushL, bytesOf]
theorem lineOf_size (p : List Int) : (lineOf p).f1.size = p.length := strOf_size p
theorem lineOf_flush (p : List Int) : (lineOf p).f0 = false := rfl
theorem piece_len (b : List Int) (i : Nat) (h : i < (pieces b).length) : (pieces b)[i].length = min 4000 (b.length - 4000 * i) := by rw [pieces_get, List.length_take, List.length_drop]
theorem piece_ok (b : List Int) (i : Nat) (h : i < (pieces b).length) : okL (lineOf (pieces b)[i]) = true := by
  have h2 := piece_len b i h
  have h3 := h
  rw [pieces_length] at h3
  unfold okL
  rw [lineOf_size, lineOf_flush, h2]
  have h4 : 0 < min 4000 (b.length - 4000 * i) := by omega
  have h5 : min 4000 (b.length - 4000 * i) ≤ 4000 := by omega
  generalize min 4000 (b.length - 4000 * i) = m at *
  have e1 : (((m : Nat) : Int) == 0) = false := by simp; omega
  have e2 : decide (((m : Nat) : Int) > 4000) = false := by simp; omega
  rw [e1, e2]
  rfl
theorem partsF_ok (b : List Int) : (partsF b).all okL = true := by
  unfold partsF
  rw [List.all_append, Bool.and_eq_true]
  refine ⟨List.all_eq_true.2 fun x hx => ?_, by decide⟩
  obtain ⟨p, hp, rfl⟩ := List.mem_map.1 hx
  obtain ⟨i, hi, rfl⟩ := List.mem_iff_getElem.1 hp
  exact piece_ok b i hi
theorem partsF_get (b : List Int) (i : Nat) (h : i < (pieces b).length) (h' : i < (partsF b).length) : (partsF b)[i] = lineOf (pieces b)[i] := by
  rw [List.getElem_of_eq (show partsF b = (pieces b).map lineOf ++ [flushL] from rfl) h', List.getElem_append_left (by rw [List.length_map]; exact h), List.getElem_map]
theorem partsF_last (b : List Int) (h' : (pieces b).length < (partsF b).length) : (partsF b)[(pieces b).length] = flushL := by
  rw [List.getElem_of_eq (show partsF b = (pieces b).map lineOf ++ [flushL] from rfl) h', List.getElem_append_right (by rw [List.length_map]; exact Nat.le_refl _)]
  simp
theorem partsF_sizes (b : List Int) (hB : Bytes b) : sizes (partsF b) = b.length := by rw [← joinF_length, partsF_join b hB]

theorem parts_loop (b : List Int) (hb : b.length ≤ 30000) : ∀ (d i k : Nat), i + d = (partsF b).length → d + 200 ≤ k → sacristylaw15_LineParts.l0 k true (partsF b) (i : Int) = some true := by
  have hL := partsF_length b
  have hP := pieces_length b
  intro d
  induction d with
  | zero =>
    intro i k hi hk
    obtain ⟨k, rfl⟩ : ∃ j, k = j + 1 := ⟨k - 1, by omega⟩
    simp only [sacristylaw15_LineParts.l0]
    rw [if_neg (by omega), put_eq _ (by omega) (by omega)]
    simp only [Option.bind_some, putF, partsF_ok, if_pos trivial]
    rfl
  | succ d ih =>
    intro i k hi hk
    obtain ⟨k, rfl⟩ : ∃ j, k = j + 1 := ⟨k - 1, by omega⟩
    have hlt : i < (partsF b).length := by omega
    have step : wrap64 ((i : Int) + 1) = ((i + 1 : Nat) : Int) := by rw [w64 (by omega) (by omega)]; rfl
    simp only [sacristylaw15_LineParts.l0]
    rw [if_pos (by omega), if_pos (by omega), w64 (x := ((partsF b).length : Int) - 1) (by omega) (by omega), w64 (x := ((partsF b).length : Int) - 2) (by omega) (by omega), step, ih (i + 1) k (by omega) (by omega), rdT_get _ _ hlt]
    by_cases hl : i < (pieces b).length
    · rw [partsF_get b i hl hlt, lineOf_flush, lineOf_size, piece_len b i hl]
      have e1 : ((i : Int) == ((partsF b).length : Int) - 1) = false := by simp; omega
      rw [e1, if_neg (by decide)]
      by_cases h2 : (i : Int) < ((partsF b).length : Int) - 2
      · rw [if_pos h2, if_pos (by omega)]
      · rw [if_neg h2]
    · obtain rfl : i = (pieces b).length := by omega
      rw [partsF_last b hlt]
      have e1 : (((pieces b).length : Int) == ((partsF b).length : Int) - 1) = true := by simp; omega
      rw [e1, if_neg (by decide), if_neg (by omega)]
theorem parts_true (b : List Int) (a1 : Int) (hB : Bytes b) (h0 : 0 ≤ a1) (h1 : a1 ≤ 65535) : sacristylaw15_LineParts.f 1000 b a1 = some true := by
  unfold sacristylaw15_LineParts.f
  rw [show sacristylaw15_head.f = some true from rfl]
  simp only [Option.bind_some]
  by_cases hl : (b.length : Int) > 20000
  · rw [if_pos hl]
  · rw [if_neg hl]
    obtain ⟨j, hj, hj2⟩ : ∃ j : Nat, wrap64 (Int.tmod a1 9000) = j ∧ j < 9000 := by
      have e := Int.tmod_eq_emod_of_nonneg (b := 9000) h0
      have p := Int.emod_nonneg a1 (b := 9000) (by omega)
      have q := Int.emod_lt_of_pos a1 (b := 9000) (by omega)
      exact ⟨(Int.tmod a1 9000).toNat, by rw [w64 (by omega) (by omega)]; omega, by omega⟩
    rw [hj]
    simp only [List.nil_append, List.length_nil, Int.toNat_natCast]
    rw [if_pos (by omega), if_pos (by omega), if_pos (by omega)]
    have hB2 : Bytes (b ++ List.replicate j 0) := hB.append (fun x hx => by rw [(List.mem_replicate.1 hx).2]; exact ⟨by omega, by omega⟩)
    have hl2 : (b ++ List.replicate j (0 : Int)).length ≤ 30000 := by rw [List.length_append, List.length_replicate]; omega
    generalize b ++ List.replicate j (0 : Int) = c at *
    have hL := partsF_length c
    rw [parts_eq c (by omega)]
    simp only [Option.bind_some]
    rw [(join_eq (partsF c) (by omega) (by rw [partsF_sizes c hB2]; omega) (k := 1000) (by omega)).1]
    simp only [Option.bind_some]
    rw [if_pos (by rw [partsF_join c hB2]), w64 (x := (c.length : Int) + 4000) (by omega) (by omega), w64 (x := (c.length : Int) + 4000 - 1) (by omega) (by omega)]
    have e2 : Int.tdiv ((c.length : Int) + 4000 - 1) 4000 = (((c.length + 3999) / 4000 : Nat) : Int) := by
      rw [Int.tdiv_eq_ediv_of_nonneg (by omega)]; omega
    rw [e2, w64 (x := (((c.length + 3999) / 4000 : Nat) : Int)) (by omega) (by omega), w64 (by omega) (by omega)]
    have e3 : (((partsF c).length : Int) != 1 + (((c.length + 3999) / 4000 : Nat) : Int)) = false := by simp; omega
    rw [e3]
    simp only [sacristylaw15_LineParts.j0]
    rw [if_neg (by decide)]
    exact parts_loop c hl2 _ 0 999 (Nat.zero_add _) (by omega)
theorem rparts_loop (n : Nat) : ∀ (b : List Int) (out : List Ln) (k : Nat), b.length ≤ n → out.length + b.length ≤ 1000000000 → b.length + 1 ≤ k → sacristyref15_Parts.l0 k b out = some (out ++ partsF b) := by
  induction n with
  | zero =>
    intro b out k hb ho hk
    obtain rfl := List.eq_nil_of_length_eq_zero (Nat.le_zero.1 hb)
    obtain ⟨k, rfl⟩ : ∃ j, k = j + 1 := ⟨k - 1, by omega⟩
    simp only [sacristyref15_Parts.l0]
    rw [if_neg (by simp), if_pos (by omega)]
    rfl
  | succ n ih =>
    intro b out k hb ho hk
    obtain ⟨k, rfl⟩ : ∃ j, k = j + 1 := ⟨k - 1, by omega⟩
    simp only [sacristyref15_Parts.l0]
    by_cases h : b = []
    · subst h
      rw [if_neg (by simp), if_pos (by omega)]
      rfl
    · have hl : 0 < b.length := List.length_pos_iff.2 h
      have hm : (mn (b.length : Int) 4000) = ((min b.length 4000 : Nat) : Int) := by unfold mn; split <;> omega
      rw [if_pos (by omega), hm, if_pos (by omega), if_pos (by omega), if_pos (by omega), Int.toNat_natCast]
      have e1 : b.drop (min b.length 4000) = b.drop 4000 := by
        by_cases c : b.length ≤ 4000
        · rw [Nat.min_eq_left c, List.drop_of_length_le (Nat.le_refl _), List.drop_of_length_le c]
        · rw [Nat.min_eq_right (by omega)]
      have e2 : b.take (min b.length 4000) = b.take 4000 := by
        by_cases c : b.length ≤ 4000
        · rw [Nat.min_eq_left c, List.take_of_length_le (Nat.le_refl _), List.take_of_length_le c]
        · rw [Nat.min_eq_right (by omega)]
      rw [e1, e2, ih (b.drop 4000) _ k (by rw [List.length_drop]; omega) (by rw [List.length_append, List.length_drop]; simp; omega) (by rw [List.length_drop]; omega)]
      unfold partsF
      rw [pieces_cons b h]
      simp [lineOf]
theorem rparts_eq (b : List Int) (h : b.length ≤ 1000000000) {k : Nat} (hk : b.length + 1 ≤ k) : sacristyref15_Parts.f k b = some (partsF b) := by
  have := rparts_loop b.length b [] k (Nat.le_refl _) (by simpa using h) hk
  rw [List.nil_append] at this
  exact this
end Go.Proofs.Ytigcmhidbekgbaa.Line
