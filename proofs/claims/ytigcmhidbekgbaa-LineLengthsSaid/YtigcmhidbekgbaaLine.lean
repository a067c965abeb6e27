/- Lines as plain functions: what the program's functions and the reference's tell of them. -/
import Derived.Test.YtigcmhidbekgbaaPrint5
import Derived.Test.YtigcmhidbekgbaaPrint4
import Derived.Test.YtigcmhidbekgbaaPrint3
import Derived.Test.YtigcmhidbekgbaaPrint6
namespace Go.Proofs.Ytigcmhidbekgbaa.Line
open Go.RowKit Go.Proofs.YtigcmhidbekgbaaW.PrintWords Go.Proofs.YtigcmhidbekgbaaW.PrintLast Go.Proofs.YtigcmhidbekgbaaW.PrintMore Go.Proofs.Ytigcmhidbekgbaa.Conv Go.Proofs.Ytigcmhidbekgbaa.Print

abbrev Ln := S38
def Byte (x : Int) : Prop := 0 ≤ x ∧ x ≤ 255

theorem w64 {x : Int} (h0 : -9223372036854775808 ≤ x) (h1 : x ≤ 9223372036854775807) : wrap64 x = x := by unfold wrap64; omega

/-- What a digit says; below 0: it is none. -/
def hexv (c : Int) : Int := if 48 ≤ c ∧ c ≤ 57 then c - 48 else if 97 ≤ c ∧ c ≤ 102 then c - 87 else -1
theorem hexv_bd (c : Int) : -1 ≤ hexv c ∧ hexv c < 16 := by unfold hexv; split; omega; split <;> omega
def digits : List Int := [48, 49, 50, 51, 52, 53, 54, 55, 56, 57, 97, 98, 99, 100, 101, 102]
theorem idx_nat : ∀ n : Fin 256, Lib.indexByte (Lib.bytesOf [48, 49, 50, 51, 52, 53, 54, 55, 56, 57, 97, 98, 99, 100, 101, 102]) (n.val.toUInt8) = hexv n.val := by decide +kernel
theorem idx (c : Int) (h : Byte c) : Lib.indexByte (Lib.bytesOf [48, 49, 50, 51, 52, 53, 54, 55, 56, 57, 97, 98, 99, 100, 101, 102]) c.toNat.toUInt8 = hexv c := by
  have h1 := h.1
  have h2 := h.2
  have := idx_nat ⟨c.toNat, by omega⟩
  simp only at this
  rw [this, Int.toNat_of_nonneg h1]
theorem or16 (x v : Int) (h0 : 0 ≤ x) (h1 : x ≤ 4095) (h2 : 0 ≤ v) (h3 : v < 16) : Go.bits .or .i64 (wrap64 (x * 16)) v = x * 16 + v := by
  rw [w64 (by omega) (by omega)]
  exact bits_join .i64 60 (by decide) (fun n h0 h1 => by rw [IntKind.wrap_i64]; omega) 4 _ _ (by omega) (by omega) (by omega) h2 (by omega) (by omega)
/-- What four digits say. -/
def len4 (a b c d : Int) : Int := if hexv a < 0 ∨ hexv b < 0 ∨ hexv c < 0 ∨ hexv d < 0 then -1 else ((hexv a * 16 + hexv b) * 16 + hexv c) * 16 + hexv d
theorem len4_bd (a b c d : Int) : -1 ≤ len4 a b c d ∧ len4 a b c d ≤ 65535 := by
  have := hexv_bd a; have := hexv_bd b; have := hexv_bd c; have := hexv_bd d
  unfold len4; split <;> omega

theorem length_step (k : Nat) (x : Int) (l : List Int) (hl : l.length = 4) (i : Nat) (hi : i < 4) (h0 : 0 ≤ x) (h1 : x ≤ 4095) (hb : Byte (rd l i)) :
    line_length.l0 (k + 1) x l 4 i = if hexv (rd l i) < 0 then some (-1) else line_length.l0 k (x * 16 + hexv (rd l i)) l 4 ((i + 1 : Nat) : Int) := by
  simp only [line_length.l0]
  rw [if_pos (by omega), if_pos (by omega), if_pos (by omega)]
  simp only [lit_bytes.f, Option.bind_some, bytes_IndexByte.f]
  rw [if_pos (by decide)]
  simp only [Option.bind_some]
  rw [idx _ hb]
  have := hexv_bd (rd l i)
  by_cases h : hexv (rd l i) < 0
  · rw [if_pos h, if_pos h]
  · rw [if_neg h, if_neg h, or16 _ _ h0 h1 (by omega) (by omega), w64 (by omega) (by omega)]
    rfl
theorem length_end (k : Nat) (x : Int) (l : List Int) (_hl : l.length = 4) : line_length.l0 (k + 1) x l 4 ((4 : Nat) : Int) = some x := by
  simp only [line_length.l0]
  rw [if_neg (by omega)]
theorem length_eq (a b c d : Int) (t : List Int) (ha : Byte a) (hb : Byte b) (hc : Byte c) (hd : Byte d) {k : Nat} (hk : 5 ≤ k) : line_length.f k (a :: b :: c :: d :: t) = some (len4 a b c d) := by
  refine at_rounds (line_length.mono _) hk ?_
  unfold line_length.f
  rw [if_pos (by simp; omega)]
  have e : (a :: b :: c :: d :: t).take 4 = [a, b, c, d] := rfl
  rw [e]
  have h4 : [a, b, c, d].length = 4 := rfl
  show line_length.l0 (4 + 1) 0 [a, b, c, d] 4 ((0 : Nat) : Int) = _
  have va := hexv_bd a; have vb := hexv_bd b; have vc := hexv_bd c; have vd := hexv_bd d
  rw [length_step 4 0 _ h4 0 (by omega) (by omega) (by omega) ha]
  simp only [show rd [a, b, c, d] ((0 : Nat) : Int) = a from rfl]
  unfold len4
  by_cases h1 : hexv a < 0
  · rw [if_pos h1, if_pos (.inl h1)]
  rw [if_neg h1, length_step 3 _ _ h4 1 (by omega) (by omega) (by omega) hb]
  simp only [show rd [a, b, c, d] ((0 + 1 : Nat) : Int) = b from rfl]
  by_cases h2 : hexv b < 0
  · rw [if_pos h2, if_pos (.inr (.inl h2))]
  rw [if_neg h2, length_step 2 _ _ h4 2 (by omega) (by omega) (by omega) hc]
  simp only [show rd [a, b, c, d] ((2 : Nat) : Int) = c from rfl]
  by_cases h3 : hexv c < 0
  · rw [if_pos h3, if_pos (.inr (.inr (.inl h3)))]
  rw [if_neg h3, length_step 1 _ _ h4 3 (by omega) (by omega) (by omega) hd]
  simp only [show rd [a, b, c, d] ((3 : Nat) : Int) = d from rfl]
  by_cases h5 : hexv d < 0
  · rw [if_pos h5, if_pos (.inr (.inr (.inr h5)))]
  rw [if_neg h5, length_end 0 _ _ h4, if_neg (by omega)]
  simp

/-! ### digits of a length -/
def hexd (n : Int) : Int := bt ⟨#[48, 49, 50, 51, 52, 53, 54, 55, 56, 57, 97, 98, 99, 100, 101, 102]⟩ n
def hex4 (n : Int) : List Int := [hexd (n / 4096), hexd (n / 256 % 16), hexd (n / 16 % 16), hexd (n % 16)]
theorem hexd_nat : ∀ n : Fin 16, hexv (hexd n.val) = n.val ∧ 48 ≤ hexd n.val ∧ hexd n.val ≤ 102 := by decide +kernel
theorem hexv_hexd (n : Int) (h0 : 0 ≤ n) (h1 : n < 16) : hexv (hexd n) = n := by
  obtain ⟨m, rfl⟩ := Int.eq_ofNat_of_zero_le h0
  exact (hexd_nat ⟨m, by omega⟩).1
theorem hexd_byte (n : Int) (h0 : 0 ≤ n) (h1 : n < 16) : Byte (hexd n) := by
  obtain ⟨m, rfl⟩ := Int.eq_ofNat_of_zero_le h0
  have := (hexd_nat ⟨m, by omega⟩).2
  simp only at this
  exact ⟨by omega, by omega⟩
theorem hexd_hexv_nat : ∀ c : Fin 256, 0 ≤ hexv c.val → hexd (hexv c.val) = c.val := by decide +kernel
theorem hexd_hexv (c : Int) (hc : Byte c) (h : 0 ≤ hexv c) : hexd (hexv c) = c := by
  have h1 := hc.1
  have h2 := hc.2
  obtain ⟨m, rfl⟩ := Int.eq_ofNat_of_zero_le h1
  exact hexd_hexv_nat ⟨m, by omega⟩ h
theorem hex4_length (n : Int) : (hex4 n).length = 4 := rfl
theorem hex4_byte (n : Int) (h0 : 0 ≤ n) (h1 : n ≤ 65535) : ∀ x ∈ hex4 n, Byte x := by
  intro x hx
  simp only [hex4, List.mem_cons, List.not_mem_nil, or_false] at hx
  rcases hx with rfl | rfl | rfl | rfl <;> exact hexd_byte _ (by omega) (by omega)
theorem len4_hex4 (n : Int) (h0 : 0 ≤ n) (h1 : n ≤ 65535) : len4 (hexd (n / 4096)) (hexd (n / 256 % 16)) (hexd (n / 16 % 16)) (hexd (n % 16)) = n := by
  unfold len4
  rw [hexv_hexd _ (by omega) (by omega), hexv_hexd _ (by omega) (by omega), hexv_hexd _ (by omega) (by omega), hexv_hexd _ (by omega) (by omega), if_neg (by omega)]
  omega
theorem hex4_len4 (a b c d : Int) (ha : Byte a) (hb : Byte b) (hc : Byte c) (hd : Byte d) (h : 0 ≤ len4 a b c d) : hex4 (len4 a b c d) = [a, b, c, d] := by
  have va := hexv_bd a; have vb := hexv_bd b; have vc := hexv_bd c; have vd := hexv_bd d
  have hn : ¬ (hexv a < 0 ∨ hexv b < 0 ∨ hexv c < 0 ∨ hexv d < 0) := fun e => by unfold len4 at h; rw [if_pos e] at h; omega
  have e : len4 a b c d = ((hexv a * 16 + hexv b) * 16 + hexv c) * 16 + hexv d := by unfold len4; rw [if_neg hn]
  unfold hex4
  rw [show len4 a b c d / 4096 = hexv a by omega, show len4 a b c d / 256 % 16 = hexv b by omega, show len4 a b c d / 16 % 16 = hexv c by omega, show len4 a b c d % 16 = hexv d by omega,
    hexd_hexv a ha (by omega), hexd_hexv b hb (by omega), hexd_hexv c hc (by omega), hexd_hexv d hd (by omega)]

/-! ### lines of bytes -/
def badLen (m : Int) : Bool := decide (m < 0 ∨ (0 < m ∧ m ≤ 4) ∨ 4004 < m)
def cutR : Nat → List Int → List Ln × List Int × Int
  | n + 1, a :: x :: c :: d :: t =>
    if badLen (len4 a x c d) then ([], a :: x :: c :: d :: t, 3)
    else if ((a :: x :: c :: d :: t).length : Int) < len4 a x c d then ([], a :: x :: c :: d :: t, 0)
    else if len4 a x c d = 0 then (⟨true, ⟨#[]⟩⟩ :: (cutR n t).1, (cutR n t).2)
    else (⟨false, strOfNums (((a :: x :: c :: d :: t).take (len4 a x c d).toNat).drop 4)⟩ :: (cutR n ((a :: x :: c :: d :: t).drop (len4 a x c d).toNat)).1, (cutR n ((a :: x :: c :: d :: t).drop (len4 a x c d).toNat)).2)
  | _, b => ([], b, 0)
theorem cutR_short (n : Nat) (b : List Int) (h : b.length < 4) : cutR n b = ([], b, 0) := by
  unfold cutR
  split
  · simp at h; omega
  · rfl
theorem four (b : List Int) (h : ¬ b.length < 4) : ∃ a x c d t, b = a :: x :: c :: d :: t := by
  match b, h with
  | a :: x :: c :: d :: t, _ => exact ⟨a, x, c, d, t, rfl⟩
  | [], h => simp at h
  | [_], h => simp at h
  | [_, _], h => simp at h
  | [_, _, _], h => simp at h
def Bytes (b : List Int) : Prop := ∀ x ∈ b, Byte x
theorem Bytes.drop {b : List Int} (h : Bytes b) (n : Nat) : Bytes (b.drop n) := fun x hx => h x (List.mem_of_mem_drop hx)
theorem Bytes.take {b : List Int} (h : Bytes b) (n : Nat) : Bytes (b.take n) := fun x hx => h x (List.mem_of_mem_take hx)
theorem Bytes.append {a b : List Int} (h : Bytes a) (k : Bytes b) : Bytes (a ++ b) := fun x hx => (List.mem_append.1 hx).elim (h x) (k x)

section
variable {n : Nat} {a x c d : Int} {t : List Int}
theorem badLen_iff (m : Int) : badLen m = true ↔ m < 0 ∨ (0 < m ∧ m ≤ 4) ∨ 4004 < m := by unfold badLen; simp
theorem cutR_bad (h : len4 a x c d < 0 ∨ (0 < len4 a x c d ∧ len4 a x c d ≤ 4) ∨ 4004 < len4 a x c d) : cutR (n + 1) (a :: x :: c :: d :: t) = ([], a :: x :: c :: d :: t, 3) := by
  simp only [cutR]
  rw [if_pos ((badLen_iff _).2 h)]
theorem cutR_lack (h : ¬ (len4 a x c d < 0 ∨ (0 < len4 a x c d ∧ len4 a x c d ≤ 4) ∨ 4004 < len4 a x c d)) (h2 : ((a :: x :: c :: d :: t).length : Int) < len4 a x c d) : cutR (n + 1) (a :: x :: c :: d :: t) = ([], a :: x :: c :: d :: t, 0) := by
  simp only [cutR]
  rw [if_neg (fun e => h ((badLen_iff _).1 e)), if_pos h2]
theorem cutR_flush (h3 : len4 a x c d = 0) : cutR (n + 1) (a :: x :: c :: d :: t) = (⟨true, ⟨#[]⟩⟩ :: (cutR n t).1, (cutR n t).2) := by
  simp only [cutR]
  rw [if_neg (fun e => by have := (badLen_iff _).1 e; omega), if_neg (by rw [h3]; simp; omega), if_pos h3]
theorem cutR_line (h : ¬ (len4 a x c d < 0 ∨ (0 < len4 a x c d ∧ len4 a x c d ≤ 4) ∨ 4004 < len4 a x c d)) (h2 : ¬ ((a :: x :: c :: d :: t).length : Int) < len4 a x c d) (h3 : ¬ len4 a x c d = 0) :
    cutR (n + 1) (a :: x :: c :: d :: t) = (⟨false, strOfNums (((a :: x :: c :: d :: t).take (len4 a x c d).toNat).drop 4)⟩ :: (cutR n ((a :: x :: c :: d :: t).drop (len4 a x c d).toNat)).1, (cutR n ((a :: x :: c :: d :: t).drop (len4 a x c d).toNat)).2) := by
  simp only [cutR]
  rw [if_neg (fun e => h ((badLen_iff _).1 e)), if_neg h2, if_neg h3]
end

theorem cut_l : ∀ (n : Nat) (b : List Int) (out : List Ln) (k : Nat), b.length ≤ n → Bytes b → n + 6 ≤ k → line_Cut.l k b out = some (out ++ (cutR n b).1, (cutR n b).2.1, (cutR n b).2.2) := by
  intro n
  induction n with
  | zero =>
    intro b out k hb hB hk
    obtain ⟨k, rfl⟩ : ∃ m, k = m + 1 := ⟨k - 1, by omega⟩
    simp only [line_Cut.l]
    rw [if_pos (by omega), cutR_short _ _ (by omega)]
    simp
  | succ n ih =>
    intro b out k hb hB hk
    obtain ⟨k, rfl⟩ : ∃ m, k = m + 1 := ⟨k - 1, by omega⟩
    simp only [line_Cut.l]
    by_cases h4 : b.length < 4
    · rw [if_pos h4, cutR_short _ _ h4]
      simp
    · rw [if_neg h4]
      obtain ⟨a, x, c, d, t, rfl⟩ := four b h4
      rw [length_eq a x c d t (hB a (by simp)) (hB x (by simp)) (hB c (by simp)) (hB d (by simp)) (by omega)]
      simp only [Option.bind_some]
      by_cases h1 : len4 a x c d < 0 ∨ (0 < len4 a x c d ∧ len4 a x c d ≤ 4) ∨ 4004 < len4 a x c d
      · rw [if_pos h1, cutR_bad h1]
        simp
      · rw [if_neg h1]
        by_cases h2 : ((a :: x :: c :: d :: t).length : Int) < len4 a x c d
        · rw [if_pos h2, cutR_lack h1 h2]
          simp
        · rw [if_neg h2]
          by_cases h3 : len4 a x c d = 0
          · rw [if_pos h3, cutR_flush h3]
            have e : (a :: x :: c :: d :: t).drop 4 = t := rfl
            rw [e, ih t _ k (by simp at hb; omega) (hB.drop 4) (by omega)]
            simp
          · rw [if_neg h3, cutR_line h1 h2 h3]
            rw [ih _ _ k (by rw [List.length_drop]; simp at hb ⊢; omega) (hB.drop _) (by omega)]
            simp

theorem cutR_more (n : Nat) : ∀ (b : List Int) (m : Nat), b.length ≤ n → n ≤ m → cutR m b = cutR n b := by
  induction n with
  | zero => intro b m hb _; rw [cutR_short _ _ (by omega), cutR_short _ _ (by omega)]
  | succ n ih =>
    intro b m hb hm
    obtain ⟨m, rfl⟩ : ∃ q, m = q + 1 := ⟨m - 1, by omega⟩
    by_cases h4 : b.length < 4
    · rw [cutR_short _ _ h4, cutR_short _ _ h4]
    · obtain ⟨a, x, c, d, t, rfl⟩ := four b h4
      by_cases h1 : len4 a x c d < 0 ∨ (0 < len4 a x c d ∧ len4 a x c d ≤ 4) ∨ 4004 < len4 a x c d
      · rw [cutR_bad h1, cutR_bad h1]
      · by_cases h2 : ((a :: x :: c :: d :: t).length : Int) < len4 a x c d
        · rw [cutR_lack h1 h2, cutR_lack h1 h2]
        · by_cases h3 : len4 a x c d = 0
          · rw [cutR_flush h3, cutR_flush h3, ih t m (by simp at hb; omega) (by omega)]
          · rw [cutR_line h1 h2 h3, cutR_line h1 h2 h3, ih _ m (by rw [List.length_drop]; simp at hb ⊢; omega) (by omega)]
/-- The lines that bytes begin with, what is left, the error. -/
def cutB (b : List Int) : List Ln × List Int × Int := cutR b.length b
theorem cutR_eq (n : Nat) (b : List Int) (h : b.length ≤ n) : cutR n b = cutB b := cutR_more b.length b n (Nat.le_refl _) h
theorem cutR_facts (n : Nat) : ∀ (b : List Int), b.length ≤ n → Bytes b → (cutR n b).1.length * 4 ≤ b.length ∧ (cutR n b).2.1.length ≤ b.length ∧ Bytes (cutR n b).2.1 ∧ ((cutR n b).2.2 = 0 ∨ (cutR n b).2.2 = 3) := by
  induction n with
  | zero => intro b hb hB; rw [cutR_short _ _ (by omega)]; exact ⟨by simp, by simp, hB, .inl rfl⟩
  | succ n ih =>
    intro b hb hB
    by_cases h4 : b.length < 4
    · rw [cutR_short _ _ h4]; exact ⟨by simp, by simp, hB, .inl rfl⟩
    · obtain ⟨a, x, c, d, t, rfl⟩ := four b h4
      by_cases h1 : len4 a x c d < 0 ∨ (0 < len4 a x c d ∧ len4 a x c d ≤ 4) ∨ 4004 < len4 a x c d
      · rw [cutR_bad h1]; exact ⟨by simp, by simp, hB, .inr rfl⟩
      · by_cases h2 : ((a :: x :: c :: d :: t).length : Int) < len4 a x c d
        · rw [cutR_lack h1 h2]; exact ⟨by simp, by simp, hB, .inl rfl⟩
        · by_cases h3 : len4 a x c d = 0
          · rw [cutR_flush h3]
            obtain ⟨i1, i2, i3, i4⟩ := ih t (by simp at hb; omega) (hB.drop 4)
            exact ⟨by simp; omega, by simp; omega, i3, i4⟩
          · rw [cutR_line h1 h2 h3]
            obtain ⟨i1, i2, i3, i4⟩ := ih ((a :: x :: c :: d :: t).drop (len4 a x c d).toNat) (by rw [List.length_drop]; simp at hb ⊢; omega) (hB.drop _)
            rw [List.length_drop] at i1 i2
            have h5 : ((a :: x :: c :: d :: t).length : Int) ≥ len4 a x c d := by omega
            generalize (a :: x :: c :: d :: t).length = L at *
            exact ⟨by simp; omega, by simp; omega, i3, i4⟩
theorem cutB_facts (b : List Int) (hB : Bytes b) : (cutB b).1.length * 4 ≤ b.length ∧ (cutB b).2.1.length ≤ b.length ∧ Bytes (cutB b).2.1 ∧ ((cutB b).2.2 = 0 ∨ (cutB b).2.2 = 3) := cutR_facts b.length b (Nat.le_refl _) hB
/-- What a cut answers. -/
def cutF (b : List Int) : List Ln × List Int × Int := if (cutB b).2.2 = 0 then ((cutB b).1, (cutB b).2.1, 0) else ([], [], 3)
theorem cut_eq (b : List Int) (hB : Bytes b) (hl : b.length ≤ 5000000000000) {k : Nat} (hk : b.length + 6 ≤ k) : line_Cut.f k b = some (cutF b) := by
  unfold line_Cut.f cutF
  rw [cut_l b.length b [] k (Nat.le_refl _) hB hk]
  obtain ⟨h1, h2, h3, h4⟩ := cutB_facts b hB
  simp only [Option.bind_some, List.nil_append]
  change (if (cutB b).1.length * 24 ≤ 140737488355328 then (if (cutB b).2.2 = 0 then (bytes_Clone.f (cutB b).2.1).bind fun c => some ((cutB b).1, c, 0) else some ([], [], (cutB b).2.2)) else none) = _
  rw [if_pos (by omega)]
  rcases h4 with h4 | h4
  · rw [if_pos h4, if_pos h4]
    unfold bytes_Clone.f
    rw [if_pos (by omega)]
    rfl
  · rw [if_neg (by omega), if_neg (by omega), h4]

/-! ### the reference's cut -/
theorem rlength_step (k : Nat) (x : Int) (b : List Int) (hl : 4 ≤ b.length) (i : Nat) (hi : i < 4) (h0 : 0 ≤ x) (h1 : x ≤ 4095) (hb : Byte (rd b i)) :
    sacristyref15_length.l0 (k + 2) b x i = if hexv (rd b i) < 0 then some (-1) else sacristyref15_length.l0 k b (x * 16 + hexv (rd b i)) ((i + 1 : Nat) : Int) := by
  have hb1 := hb.1
  have hb2 := hb.2
  simp only [sacristyref15_length.l0]
  rw [if_pos (by omega), if_pos (by omega), if_pos (by omega)]
  have w1 : wrap64 (16 * x) = 16 * x := w64 (by omega) (by omega)
  have w2 : wrap64 ((i : Int) + 1) = ((i + 1 : Nat) : Int) := by rw [w64 (by omega) (by omega)]; rfl
  generalize he : rd b i = e at *
  by_cases c1 : e ≥ 48
  · rw [if_pos c1]
    simp only [sacristyref15_length.j1]
    by_cases c2 : e ≤ 57
    · rw [if_pos (by simpa using c2)]
      have v : hexv e = e - 48 := by unfold hexv; rw [if_pos ⟨c1, c2⟩]
      rw [v, if_neg (by omega), w1, w2, show (e - 48) % 256 = e - 48 by omega, w64 (by omega) (by omega), show 16 * x + (e - 48) = x * 16 + (e - 48) by omega]
    · rw [if_neg (by simpa using c2)]
      by_cases c3 : e ≥ 97
      · rw [if_pos c3]
        by_cases c4 : e ≤ 102
        · rw [if_pos c4]
          have v : hexv e = e - 87 := by unfold hexv; rw [if_neg (by omega), if_pos ⟨c3, c4⟩]
          rw [v, if_neg (by omega), w1, w2, show (e - 97) % 256 = e - 97 by omega, w64 (x := 16 * x + (e - 97)) (by omega) (by omega), w64 (by omega) (by omega), show 16 * x + (e - 97) + 10 = x * 16 + (e - 87) by omega]
        · rw [if_neg c4]
          have v : hexv e = -1 := by unfold hexv; rw [if_neg (by omega), if_neg (by omega)]
          rw [v, if_pos (by omega)]
      · rw [if_neg c3]
        have v : hexv e = -1 := by unfold hexv; rw [if_neg (by omega), if_neg (by omega)]
        rw [v, if_pos (by omega)]
  · rw [if_neg c1]
    simp only [sacristyref15_length.j1]
    rw [if_neg (by simp), if_neg (by omega)]
    have v : hexv e = -1 := by unfold hexv; rw [if_neg (by omega), if_neg (by omega)]
    rw [v, if_pos (by omega)]
theorem rlength_end (k : Nat) (x : Int) (b : List Int) : sacristyref15_length.l0 (k + 1) b x ((4 : Nat) : Int) = some x := by
  simp only [sacristyref15_length.l0]
  rw [if_neg (by omega)]
theorem rlength_eq (a b c d : Int) (t : List Int) (ha : Byte a) (hb : Byte b) (hc : Byte c) (hd : Byte d) {k : Nat} (hk : 9 ≤ k) : sacristyref15_length.f k (a :: b :: c :: d :: t) = some (len4 a b c d) := by
  refine at_rounds (sacristyref15_length.mono _) hk ?_
  unfold sacristyref15_length.f
  have h4 : 4 ≤ (a :: b :: c :: d :: t).length := by simp
  show sacristyref15_length.l0 (7 + 2) (a :: b :: c :: d :: t) 0 ((0 : Nat) : Int) = _
  have va := hexv_bd a; have vb := hexv_bd b; have vc := hexv_bd c; have vd := hexv_bd d
  rw [rlength_step 7 0 _ h4 0 (by omega) (by omega) (by omega) ha]
  simp only [show rd (a :: b :: c :: d :: t) ((0 : Nat) : Int) = a from rfl]
  unfold len4
  by_cases h1 : hexv a < 0
  · rw [if_pos h1, if_pos (.inl h1)]
  rw [if_neg h1, rlength_step 5 _ _ h4 1 (by omega) (by omega) (by omega) hb]
  simp only [show rd (a :: b :: c :: d :: t) ((0 + 1 : Nat) : Int) = b from rfl]
  by_cases h2 : hexv b < 0
  · rw [if_pos h2, if_pos (.inr (.inl h2))]
  rw [if_neg h2, rlength_step 3 _ _ h4 2 (by omega) (by omega) (by omega) hc]
  simp only [show rd (a :: b :: c :: d :: t) ((2 : Nat) : Int) = c from rfl]
  by_cases h3 : hexv c < 0
  · rw [if_pos h3, if_pos (.inr (.inr (.inl h3)))]
  rw [if_neg h3, rlength_step 1 _ _ h4 3 (by omega) (by omega) (by omega) hd]
  simp only [show rd (a :: b :: c :: d :: t) ((3 : Nat) : Int) = d from rfl]
  by_cases h5 : hexv d < 0
  · rw [if_pos h5, if_pos (.inr (.inr (.inr h5)))]
  rw [if_neg h5, rlength_end 0 _ _, if_neg (by omega)]
  simp

theorem rcut_l : ∀ (n : Nat) (b : List Int) (out : List Ln) (k : Nat), b.length ≤ n → Bytes b → out.length + b.length ≤ 1000000000000 → 2 * n + 12 ≤ k →
    sacristyref15_Cut.l0 k b out = some (if (cutR n b).2.2 = 0 then (out ++ (cutR n b).1, (cutR n b).2.1, 0) else ([], [], 3)) := by
  intro n
  induction n with
  | zero =>
    intro b out k hb hB ho hk
    obtain ⟨k, rfl⟩ : ∃ m, k = m + 1 := ⟨k - 1, by omega⟩
    simp only [sacristyref15_Cut.l0]
    rw [if_neg (by omega), cutR_short _ _ (by omega)]
    simp only [Option.bind_some, List.length_nil, List.nil_append, List.append_nil]
    rw [if_pos (by omega), if_pos (by trivial)]
  | succ n ih =>
    intro b out k hb hB ho hk
    obtain ⟨k, rfl⟩ : ∃ m, k = m + 2 := ⟨k - 2, by omega⟩
    simp only [sacristyref15_Cut.l0]
    by_cases h4 : b.length < 4
    · rw [if_neg (by omega), cutR_short _ _ h4]
      simp only [Option.bind_some, List.length_nil, List.nil_append, List.append_nil]
      rw [if_pos (by omega), if_pos (by trivial)]
    · rw [if_pos (by omega)]
      obtain ⟨a, x, c, d, t, rfl⟩ := four b h4
      rw [rlength_eq a x c d t (hB a (by simp)) (hB x (by simp)) (hB c (by simp)) (hB d (by simp)) (by omega)]
      simp only [Option.bind_some]
      have lb := len4_bd a x c d
      generalize hLL : a :: x :: c :: d :: t = L at *
      by_cases h1 : len4 a x c d < 0 ∨ (0 < len4 a x c d ∧ len4 a x c d ≤ 4) ∨ 4004 < len4 a x c d
      · have e : cutR (n + 1) L = ([], L, 3) := by rw [← hLL]; exact cutR_bad h1
        rw [e]
        simp only [sacristyref15_Cut.j1]
        by_cases h0 : len4 a x c d = 0
        · omega
        · rw [if_neg h0]
          by_cases h5 : len4 a x c d < 5
          · rw [if_pos h5]; simp
          · rw [if_neg h5, if_pos (by simp; omega)]; simp
      · have hj : sacristyref15_Cut.j1 (k + 1) L out (len4 a x c d) false = (if len4 a x c d = 0 then sacristyref15_Cut.j1 (k + 1) L out (len4 a x c d) false else if len4 a x c d < 5 then sacristyref15_Cut.j1 (k + 1) L out (len4 a x c d) true else sacristyref15_Cut.j1 (k + 1) L out (len4 a x c d) (decide (len4 a x c d > 4004))) := by
          by_cases h0 : len4 a x c d = 0
          · rw [if_pos h0]
          · rw [if_neg h0, if_neg (by omega), show decide (len4 a x c d > 4004) = false by simp; omega]
        rw [← hj]
        simp only [sacristyref15_Cut.j1]
        rw [if_neg (by simp)]
        have ht : L.drop 4 = t := by rw [← hLL]; rfl
        have hlt : L.length = t.length + 4 := by rw [← hLL]; rfl
        by_cases h2 : (L.length : Int) < len4 a x c d
        · have e : cutR (n + 1) L = ([], L, 0) := by rw [← hLL] at h2 ⊢; exact cutR_lack h1 h2
          rw [e, if_neg (by omega), if_pos (by omega)]
          simp only [Option.bind_some, List.length_nil, List.nil_append, List.append_nil]
          rw [if_pos (by omega), if_pos (by trivial)]
        · by_cases h3 : len4 a x c d = 0
          · have e : cutR (n + 1) L = (⟨true, ⟨#[]⟩⟩ :: (cutR n t).1, (cutR n t).2) := by rw [← hLL]; exact cutR_flush h3
            rw [e, if_pos h3, if_pos (by omega), if_pos (by omega), ht, ih t _ k (by omega) (by rw [← ht]; exact hB.drop 4) (by simp; omega) (by omega)]
            simp
          · have e : cutR (n + 1) L = (⟨false, strOfNums ((L.take (len4 a x c d).toNat).drop 4)⟩ :: (cutR n (L.drop (len4 a x c d).toNat)).1, (cutR n (L.drop (len4 a x c d).toNat)).2) := by rw [← hLL] at h2 ⊢; exact cutR_line h1 h2 h3
            rw [e, if_neg h3, if_neg (by omega), if_pos (by omega), if_pos (by omega), if_pos (by omega), if_pos (by omega), ih _ _ k (by rw [List.length_drop]; omega) (hB.drop _) (by rw [List.length_drop]; simp; omega) (by omega)]
            simp
theorem rcut_eq (b : List Int) (hB : Bytes b) (hl : b.length ≤ 1000000000000) {k : Nat} (hk : 2 * b.length + 12 ≤ k) : sacristyref15_Cut.f k b = some (cutF b) := by
  unfold sacristyref15_Cut.f cutF
  rw [rcut_l b.length b [] k (Nat.le_refl _) hB (by simpa using hl) hk]
  rfl

/-! ### lines' bytes -/
def okL (x : Ln) : Bool := !((x.f0 != ((x.f1.size : Int) == 0)) || decide ((x.f1.size : Int) > 4000))
def lenL (x : Ln) : Int := if x.f0 = true then 0 else (x.f1.size : Int) + 4
def encL (x : Ln) : List Int := hex4 (lenL x) ++ bytesOf x.f1
def putF (l : List Ln) : List Int × Int := if l.all okL then (l.flatMap encL, 0) else ([], 1)
theorem okL_size {x : Ln} (h : okL x = true) : x.f1.size ≤ 4000 := by
  unfold okL at h
  simp at h
  omega
theorem okL_flush {x : Ln} (h : okL x = true) (c : x.f0 = true) : x.f1.size = 0 := by
  by_cases e : x.f1.size = 0
  · exact e
  · have e2 : ((x.f1.size : Int) == 0) = false := by simpa using e
    unfold okL at h
    rw [c, e2] at h
    simp at h
theorem lenL_bd {x : Ln} (h : okL x = true) : 0 ≤ lenL x ∧ lenL x ≤ 4004 := by
  have := okL_size h
  unfold lenL; split <;> omega
theorem encL_length (x : Ln) : (encL x).length = 4 + x.f1.size := by unfold encL; rw [List.length_append, hex4_length, bytesOf_length]
theorem rdT_get (l : List Ln) (i : Nat) (h : i < l.length) : rd_T38 l (i : Int) = l[i] := by
  unfold rd_T38
  rw [List.getD_eq_getElem?_getD, show ((i : Int)).toNat = i from rfl, List.getElem?_eq_getElem h]
  rfl
theorem drop_cons (l : List Ln) (i : Nat) (h : i < l.length) : l.drop i = l[i] :: l.drop (i + 1) := List.drop_eq_getElem_cons h

theorem dig_and (x : Int) (h0 : 0 ≤ x) (h1 : x ≤ 65535) (s : Int) (q : Int) (hs : s = 12 ∧ q = 4096 ∨ s = 8 ∧ q = 256 ∨ s = 4 ∧ q = 16 ∨ s = 0 ∧ q = 1) : Go.bits .and .i64 (shr .i64 x s) 15 = x / q % 16 := by
  have e : shr .i64 x s = x / q := by
    unfold shr
    rcases hs with ⟨rfl, rfl⟩ | ⟨rfl, rfl⟩ | ⟨rfl, rfl⟩ | ⟨rfl, rfl⟩ <;> rfl
  have hq : 0 ≤ x / q ∧ x / q ≤ 65535 := by
    rcases hs with ⟨rfl, rfl⟩ | ⟨rfl, rfl⟩ | ⟨rfl, rfl⟩ | ⟨rfl, rfl⟩ <;> constructor <;> omega
  rw [e]
  exact bits_mask .i64 60 (by decide) (fun n h0 h1 => by rw [IntKind.wrap_i64]; omega) 4 (by decide) _ hq.1 (by omega)
theorem put_digit (k : Nat) (out : List Int) (x7 : Int) (l : List Ln) (n i : Int) (f0 : Bool) (f1 : ByteArray) (h0 : 0 ≤ x7) (h1 : x7 ≤ 65535) (ho : out.length < 100000000000000) (j q : Int) (hj : j = 0 ∧ q = 4096 ∨ j = 1 ∧ q = 256 ∨ j = 2 ∧ q = 16 ∨ j = 3 ∧ q = 1) :
    line_Put.l1 (k + 1) out x7 l n i j f0 f1 = line_Put.l1 k (out ++ [hexd (x7 / q % 16)]) x7 l n i (j + 1) f0 f1 := by
  simp only [line_Put.l1]
  have e1 : wrap64 (12 - wrap64 (4 * j)) = 12 - 4 * j := by rw [w64 (x := 4 * j) (by omega) (by omega), w64 (by omega) (by omega)]
  have e2 : wrap64 (j + 1) = j + 1 := w64 (by omega) (by omega)
  have e3 : Go.bits .and .i64 (shr .i64 x7 (12 - 4 * j)) 15 = x7 / q % 16 := dig_and x7 h0 h1 _ _ (by omega)
  rw [if_pos (by omega), e1, e2, e3, if_pos (by omega), if_pos (by omega), if_pos (by omega), if_pos (by omega)]
  rfl
theorem put_inner (k : Nat) (out : List Int) (x7 : Int) (l : List Ln) (n i : Int) (f0 : Bool) (f1 : ByteArray) (h0 : 0 ≤ x7) (h1 : x7 ≤ 65535) (ho : out.length + f1.size < 90000000000000) :
    line_Put.l1 (k + 5) out x7 l n i 0 f0 f1 = line_Put.l0 k (out ++ (hex4 x7 ++ bytesOf f1)) l n (wrap64 (i + 1)) := by
  rw [put_digit (k + 4) out x7 l n i f0 f1 h0 h1 (by omega) 0 4096 (by omega), put_digit (k + 3) _ x7 l n i f0 f1 h0 h1 (by simp; omega) _ 256 (by omega), put_digit (k + 2) _ x7 l n i f0 f1 h0 h1 (by simp; omega) _ 16 (by omega), put_digit (k + 1) _ x7 l n i f0 f1 h0 h1 (by simp; omega) _ 1 (by omega)]
  simp only [line_Put.l1]
  rw [if_neg (by omega), if_pos (by simp; omega)]
  have e : hex4 x7 = [hexd (x7 / 4096 % 16), hexd (x7 / 256 % 16), hexd (x7 / 16 % 16), hexd (x7 / 1 % 16)] := by
    unfold hex4
    rw [show x7 / 4096 % 16 = x7 / 4096 by omega, show x7 / 1 = x7 by omega]
  rw [e]
  simp
theorem put_loop (l : List Ln) (hl : l.length ≤ 1000000000) : ∀ (d i : Nat) (out : List Int) (k : Nat), i + d = l.length → out.length ≤ 4004 * i → 8 * d + 8 ≤ k →
    line_Put.l0 k out l (l.length : Int) (i : Int) = some (if (l.drop i).all okL then (out ++ (l.drop i).flatMap encL, 0) else ([], 1)) := by
  intro d
  induction d with
  | zero =>
    intro i out k hi ho hk
    obtain ⟨k, rfl⟩ : ∃ m, k = m + 1 := ⟨k - 1, by omega⟩
    simp only [line_Put.l0]
    rw [if_neg (by omega), List.drop_eq_nil_of_le (by omega)]
    simp
  | succ d ih =>
    intro i out k hi ho hk
    obtain ⟨k, rfl⟩ : ∃ m, k = m + 8 := ⟨k - 8, by omega⟩
    have hlt : i < l.length := by omega
    rw [drop_cons l i hlt]
    have hr := rdT_get l i hlt
    generalize hx : l[i] = x at *
    have hstep : line_Put.l0 (k + 8) out l (l.length : Int) (i : Int) = line_Put.j1 (k + 7) out (x.f1.size : Int) l (l.length : Int) (i : Int) (!okL x) x.f0 x.f1 := by
      simp only [line_Put.l0, hr]
      rw [if_pos (by omega), if_pos (by omega), if_pos (by omega)]
      unfold okL
      by_cases c : (x.f0 != ((x.f1.size : Int) == 0)) = true
      · rw [if_pos c, c]; rfl
      · rw [if_neg c, Bool.not_eq_true] at *
        rw [c]; simp
    rw [hstep]
    simp only [line_Put.j1]
    cases hok : okL x with
    | false => simp [hok]
    | true =>
      rw [if_neg (by simp)]
      have hsz := okL_size hok
      have hle := lenL_bd hok
      have hin : (if x.f0 = true then line_Put.j2 (k + 6) out (x.f1.size : Int) l (l.length : Int) (i : Int) x.f0 x.f1 else line_Put.j2 (k + 6) out (wrap64 ((x.f1.size : Int) + 4)) l (l.length : Int) (i : Int) x.f0 x.f1) = line_Put.j2 (k + 6) out (lenL x) l (l.length : Int) (i : Int) x.f0 x.f1 := by
        unfold lenL
        by_cases c : x.f0 = true
        · have : (x.f1.size : Int) = 0 := by rw [okL_flush hok c]; rfl
          rw [if_pos c, if_pos c, this]
        · rw [if_neg c, if_neg c, w64 (by omega) (by omega)]
      rw [hin]
      simp only [line_Put.j2]
      rw [put_inner k out (lenL x) l _ _ x.f0 x.f1 hle.1 (by omega) (by omega), w64 (by omega) (by omega)]
      have := ih (i + 1) (out ++ encL x) k (by omega) (by rw [List.length_append, encL_length]; omega) (by omega)
      rw [show ((i : Int) + 1) = ((i + 1 : Nat) : Int) by omega]
      rw [show hex4 (lenL x) ++ bytesOf x.f1 = encL x from rfl, this]
      simp [hok]
theorem put_eq (l : List Ln) (hl : l.length ≤ 1000000000) {k : Nat} (hk : 8 * l.length + 8 ≤ k) : line_Put.f k l = some (putF l) := by
  unfold line_Put.f putF
  have := put_loop l hl l.length 0 [] k (by omega) (by simp) hk
  simpa using this

/-! ### the reference's Put -/
theorem bytesOf_nil {s : ByteArray} (h : s.size = 0) : bytesOf s = [] := List.eq_nil_of_length_eq_zero (by rw [bytesOf_length]; exact h)
theorem encL_flush {x : Ln} (h : okL x = true) (c : x.f0 = true) : encL x = [48, 48, 48, 48] := by
  unfold encL lenL
  rw [if_pos c, bytesOf_nil (okL_flush h c)]
  rfl
theorem rput_loop (l : List Ln) (hl : l.length ≤ 1000000000) : ∀ (d i : Nat) (out : List Int) (k : Nat), i + d = l.length → out.length ≤ 4004 * i → 2 * d + 2 ≤ k →
    sacristyref15_Put.l0 k l ⟨#[48, 49, 50, 51, 52, 53, 54, 55, 56, 57, 97, 98, 99, 100, 101, 102]⟩ out (i : Int) = some (if (l.drop i).all okL then (out ++ (l.drop i).flatMap encL, 0) else ([], 1)) := by
  intro d
  induction d with
  | zero =>
    intro i out k hi ho hk
    obtain ⟨k, rfl⟩ : ∃ m, k = m + 1 := ⟨k - 1, by omega⟩
    simp only [sacristyref15_Put.l0]
    rw [if_neg (by omega), List.drop_eq_nil_of_le (by omega)]
    simp
  | succ d ih =>
    intro i out k hi ho hk
    obtain ⟨k, rfl⟩ : ∃ m, k = m + 2 := ⟨k - 2, by omega⟩
    have hlt : i < l.length := by omega
    rw [drop_cons l i hlt]
    have hr := rdT_get l i hlt
    generalize hx : l[i] = x at *
    have hstep : sacristyref15_Put.l0 (k + 2) l ⟨#[48, 49, 50, 51, 52, 53, 54, 55, 56, 57, 97, 98, 99, 100, 101, 102]⟩ out (i : Int) = sacristyref15_Put.j1 (k + 1) l ⟨#[48, 49, 50, 51, 52, 53, 54, 55, 56, 57, 97, 98, 99, 100, 101, 102]⟩ out (i : Int) (x.f1.size : Int) (!okL x) := by
      simp only [sacristyref15_Put.l0, hr]
      rw [if_pos (by omega), if_pos (by omega)]
      unfold okL
      by_cases c : (x.f0 != ((x.f1.size : Int) == 0)) = true
      · rw [if_pos c, c]; rfl
      · rw [if_neg c, Bool.not_eq_true] at *
        rw [c]; simp
    rw [hstep]
    simp only [sacristyref15_Put.j1, hr]
    cases hok : okL x with
    | false => simp [hok]
    | true =>
      rw [if_neg (by simp), if_pos (by omega), if_pos (by omega)]
      have hsz := okL_size hok
      have := ih (i + 1) (out ++ encL x) k (by omega) (by rw [List.length_append, encL_length]; omega) (by omega)
      have w1 : wrap64 ((i : Int) + 1) = ((i + 1 : Nat) : Int) := by rw [w64 (by omega) (by omega)]; rfl
      by_cases c : x.f0 = true
      · rw [if_pos c, if_pos (by omega), w1, show bytesOf (⟨#[48, 48, 48, 48]⟩ : ByteArray) = encL x by rw [encL_flush hok c]; rfl, this]
        simp [hok]
      · rw [if_neg c]
        have hL : lenL x = (x.f1.size : Int) + 4 := by unfold lenL; rw [if_neg c]
        have e1 : wrap64 ((x.f1.size : Int) + 4) = lenL x := by rw [hL, w64 (by omega) (by omega)]
        have hb := lenL_bd hok
        rw [e1]
        have d1 : wrap64 (Int.tdiv (lenL x) 4096) = lenL x / 4096 := by rw [Int.tdiv_eq_ediv_of_nonneg hb.1, w64 (by omega) (by omega)]
        have d2 : Int.tmod (wrap64 (Int.tdiv (lenL x) 256)) 16 = lenL x / 256 % 16 := by rw [Int.tdiv_eq_ediv_of_nonneg hb.1, w64 (by omega) (by omega), Int.tmod_eq_emod_of_nonneg (by omega)]
        have d3 : Int.tmod (wrap64 (Int.tdiv (lenL x) 16)) 16 = lenL x / 16 % 16 := by rw [Int.tdiv_eq_ediv_of_nonneg hb.1, w64 (by omega) (by omega), Int.tmod_eq_emod_of_nonneg (by omega)]
        have d4 : Int.tmod (lenL x) 16 = lenL x % 16 := Int.tmod_eq_emod_of_nonneg hb.1
        have hs : ((⟨#[48, 49, 50, 51, 52, 53, 54, 55, 56, 57, 97, 98, 99, 100, 101, 102]⟩ : ByteArray).size : Int) = 16 := rfl
        rw [d1, d2, d3, d4, hs, if_pos (by omega), if_pos (by omega), if_pos (by omega), if_pos (by omega), if_pos (by omega), if_pos (by omega), if_pos (by omega), if_pos (by omega)]
        simp only [Option.bind_some, List.length_cons, List.length_nil, List.length_append]
        rw [if_pos (by omega), if_pos (by omega), w1]
        have e2 : out ++ [bt ⟨#[48, 49, 50, 51, 52, 53, 54, 55, 56, 57, 97, 98, 99, 100, 101, 102]⟩ (lenL x / 4096), bt ⟨#[48, 49, 50, 51, 52, 53, 54, 55, 56, 57, 97, 98, 99, 100, 101, 102]⟩ (lenL x / 256 % 16), bt ⟨#[48, 49, 50, 51, 52, 53, 54, 55, 56, 57, 97, 98, 99, 100, 101, 102]⟩ (lenL x / 16 % 16), bt ⟨#[48, 49, 50, 51, 52, 53, 54, 55, 56, 57, 97, 98, 99, 100, 101, 102]⟩ (lenL x % 16)] ++ bytesOf x.f1 = out ++ encL x := by
          rw [List.append_assoc]; rfl
        rw [e2, this]
        simp [hok]
theorem rput_eq (l : List Ln) (hl : l.length ≤ 1000000000) {k : Nat} (hk : 2 * l.length + 2 ≤ k) : sacristyref15_Put.f k l = some (putF l) := by
  unfold sacristyref15_Put.f putF
  have := rput_loop l hl l.length 0 [] k (by omega) (by simp) hk
  simpa using this

/-! ### what is too much; alike; joined -/
def sizes (l : List Ln) : Nat := (l.map fun x => x.f1.size).sum
theorem great_loop (l : List Ln) : ∀ (d i : Nat) (x3 : Int) (k : Nat), i + d = l.length → l.length ≤ 9223372036854775807 → d + 1 ≤ k ∨ 20000 ≤ x3 ∧ 1 ≤ k → 0 ≤ x3 →
    ∃ g, sacristylaw15_Great.l0 k l x3 (i : Int) = some g ∧ (g = false → x3 + (sizes (l.drop i) : Int) < 20000) := by
  intro d
  induction d with
  | zero =>
    intro i x3 k hi hl hk h0
    obtain ⟨k, rfl⟩ : ∃ m, k = m + 1 := ⟨k - 1, by omega⟩
    simp only [sacristylaw15_Great.l0]
    rw [if_neg (by omega), List.drop_eq_nil_of_le (by omega)]
    exact ⟨_, rfl, fun h => by simp at h; simp [sizes]; omega⟩
  | succ d ih =>
    intro i x3 k hi hl hk h0
    obtain ⟨k, rfl⟩ : ∃ m, k = m + 1 := ⟨k - 1, by omega⟩
    have hlt : i < l.length := by omega
    rw [drop_cons l i hlt]
    have hr := rdT_get l i hlt
    generalize hx : l[i] = x at *
    simp only [sacristylaw15_Great.l0, hr]
    rw [if_pos (by omega)]
    by_cases c : x3 < 20000
    · rw [if_pos c, if_pos (by omega)]
      have hm : mn (x.f1.size : Int) 20000 = if (20000 : Int) < x.f1.size then 20000 else (x.f1.size : Int) := rfl
      have hm2 : 0 ≤ mn (x.f1.size : Int) 20000 ∧ mn (x.f1.size : Int) 20000 ≤ 20000 := by rw [hm]; split <;> omega
      have w1 : wrap64 ((i : Int) + 1) = ((i + 1 : Nat) : Int) := by rw [w64 (by omega) (by omega)]; rfl
      rw [w64 (x := x3 + mn (x.f1.size : Int) 20000) (by omega) (by omega), w1]
      obtain ⟨g, hg, h⟩ := ih (i + 1) (x3 + mn (x.f1.size : Int) 20000) k (by omega) hl (.inl (by omega)) (by omega)
      refine ⟨g, hg, fun e => ?_⟩
      have := h e
      have hs : sizes (x :: l.drop (i + 1)) = x.f1.size + sizes (l.drop (i + 1)) := by simp [sizes]
      rw [hs]
      rw [hm] at this
      split at this <;> omega
    · rw [if_neg c]
      exact ⟨_, rfl, fun h => by simp at h; omega⟩
theorem great_eq (l : List Ln) (hl : l.length ≤ 9223372036854775807) {k : Nat} (hk : 20001 ≤ k) : ∃ g, sacristylaw15_Great.f k l = some g ∧ (g = false → l.length + sizes l < 20000) := by
  unfold sacristylaw15_Great.f
  obtain ⟨g, h1, h2⟩ := great_loop l l.length 0 (l.length : Int) k (by omega) hl (by omega) (by omega)
  exact ⟨g, h1, fun e => by have := h2 e; simp at this; omega⟩
theorem same_loop (l : List Ln) (hl : l.length ≤ 1000000000000) : ∀ (d i k : Nat), i + d = l.length → d + 1 ≤ k → sacristyref15_Same.l0 k l l (i : Int) = some true := by
  intro d
  induction d with
  | zero =>
    intro i k hi hk
    obtain ⟨k, rfl⟩ : ∃ m, k = m + 1 := ⟨k - 1, by omega⟩
    simp only [sacristyref15_Same.l0]
    rw [if_neg (by omega)]
  | succ d ih =>
    intro i k hi hk
    obtain ⟨k, rfl⟩ : ∃ m, k = m + 1 := ⟨k - 1, by omega⟩
    simp only [sacristyref15_Same.l0]
    rw [if_pos (by omega), if_pos (by omega), if_pos (by omega), if_neg (by simp), w64 (by omega) (by omega)]
    exact ih (i + 1) k (by omega) (by omega)
theorem same_eq (l : List Ln) (hl : l.length ≤ 1000000000000) {k : Nat} (hk : l.length + 1 ≤ k) : sacristyref15_Same.f k l l = some true := by
  unfold sacristyref15_Same.f
  rw [if_pos rfl]
  exact same_loop l hl l.length 0 k (by omega) hk
def joinF (l : List Ln) : List Int := l.flatMap fun x => bytesOf x.f1
theorem joinF_length (l : List Ln) : (joinF l).length = sizes l := by
  induction l with
  | nil => rfl
  | cons x l ih => simp [joinF, sizes, bytesOf_length] at ih ⊢; try omega
theorem join_loop (l : List Ln) (hl : l.length ≤ 1000000000000) (hs : sizes l ≤ 1000000000000) : ∀ (d i : Nat) (out : List Int) (k : Nat), i + d = l.length → out.length + sizes (l.drop i) ≤ sizes l → d + 1 ≤ k →
    line_Join.l0 k out l (l.length : Int) (i : Int) = some (out ++ joinF (l.drop i)) ∧ sacristyref15_Join.l0 k l out (i : Int) = some (out ++ joinF (l.drop i)) := by
  intro d
  induction d with
  | zero =>
    intro i out k hi ho hk
    obtain ⟨k, rfl⟩ : ∃ m, k = m + 1 := ⟨k - 1, by omega⟩
    simp only [line_Join.l0, sacristyref15_Join.l0]
    rw [if_neg (by omega), if_neg (by omega), List.drop_eq_nil_of_le (by omega)]
    simp [joinF]
  | succ d ih =>
    intro i out k hi ho hk
    obtain ⟨k, rfl⟩ : ∃ m, k = m + 1 := ⟨k - 1, by omega⟩
    have hlt : i < l.length := by omega
    rw [drop_cons l i hlt] at ho ⊢
    have hr := rdT_get l i hlt
    generalize hx : l[i] = x at *
    have hs2 : sizes (x :: l.drop (i + 1)) = x.f1.size + sizes (l.drop (i + 1)) := by simp [sizes]
    rw [hs2] at ho
    simp only [line_Join.l0, sacristyref15_Join.l0, hr]
    rw [if_pos (by omega), if_pos (by omega), if_pos (by omega), if_pos (by omega), if_pos (by omega), if_pos (by omega), if_pos (by omega), w64 (by omega) (by omega)]
    obtain ⟨h1, h2⟩ := ih (i + 1) (out ++ bytesOf x.f1) k (by omega) (by rw [List.length_append, bytesOf_length]; omega) (by omega)
    rw [show ((i : Int) + 1) = ((i + 1 : Nat) : Int) by omega, h1, h2]
    simp [joinF]
theorem join_eq (l : List Ln) (hl : l.length ≤ 1000000000000) (hs : sizes l ≤ 1000000000000) {k : Nat} (hk : l.length + 1 ≤ k) : line_Join.f k l = some (joinF l) ∧ sacristyref15_Join.f k l = some (joinF l) := by
  unfold line_Join.f sacristyref15_Join.f
  have := join_loop l hl hs l.length 0 [] k (by omega) (by simp) hk
  simpa using this

/-! ### texts and numbers -/
theorem strOf_size (xs : List Int) : (strOfNums xs).size = xs.length := by
  show (strOfNums xs).data.size = _
  simp [strOfNums]
theorem bytesOf_strOf {xs : List Int} (h : Bytes xs) : bytesOf (strOfNums xs) = xs := by
  unfold bytesOf strOfNums
  simp only [List.map_map]
  conv => rhs; rw [← List.map_id xs]
  refine List.map_congr_left (fun x hx => ?_)
  have h1 := (h x hx).1
  have h2 := (h x hx).2
  simp
  omega
theorem strOf_bytesOf (s : ByteArray) : strOfNums (bytesOf s) = s := by
  apply ByteArray.ext
  apply Array.ext'
  unfold bytesOf strOfNums
  simp only [List.map_map]
  conv => rhs; rw [← List.map_id s.data.toList]
  refine List.map_congr_left (fun x hx => ?_)
  simp
theorem bytesOf_bytes (s : ByteArray) : Bytes (bytesOf s) := by
  intro x hx
  unfold bytesOf at hx
  obtain ⟨b, _, rfl⟩ := List.mem_map.1 hx
  have := b.toNat_lt
  exact ⟨by omega, by omega⟩
theorem strOf_append (a b : List Int) : strOfNums a ++ strOfNums b = strOfNums (a ++ b) := by
  apply ByteArray.ext
  rw [ByteArray.data_append]
  apply Array.ext'
  unfold strOfNums
  simp

/-! ### what is put is cut to the same; what is cut has the bytes -/
theorem encL_bytes {x : Ln} (h : okL x = true) : Bytes (encL x) := by
  have := lenL_bd h
  exact Bytes.append (hex4_byte _ this.1 (by omega)) (bytesOf_bytes _)
theorem enc_bytes {l : List Ln} (h : l.all okL = true) : Bytes (l.flatMap encL) := by
  intro x hx
  obtain ⟨y, hy, hxy⟩ := List.mem_flatMap.1 hx
  exact encL_bytes (List.all_eq_true.1 h y hy) x hxy
theorem okL_line {x : Ln} (h : okL x = true) (c : ¬ x.f0 = true) : x.f1.size ≠ 0 := by
  intro e
  unfold okL at h
  rw [e] at h
  have : x.f0 = false := by simpa using c
  rw [this] at h
  simp at h
theorem flush_is {x : Ln} (h : okL x = true) (c : x.f0 = true) : x = ⟨true, ⟨#[]⟩⟩ := by
  obtain ⟨f0, f1⟩ := x
  have hs := okL_flush h c
  simp only at c hs
  subst c
  congr 1
  apply ByteArray.ext
  exact Array.eq_empty_of_size_eq_zero hs
theorem cutR_enc (x : Ln) (h : okL x = true) (n : Nat) (t : List Int) : cutR (n + 1) (encL x ++ t) = (x :: (cutR n t).1, (cutR n t).2) := by
  have hb := lenL_bd h
  have e : encL x ++ t = hexd (lenL x / 4096) :: hexd (lenL x / 256 % 16) :: hexd (lenL x / 16 % 16) :: hexd (lenL x % 16) :: (bytesOf x.f1 ++ t) := rfl
  have hl := len4_hex4 (lenL x) hb.1 (by omega)
  rw [e]
  by_cases c : x.f0 = true
  · have h0 : lenL x = 0 := by unfold lenL; rw [if_pos c]
    rw [cutR_flush (by rw [hl]; exact h0), bytesOf_nil (okL_flush h c), flush_is h c]
    rfl
  · have hs := okL_line h c
    have hsz := okL_size h
    have h0 : lenL x = (x.f1.size : Int) + 4 := by unfold lenL; rw [if_neg c]
    rw [cutR_line (by rw [hl]; omega) (by rw [hl]; simp [bytesOf_length]; omega) (by rw [hl]; omega), hl]
    have ht : (lenL x).toNat = x.f1.size + 4 := by omega
    have e1 : ∀ (a b c d : Int), (a :: b :: c :: d :: (bytesOf x.f1 ++ t)).drop (x.f1.size + 4) = t := by
      intro a b c d
      simp only [List.drop_succ_cons]
      rw [List.drop_left' (bytesOf_length _)]
    have e2 : ∀ (a b c d : Int), ((a :: b :: c :: d :: (bytesOf x.f1 ++ t)).take (x.f1.size + 4)).drop 4 = bytesOf x.f1 := by
      intro a b c d
      simp only [List.take_succ_cons, List.drop_succ_cons, List.drop_zero]
      rw [List.take_left' (bytesOf_length _)]
    rw [ht, e1, e2, strOf_bytesOf]
    have : x = ⟨false, x.f1⟩ := by
      obtain ⟨f0, f1⟩ := x
      simp only at c
      simp at c
      rw [c]
    rw [← this]
theorem cutB_enc : ∀ (l : List Ln) (t : List Int), l.all okL = true → cutB (l.flatMap encL ++ t) = (l ++ (cutB t).1, (cutB t).2)
  | [], t, _ => by simp
  | x :: l, t, h => by
    have hx : okL x = true := List.all_eq_true.1 h x (by simp)
    have hl : l.all okL = true := List.all_eq_true.2 fun y hy => List.all_eq_true.1 h y (by simp [hy])
    have ih := cutB_enc l t hl
    have e : (x :: l).flatMap encL ++ t = encL x ++ (l.flatMap encL ++ t) := by simp
    rw [e]
    have h1 : cutB (encL x ++ (l.flatMap encL ++ t)) = cutR ((l.flatMap encL ++ t).length + x.f1.size + 3 + 1) (encL x ++ (l.flatMap encL ++ t)) :=
      (cutR_eq _ _ (by rw [List.length_append, encL_length]; omega)).symm
    rw [h1, cutR_enc x hx, cutR_eq _ _ (by omega), ih]
    simp
theorem cutB_nil : cutB [] = ([], [], 0) := rfl
theorem cutF_enc (l : List Ln) (h : l.all okL = true) : cutF (l.flatMap encL) = (l, [], 0) := by
  have := cutB_enc l [] h
  rw [List.append_nil, cutB_nil] at this
  unfold cutF
  rw [this]
  simp

theorem cutR_back (n : Nat) : ∀ (b : List Int), b.length ≤ n → Bytes b → (cutR n b).2.2 = 0 → (cutR n b).1.all okL = true ∧ (cutR n b).1.flatMap encL ++ (cutR n b).2.1 = b := by
  induction n with
  | zero => intro b hb hB _; rw [cutR_short _ _ (by omega)]; simp
  | succ n ih =>
    intro b hb hB h0
    by_cases h4 : b.length < 4
    · rw [cutR_short _ _ h4]; simp
    · obtain ⟨a, x, c, d, t, rfl⟩ := four b h4
      have lb := len4_bd a x c d
      by_cases h1 : len4 a x c d < 0 ∨ (0 < len4 a x c d ∧ len4 a x c d ≤ 4) ∨ 4004 < len4 a x c d
      · rw [cutR_bad h1] at h0; simp at h0
      · have hx4 := hex4_len4 a x c d (hB a (by simp)) (hB x (by simp)) (hB c (by simp)) (hB d (by simp)) (by omega)
        by_cases h2 : ((a :: x :: c :: d :: t).length : Int) < len4 a x c d
        · rw [cutR_lack h1 h2]; simp
        · by_cases h3 : len4 a x c d = 0
          · rw [cutR_flush h3] at h0 ⊢
            obtain ⟨i1, i2⟩ := ih t (by simp at hb; omega) (hB.drop 4) h0
            refine ⟨by rw [List.all_cons, i1]; rfl, ?_⟩
            rw [List.flatMap_cons, List.append_assoc, i2]
            rw [h3] at hx4
            show hex4 0 ++ bytesOf ⟨#[]⟩ ++ t = _
            rw [hx4]
            rfl
          · rw [cutR_line h1 h2 h3] at h0 ⊢
            obtain ⟨i1, i2⟩ := ih ((a :: x :: c :: d :: t).drop (len4 a x c d).toNat) (by rw [List.length_drop]; simp at hb ⊢; omega) (hB.drop _) h0
            have hz : (strOfNums (((a :: x :: c :: d :: t).take (len4 a x c d).toNat).drop 4)).size = (len4 a x c d).toNat - 4 := by
              rw [strOf_size, List.length_drop, List.length_take]
              omega
            have hlen : lenL ⟨false, strOfNums (((a :: x :: c :: d :: t).take (len4 a x c d).toNat).drop 4)⟩ = len4 a x c d := by
              unfold lenL
              simp only [Bool.false_eq_true, if_false]
              rw [hz]
              omega
            refine ⟨?_, ?_⟩
            · rw [List.all_cons, i1, Bool.and_true]
              unfold okL
              simp only [hz]
              have c1 : (((len4 a x c d).toNat - 4 : Nat) : Int) ≠ 0 := by omega
              have c2 : ¬ (((len4 a x c d).toNat - 4 : Nat) : Int) > 4000 := by omega
              simp [c2]
              omega
            · rw [List.flatMap_cons, List.append_assoc, i2]
              unfold encL
              rw [hlen, hx4, bytesOf_strOf ((hB.take _).drop 4)]
              have e : [a, x, c, d] = (a :: x :: c :: d :: t).take 4 := rfl
              have e4 : ((a :: x :: c :: d :: t).take (len4 a x c d).toNat).take 4 = (a :: x :: c :: d :: t).take 4 := by
                rw [List.take_take]; congr 1; omega
              rw [e, ← e4, List.take_append_drop, List.take_append_drop]
theorem cutB_back (b : List Int) (hB : Bytes b) (h : (cutB b).2.2 = 0) : (cutB b).1.all okL = true ∧ (cutB b).1.flatMap encL ++ (cutB b).2.1 = b := cutR_back b.length b (Nat.le_refl _) hB h

/-- Bytes that come in two pieces. -/
theorem cutR_two (n : Nat) : ∀ (p q : List Int), p.length ≤ n →
    ((cutR n p).2.2 = 0 → cutB (p ++ q) = ((cutR n p).1 ++ (cutB ((cutR n p).2.1 ++ q)).1, (cutB ((cutR n p).2.1 ++ q)).2)) ∧ ((cutR n p).2.2 ≠ 0 → (cutR n p).2.2 = 3 ∧ (cutB (p ++ q)).2.2 = 3) := by
  induction n with
  | zero => intro p q hp; rw [cutR_short _ _ (by omega)]; simp
  | succ n ih =>
    intro p q hp
    by_cases h4 : p.length < 4
    · rw [cutR_short _ _ h4]; simp
    · obtain ⟨a, x, c, d, t, rfl⟩ := four p h4
      have lb := len4_bd a x c d
      have eB : ∀ b : List Int, cutB (a :: x :: c :: d :: b) = cutR (b.length + 3 + 1) (a :: x :: c :: d :: b) := fun b => rfl
      have ea : a :: x :: c :: d :: t ++ q = a :: x :: c :: d :: (t ++ q) := rfl
      by_cases h1 : len4 a x c d < 0 ∨ (0 < len4 a x c d ∧ len4 a x c d ≤ 4) ∨ 4004 < len4 a x c d
      · rw [cutR_bad h1, ea, eB, cutR_bad h1]; simp
      · by_cases h2 : ((a :: x :: c :: d :: t).length : Int) < len4 a x c d
        · rw [cutR_lack h1 h2]; simp
        · by_cases h3 : len4 a x c d = 0
          · rw [cutR_flush h3, ea, eB, cutR_flush h3, cutR_eq ((t ++ q).length + 3) (t ++ q) (by omega)]
            obtain ⟨i1, i2⟩ := ih t q (by simp at hp; omega)
            refine ⟨fun e => ?_, fun e => i2 e⟩
            rw [i1 e]
            simp
          · have hle : (len4 a x c d).toNat ≤ (a :: x :: c :: d :: t).length := by omega
            have h2' : ¬ ((a :: x :: c :: d :: (t ++ q)).length : Int) < len4 a x c d := by
              have : (a :: x :: c :: d :: (t ++ q)).length = (a :: x :: c :: d :: t).length + q.length := by rw [← ea, List.length_append]
              rw [this]; omega
            rw [cutR_line h1 h2 h3, ea, eB, cutR_line h1 h2' h3, ← ea, List.drop_append_of_le_length hle, List.take_append_of_le_length hle, cutR_eq ((t ++ q).length + 3) ((a :: x :: c :: d :: t).drop (len4 a x c d).toNat ++ q) (by rw [List.length_append, List.length_append, List.length_drop]; simp only [List.length_cons]; omega)]
            obtain ⟨i1, i2⟩ := ih ((a :: x :: c :: d :: t).drop (len4 a x c d).toNat) q (by rw [List.length_drop]; simp at hp ⊢; omega)
            refine ⟨fun e => ?_, fun e => i2 e⟩
            rw [i1 e]
            simp
theorem cutB_two (p q : List Int) : ((cutB p).2.2 = 0 → cutB (p ++ q) = ((cutB p).1 ++ (cutB ((cutB p).2.1 ++ q)).1, (cutB ((cutB p).2.1 ++ q)).2)) ∧ ((cutB p).2.2 ≠ 0 → (cutB p).2.2 = 3 ∧ (cutB (p ++ q)).2.2 = 3) := cutR_two p.length p q (Nat.le_refl _)
end Go.Proofs.Ytigcmhidbekgbaa.Line
