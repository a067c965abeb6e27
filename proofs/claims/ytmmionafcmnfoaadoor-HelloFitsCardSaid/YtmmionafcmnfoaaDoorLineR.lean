/- Lines and their bytes: the reference puts and cuts what the plain functions tell. -/
import Derived.Test.YtmmionafcmnfoaaDoorHello
import Derived.Test.YtmmionafcmnfoaaDoorPCut
namespace Go.Proofs.YtmmionafcmnfoaaDoor.Line
open Go.RowKit Go.Proofs.YtmmionafcmnfoaaDoorW.PrintWords Go.Proofs.YtmmionafcmnfoaaDoorW.PrintLast Go.Proofs.YtmmionafcmnfoaaDoorW.PrintMore Go.Proofs.YtmmionafcmnfoaaDoor.Conv Go.Proofs.YtmmionafcmnfoaaDoor.Print
abbrev Ln := S49
def Byte (x : Int) : Prop := 0 ≤ x ∧ x ≤ 255

theorem w64 {x : Int} (h0 : -9223372036854775808 ≤ x) (h1 : x ≤ 9223372036854775807) : wrap64 x = x := by unfold wrap64; omega

/-- What a digit says; below 0: it is none. -/
def hexv (c : Int) : Int := if 48 ≤ c ∧ c ≤ 57 then c - 48 else if 97 ≤ c ∧ c ≤ 102 then c - 87 else -1
theorem hexv_bd (c : Int) : -1 ≤ hexv c ∧ hexv c < 16 := by unfold hexv; split; omega; split <;> omega
def digits : List Int := [48, 49, 50, 51, 52, 53, 54, 55, 56, 57, 97, 98, 99, 100, 101, 102]
/-- What four digits say. -/
def len4 (a b c d : Int) : Int := if hexv a < 0 ∨ hexv b < 0 ∨ hexv c < 0 ∨ hexv d < 0 then -1 else ((hexv a * 16 + hexv b) * 16 + hexv c) * 16 + hexv d
theorem len4_bd (a b c d : Int) : -1 ≤ len4 a b c d ∧ len4 a b c d ≤ 65535 := by
  have := hexv_bd a; have := hexv_bd b; have := hexv_bd c; have := hexv_bd d
  unfold len4; split <;> omega

/-! ### digits of a length -/
def hexd (n : Int) : Int := bt ⟨#[48, 49, 50, 51, 52, 53, 54, 55, 56, 57, 97, 98, 99, 100, 101, 102]⟩ n
def hex4 (n : Int) : List Int := [hexd (n / 4096), hexd (n / 256 % 16), hexd (n / 16 % 16), hexd (n % 16)]
theorem hexd_nat : ∀ n : Fin 16, hexv (hexd n.val) = n.val ∧ 48 ≤ hexd n.val ∧ hexd n.val ≤ 102 := by decide +kernel
theorem hexv_hexd (n : Int) (h0 : 0 ≤ n) (h1 : n < 16) : hexv (hexd n) = n := by
  obtain ⟨m, rfl⟩ := Int.eq_ofNat_of_zero_le h0
  exact (hexd_nat ⟨m, by omega⟩).1
theorem hexd_byte (n : Int) (h0 : 0 ≤ n) (h1 : n < 16) : Byte (hexd n) := by
  obtain ⟨m, rfl⟩ := Int.eq_ofNat_of_zero_le h0
  have := (hexd_nat ⟨m, by omega⟩).2
  simp only at this
  exact ⟨by omega, by omega⟩
theorem hexd_hexv_nat : ∀ c : Fin 256, 0 ≤ hexv c.val → hexd (hexv c.val) = c.val := by decide +kernel
theorem hexd_hexv (c : Int) (hc : Byte c) (h : 0 ≤ hexv c) : hexd (hexv c) = c := by
  have h1 := hc.1
  have h2 := hc.2
  obtain ⟨m, rfl⟩ := Int.eq_ofNat_of_zero_le h1
  exact hexd_hexv_nat ⟨m, by omega⟩ h
theorem hex4_length (n : Int) : (hex4 n).length = 4 := rfl
theorem hex4_byte (n : Int) (h0 : 0 ≤ n) (h1 : n ≤ 65535) : ∀ x ∈ hex4 n, Byte x := by
  intro x hx
  simp only [hex4, List.mem_cons, List.not_mem_nil, or_false] at hx
  rcases hx with rfl | rfl | rfl | rfl <;> exact hexd_byte _ (by omega) (by omega)
theorem len4_hex4 (n : Int) (h0 : 0 ≤ n) (h1 : n ≤ 65535) : len4 (hexd (n / 4096)) (hexd (n / 256 % 16)) (hexd (n / 16 % 16)) (hexd (n % 16)) = n := by
  unfold len4
  rw [hexv_hexd _ (by omega) (by omega), hexv_hexd _ (by omega) (by omega), hexv_hexd _ (by omega) (by omega), hexv_hexd _ (by omega) (by omega), if_neg (by omega)]
  omega
theorem hex4_len4 (a b c d : Int) (ha : Byte a) (hb : Byte b) (hc : Byte c) (hd : Byte d) (h : 0 ≤ len4 a b c d) : hex4 (len4 a b c d) = [a, b, c, d] := by
  have va := hexv_bd a; have vb := hexv_bd b; have vc := hexv_bd c; have vd := hexv_bd d
  have hn : ¬ (hexv a < 0 ∨ hexv b < 0 ∨ hexv c < 0 ∨ hexv d < 0) := fun e => by unfold len4 at h; rw [if_pos e] at h; omega
  have e : len4 a b c d = ((hexv a * 16 + hexv b) * 16 + hexv c) * 16 + hexv d := by unfold len4; rw [if_neg hn]
  unfold hex4
  rw [show len4 a b c d / 4096 = hexv a by omega, show len4 a b c d / 256 % 16 = hexv b by omega, show len4 a b c d / 16 % 16 = hexv c by omega, show len4 a b c d % 16 = hexv d by omega,
    hexd_hexv a ha (by omega), hexd_hexv b hb (by omega), hexd_hexv c hc (by omega), hexd_hexv d hd (by omega)]

/-! ### lines of bytes -/
def badLen (m : Int) : Bool := decide (m < 0 ∨ (0 < m ∧ m ≤ 4) ∨ 4004 < m)
def cutR : Nat → List Int → List Ln × List Int × Int
  | n + 1, a :: x :: c :: d :: t =>
    if badLen (len4 a x c d) then ([], a :: x :: c :: d :: t, 3)
    else if ((a :: x :: c :: d :: t).length : Int) < len4 a x c d then ([], a :: x :: c :: d :: t, 0)
    else if len4 a x c d = 0 then (⟨true, ⟨#[]⟩⟩ :: (cutR n t).1, (cutR n t).2)
    else (⟨false, strOfNums (((a :: x :: c :: d :: t).take (len4 a x c d).toNat).drop 4)⟩ :: (cutR n ((a :: x :: c :: d :: t).drop (len4 a x c d).toNat)).1, (cutR n ((a :: x :: c :: d :: t).drop (len4 a x c d).toNat)).2)
  | _, b => ([], b, 0)
theorem cutR_short (n : Nat) (b : List Int) (h : b.length < 4) : cutR n b = ([], b, 0) := by
  unfold cutR
  split
  · simp at h; omega
  · rfl
theorem four (b : List Int) (h : ¬ b.length < 4) : ∃ a x c d t, b = a :: x :: c :: d :: t := by
  match b, h with
  | a :: x :: c :: d :: t, _ => exact ⟨a, x, c, d, t, rfl⟩
  | [], h => simp at h
  | [_], h => simp at h
  | [_, _], h => simp at h
  | [_, _, _], h => simp at h
def Bytes (b : List Int) : Prop := ∀ x ∈ b, Byte x
theorem Bytes.drop {b : List Int} (h : Bytes b) (n : Nat) : Bytes (b.drop n) := fun x hx => h x (List.mem_of_mem_drop hx)
theorem Bytes.take {b : List Int} (h : Bytes b) (n : Nat) : Bytes (b.take n) := fun x hx => h x (List.mem_of_mem_take hx)
theorem Bytes.append {a b : List Int} (h : Bytes a) (k : Bytes b) : Bytes (a ++ b) := fun x hx => (List.mem_append.1 hx).elim (h x) (k x)

section
variable {n : Nat} {a x c d : Int} {t : List Int}
theorem badLen_iff (m : Int) : badLen m = true ↔ m < 0 ∨ (0 < m ∧ m ≤ 4) ∨ 4004 < m := by unfold badLen; simp
theorem cutR_bad (h : len4 a x c d < 0 ∨ (0 < len4 a x c d ∧ len4 a x c d ≤ 4) ∨ 4004 < len4 a x c d) : cutR (n + 1) (a :: x :: c :: d :: t) = ([], a :: x :: c :: d :: t, 3) := by
  simp only [cutR]
  rw [if_pos ((badLen_iff _).2 h)]
theorem cutR_lack (h : ¬ (len4 a x c d < 0 ∨ (0 < len4 a x c d ∧ len4 a x c d ≤ 4) ∨ 4004 < len4 a x c d)) (h2 : ((a :: x :: c :: d :: t).length : Int) < len4 a x c d) : cutR (n + 1) (a :: x :: c :: d :: t) = ([], a :: x :: c :: d :: t, 0) := by
  simp only [cutR]
  rw [if_neg (fun e => h ((badLen_iff _).1 e)), if_pos h2]
theorem cutR_flush (h3 : len4 a x c d = 0) : cutR (n + 1) (a :: x :: c :: d :: t) = (⟨true, ⟨#[]⟩⟩ :: (cutR n t).1, (cutR n t).2) := by
  simp only [cutR]
  rw [if_neg (fun e => by have := (badLen_iff _).1 e; omega), if_neg (by rw [h3]; simp; omega), if_pos h3]
theorem cutR_line (h : ¬ (len4 a x c d < 0 ∨ (0 < len4 a x c d ∧ len4 a x c d ≤ 4) ∨ 4004 < len4 a x c d)) (h2 : ¬ ((a :: x :: c :: d :: t).length : Int) < len4 a x c d) (h3 : ¬ len4 a x c d = 0) :
    cutR (n + 1) (a :: x :: c :: d :: t) = (⟨false, strOfNums (((a :: x :: c :: d :: t).take (len4 a x c d).toNat).drop 4)⟩ :: (cutR n ((a :: x :: c :: d :: t).drop (len4 a x c d).toNat)).1, (cutR n ((a :: x :: c :: d :: t).drop (len4 a x c d).toNat)).2) := by
  simp only [cutR]
  rw [if_neg (fun e => h ((badLen_iff _).1 e)), if_neg h2, if_neg h3]
end

theorem cutR_more (n : Nat) : ∀ (b : List Int) (m : Nat), b.length ≤ n → n ≤ m → cutR m b = cutR n b := by
  induction n with
  | zero => intro b m hb _; rw [cutR_short _ _ (by omega), cutR_short _ _ (by omega)]
  | succ n ih =>
    intro b m hb hm
    obtain ⟨m, rfl⟩ : ∃ q, m = q + 1 := ⟨m - 1, by omega⟩
    by_cases h4 : b.length < 4
    · rw [cutR_short _ _ h4, cutR_short _ _ h4]
    · obtain ⟨a, x, c, d, t, rfl⟩ := four b h4
      by_cases h1 : len4 a x c d < 0 ∨ (0 < len4 a x c d ∧ len4 a x c d ≤ 4) ∨ 4004 < len4 a x c d
      · rw [cutR_bad h1, cutR_bad h1]
      · by_cases h2 : ((a :: x :: c :: d :: t).length : Int) < len4 a x c d
        · rw [cutR_lack h1 h2, cutR_lack h1 h2]
        · by_cases h3 : len4 a x c d = 0
          · rw [cutR_flush h3, cutR_flush h3, ih t m (by simp at hb; omega) (by omega)]
          · rw [cutR_line h1 h2 h3, cutR_line h1 h2 h3, ih _ m (by rw [List.length_drop]; simp at hb ⊢; omega) (by omega)]
/-- The lines that bytes begin with, what is left, the error. -/
def cutB (b : List Int) : List Ln × List Int × Int := cutR b.length b
theorem cutR_eq (n : Nat) (b : List Int) (h : b.length ≤ n) : cutR n b = cutB b := cutR_more b.length b n (Nat.le_refl _) h
theorem cutR_facts (n : Nat) : ∀ (b : List Int), b.length ≤ n → Bytes b → (cutR n b).1.length * 4 ≤ b.length ∧ (cutR n b).2.1.length ≤ b.length ∧ Bytes (cutR n b).2.1 ∧ ((cutR n b).2.2 = 0 ∨ (cutR n b).2.2 = 3) := by
  induction n with
  | zero => intro b hb hB; rw [cutR_short _ _ (by omega)]; exact ⟨by simp, by simp, hB, .inl rfl⟩
  | succ n ih =>
    intro b hb hB
    by_cases h4 : b.length < 4
    · rw [cutR_short _ _ h4]; exact ⟨by simp, by simp, hB, .inl rfl⟩
    · obtain ⟨a, x, c, d, t, rfl⟩ := four b h4
      by_cases h1 : len4 a x c d < 0 ∨ (0 < len4 a x c d ∧ len4 a x c d ≤ 4) ∨ 4004 < len4 a x c d
      · rw [cutR_bad h1]; exact ⟨by simp, by simp, hB, .inr rfl⟩
      · by_cases h2 : ((a :: x :: c :: d :: t).length : Int) < len4 a x c d
        · rw [cutR_lack h1 h2]; exact ⟨by simp, by simp, hB, .inl rfl⟩
        · by_cases h3 : len4 a x c d = 0
          · rw [cutR_flush h3]
            obtain ⟨i1, i2, i3, i4⟩ := ih t (by simp at hb; omega) (hB.drop 4)
            exact ⟨by simp; omega, by simp; omega, i3, i4⟩
          · rw [cutR_line h1 h2 h3]
            obtain ⟨i1, i2, i3, i4⟩ := ih ((a :: x :: c :: d :: t).drop (len4 a x c d).toNat) (by rw [List.length_drop]; simp at hb ⊢; omega) (hB.drop _)
            rw [List.length_drop] at i1 i2
            have h5 : ((a :: x :: c :: d :: t).length : Int) ≥ len4 a x c d := by omega
            generalize (a :: x :: c :: d :: t).length = L at *
            exact ⟨by simp; omega, by simp; omega, i3, i4⟩
theorem cutB_facts (b : List Int) (hB : Bytes b) : (cutB b).1.length * 4 ≤ b.length ∧ (cutB b).2.1.length ≤ b.length ∧ Bytes (cutB b).2.1 ∧ ((cutB b).2.2 = 0 ∨ (cutB b).2.2 = 3) := cutR_facts b.length b (Nat.le_refl _) hB
/-- What a cut answers. -/
def cutF (b : List Int) : List Ln × List Int × Int := if (cutB b).2.2 = 0 then ((cutB b).1, (cutB b).2.1, 0) else ([], [], 3)
/-! ### the reference's cut -/
theorem rlength_step (k : Nat) (x : Int) (b : List Int) (hl : 4 ≤ b.length) (i : Nat) (hi : i < 4) (h0 : 0 ≤ x) (h1 : x ≤ 4095) (hb : Byte (rd b i)) :
    sacristyref15_length.l0 (k + 2) b x i = if hexv (rd b i) < 0 then some (-1) else sacristyref15_length.l0 k b (x * 16 + hexv (rd b i)) ((i + 1 : Nat) : Int) := by
  have hb1 := hb.1
  have hb2 := hb.2
  simp only [sacristyref15_length.l0]
  rw [if_pos (by omega), if_pos (by omega), if_pos (by omega)]
  have w1 : wrap64 (16 * x) = 16 * x := w64 (by omega) (by omega)
  have w2 : wrap64 ((i : Int) + 1) = ((i + 1 : Nat) : Int) := by rw [w64 (by omega) (by omega)]; rfl
  generalize he : rd b i = e at *
  by_cases c1 : e ≥ 48
  · rw [if_pos c1]
    simp only [sacristyref15_length.j1]
    by_cases c2 : e ≤ 57
    · rw [if_pos (by simpa using c2)]
      have v : hexv e = e - 48 := by unfold hexv; rw [if_pos ⟨c1, c2⟩]
      rw [v, if_neg (by omega), w1, w2, show (e - 48) % 256 = e - 48 by omega, w64 (by omega) (by omega), show 16 * x + (e - 48) = x * 16 + (e - 48) by omega]
    · rw [if_neg (by simpa using c2)]
      by_cases c3 : e ≥ 97
      · rw [if_pos c3]
        by_cases c4 : e ≤ 102
        · rw [if_pos c4]
          have v : hexv e = e - 87 := by unfold hexv; rw [if_neg (by omega), if_pos ⟨c3, c4⟩]
          rw [v, if_neg (by omega), w1, w2, show (e - 97) % 256 = e - 97 by omega, w64 (x := 16 * x + (e - 97)) (by omega) (by omega), w64 (by omega) (by omega), show 16 * x + (e - 97) + 10 = x * 16 + (e - 87) by omega]
        · rw [if_neg c4]
          have v : hexv e = -1 := by unfold hexv; rw [if_neg (by omega), if_neg (by omega)]
          rw [v, if_pos (by omega)]
      · rw [if_neg c3]
        have v : hexv e = -1 := by unfold hexv; rw [if_neg (by omega), if_neg (by omega)]
        rw [v, if_pos (by omega)]
  · rw [if_neg c1]
    simp only [sacristyref15_length.j1]
    rw [if_neg (by simp), if_neg (by omega)]
    have v : hexv e = -1 := by unfold hexv; rw [if_neg (by omega), if_neg (by omega)]
    rw [v, if_pos (by omega)]
theorem rlength_end (k : Nat) (x : Int) (b : List Int) : sacristyref15_length.l0 (k + 1) b x ((4 : Nat) : Int) = some x := by
  simp only [sacristyref15_length.l0]
  rw [if_neg (by omega)]
theorem rlength_eq (a b c d : Int) (t : List Int) (ha : Byte a) (hb : Byte b) (hc : Byte c) (hd : Byte d) {k : Nat} (hk : 9 ≤ k) : sacristyref15_length.f k (a :: b :: c :: d :: t) = some (len4 a b c d) := by
  refine at_rounds (sacristyref15_length.mono _) hk ?_
  unfold sacristyref15_length.f
  have h4 : 4 ≤ (a :: b :: c :: d :: t).length := by simp
  show sacristyref15_length.l0 (7 + 2) (a :: b :: c :: d :: t) 0 ((0 : Nat) : Int) = _
  have va := hexv_bd a; have vb := hexv_bd b; have vc := hexv_bd c; have vd := hexv_bd d
  rw [rlength_step 7 0 _ h4 0 (by omega) (by omega) (by omega) ha]
  simp only [show rd (a :: b :: c :: d :: t) ((0 : Nat) : Int) = a from rfl]
  unfold len4
  by_cases h1 : hexv a < 0
  · rw [if_pos h1, if_pos (.inl h1)]
  rw [if_neg h1, rlength_step 5 _ _ h4 1 (by omega) (by omega) (by omega) hb]
  simp only [show rd (a :: b :: c :: d :: t) ((0 + 1 : Nat) : Int) = b from rfl]
  by_cases h2 : hexv b < 0
  · rw [if_pos h2, if_pos (.inr (.inl h2))]
  rw [if_neg h2, rlength_step 3 _ _ h4 2 (by omega) (by omega) (by omega) hc]
  simp only [show rd (a :: b :: c :: d :: t) ((2 : Nat) : Int) = c from rfl]
  by_cases h3 : hexv c < 0
  · rw [if_pos h3, if_pos (.inr (.inr (.inl h3)))]
  rw [if_neg h3, rlength_step 1 _ _ h4 3 (by omega) (by omega) (by omega) hd]
  simp only [show rd (a :: b :: c :: d :: t) ((3 : Nat) : Int) = d from rfl]
  by_cases h5 : hexv d < 0
  · rw [if_pos h5, if_pos (.inr (.inr (.inr h5)))]
  rw [if_neg h5, rlength_end 0 _ _, if_neg (by omega)]
  simp

theorem rcut_l : ∀ (n : Nat) (b : List Int) (out : List Ln) (k : Nat), b.length ≤ n → Bytes b → out.length + b.length ≤ 1000000000000 → 2 * n + 12 ≤ k →
    sacristyref15_Cut.l0 k b out = some (if (cutR n b).2.2 = 0 then (out ++ (cutR n b).1, (cutR n b).2.1, 0) else ([], [], 3)) := by
  intro n
  induction n with
  | zero =>
    intro b out k hb hB ho hk
    obtain ⟨k, rfl⟩ : ∃ m, k = m + 1 := ⟨k - 1, by omega⟩
    simp only [sacristyref15_Cut.l0]
    rw [if_neg (by omega), cutR_short _ _ (by omega)]
    simp only [Option.bind_some, List.length_nil, List.nil_append, List.append_nil]
    rw [if_pos (by omega), if_pos (by trivial)]
  | succ n ih =>
    intro b out k hb hB ho hk
    obtain ⟨k, rfl⟩ : ∃ m, k = m + 2 := ⟨k - 2, by omega⟩
    simp only [sacristyref15_Cut.l0]
    by_cases h4 : b.length < 4
    · rw [if_neg (by omega), cutR_short _ _ h4]
      simp only [Option.bind_some, List.length_nil, List.nil_append, List.append_nil]
      rw [if_pos (by omega), if_pos (by trivial)]
    · rw [if_pos (by omega)]
      obtain ⟨a, x, c, d, t, rfl⟩ := four b h4
      rw [rlength_eq a x c d t (hB a (by simp)) (hB x (by simp)) (hB c (by simp)) (hB d (by simp)) (by omega)]
      simp only [Option.bind_some]
      have lb := len4_bd a x c d
      generalize hLL : a :: x :: c :: d :: t = L at *
      by_cases h1 : len4 a x c d < 0 ∨ (0 < len4 a x c d ∧ len4 a x c d ≤ 4) ∨ 4004 < len4 a x c d
      · have e : cutR (n + 1) L = ([], L, 3) := by rw [← hLL]; exact cutR_bad h1
        rw [e]
        simp only [sacristyref15_Cut.j1]
        by_cases h0 : len4 a x c d = 0
        · omega
        · rw [if_neg h0]
          by_cases h5 : len4 a x c d < 5
          · rw [if_pos h5]; simp
          · rw [if_neg h5, if_pos (by simp; omega)]; simp
      · have hj : sacristyref15_Cut.j1 (k + 1) L out (len4 a x c d) false = (if len4 a x c d = 0 then sacristyref15_Cut.j1 (k + 1) L out (len4 a x c d) false else if len4 a x c d < 5 then sacristyref15_Cut.j1 (k + 1) L out (len4 a x c d) true else sacristyref15_Cut.j1 (k + 1) L out (len4 a x c d) (decide (len4 a x c d > 4004))) := by
          by_cases h0 : len4 a x c d = 0
          · rw [if_pos h0]
          · rw [if_neg h0, if_neg (by omega), show decide (len4 a x c d > 4004) = false by simp; omega]
        rw [← hj]
        simp only [sacristyref15_Cut.j1]
        rw [if_neg (by simp)]
        have ht : L.drop 4 = t := by rw [← hLL]; rfl
        have hlt : L.length = t.length + 4 := by rw [← hLL]; rfl
        by_cases h2 : (L.length : Int) < len4 a x c d
        · have e : cutR (n + 1) L = ([], L, 0) := by rw [← hLL] at h2 ⊢; exact cutR_lack h1 h2
          rw [e, if_neg (by omega), if_pos (by omega)]
          simp only [Option.bind_some, List.length_nil, List.nil_append, List.append_nil]
          rw [if_pos (by omega), if_pos (by trivial)]
        · by_cases h3 : len4 a x c d = 0
          · have e : cutR (n + 1) L = (⟨true, ⟨#[]⟩⟩ :: (cutR n t).1, (cutR n t).2) := by rw [← hLL]; exact cutR_flush h3
            rw [e, if_pos h3, if_pos (by omega), if_pos (by omega), ht, ih t _ k (by omega) (by rw [← ht]; exact hB.drop 4) (by simp; omega) (by omega)]
            simp
          · have e : cutR (n + 1) L = (⟨false, strOfNums ((L.take (len4 a x c d).toNat).drop 4)⟩ :: (cutR n (L.drop (len4 a x c d).toNat)).1, (cutR n (L.drop (len4 a x c d).toNat)).2) := by rw [← hLL] at h2 ⊢; exact cutR_line h1 h2 h3
            rw [e, if_neg h3, if_neg (by omega), if_pos (by omega), if_pos (by omega), if_pos (by omega), if_pos (by omega), ih _ _ k (by rw [List.length_drop]; omega) (hB.drop _) (by rw [List.length_drop]; simp; omega) (by omega)]
            simp
theorem rcut_eq (b : List Int) (hB : Bytes b) (hl : b.length ≤ 1000000000000) {k : Nat} (hk : 2 * b.length + 12 ≤ k) : sacristyref15_Cut.f k b = some (cutF b) := by
  unfold sacristyref15_Cut.f cutF
  rw [rcut_l b.length b [] k (Nat.le_refl _) hB (by simpa using hl) hk]
  rfl

/-! ### lines' bytes -/
def okL (x : Ln) : Bool := !((x.f0 != ((x.f1.size : Int) == 0)) || decide ((x.f1.size : Int) > 4000))
def lenL (x : Ln) : Int := if x.f0 = true then 0 else (x.f1.size : Int) + 4
def encL (x : Ln) : List Int := hex4 (lenL x) ++ bytesOf x.f1
def putF (l : List Ln) : List Int × Int := if l.all okL then (l.flatMap encL, 0) else ([], 1)
theorem okL_size {x : Ln} (h : okL x = true) : x.f1.size ≤ 4000 := by
  unfold okL at h
  simp at h
  omega
theorem okL_flush {x : Ln} (h : okL x = true) (c : x.f0 = true) : x.f1.size = 0 := by
  by_cases e : x.f1.size = 0
  · exact e
  · have e2 : ((x.f1.size : Int) == 0) = false := by simpa using e
    unfold okL at h
    rw [c, e2] at h
    simp at h
theorem lenL_bd {x : Ln} (h : okL x = true) : 0 ≤ lenL x ∧ lenL x ≤ 4004 := by
  have := okL_size h
  unfold lenL; split <;> omega
theorem encL_length (x : Ln) : (encL x).length = 4 + x.f1.size := by unfold encL; rw [List.length_append, hex4_length, bytesOf_length]
theorem rdT_get (l : List Ln) (i : Nat) (h : i < l.length) : rd_T49 l (i : Int) = l[i] := by
  unfold rd_T49
  rw [List.getD_eq_getElem?_getD, show ((i : Int)).toNat = i from rfl, List.getElem?_eq_getElem h]
  rfl
theorem drop_cons (l : List Ln) (i : Nat) (h : i < l.length) : l.drop i = l[i] :: l.drop (i + 1) := List.drop_eq_getElem_cons h

/-! ### the reference's Put -/
theorem bytesOf_nil {s : ByteArray} (h : s.size = 0) : bytesOf s = [] := List.eq_nil_of_length_eq_zero (by rw [bytesOf_length]; exact h)
theorem encL_flush {x : Ln} (h : okL x = true) (c : x.f0 = true) : encL x = [48, 48, 48, 48] := by
  unfold encL lenL
  rw [if_pos c, bytesOf_nil (okL_flush h c)]
  rfl
theorem rput_loop (l : List Ln) (hl : l.length ≤ 1000000000) : ∀ (d i : Nat) (out : List Int) (k : Nat), i + d = l.length → out.length ≤ 4004 * i → 2 * d + 2 ≤ k →
    sacristyref15_Put.l0 k l ⟨#[48, 49, 50, 51, 52, 53, 54, 55, 56, 57, 97, 98, 99, 100, 101, 102]⟩ out (i : Int) = some (if (l.drop i).all okL then (out ++ (l.drop i).flatMap encL, 0) else ([], 1)) := by
  intro d
  induction d with
  | zero =>
    intro i out k hi ho hk
    obtain ⟨k, rfl⟩ : ∃ m, k = m + 1 := ⟨k - 1, by omega⟩
    simp only [sacristyref15_Put.l0]
    rw [if_neg (by omega), List.drop_eq_nil_of_le (by omega)]
    simp
  | succ d ih =>
    intro i out k hi ho hk
    obtain ⟨k, rfl⟩ : ∃ m, k = m + 2 := ⟨k - 2, by omega⟩
    have hlt : i < l.length := by omega
    rw [drop_cons l i hlt]
    have hr := rdT_get l i hlt
    generalize hx : l[i] = x at *
    have hstep : sacristyref15_Put.l0 (k + 2) l ⟨#[48, 49, 50, 51, 52, 53, 54, 55, 56, 57, 97, 98, 99, 100, 101, 102]⟩ out (i : Int) = sacristyref15_Put.j1 (k + 1) l ⟨#[48, 49, 50, 51, 52, 53, 54, 55, 56, 57, 97, 98, 99, 100, 101, 102]⟩ out (i : Int) (x.f1.size : Int) (!okL x) := by
      simp only [sacristyref15_Put.l0, hr]
      rw [if_pos (by omega), if_pos (by omega)]
      unfold okL
      by_cases c : (x.f0 != ((x.f1.size : Int) == 0)) = true
      · rw [if_pos c, c]; rfl
      · rw [if_neg c, Bool.not_eq_true] at *
        rw [c]; simp
    rw [hstep]
    simp only [sacristyref15_Put.j1, hr]
    cases hok : okL x with
    | false => simp [hok]
    | true =>
      rw [if_neg (by simp), if_pos (by omega), if_pos (by omega)]
      have hsz := okL_size hok
      have := ih (i + 1) (out ++ encL x) k (by omega) (by rw [List.length_append, encL_length]; omega) (by omega)
      have w1 : wrap64 ((i : Int) + 1) = ((i + 1 : Nat) : Int) := by rw [w64 (by omega) (by omega)]; rfl
      by_cases c : x.f0 = true
      · rw [if_pos c, if_pos (by omega), w1, show bytesOf (⟨#[48, 48, 48, 48]⟩ : ByteArray) = encL x by rw [encL_flush hok c]; rfl, this]
        simp [hok]
      · rw [if_neg c]
        have hL : lenL x = (x.f1.size : Int) + 4 := by unfold lenL; rw [if_neg c]
        have e1 : wrap64 ((x.f1.size : Int) + 4) = lenL x := by rw [hL, w64 (by omega) (by omega)]
        have hb := lenL_bd hok
        rw [e1]
        have d1 : wrap64 (Int.tdiv (lenL x) 4096) = lenL x / 4096 := by rw [Int.tdiv_eq_ediv_of_nonneg hb.1, w64 (by omega) (by omega)]
        have d2 : Int.tmod (wrap64 (Int.tdiv (lenL x) 256)) 16 = lenL x / 256 % 16 := by rw [Int.tdiv_eq_ediv_of_nonneg hb.1, w64 (by omega) (by omega), Int.tmod_eq_emod_of_nonneg (by omega)]
        have d3 : Int.tmod (wrap64 (Int.tdiv (lenL x) 16)) 16 = lenL x / 16 % 16 := by rw [Int.tdiv_eq_ediv_of_nonneg hb.1, w64 (by omega) (by omega), Int.tmod_eq_emod_of_nonneg (by omega)]
        have d4 : Int.tmod (lenL x) 16 = lenL x % 16 := Int.tmod_eq_emod_of_nonneg hb.1
        have hs : ((⟨#[48, 49, 50, 51, 52, 53, 54, 55, 56, 57, 97, 98, 99, 100, 101, 102]⟩ : ByteArray).size : Int) = 16 := rfl
        rw [d1, d2, d3, d4, hs, if_pos (by omega), if_pos (by omega), if_pos (by omega), if_pos (by omega), if_pos (by omega), if_pos (by omega), if_pos (by omega), if_pos (by omega)]
        simp only [Option.bind_some, List.length_cons, List.length_nil, List.length_append]
        rw [if_pos (by omega), if_pos (by omega), w1]
        have e2 : out ++ [bt ⟨#[48, 49, 50, 51, 52, 53, 54, 55, 56, 57, 97, 98, 99, 100, 101, 102]⟩ (lenL x / 4096), bt ⟨#[48, 49, 50, 51, 52, 53, 54, 55, 56, 57, 97, 98, 99, 100, 101, 102]⟩ (lenL x / 256 % 16), bt ⟨#[48, 49, 50, 51, 52, 53, 54, 55, 56, 57, 97, 98, 99, 100, 101, 102]⟩ (lenL x / 16 % 16), bt ⟨#[48, 49, 50, 51, 52, 53, 54, 55, 56, 57, 97, 98, 99, 100, 101, 102]⟩ (lenL x % 16)] ++ bytesOf x.f1 = out ++ encL x := by
          rw [List.append_assoc]; rfl
        rw [e2, this]
        simp [hok]
theorem rput_eq (l : List Ln) (hl : l.length ≤ 1000000000) {k : Nat} (hk : 2 * l.length + 2 ≤ k) : sacristyref15_Put.f k l = some (putF l) := by
  unfold sacristyref15_Put.f putF
  have := rput_loop l hl l.length 0 [] k (by omega) (by simp) hk
  simpa using this

/-! ### texts and numbers -/
theorem strOf_size (xs : List Int) : (strOfNums xs).size = xs.length := by
  show (strOfNums xs).data.size = _
  simp [strOfNums]
theorem bytesOf_strOf {xs : List Int} (h : Bytes xs) : bytesOf (strOfNums xs) = xs := by
  unfold bytesOf strOfNums
  simp only [List.map_map]
  conv => rhs; rw [← List.map_id xs]
  refine List.map_congr_left (fun x hx => ?_)
  have h1 := (h x hx).1
  have h2 := (h x hx).2
  simp
  omega
theorem strOf_bytesOf (s : ByteArray) : strOfNums (bytesOf s) = s := by
  apply ByteArray.ext
  apply Array.ext'
  unfold bytesOf strOfNums
  simp only [List.map_map]
  conv => rhs; rw [← List.map_id s.data.toList]
  refine List.map_congr_left (fun x hx => ?_)
  simp
theorem bytesOf_bytes (s : ByteArray) : Bytes (bytesOf s) := by
  intro x hx
  unfold bytesOf at hx
  obtain ⟨b, _, rfl⟩ := List.mem_map.1 hx
  have := b.toNat_lt
  exact ⟨by omega, by omega⟩
theorem strOf_append (a b : List Int) : strOfNums a ++ strOfNums b = strOfNums (a ++ b) := by
  apply ByteArray.ext
  rw [ByteArray.data_append]
  apply Array.ext'
  unfold strOfNums
  simp

/-! ### what is put is cut to the same; what is cut has the bytes -/
theorem encL_bytes {x : Ln} (h : okL x = true) : Bytes (encL x) := by
  have := lenL_bd h
  exact Bytes.append (hex4_byte _ this.1 (by omega)) (bytesOf_bytes _)
theorem enc_bytes {l : List Ln} (h : l.all okL = true) : Bytes (l.flatMap encL) := by
  intro x hx
  obtain ⟨y, hy, hxy⟩ := List.mem_flatMap.1 hx
  exact encL_bytes (List.all_eq_true.1 h y hy) x hxy
theorem okL_line {x : Ln} (h : okL x = true) (c : ¬ x.f0 = true) : x.f1.size ≠ 0 := by
  intro e
  unfold okL at h
  rw [e] at h
  have : x.f0 = false := by simpa using c
  rw [this] at h
  simp at h
theorem flush_is {x : Ln} (h : okL x = true) (c : x.f0 = true) : x = ⟨true, ⟨#[]⟩⟩ := by
  obtain ⟨f0, f1⟩ := x
  have hs := okL_flush h c
  simp only at c hs
  subst c
  congr 1
  apply ByteArray.ext
  exact Array.eq_empty_of_size_eq_zero hs
theorem cutR_enc (x : Ln) (h : okL x = true) (n : Nat) (t : List Int) : cutR (n + 1) (encL x ++ t) = (x :: (cutR n t).1, (cutR n t).2) := by
  have hb := lenL_bd h
  have e : encL x ++ t = hexd (lenL x / 4096) :: hexd (lenL x / 256 % 16) :: hexd (lenL x / 16 % 16) :: hexd (lenL x % 16) :: (bytesOf x.f1 ++ t) := rfl
  have hl := len4_hex4 (lenL x) hb.1 (by omega)
  rw [e]
  by_cases c : x.f0 = true
  · have h0 : lenL x = 0 := by unfold lenL; rw [if_pos c]
    rw [cutR_flush (by rw [hl]; exact h0), bytesOf_nil (okL_flush h c), flush_is h c]
    rfl
  · have hs := okL_line h c
    have hsz := okL_size h
    have h0 : lenL x = (x.f1.size : Int) + 4 := by unfold lenL; rw [if_neg c]
    rw [cutR_line (by rw [hl]; omega) (by rw [hl]; simp [bytesOf_length]; omega) (by rw [hl]; omega), hl]
    have ht : (lenL x).toNat = x.f1.size + 4 := by omega
    have e1 : ∀ (a b c d : Int), (a :: b :: c :: d :: (bytesOf x.f1 ++ t)).drop (x.f1.size + 4) = t := by
      intro a b c d
      simp only [List.drop_succ_cons]
      rw [List.drop_left' (bytesOf_length _)]
    have e2 : ∀ (a b c d : Int), ((a :: b :: c :: d :: (bytesOf x.f1 ++ t)).take (x.f1.size + 4)).drop 4 = bytesOf x.f1 := by
      intro a b c d
      simp only [List.take_succ_cons, List.drop_succ_cons, List.drop_zero]
      rw [List.take_left' (bytesOf_length _)]
    rw [ht, e1, e2, strOf_bytesOf]
    have : x = ⟨false, x.f1⟩ := by
      obtain ⟨f0, f1⟩ := x
      simp only at c
      simp at c
      rw [c]
    rw [← this]
theorem cutB_enc : ∀ (l : List Ln) (t : List Int), l.all okL = true → cutB (l.flatMap encL ++ t) = (l ++ (cutB t).1, (cutB t).2)
  | [], t, _ => by simp
  | x :: l, t, h => by
    have hx : okL x = true := List.all_eq_true.1 h x (by simp)
    have hl : l.all okL = true := List.all_eq_true.2 fun y hy => List.all_eq_true.1 h y (by simp [hy])
    have ih := cutB_enc l t hl
    have e : (x :: l).flatMap encL ++ t = encL x ++ (l.flatMap encL ++ t) := by simp
    rw [e]
    have h1 : cutB (encL x ++ (l.flatMap encL ++ t)) = cutR ((l.flatMap encL ++ t).length + x.f1.size + 3 + 1) (encL x ++ (l.flatMap encL ++ t)) :=
      (cutR_eq _ _ (by rw [List.length_append, encL_length]; omega)).symm
    rw [h1, cutR_enc x hx, cutR_eq _ _ (by omega), ih]
    simp
theorem cutB_nil : cutB [] = ([], [], 0) := rfl
theorem cutF_enc (l : List Ln) (h : l.all okL = true) : cutF (l.flatMap encL) = (l, [], 0) := by
  have := cutB_enc l [] h
  rw [List.append_nil, cutB_nil] at this
  unfold cutF
  rw [this]
  simp

end Go.Proofs.YtmmionafcmnfoaaDoor.Line
