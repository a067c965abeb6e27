/- What talks begin with, the reference's part: an object's name, a piece of a ref's name. -/
import Derived.Test.YtmmionafcmnfoaaDoorHello
import Derived.Test.YtmmionafcmnfoaaDoorPNamA
namespace Go.Proofs.YtmmionafcmnfoaaDoor.Hello
open Go.RowKit Go.Proofs.YtmmionafcmnfoaaDoorW.PrintWords Go.Proofs.YtmmionafcmnfoaaDoorW.PrintLast Go.Proofs.YtmmionafcmnfoaaDoorW.PrintMore Go.Proofs.YtmmionafcmnfoaaDoor.Conv Go.Proofs.YtmmionafcmnfoaaDoor.Print
theorem rnamed_loop (s : ByteArray) (hl : s.size = 64) : ∀ (d i k : Nat), i + d = s.size -> d + 1 <= k -> q2_Named.l0 k s (i : Int) = some (hexFrom s d i) := by
 intro d
 induction d with
 | zero =>
  intro i k hi hk
  obtain ⟨k, rfl⟩ : ∃ j, k = j + 1 := ⟨k - 1, by omega⟩
  simp only [q2_Named.l0]
  rw [if_neg (by omega)]
  rfl
 | succ d ih =>
  intro i k hi hk
  obtain ⟨k, rfl⟩ : ∃ j, k = j + 1 := ⟨k - 1, by omega⟩
  simp only [q2_Named.l0]
  rw [if_pos (by omega), if_pos (by omega), if_pos (by omega), hex_step2, w64 (by omega) (by omega), show ((i : Int) + 1) = ((i + 1 : Nat) : Int) by omega, ih (i + 1) k (by omega) (by omega)]
  simp only [hexFrom]
  by_cases b : hexB (bt s (i : Int)) = true
  ·rw [if_pos b, b, Bool.true_and]
  ·rw [if_neg b, Bool.eq_false_iff.2 b]; rfl
theorem rnamed_eq (s : ByteArray) {k : Nat} (hk : 65 <= k) : q2_Named.f k s = some (idF s) := by
 unfold q2_Named.f idF
 by_cases h : (s.size : Int) = 64
 ·rw [if_pos h, beq_iff_eq.2 h, Bool.and_true]
  exact rnamed_loop s (by omega) s.size 0 k (by omega) (by omega)
 ·rw [if_neg h, beq_eq_false_iff_ne.2 h, Bool.and_false]
theorem part_loop (s : ByteArray) (hl : s.size <= 9223372036854775806) : ∀ (d i k : Nat), i + d = s.size -> d + 1 <= k -> q9_part.l0 k s (i : Int) = some (letFrom s d i && partEnd s) := by
 intro d
 induction d with
 | zero =>
  intro i k hi hk
  obtain ⟨k, rfl⟩ : ∃ j, k = j + 1 := ⟨k - 1, by omega⟩
  simp only [q9_part.l0]
  rw [if_neg (by omega)]
  unfold partEnd
  by_cases c : (s.size : Int) >= 1
  ·rw [if_pos c]
   by_cases h : (s.size : Int) <= 30
   ·rw [if_pos h, if_pos (by omega), decide_eq_true (by omega)]
    simp [letFrom]
   ·rw [if_neg h, decide_eq_false (by omega)]
    simp [letFrom]
  ·rw [if_neg c, decide_eq_false (by omega)]
   simp [letFrom]
 | succ d ih =>
  intro i k hi hk
  obtain ⟨k, rfl⟩ : ∃ j, k = j + 1 := ⟨k - 1, by omega⟩
  simp only [q9_part.l0]
  rw [if_pos (by omega), if_pos (by omega), let_step, w64 (by omega) (by omega), show ((i : Int) + 1) = ((i + 1 : Nat) : Int) by omega, ih (i + 1) k (by omega) (by omega)]
  simp only [letFrom]
  by_cases b : letB (bt s (i : Int)) = true
  ·rw [if_pos b, b, Bool.true_and]
  ·rw [if_neg b, Bool.eq_false_iff.2 b]; rfl
theorem part_eq (s : ByteArray) (hl : s.size <= 9223372036854775806) {k : Nat} (hk : s.size + 1 <= k) : q9_part.f k s = some (partF s) := part_loop s hl s.size 0 k (by omega) hk
end Go.Proofs.YtmmionafcmnfoaaDoor.Hello
