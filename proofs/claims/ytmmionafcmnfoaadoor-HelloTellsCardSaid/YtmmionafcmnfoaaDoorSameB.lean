/- What is alike is told alike. -/
import Derived.Test.YtmmionafcmnfoaaDoorHelloB
import Derived.Test.YtmmionafcmnfoaaDoorPSmB
namespace Go.Proofs.YtmmionafcmnfoaaDoor.Hello
open Go.RowKit Go.Proofs.YtmmionafcmnfoaaDoorW.PrintWords Go.Proofs.YtmmionafcmnfoaaDoorW.PrintLast Go.Proofs.YtmmionafcmnfoaaDoorW.PrintMore Go.Proofs.YtmmionafcmnfoaaDoor.Conv Go.Proofs.YtmmionafcmnfoaaDoor.Print
theorem sameR_loop (l : List Rf) (hl : l.length <= 1000000000000) : ∀ (d i k : Nat), i + d = l.length -> d + 1 <= k -> q9_Same.l0 k l l (i : Int) = some true := by
 intro d
 induction d with
 | zero =>
  intro i k hi hk
  obtain ⟨k, rfl⟩ : ∃ m, k = m + 1 := ⟨k - 1, by omega⟩
  simp only [q9_Same.l0]
  rw [if_neg (by omega)]
 | succ d ih =>
  intro i k hi hk
  obtain ⟨k, rfl⟩ : ∃ m, k = m + 1 := ⟨k - 1, by omega⟩
  simp only [q9_Same.l0]
  rw [if_pos (by omega), if_pos (by omega), if_pos (by omega), if_neg (by simp), w64 (by omega) (by omega)]
  exact ih (i + 1) k (by omega) (by omega)
theorem sameR_eq (l : List Rf) (hl : l.length <= 1000000000000) {k : Nat} (hk : l.length + 1 <= k) : q9_Same.f k l l = some true := by
 unfold q9_Same.f
 rw [if_pos rfl]
 exact sameR_loop l hl l.length 0 k (by omega) hk
theorem sameT_loop (l : List ByteArray) (hl : l.length <= 1000000000000) : ∀ (d i k : Nat), i + d = l.length -> d + 1 <= k -> q4_SameTexts.l0 k l l (i : Int) = some true := by
 intro d
 induction d with
 | zero =>
  intro i k hi hk
  obtain ⟨k, rfl⟩ : ∃ m, k = m + 1 := ⟨k - 1, by omega⟩
  simp only [q4_SameTexts.l0]
  rw [if_neg (by omega)]
 | succ d ih =>
  intro i k hi hk
  obtain ⟨k, rfl⟩ : ∃ m, k = m + 1 := ⟨k - 1, by omega⟩
  simp only [q4_SameTexts.l0]
  rw [if_pos (by omega), if_pos (by omega), if_pos (by omega), if_pos trivial, w64 (by omega) (by omega)]
  exact ih (i + 1) k (by omega) (by omega)
theorem sameT_eq (l : List ByteArray) (hl : l.length <= 1000000000000) {k : Nat} (hk : l.length + 1 <= k) : q4_SameTexts.f k l l = some true := by
 unfold q4_SameTexts.f
 rw [if_pos rfl]
 exact sameT_loop l hl l.length 0 k (by omega) hk
theorem sameU_loop (l : List Up) (hl : l.length <= 1000000000000) : ∀ (d i k : Nat), i + d = l.length -> d + 1 <= k -> q6_SameUpdates.l0 k l l (i : Int) = some true := by
 intro d
 induction d with
 | zero =>
  intro i k hi hk
  obtain ⟨k, rfl⟩ : ∃ m, k = m + 1 := ⟨k - 1, by omega⟩
  simp only [q6_SameUpdates.l0]
  rw [if_neg (by omega)]
 | succ d ih =>
  intro i k hi hk
  obtain ⟨k, rfl⟩ : ∃ m, k = m + 1 := ⟨k - 1, by omega⟩
  simp only [q6_SameUpdates.l0]
  rw [if_pos (by omega), if_pos (by omega), if_pos (by omega), if_neg (by simp), w64 (by omega) (by omega)]
  exact ih (i + 1) k (by omega) (by omega)
theorem sameU_eq (l : List Up) (hl : l.length <= 1000000000000) {k : Nat} (hk : l.length + 1 <= k) : q6_SameUpdates.f k l l = some true := by
 unfold q6_SameUpdates.f
 rw [if_pos rfl]
 exact sameU_loop l hl l.length 0 k (by omega) hk
end Go.Proofs.YtmmionafcmnfoaaDoor.Hello
