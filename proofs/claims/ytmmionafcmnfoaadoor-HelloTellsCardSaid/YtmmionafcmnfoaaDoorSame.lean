/- What is alike is told alike. -/
import Derived.Test.YtmmionafcmnfoaaDoorHelloB
import Derived.Test.YtmmionafcmnfoaaDoorPSmA
namespace Go.Proofs.YtmmionafcmnfoaaDoor.Hello
open Go.RowKit Go.Proofs.YtmmionafcmnfoaaDoorW.PrintWords Go.Proofs.YtmmionafcmnfoaaDoorW.PrintLast Go.Proofs.YtmmionafcmnfoaaDoorW.PrintMore Go.Proofs.YtmmionafcmnfoaaDoor.Conv Go.Proofs.YtmmionafcmnfoaaDoor.Print
theorem sameL_loop (l : List Ln) (hl : l.length <= 1000000000000) : ∀ (d i k : Nat), i + d = l.length -> d + 1 <= k -> q5_Same.l0 k l l (i : Int) = some true := by
 intro d
 induction d with
 | zero =>
  intro i k hi hk
  obtain ⟨k, rfl⟩ : ∃ m, k = m + 1 := ⟨k - 1, by omega⟩
  simp only [q5_Same.l0]
  rw [if_neg (by omega)]
 | succ d ih =>
  intro i k hi hk
  obtain ⟨k, rfl⟩ : ∃ m, k = m + 1 := ⟨k - 1, by omega⟩
  simp only [q5_Same.l0]
  rw [if_pos (by omega), if_pos (by omega), if_pos (by omega), if_neg (by simp), w64 (by omega) (by omega)]
  exact ih (i + 1) k (by omega) (by omega)
theorem sameL_eq (l : List Ln) (hl : l.length <= 1000000000000) {k : Nat} (hk : l.length + 1 <= k) : q5_Same.f k l l = some true := by
 unfold q5_Same.f
 rw [if_pos rfl]
 exact sameL_loop l hl l.length 0 k (by omega) hk
end Go.Proofs.YtmmionafcmnfoaaDoor.Hello
