/- What is alike is told alike. -/
import Derived.Test.YtaadhjpcdnbbeaaGreatDoorHelloB
import Derived.Test.YtaadhjpcdnbbeaaGreatDoorPrint
namespace Go.Proofs.YtaadhjpcdnbbeaaGreatDoor.Hello
open Go.RowKit Go.Proofs.YtaadhjpcdnbbeaaGreatDoorW.PrintWords Go.Proofs.YtaadhjpcdnbbeaaGreatDoorW.PrintLast Go.Proofs.YtaadhjpcdnbbeaaGreatDoorW.PrintMore Go.Proofs.YtaadhjpcdnbbeaaGreatDoor.Conv Go.Proofs.YtaadhjpcdnbbeaaGreatDoor.Print
theorem sameT_loop (l : List ByteArray) (hl : l.length <= 1000000000000) : ∀ (d i k : Nat), i + d = l.length -> d + 1 <= k -> q4_SameTexts.l0 k l l (i : Int) = some true := by
 intro d
 induction d with
 | zero =>
  intro i k hi hk
  obtain ⟨k, rfl⟩ : ∃ m, k = m + 1 := ⟨k - 1, by omega⟩
  simp only [q4_SameTexts.l0]
  rw [if_neg (by omega)]
 | succ d ih =>
  intro i k hi hk
  obtain ⟨k, rfl⟩ : ∃ m, k = m + 1 := ⟨k - 1, by omega⟩
  simp only [q4_SameTexts.l0]
  rw [if_pos (by omega), if_pos (by omega), if_pos (by omega), if_pos trivial, w64 (by omega) (by omega)]
  exact ih (i + 1) k (by omega) (by omega)
theorem sameT_eq (l : List ByteArray) (hl : l.length <= 1000000000000) {k : Nat} (hk : l.length + 1 <= k) : q4_SameTexts.f k l l = some true := by
 unfold q4_SameTexts.f
 rw [if_pos rfl]
 exact sameT_loop l hl l.length 0 k (by omega) hk
end Go.Proofs.YtaadhjpcdnbbeaaGreatDoor.Hello
