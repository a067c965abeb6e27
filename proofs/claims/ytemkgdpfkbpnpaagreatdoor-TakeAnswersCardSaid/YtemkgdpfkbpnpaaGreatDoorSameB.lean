/- What is alike is told alike. -/
import Derived.Test.YtemkgdpfkbpnpaaGreatDoorHelloF
import Derived.Test.YtemkgdpfkbpnpaaGreatDoorPrint
namespace Go.Proofs.YtemkgdpfkbpnpaaGreatDoor.Hello
open Go.RowKit Go.Proofs.YtemkgdpfkbpnpaaGreatDoorW.PrintWords Go.Proofs.YtemkgdpfkbpnpaaGreatDoorW.PrintLast Go.Proofs.YtemkgdpfkbpnpaaGreatDoorW.PrintMore Go.Proofs.YtemkgdpfkbpnpaaGreatDoor.Conv Go.Proofs.YtemkgdpfkbpnpaaGreatDoor.Print
theorem sameU_loop (l : List Up) (hl : l.length <= 1000000000000) : ∀ (d i k : Nat), i + d = l.length -> d + 1 <= k -> q6_SameUpdates.l0 k l l (i : Int) = some true := by
 intro d
 induction d with
 | zero =>
  intro i k hi hk
  obtain ⟨k, rfl⟩ : ∃ m, k = m + 1 := ⟨k - 1, by omega⟩
  simp only [q6_SameUpdates.l0]
  rw [if_neg (by omega)]
 | succ d ih =>
  intro i k hi hk
  obtain ⟨k, rfl⟩ : ∃ m, k = m + 1 := ⟨k - 1, by omega⟩
  simp only [q6_SameUpdates.l0]
  rw [if_pos (by omega), if_pos (by omega), if_pos (by omega), if_neg (by simp), w64 (by omega) (by omega)]
  exact ih (i + 1) k (by omega) (by omega)
theorem sameU_eq (l : List Up) (hl : l.length <= 1000000000000) {k : Nat} (hk : l.length + 1 <= k) : q6_SameUpdates.f k l l = some true := by
 unfold q6_SameUpdates.f
 rw [if_pos rfl]
 exact sameU_loop l hl l.length 0 k (by omega) hk
end Go.Proofs.YtemkgdpfkbpnpaaGreatDoor.Hello
