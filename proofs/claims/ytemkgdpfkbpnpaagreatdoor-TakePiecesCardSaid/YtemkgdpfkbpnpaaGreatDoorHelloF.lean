/- What talks begin with: no lines are two things at once; what is told, asked and pushed is heard. -/
import Derived.Test.YtemkgdpfkbpnpaaGreatDoorHelloE
namespace Go.Proofs.YtemkgdpfkbpnpaaGreatDoor.Hello
open Go.RowKit Go.Proofs.YtemkgdpfkbpnpaaGreatDoorW.PrintWords Go.Proofs.YtemkgdpfkbpnpaaGreatDoorW.PrintLast Go.Proofs.YtemkgdpfkbpnpaaGreatDoorW.PrintMore Go.Proofs.YtemkgdpfkbpnpaaGreatDoor.Conv Go.Proofs.YtemkgdpfkbpnpaaGreatDoor.Print
theorem push_first {u : List Up} {x : List Ln} (e : pushF u = (x, true)) : x = endsF (u.map upT) /\ u.all okU = true /\ u.length ≠ 0 /\ u.length <= 16 := by
 unfold pushF at e
 split at e
 ·rename_i c
  exact ⟨(Prod.mk.inj e).1.symm, c⟩
 ·exact absurd (Prod.mk.inj e).2 (by simp)
theorem ends_small {B : Nat} {ts : List ByteArray} (h : ∀ s ∈ ts, s.size + 1 <= B) : ∀ x ∈ endsF ts, x.f1.size <= B := by
 intro x hx
 unfold endsF at hx
 rcases List.mem_append.1 hx with hx | hx
 ·obtain ⟨s, hs, rfl⟩ := List.mem_map.1 hx
  show (s ++ (⟨#[10]⟩ : ByteArray)).size <= B
  rw [ByteArray.size_append]
  exact h s hs
 ·rw [List.mem_singleton] at hx
  rw [hx]; exact Nat.zero_le _
theorem push_small {u : List Up} (h : u.all okU = true) : ∀ s ∈ u.map upT, s.size + 1 <= 300 := by
 intro s hs
 obtain ⟨y, hy, rfl⟩ := List.mem_map.1 hs
 have := List.all_eq_true.1 h y hy
 unfold okU at this
 simp only [Bool.and_eq_true] at this
 have h1 := upT_size y this.2.1 this.2.2.1
 have h2 := named_size this.1
 omega
theorem ends_len (ts : List ByteArray) : (endsF ts).length = ts.length + 1 := by
 unfold endsF
 simp
theorem pushed_back {u : List Up} {x : List Ln} (e : pushF u = (x, true)) {k : Nat} (hk : 6000000 <= k) : hello_Pushed.f k x = some (u, true) := by
 have h1 := push_first e
 obtain ⟨r, hr1, hr2⟩ := pushed_eq x (by rw [h1.1, ends_len]; simp; omega) (by rw [h1.1]; intro y hy; have := ends_small (push_small h1.2.1) y hy; omega) hk
 have ht : textsF x = u.map upT := by rw [h1.1, textsF_ends]
 rw [ht, pushed_push u h1.2.1] at hr2
 rcases hr2 with ⟨_, rfl⟩ | ⟨hne, _⟩
 ·exact hr1
 ·exact absurd e hne
end Go.Proofs.YtemkgdpfkbpnpaaGreatDoor.Hello
