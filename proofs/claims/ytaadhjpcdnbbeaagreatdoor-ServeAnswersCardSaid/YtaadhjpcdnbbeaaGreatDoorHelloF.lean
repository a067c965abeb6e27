/- What talks begin with: no lines are two things at once; what is told, asked and pushed is heard. -/
import Derived.Test.YtaadhjpcdnbbeaaGreatDoorHelloE
namespace Go.Proofs.YtaadhjpcdnbbeaaGreatDoor.Hello
open Go.RowKit Go.Proofs.YtaadhjpcdnbbeaaGreatDoorW.PrintWords Go.Proofs.YtaadhjpcdnbbeaaGreatDoorW.PrintLast Go.Proofs.YtaadhjpcdnbbeaaGreatDoorW.PrintMore Go.Proofs.YtaadhjpcdnbbeaaGreatDoor.Conv Go.Proofs.YtaadhjpcdnbbeaaGreatDoor.Print
theorem ask_first {a b : List ByteArray} {x : List Ln} (e : askF a b = (x, true)) : x = endsF (asks a b) /\ a.length ≠ 0 /\ namesF a 64 = true /\ namesF b 256 = true := by
 unfold askF at e
 split at e
 ·rename_i c
  exact ⟨(Prod.mk.inj e).1.symm, c⟩
 ·exact absurd (Prod.mk.inj e).2 (by simp)
theorem ends_small {B : Nat} {ts : List ByteArray} (h : ∀ s ∈ ts, s.size + 1 <= B) : ∀ x ∈ endsF ts, x.f1.size <= B := by
 intro x hx
 unfold endsF at hx
 rcases List.mem_append.1 hx with hx | hx
 ·obtain ⟨s, hs, rfl⟩ := List.mem_map.1 hx
  show (s ++ (⟨#[10]⟩ : ByteArray)).size <= B
  rw [ByteArray.size_append]
  exact h s hs
 ·rw [List.mem_singleton] at hx
  rw [hx]; exact Nat.zero_le _
theorem asks_small {a b : List ByteArray} (ha : namesF a 64 = true) (hb : namesF b 256 = true) : ∀ s ∈ asks a b, s.size + 1 <= 200 := by
 intro s hs
 have h1 := names_size ha
 have h2 := names_size hb
 unfold asks at hs
 simp only [List.mem_append, List.mem_map, List.mem_singleton] at hs
 have w5 : wantL.size = 5 := rfl
 have h5 : haveL.size = 5 := rfl
 rcases hs with (⟨x, hx, rfl⟩ | ⟨x, hx, rfl⟩) | rfl
 ·rw [ByteArray.size_append, h1.2 x hx]; omega
 ·rw [ByteArray.size_append, h2.2 x hx]; omega
 ·decide
theorem ends_len (ts : List ByteArray) : (endsF ts).length = ts.length + 1 := by
 unfold endsF
 simp
theorem asked_back {a b : List ByteArray} {x : List Ln} (e : askF a b = (x, true)) {k : Nat} (hk : 4000000 <= k) : hello_Asked.f k x = some (a, b, true) := by
 have h1 := ask_first e
 have ha := (names_size h1.2.2.1).1
 have hb := (names_size h1.2.2.2).1
 obtain ⟨r, hr1, hr2⟩ := asked_eq x (by rw [h1.1, ends_len]; unfold asks; simp; omega) (by rw [h1.1]; intro y hy; have := ends_small (asks_small h1.2.2.1 h1.2.2.2) y hy; omega) hk
 have ht : textsF x = asks a b := by rw [h1.1, textsF_ends]
 rw [ht, asked_asks] at hr2
 rcases hr2 with ⟨_, rfl⟩ | ⟨hne, _⟩
 ·exact hr1
 ·exact absurd e hne
end Go.Proofs.YtaadhjpcdnbbeaaGreatDoor.Hello
