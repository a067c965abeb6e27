/- What the laws' guards say: what is not too great is small. -/
import Derived.Test.YtemkgdpfkbpnpaaGreatDoorHelloF
import Derived.Test.YtemkgdpfkbpnpaaGreatDoorPrint
import Derived.Test.YtemkgdpfkbpnpaaGreatDoorPrint
namespace Go.Proofs.YtemkgdpfkbpnpaaGreatDoor.Hello
open Go.RowKit Go.Proofs.YtemkgdpfkbpnpaaGreatDoorW.PrintWords Go.Proofs.YtemkgdpfkbpnpaaGreatDoorW.PrintLast Go.Proofs.YtemkgdpfkbpnpaaGreatDoorW.PrintMore Go.Proofs.YtemkgdpfkbpnpaaGreatDoor.Conv Go.Proofs.YtemkgdpfkbpnpaaGreatDoor.Print
def sumU (l : List Up) : Nat := (l.map fun x => x.f0.size + x.f1.size + x.f2.size).sum
theorem greatU_loop (l : List Up) : ∀ (d i : Nat) (x3 : Int) (k : Nat), i + d = l.length -> l.length <= 9223372036854775807 -> d + 1 <= k ∨ 9000 <= x3 /\ 1 <= k -> 0 <= x3 ->
  ∃ g, w9_GreatUpdates.l0 k l x3 (i : Int) = some g /\ (g = false -> x3 + (sumU (l.drop i) : Int) < 9000 /\ l.length <= 40) := by
 intro d
 induction d with
 | zero =>
  intro i x3 k hi hl hk h0
  obtain ⟨k, rfl⟩ : ∃ m, k = m + 1 := ⟨k - 1, by omega⟩
  simp only [w9_GreatUpdates.l0]
  rw [if_neg (by omega), List.drop_eq_nil_of_le (by omega)]
  by_cases c : x3 >= 9000
  ·rw [if_pos c]
   exact ⟨_, rfl, fun h => by cases h⟩
  ·rw [if_neg c]
   exact ⟨_, rfl, fun h => by have := of_decide_eq_false h; exact ⟨by show x3 + ((sumU []) : Int) < 9000; simp [sumU]; omega, by omega⟩⟩
 | succ d ih =>
  intro i x3 k hi hl hk h0
  obtain ⟨k, rfl⟩ : ∃ m, k = m + 1 := ⟨k - 1, by omega⟩
  have hlt : i < l.length := by omega
  rw [List.drop_eq_getElem_cons hlt]
  have hr := getU l i hlt
  generalize hx : l[i] = x at *
  simp only [w9_GreatUpdates.l0, hr]
  rw [if_pos (by omega)]
  by_cases c : x3 < 9000
  ·rw [if_pos c, if_pos (by omega)]
   have hn0 : 0 <= mn (x.f0.size : Int) 9000 /\ mn (x.f0.size : Int) 9000 <= 9000 := by unfold mn; split <;> omega
   have hn1 : 0 <= mn (x.f1.size : Int) 9000 /\ mn (x.f1.size : Int) 9000 <= 9000 := by unfold mn; split <;> omega
   have hn2 : 0 <= mn (x.f2.size : Int) 9000 /\ mn (x.f2.size : Int) 9000 <= 9000 := by unfold mn; split <;> omega
   have w1 : wrap64 ((i : Int) + 1) = ((i + 1 : Nat) : Int) := by rw [w64 (by omega) (by omega)]; rfl
   rw [w64 (x := x3 + mn (x.f0.size : Int) 9000) (by omega) (by omega), w64 (x := x3 + mn (x.f0.size : Int) 9000 + mn (x.f1.size : Int) 9000) (by omega) (by omega), w64 (x := x3 + mn (x.f0.size : Int) 9000 + mn (x.f1.size : Int) 9000 + mn (x.f2.size : Int) 9000) (by omega) (by omega), w1]
   obtain ⟨g, hg, h⟩ := ih (i + 1) (x3 + mn (x.f0.size : Int) 9000 + mn (x.f1.size : Int) 9000 + mn (x.f2.size : Int) 9000) k (by omega) hl (.inl (by omega)) (by omega)
   refine ⟨g, hg, fun e => ?_⟩
   have := h e
   have hs : sumU (x :: l.drop (i + 1)) = x.f0.size + x.f1.size + x.f2.size + sumU (l.drop (i + 1)) := by simp [sumU]
   rw [hs]
   have hd : (0 : Int) <= (sumU (l.drop (i + 1)) : Int) := by omega
   clear ih hr hg h
   have hp0 : mn (x.f0.size : Int) 9000 < 9000 -> mn (x.f0.size : Int) 9000 = x.f0.size := by unfold mn; split <;> omega
   have hq0 := hp0 (by omega)
   have hp1 : mn (x.f1.size : Int) 9000 < 9000 -> mn (x.f1.size : Int) 9000 = x.f1.size := by unfold mn; split <;> omega
   have hq1 := hp1 (by omega)
   have hp2 : mn (x.f2.size : Int) 9000 < 9000 -> mn (x.f2.size : Int) 9000 = x.f2.size := by unfold mn; split <;> omega
   have hq2 := hp2 (by omega)
   omega
  ·rw [if_neg c]
   rw [if_pos (by omega)]
   exact ⟨_, rfl, fun h => by cases h⟩
theorem sumU_mem (l : List Up) (x : Up) (h : x ∈ l) : x.f0.size + x.f1.size + x.f2.size <= sumU l := by
 induction l with
 | nil => cases h
 | cons y t ih =>
  have hs : sumU (y :: t) = (y.f0.size + y.f1.size + y.f2.size) + sumU t := by simp [sumU]
  rw [hs]
  rcases List.mem_cons.1 h with rfl | h
  ·omega
  ·have := ih h; omega
theorem greatU_eq (l : List Up) (hl : l.length <= 9223372036854775807) {k : Nat} (hk : 20001 <= k) : ∃ g, w9_GreatUpdates.f k l = some g /\ (g = false -> l.length <= 40 /\ ∀ x ∈ l, x.f0.size + x.f1.size + x.f2.size <= 9000) := by
 unfold w9_GreatUpdates.f
 obtain ⟨g, h1, h2⟩ := greatU_loop l l.length 0 (l.length : Int) k (by omega) hl (by omega) (by omega)
 refine ⟨g, h1, fun e => ?_⟩
 have := h2 e
 rw [List.drop_zero] at this
 exact ⟨by omega, fun x hx => by have := sumU_mem l x hx; omega⟩
end Go.Proofs.YtemkgdpfkbpnpaaGreatDoor.Hello
