/- What the laws' guards say: what is not too great is small. -/
import Derived.Test.YtaadhjpcdnbbeaaGreatDoorHelloB
import Derived.Test.YtaadhjpcdnbbeaaGreatDoorPrint
import Derived.Test.YtaadhjpcdnbbeaaGreatDoorPrint
namespace Go.Proofs.YtaadhjpcdnbbeaaGreatDoor.Hello
open Go.RowKit Go.Proofs.YtaadhjpcdnbbeaaGreatDoorW.PrintWords Go.Proofs.YtaadhjpcdnbbeaaGreatDoorW.PrintLast Go.Proofs.YtaadhjpcdnbbeaaGreatDoorW.PrintMore Go.Proofs.YtaadhjpcdnbbeaaGreatDoor.Conv Go.Proofs.YtaadhjpcdnbbeaaGreatDoor.Print
def sumT (l : List ByteArray) : Nat := (l.map fun x => x.size).sum
theorem greatT_loop (l : List ByteArray) : ∀ (d i : Nat) (x3 : Int) (k : Nat), i + d = l.length -> l.length <= 9223372036854775807 -> d + 1 <= k ∨ 9000 <= x3 /\ 1 <= k -> 0 <= x3 ->
  ∃ g, w5_GreatTexts.l0 k l x3 (i : Int) = some g /\ (g = false -> x3 + (sumT (l.drop i) : Int) < 9000 /\ l.length <= 200) := by
 intro d
 induction d with
 | zero =>
  intro i x3 k hi hl hk h0
  obtain ⟨k, rfl⟩ : ∃ m, k = m + 1 := ⟨k - 1, by omega⟩
  simp only [w5_GreatTexts.l0]
  rw [if_neg (by omega), List.drop_eq_nil_of_le (by omega)]
  by_cases c : x3 >= 9000
  ·rw [if_pos c]
   exact ⟨_, rfl, fun h => by cases h⟩
  ·rw [if_neg c]
   exact ⟨_, rfl, fun h => by have := of_decide_eq_false h; exact ⟨by show x3 + ((sumT []) : Int) < 9000; simp [sumT]; omega, by omega⟩⟩
 | succ d ih =>
  intro i x3 k hi hl hk h0
  obtain ⟨k, rfl⟩ : ∃ m, k = m + 1 := ⟨k - 1, by omega⟩
  have hlt : i < l.length := by omega
  rw [List.drop_eq_getElem_cons hlt]
  have hr := rd_get l i hlt
  generalize hx : l[i] = x at *
  simp only [w5_GreatTexts.l0, hr]
  rw [if_pos (by omega)]
  by_cases c : x3 < 9000
  ·rw [if_pos c, if_pos (by omega)]
   have hn0 : 0 <= mn (x.size : Int) 9000 /\ mn (x.size : Int) 9000 <= 9000 := by unfold mn; split <;> omega
   have w1 : wrap64 ((i : Int) + 1) = ((i + 1 : Nat) : Int) := by rw [w64 (by omega) (by omega)]; rfl
   rw [w64 (x := x3 + mn (x.size : Int) 9000) (by omega) (by omega), w1]
   obtain ⟨g, hg, h⟩ := ih (i + 1) (x3 + mn (x.size : Int) 9000) k (by omega) hl (.inl (by omega)) (by omega)
   refine ⟨g, hg, fun e => ?_⟩
   have := h e
   have hs : sumT (x :: l.drop (i + 1)) = x.size + sumT (l.drop (i + 1)) := by simp [sumT]
   rw [hs]
   have hd : (0 : Int) <= (sumT (l.drop (i + 1)) : Int) := by omega
   clear ih hr hg h
   have hp0 : mn (x.size : Int) 9000 < 9000 -> mn (x.size : Int) 9000 = x.size := by unfold mn; split <;> omega
   have hq0 := hp0 (by omega)
   omega
  ·rw [if_neg c]
   rw [if_pos (by omega)]
   exact ⟨_, rfl, fun h => by cases h⟩
theorem sumT_mem (l : List ByteArray) (x : ByteArray) (h : x ∈ l) : x.size <= sumT l := by
 induction l with
 | nil => cases h
 | cons y t ih =>
  have hs : sumT (y :: t) = (y.size) + sumT t := by simp [sumT]
  rw [hs]
  rcases List.mem_cons.1 h with rfl | h
  ·omega
  ·have := ih h; omega
theorem greatT_eq (l : List ByteArray) (hl : l.length <= 9223372036854775807) {k : Nat} (hk : 20001 <= k) : ∃ g, w5_GreatTexts.f k l = some g /\ (g = false -> l.length <= 200 /\ ∀ x ∈ l, x.size <= 9000) := by
 unfold w5_GreatTexts.f
 obtain ⟨g, h1, h2⟩ := greatT_loop l l.length 0 (l.length : Int) k (by omega) hl (by omega) (by omega)
 refine ⟨g, h1, fun e => ?_⟩
 have := h2 e
 rw [List.drop_zero] at this
 exact ⟨by omega, fun x hx => by have := sumT_mem l x hx; omega⟩
end Go.Proofs.YtaadhjpcdnbbeaaGreatDoor.Hello
