/- Root's plain law: forks rise by their names; where one stands. -/
import Derived.Test.YtlfenakgphmepaaGreatDoorRootGreat
import Derived.Sort.Walk0
namespace Go.Proofs.YtlfenakgphmepaaGreatDoor.Root
open Go.RowKit Go.Proofs.YtlfenakgphmepaaGreatDoorW.PrintWords Go.Proofs.YtlfenakgphmepaaGreatDoor.Print Go.Proofs.YtlfenakgphmepaaGreatDoor.Build
set_option linter.unusedVariables false
set_option linter.unusedSimpArgs false
theorem less_trans {a b c : List UInt8} (h1 : Op.bytesLess a b = true) (h2 : Op.bytesLess b c = true) : Op.bytesLess a c = true := by
 rw [bytesLess_eq, decide_eq_true_iff] at *
 exact List.lt_trans h1 h2
theorem less_irrefl (a : List UInt8) : Op.bytesLess a a = false := by
 rw [bytesLess_eq]
 exact decide_eq_false (List.lt_irrefl a)
theorem rises : ∀ (l : List Fk) (p : Option ByteArray), forksGo l p = true -> ∀ (i : Nat) (h : i + 1 < l.length), Op.bytesLess (l[i]).f0.toList (l[i + 1]).f0.toList = true
 | [], _, _, i, h => by simp at h
 | [x], _, _, i, h => by simp at h
 | x :: y :: t, p, hg, i, h => by
  simp only [forksGo, Bool.and_eq_true] at hg
  cases i with
  | zero => exact hg.2.2.2.1
  | succ i => exact rises (y :: t) (some x.f0) (by simp only [forksGo, Bool.and_eq_true]; exact hg.2.2) i (by simpa using h)
theorem rises_far {l : List Fk} (h : ∀ (i : Nat) (h : i + 1 < l.length), Op.bytesLess (l[i]).f0.toList (l[i + 1]).f0.toList = true) : ∀ (d i : Nat) (hj : i + d + 1 < l.length), Op.bytesLess (l[i]).f0.toList (l[i + d + 1]).f0.toList = true
 | 0, i, hj => h i hj
 | d + 1, i, hj => less_trans (rises_far h d i (by omega)) (h (i + d + 1) hj)
theorem pos_at : ∀ (l : List Fk) (i : Nat) (hi : i < l.length), (∀ j (hj : j < i), (l[j]).f0.toList ≠ (l[i]).f0.toList) -> root_Find.pos (l[i]).f0 l = some i
 | x :: t, 0, hi, h => by
  simp only [root_Find.pos, List.getElem_cons_zero]
  rw [if_pos trivial]
 | x :: t, i + 1, hi, h => by
  have h0 := h 0 (by omega)
  simp only [List.getElem_cons_zero, List.getElem_cons_succ] at h0
  simp only [root_Find.pos, List.getElem_cons_succ]
  rw [if_neg h0, pos_at t i (by simpa using hi) (fun j hj => by have := h (j + 1) (by omega); simpa using this)]
  rfl
theorem ix_at {n : Int} {pool : List ByteArray} {forks : List Fk} (h : rootF n pool forks = true) (i : Nat) (hi : i < forks.length) : root_Find.ix (forks[i]).f0 forks = (i : Int) := by
 unfold rootF at h
 rw [Bool.and_eq_true] at h
 have hr := rises forks none h.1
 unfold root_Find.ix
 rw [pos_at forks i hi (fun j hj e => by
  have := rises_far hr (i - j - 1) j (by omega)
  simp only [show j + (i - j - 1) + 1 = i by omega] at this
  rw [e, less_irrefl] at this
  cases this)]
theorem pos_some (s : ByteArray) : ∀ l : List Fk, (root_Find.pos s l).isSome = l.any fun f => f.f0.toList == s.toList
 | [] => rfl
 | x :: t => by
  simp only [root_Find.pos, List.any_cons]
  by_cases c : x.f0.toList = s.toList
  ·rw [if_pos c, beq_iff_eq.2 c]; rfl
  ·rw [if_neg c, beq_eq_false_iff_ne.2 c, Bool.false_or, <- pos_some s t]
   cases root_Find.pos s t <;> rfl
theorem ix_any (s : ByteArray) (l : List Fk) : decide (0 <= root_Find.ix s l) = l.any fun f => f.f0.toList == s.toList := by
 rw [<- pos_some]
 unfold root_Find.ix
 cases root_Find.pos s l with
 | none => rfl
 | some i => exact decide_eq_true (by show 0 <= (i : Int); omega)
end Go.Proofs.YtlfenakgphmepaaGreatDoor.Root
