/- What a law is handed, opened: the cells of any argument read as a kind of the printed words. -/
import Derived.Deep.Slices
import Derived.ChangeSame
import Derived.ChangeArms
import Derived.Test.YtlfenakgphmepaaGreatDoorWWords
namespace Go.Proofs.YtlfenakgphmepaaGreatDoor.Open
open Go Go.ChangeShapes Go.WideShapes Go.Deep YtlfenakgphmepaaGreatDoorW.PrintWords
structure Opens (P : Program) {α : Type} (d : Kd α) (t : TypeId) (p : α -> Prop) : Prop where
  go : ∀ {H : Type} {enc : TypeId × Value -> H} {w : World} {base : Nat} {spare : Nat -> Bool} {held : Bool} {n : Nat} {cs : List Value} {x : DataW H × List MemPlace},
    DataW.trod enc P w base spare held n t cs = some x -> ∃ y, d.K w y cs /\ p y
theorem opens_bool {P : Program} {t : TypeId} (ht : P.underlying t = some .bool) : Opens P Kd.bool t (fun _ => True) := by
  constructor
  intro H enc w base spare held n cs x h
  obtain ⟨b, rfl, _⟩ := DataW.trod_bool ht h
  exact ⟨b, rfl, trivial⟩
theorem opens_int {P : Program} {t : TypeId} {k : IntKind} (ht : P.underlying t = some (.int k)) : Opens P (Kd.int k) t (fun z => (Lit.int k z).wf = true) := by
  constructor
  intro H enc w base spare held n cs x h
  obtain ⟨z, rfl, _, hz⟩ := DataW.trod_int ht h
  exact ⟨z, rfl, hz⟩
theorem choice_list {α : Type} {p : Nat -> α -> Prop} : ∀ n : Nat, (∀ i, i < n -> ∃ y, p i y) -> ∃ ys : List α, ys.length = n /\ ∀ i y, ys[i]? = some y -> p i y
  | 0, _ => ⟨[], rfl, fun i y h => by simp at h⟩
  | n + 1, h => by
    obtain ⟨ys, hl, hp⟩ := choice_list n (fun i hi => h i (by omega))
    obtain ⟨y, hy⟩ := h n (by omega)
    refine ⟨ys ++ [y], by simp [hl], fun i z hz => ?_⟩
    by_cases hi : i < n
    · rw [List.getElem?_append_left (by omega)] at hz
      exact hp i z hz
    · rw [List.getElem?_append_right (by omega)] at hz
      have : i - ys.length = 0 := by
        rcases Nat.eq_zero_or_pos (i - ys.length) with h0 | h0
        · exact h0
        · rw [List.getElem?_eq_none (by simp only [List.length_cons, List.length_nil]; omega)] at hz; simp at hz
      rw [this] at hz
      simp only [List.getElem?_cons_zero, Option.some.injEq] at hz
      subst hz
      have : i = n := by omega
      subst this
      exact hy
theorem opens_slice {P : Program} {α : Type} {d : Kd α} {t e : TypeId} {p : α -> Prop} (ht : P.underlying t = some (.slice e)) (hc : P.cellsOf e = d.sz) (h : Opens P d e p) (e' : Nat) :
    Opens P (Kd.slice e' d) t (fun xs => xs.length <= maxLen /\ ∀ x ∈ xs, p x) := by
  constructor
  intro H enc w base spare held n cs x ht'
  rcases open_slice ht ht' with ⟨rfl, _⟩ | ⟨a, len, cap, m, n', D, Pl, rfl, _, hl, hm, hmm, _, hi⟩
  · exact ⟨[], ⟨none, 0, rfl, Nat.le_refl _, rfl, by simp, fun h => absurd h (by simp)⟩, by simp, by simp⟩
  · have hlm : len <= m := by rw [hmm]; split <;> omega
    obtain ⟨ys, hyl, hy⟩ := choice_list (p := fun i y => p y /\ ∃ c, c.length = d.sz /\ d.K w y c /\ ∀ j u, c[j]? = some u -> w.cell? (a.add (i * d.sz + j)) = some u) len (by
      intro i hil
      obtain ⟨cs', hcs, htr⟩ := hi i (by omega)
      obtain ⟨y, hK, hp⟩ := h.go htr
      obtain ⟨_, hcl, hat⟩ := World.cells?_some hcs
      refine ⟨y, hp, cs', by rw [hcl, hc], hK, fun j u hj => ?_⟩
      have hj' : j < cs'.length := (List.getElem?_eq_some_iff.1 hj).1
      have := hat j (by omega)
      rw [hc] at this
      rw [<- Go.Deep.add_add, this, hj])
    refine ⟨ys, ⟨some a, cap, by rw [hyl], by omega, ⟨rfl, by rw [hyl]; simp only [maxLen] at hm; omega, fun _ => ⟨a, rfl, fun j q hj => ?_⟩⟩⟩, by omega, fun x hx => ?_⟩
    · exact (hy j q hj).2
    · obtain ⟨i, hi', rfl⟩ := List.mem_iff_getElem.1 hx
      exact (hy i _ (List.getElem?_eq_getElem hi')).1
structure OpensF (P : Program) {α : Type} (d : Kd α) (fs : List Field) (off : Nat) (p : α -> Prop) : Prop where
  go : ∀ {H : Type} {enc : TypeId × Value -> H} {w : World} {base : Nat} {spare : Nat -> Bool} {held : Bool} {n : Nat} {cs : List Value}, cs.length = off + d.sz ->
    (∀ f ∈ fs, ∃ y, DataW.trod enc P w base spare held n f.type ((cs.drop f.offset).take (P.cellsOf f.type)) = some y) -> ∃ y, d.K w y (cs.drop off) /\ p y
theorem row {P : Program} {α : Type} {d : Kd α} {t e : TypeId} {p : α -> Prop} (ht : P.underlying t = some (.slice e)) (hc : P.cellsOf e = d.sz) (h : Opens P d e p)
    {H : Type} {enc : TypeId × Value -> H} {w : World} {base : Nat} {spare : Nat -> Bool} {held : Bool} {v : Value} {x : DataW H} {pl : List MemPlace} (hv : v.cells.toList = [v]) (hT : DataW.Trod enc P w base spare held t v x pl) :
    ∃ A c xs, v = .slice A xs.length c /\ xs.length <= c /\ d.C w A xs.length xs /\ xs.length <= maxLen /\ ∀ x ∈ xs, p x := by
  obtain ⟨m, hm⟩ := hT
  obtain ⟨xs, ⟨A, c, he, hl, hC⟩, hlen, hp⟩ := (opens_slice ht hc h 0).go hm
  rw [hv] at he
  simp only [List.cons.injEq, and_true] at he
  exact ⟨A, c, xs, he, hl, hC, hlen, hp⟩
end Go.Proofs.YtlfenakgphmepaaGreatDoor.Open
