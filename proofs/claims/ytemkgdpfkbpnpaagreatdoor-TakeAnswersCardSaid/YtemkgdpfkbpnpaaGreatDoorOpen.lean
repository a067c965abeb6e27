/- What a law is handed, opened: the cells of any argument read as a kind of the printed words. -/
import Derived.Deep.Slices
import Derived.ChangeSame
import Derived.ChangeArms
import Derived.Test.YtemkgdpfkbpnpaaGreatDoorWWords
namespace Go.Proofs.YtemkgdpfkbpnpaaGreatDoor.Open
open Go Go.ChangeShapes Go.WideShapes Go.Deep Go.Proofs.YtemkgdpfkbpnpaaGreatDoorW.PrintWords
structure Opens (P : Program) {α : Type} (d : Kd α) (t : TypeId) (p : α -> Prop) : Prop where
  go : ∀ {H : Type} {enc : TypeId × Value -> H} {w : World} {base : Nat} {spare : Nat -> Bool} {held : Bool} {n : Nat} {cs : List Value} {x : DataW H × List MemPlace},
    DataW.trod enc P w base spare held n t cs = some x -> ∃ y, d.K w y cs /\ p y
theorem opens_string {P : Program} {t : TypeId} (ht : P.underlying t = some .string) : Opens P Kd.string t (fun s => s.size <= maxLen) := by
  constructor
  intro H enc w base spare held n cs x h
  obtain ⟨s, rfl, _, hs⟩ := DataW.trod_string ht h
  exact ⟨s, rfl, hs⟩
theorem opens_int {P : Program} {t : TypeId} {k : IntKind} (ht : P.underlying t = some (.int k)) : Opens P (Kd.int k) t (fun z => (Lit.int k z).wf = true) := by
  constructor
  intro H enc w base spare held n cs x h
  obtain ⟨z, rfl, _, hz⟩ := DataW.trod_int ht h
  exact ⟨z, rfl, hz⟩
theorem choice_list {α : Type} {p : Nat -> α -> Prop} : ∀ n : Nat, (∀ i, i < n -> ∃ y, p i y) -> ∃ ys : List α, ys.length = n /\ ∀ i y, ys[i]? = some y -> p i y
  | 0, _ => ⟨[], rfl, fun i y h => by simp at h⟩
  | n + 1, h => by
    obtain ⟨ys, hl, hp⟩ := choice_list n (fun i hi => h i (by omega))
    obtain ⟨y, hy⟩ := h n (by omega)
    refine ⟨ys ++ [y], by simp [hl], fun i z hz => ?_⟩
    by_cases hi : i < n
    · rw [List.getElem?_append_left (by omega)] at hz
      exact hp i z hz
    · rw [List.getElem?_append_right (by omega)] at hz
      have : i - ys.length = 0 := by
        rcases Nat.eq_zero_or_pos (i - ys.length) with h0 | h0
        · exact h0
        · rw [List.getElem?_eq_none (by simp only [List.length_cons, List.length_nil]; omega)] at hz; simp at hz
      rw [this] at hz
      simp only [List.getElem?_cons_zero, Option.some.injEq] at hz
      subst hz
      have : i = n := by omega
      subst this
      exact hy
theorem opens_slice {P : Program} {α : Type} {d : Kd α} {t e : TypeId} {p : α -> Prop} (ht : P.underlying t = some (.slice e)) (hc : P.cellsOf e = d.sz) (h : Opens P d e p) (e' : Nat) :
    Opens P (Kd.slice e' d) t (fun xs => xs.length <= maxLen /\ ∀ x ∈ xs, p x) := by
  constructor
  intro H enc w base spare held n cs x ht'
  rcases open_slice ht ht' with ⟨rfl, _⟩ | ⟨a, len, cap, m, n', D, Pl, rfl, _, hl, hm, hmm, _, hi⟩
  · exact ⟨[], ⟨none, 0, rfl, Nat.le_refl _, rfl, by simp, fun h => absurd h (by simp)⟩, by simp, by simp⟩
  · have hlm : len <= m := by rw [hmm]; split <;> omega
    obtain ⟨ys, hyl, hy⟩ := choice_list (p := fun i y => p y /\ ∃ c, c.length = d.sz /\ d.K w y c /\ ∀ j u, c[j]? = some u -> w.cell? (a.add (i * d.sz + j)) = some u) len (by
      intro i hil
      obtain ⟨cs', hcs, htr⟩ := hi i (by omega)
      obtain ⟨y, hK, hp⟩ := h.go htr
      obtain ⟨_, hcl, hat⟩ := World.cells?_some hcs
      refine ⟨y, hp, cs', by rw [hcl, hc], hK, fun j u hj => ?_⟩
      have hj' : j < cs'.length := (List.getElem?_eq_some_iff.1 hj).1
      have := hat j (by omega)
      rw [hc] at this
      rw [<- Go.Deep.add_add, this, hj])
    refine ⟨ys, ⟨some a, cap, by rw [hyl], by omega, ⟨rfl, by rw [hyl]; simp only [maxLen] at hm; omega, fun _ => ⟨a, rfl, fun j q hj => ?_⟩⟩⟩, by omega, fun x hx => ?_⟩
    · exact (hy j q hj).2
    · obtain ⟨i, hi', rfl⟩ := List.mem_iff_getElem.1 hx
      exact (hy i _ (List.getElem?_eq_getElem hi')).1
structure OpensF (P : Program) {α : Type} (d : Kd α) (fs : List Field) (off : Nat) (p : α -> Prop) : Prop where
  go : ∀ {H : Type} {enc : TypeId × Value -> H} {w : World} {base : Nat} {spare : Nat -> Bool} {held : Bool} {n : Nat} {cs : List Value}, cs.length = off + d.sz ->
    (∀ f ∈ fs, ∃ y, DataW.trod enc P w base spare held n f.type ((cs.drop f.offset).take (P.cellsOf f.type)) = some y) -> ∃ y, d.K w y (cs.drop off) /\ p y
theorem opensF_last {P : Program} {α : Type} {d : Kd α} {f : Field} {off : Nat} {p : α -> Prop} (h : Opens P d f.type p) (ho : f.offset = off) (hc : P.cellsOf f.type = d.sz) : OpensF P d [f] off p := by
  constructor
  intro H enc w base spare held n cs hl hf
  obtain ⟨y, hy⟩ := hf f (by simp)
  rw [ho, hc, List.take_of_length_le (by rw [List.length_drop]; omega)] at hy
  exact h.go hy
theorem opensF_cons {P : Program} {α β : Type} {d : Kd α} {d' : Kd β} {f : Field} {fs : List Field} {off : Nat} {p : α -> Prop} {p' : β -> Prop} (h : Opens P d f.type p) (ho : f.offset = off) (hc : P.cellsOf f.type = d.sz) (hr : OpensF P d' fs (off + d.sz) p') :
    OpensF P (Kd.pair d d') (f :: fs) off (fun y => p y.1 /\ p' y.2) := by
  constructor
  intro H enc w base spare held n cs hl hf
  have hl' : cs.length = off + d.sz + d'.sz := by rw [hl, Nat.add_assoc]; rfl
  obtain ⟨y, hy⟩ := hf f (by simp)
  rw [ho, hc] at hy
  obtain ⟨a, ha, hpa⟩ := h.go hy
  obtain ⟨b, hb, hpb⟩ := hr.go hl' (fun g hg => hf g (by simp [hg]))
  exact ⟨(a, b), ⟨_, _, by rw [<- List.drop_drop]; exact (List.take_append_drop _ _).symm, ha, hb⟩, hpa, hpb⟩
theorem opens_struct {P : Program} {α : Type} {d : Kd α} {t : TypeId} {fs : Array Field} {p : α -> Prop} (hu : P.underlying t = some (.struct fs)) (hc : P.cellsOf t = d.sz) (h : OpensF P d fs.toList 0 p) : Opens P d t p := by
  constructor
  intro H enc w base spare held n cs x ht
  obtain ⟨xs, n', _, _, hl, hlen, hf⟩ := DataW.trod_struct hu ht
  have := h.go (w := w) (enc := enc) (base := base) (spare := spare) (held := held) (n := n') (cs := cs) (by omega) (fun f hf' => by
    obtain ⟨j, hj, rfl⟩ := List.mem_iff_getElem.1 hf'
    have hj' : fs[j]? = some fs.toList[j] := by simp at hj; simp [hj]
    have hx := hf j _ hj'
    have hjx : j < xs.length := by have : fs.toList.length = fs.size := by simp
                                   omega
    rw [List.getElem?_eq_getElem hjx] at hx
    exact ⟨_, hx⟩)
  simpa using this
theorem opens_iso {P : Program} {α β : Type} {d : Kd α} {t : TypeId} {p : α -> Prop} (f : β -> α) (g : α -> β) (hfg : ∀ a, f (g a) = a) (h : Opens P d t p) : Opens P (Kd.iso d f) t (fun y => p (f y)) := by
  constructor
  intro H enc w base spare held n cs x ht
  obtain ⟨y, hK, hp⟩ := h.go ht
  exact ⟨g y, by show d.K w (f (g y)) cs; rw [hfg]; exact hK, by show p (f (g y)); rw [hfg]; exact hp⟩
theorem row {P : Program} {α : Type} {d : Kd α} {t e : TypeId} {p : α -> Prop} (ht : P.underlying t = some (.slice e)) (hc : P.cellsOf e = d.sz) (h : Opens P d e p)
    {H : Type} {enc : TypeId × Value -> H} {w : World} {base : Nat} {spare : Nat -> Bool} {held : Bool} {v : Value} {x : DataW H} {pl : List MemPlace} (hv : v.cells.toList = [v]) (hT : DataW.Trod enc P w base spare held t v x pl) :
    ∃ A c xs, v = .slice A xs.length c /\ xs.length <= c /\ d.C w A xs.length xs /\ xs.length <= maxLen /\ ∀ x ∈ xs, p x := by
  obtain ⟨m, hm⟩ := hT
  obtain ⟨xs, ⟨A, c, he, hl, hC⟩, hlen, hp⟩ := (opens_slice ht hc h 0).go hm
  rw [hv] at he
  simp only [List.cons.injEq, and_true] at he
  exact ⟨A, c, xs, he, hl, hC, hlen, hp⟩
end Go.Proofs.YtemkgdpfkbpnpaaGreatDoor.Open
