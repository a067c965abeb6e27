/- What a law is handed, opened, with what its weight allows: the cells of any argument read as a kind of the printed words; no text and no row is longer than a machine reaches. -/
import Derived.Test.YtlfenakgphmepaaGreatDoorOpen
import Derived.SizedLaws
namespace Go.Proofs.YtlfenakgphmepaaGreatDoor.Open
open Go Go.ChangeShapes Go.WideShapes Go.Deep YtlfenakgphmepaaGreatDoorW.PrintWords
structure OpensS (P : Program) {α : Type} (d : Kd α) (t : TypeId) (p : α -> Prop) : Prop where
  go : ∀ {H : Type} {enc : TypeId × Value -> H} {w : World} {base : Nat} {spare : Nat -> Bool} {held : Bool} {n : Nat} {cs : List Value} {x : DataW H × List MemPlace},
    DataW.trod enc P w base spare held n t cs = some x -> (∀ m ∈ x.1.weights P t, m <= reachBytes) -> ∃ y, d.K w y cs /\ p y
theorem Opens.s {P : Program} {α : Type} {d : Kd α} {t : TypeId} {p : α -> Prop} (h : Opens P d t p) : OpensS P d t p := ⟨fun a _ => h.go a⟩
theorem opensS_string {P : Program} {t : TypeId} (ht : P.underlying t = some .string) : OpensS P Kd.string t (fun s => s.size <= reachBytes) := by
  constructor
  intro H enc w base spare held n cs x h hw
  obtain ⟨s, rfl, hx, hs⟩ := DataW.trod_string ht h
  refine ⟨s, rfl, ?_⟩
  have := hw s.data.toList.length (by rw [hx]; simp [DataW.weights])
  rw [Array.length_toList] at this
  exact this
theorem mem_all {H : Type} {P : Program} {e : TypeId} : ∀ {l : List (DataW H)} {d : DataW H}, d ∈ l -> ∀ m ∈ d.weights P e, m ∈ DataW.weightsAll P e l
  | x :: t, d, h, m, hm => by
    simp only [DataW.weightsAll, List.mem_append]
    rcases List.mem_cons.1 h with rfl | h
    · exact Or.inl hm
    · exact Or.inr (mem_all h m hm)
theorem opensS_slice {P : Program} {α : Type} {d : Kd α} {t e : TypeId} {p : α -> Prop} (ht : P.underlying t = some (.slice e)) (hc : P.cellsOf e = d.sz) (h : OpensS P d e p) (e' : Nat) {B : Nat} (hB : P.bytesOf e = B) :
    OpensS P (Kd.slice e' d) t (fun xs => (xs.length <= maxLen /\ xs.length * B <= reachBytes) /\ ∀ x ∈ xs, p x) := by
  constructor
  intro H enc w base spare held n cs x ht' hw
  rcases open_slice ht ht' with ⟨rfl, _⟩ | ⟨a, len, cap, m, n', D, Pl, rfl, _, hl, hm, hmm, rfl, hi⟩
  · exact ⟨[], ⟨none, 0, rfl, Nat.le_refl _, rfl, by simp, fun h => absurd h (by simp)⟩, by simp, by simp⟩
  · have hlm : len <= m := by rw [hmm]; split <;> omega
    have hwt := hw ((((List.range len).map D).length + ((List.range (m - len)).map fun j => D (len + j)).length) * P.bytesOf e) (by simp only [DataW.weights, ht]; exact List.mem_cons_self)
    rw [hB, List.length_map, List.length_range] at hwt
    have hwe : ∀ i, i < len -> ∀ q ∈ (D i).weights P e, q <= reachBytes := fun i hil q hq => hw q (by
      simp only [DataW.weights, ht]
      exact List.mem_cons_of_mem _ (List.mem_append_left _ (mem_all (List.mem_map.2 ⟨i, List.mem_range.2 hil, rfl⟩) q hq)))
    obtain ⟨ys, hyl, hy⟩ := choice_list (p := fun i y => p y /\ ∃ c, c.length = d.sz /\ d.K w y c /\ ∀ j u, c[j]? = some u -> w.cell? (a.add (i * d.sz + j)) = some u) len (by
      intro i hil
      obtain ⟨cs', hcs, htr⟩ := hi i (by omega)
      obtain ⟨y, hK, hp⟩ := h.go htr (hwe i hil)
      obtain ⟨_, hcl, hat⟩ := World.cells?_some hcs
      refine ⟨y, hp, cs', by rw [hcl, hc], hK, fun j u hj => ?_⟩
      have hj' : j < cs'.length := (List.getElem?_eq_some_iff.1 hj).1
      have := hat j (by omega)
      rw [hc] at this
      rw [<- Go.Deep.add_add, this, hj])
    refine ⟨ys, ⟨some a, cap, by rw [hyl], by omega, ⟨rfl, by rw [hyl]; simp only [maxLen] at hm; omega, fun _ => ⟨a, rfl, fun j q hj => ?_⟩⟩⟩, ⟨by omega, ?_⟩, fun x hx => ?_⟩
    · exact (hy j q hj).2
    · rw [hyl]
      exact Nat.le_trans (Nat.mul_le_mul_right _ (Nat.le_add_right _ _)) hwt
    · obtain ⟨i, hi', rfl⟩ := List.mem_iff_getElem.1 hx
      exact (hy i _ (List.getElem?_eq_getElem hi')).1
structure OpensFS (P : Program) {α : Type} (d : Kd α) (fs : List Field) (off : Nat) (p : α -> Prop) : Prop where
  go : ∀ {H : Type} {enc : TypeId × Value -> H} {w : World} {base : Nat} {spare : Nat -> Bool} {held : Bool} {n : Nat} {cs : List Value}, cs.length = off + d.sz ->
    (∀ f ∈ fs, ∃ y, DataW.trod enc P w base spare held n f.type ((cs.drop f.offset).take (P.cellsOf f.type)) = some y /\ ∀ m ∈ y.1.weights P f.type, m <= reachBytes) -> ∃ y, d.K w y (cs.drop off) /\ p y
theorem opensFS_last {P : Program} {α : Type} {d : Kd α} {f : Field} {off : Nat} {p : α -> Prop} (h : OpensS P d f.type p) (ho : f.offset = off) (hc : P.cellsOf f.type = d.sz) : OpensFS P d [f] off p := by
  constructor
  intro H enc w base spare held n cs hl hf
  obtain ⟨y, hy, hw⟩ := hf f (by simp)
  rw [ho, hc, List.take_of_length_le (by rw [List.length_drop]; omega)] at hy
  exact h.go hy hw
theorem opensFS_cons {P : Program} {α β : Type} {d : Kd α} {d' : Kd β} {f : Field} {fs : List Field} {off : Nat} {p : α -> Prop} {p' : β -> Prop} (h : OpensS P d f.type p) (ho : f.offset = off) (hc : P.cellsOf f.type = d.sz) (hr : OpensFS P d' fs (off + d.sz) p') :
    OpensFS P (Kd.pair d d') (f :: fs) off (fun y => p y.1 /\ p' y.2) := by
  constructor
  intro H enc w base spare held n cs hl hf
  have hl' : cs.length = off + d.sz + d'.sz := by rw [hl, Nat.add_assoc]; rfl
  obtain ⟨y, hy, hw⟩ := hf f (by simp)
  rw [ho, hc] at hy
  obtain ⟨a, ha, hpa⟩ := h.go hy hw
  obtain ⟨b, hb, hpb⟩ := hr.go hl' (fun g hg => hf g (by simp [hg]))
  exact ⟨(a, b), ⟨_, _, by rw [<- List.drop_drop]; exact (List.take_append_drop _ _).symm, ha, hb⟩, hpa, hpb⟩
theorem opensS_struct {P : Program} {α : Type} {d : Kd α} {t : TypeId} {fs : Array Field} {p : α -> Prop} (hu : P.underlying t = some (.struct fs)) (hc : P.cellsOf t = d.sz) (h : OpensFS P d fs.toList 0 p) : OpensS P d t p := by
  constructor
  intro H enc w base spare held n cs x ht hw
  obtain ⟨xs, n', _, hx0, hl, hlen, hf⟩ := DataW.trod_struct hu ht
  have := h.go (w := w) (enc := enc) (base := base) (spare := spare) (held := held) (n := n') (cs := cs) (by omega) (fun f hf' => by
    obtain ⟨j, hj, rfl⟩ := List.mem_iff_getElem.1 hf'
    have hj' : fs[j]? = some fs.toList[j] := by simp at hj; simp [hj]
    have hx := hf j _ hj'
    have hjx : j < xs.length := by have : fs.toList.length = fs.size := by simp
                                   omega
    rw [List.getElem?_eq_getElem hjx] at hx
    refine ⟨_, hx, fun m hm => hw m ?_⟩
    rw [hx0]
    simp only [DataW.weights, hu]
    exact DataW.weights_mem_each (j := j) (t := fs.toList[j].type) (d := xs[j].1) (by rw [List.getElem?_map, List.getElem?_eq_getElem hj]; rfl) (by rw [List.getElem?_map, List.getElem?_eq_getElem hjx]; rfl) m hm)
  simpa using this
theorem opensS_iso {P : Program} {α β : Type} {d : Kd α} {t : TypeId} {p : α -> Prop} (f : β -> α) (g : α -> β) (hfg : ∀ a, f (g a) = a) (h : OpensS P d t p) : OpensS P (Kd.iso d f) t (fun y => p (f y)) := by
  constructor
  intro H enc w base spare held n cs x ht hw
  obtain ⟨y, hK, hp⟩ := h.go ht hw
  exact ⟨g y, by show d.K w (f (g y)) cs; rw [hfg]; exact hK, by show p (f (g y)); rw [hfg]; exact hp⟩
theorem weight_at {H : Type} {P : Program} {ts : List TypeId} {ds : List (DataW H)} (h : (DataW.weightsEach P ts ds).all (· <= reachBytes) = true) {j : Nat} {t : TypeId} {d : DataW H} (ht : ts[j]? = some t) (hd : ds[j]? = some d) : ∀ m ∈ d.weights P t, m <= reachBytes := fun m hm => by
  have := List.all_eq_true.1 h m (DataW.weights_mem_each ht hd m hm)
  simpa using this
end Go.Proofs.YtlfenakgphmepaaGreatDoor.Open
