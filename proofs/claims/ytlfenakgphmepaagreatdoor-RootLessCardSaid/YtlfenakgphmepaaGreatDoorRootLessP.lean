/- Root's plain law: a fork less, one twice, a pack more. -/
import Derived.Test.YtlfenakgphmepaaGreatDoorRootRise
namespace Go.Proofs.YtlfenakgphmepaaGreatDoor.Root
open Go.RowKit Go.Proofs.YtlfenakgphmepaaGreatDoorW.PrintWords Go.Proofs.YtlfenakgphmepaaGreatDoor.Print Go.Proofs.YtlfenakgphmepaaGreatDoor.Build
set_option linter.unusedVariables false
set_option linter.unusedSimpArgs false
theorem prev_trans {p : Option ByteArray} {a b : ByteArray} (h1 : prevOk p a = true) (h2 : Op.bytesLess a.toList b.toList = true) : prevOk p b = true := by
 cases p with
 | none => rfl
 | some q => exact less_trans h1 h2
theorem go_less : ∀ (l : List Fk) (p : Option ByteArray) (k : Nat), forksGo l p = true -> k < l.length -> forksGo (l.take k ++ l.drop (k + 1)) p = true
 | x :: t, p, 0, h, hk => by
  simp only [forksGo, Bool.and_eq_true] at h
  show forksGo t p = true
  cases t with
  | nil => rfl
  | cons y t =>
   have h2 := h.2.2
   simp only [forksGo, Bool.and_eq_true] at h2 ⊢
   exact ⟨h2.1, prev_trans h.2.1 h2.2.1, h2.2.2⟩
 | x :: t, p, k + 1, h, hk => by
  simp only [forksGo, Bool.and_eq_true] at h
  show forksGo (x :: (t.take k ++ t.drop (k + 1))) p = true
  simp only [forksGo, Bool.and_eq_true]
  exact ⟨h.1, h.2.1, go_less t _ k h.2.2 (by simpa using hk)⟩
theorem less_right {n : Int} {pool : List ByteArray} {forks : List Fk} (h : rootF n pool forks = true) {k : Nat} (hk : k < forks.length) : rootF n pool (forks.take k ++ forks.drop (k + 1)) = true := by
 unfold rootF at h ⊢
 simp only [Bool.and_eq_true, decide_eq_true_iff] at h ⊢
 refine ⟨go_less forks none k h.1 hk, h.2.1, h.2.2.1, ?_⟩
 rw [List.length_append, List.length_take, List.length_drop]
 omega
theorem go_app : ∀ (l : List Fk) (p : Option ByteArray) (x : Fk), forksGo (l ++ [x]) p = true -> (∀ f ∈ l, Op.bytesLess f.f0.toList x.f0.toList = true)
 | [], p, x, h, f, hf => absurd hf List.not_mem_nil
 | y :: t, p, x, h, f, hf => by
  have h' : forksGo (y :: (t ++ [x])) p = true := h
  simp only [forksGo, Bool.and_eq_true] at h'
  have ih := go_app t (some y.f0) x h'.2.2
  rcases List.mem_cons.1 hf with rfl | hf
  ·cases t with
   | nil =>
    have h2 := h'.2.2
    simp only [List.nil_append, forksGo, Bool.and_eq_true] at h2
    exact h2.2.1
   | cons z t =>
    have h2 := h'.2.2
    have h3 : forksGo (z :: (t ++ [x])) (some f.f0) = true := h2
    simp only [forksGo, Bool.and_eq_true] at h3
    exact less_trans h3.2.1 (ih z List.mem_cons_self)
  ·exact ih f hf
theorem twice_wrong (n : Int) (pool : List ByteArray) (forks : List Fk) {k : Nat} (hk : k < forks.length) : rootF n pool (forks ++ [forks[k]]) = false := by
 refine Bool.eq_false_iff.2 (fun h => ?_)
 unfold rootF at h
 simp only [Bool.and_eq_true] at h
 have := go_app forks none forks[k] h.1 forks[k] (List.getElem_mem hk)
 rw [less_irrefl] at this
 cases this
theorem gone_ix {n : Int} {pool : List ByteArray} {forks : List Fk} (h : rootF n pool forks = true) {k : Nat} (hk : k < forks.length) : root_Find.ix (forks[k]).f0 (forks.take k ++ forks.drop (k + 1)) < 0 := by
 have hr := rises forks none (by unfold rootF at h; rw [Bool.and_eq_true] at h; exact h.1)
 have hno : ((forks.take k ++ forks.drop (k + 1)).any fun f => f.f0.toList == (forks[k]).f0.toList) = false := by
  rw [List.any_eq_false]
  intro f hf e
  have e' := eq_of_beq e
  rcases List.mem_append.1 hf with hf | hf
  ·obtain ⟨j, hj, rfl⟩ := List.mem_iff_getElem.1 hf
   rw [List.length_take] at hj
   have := rises_far hr (k - j - 1) j (by omega)
   simp only [show j + (k - j - 1) + 1 = k by omega] at this
   rw [List.getElem_take] at e'
   rw [e', less_irrefl] at this
   cases this
  ·obtain ⟨j, hj, rfl⟩ := List.mem_iff_getElem.1 hf
   rw [List.length_drop] at hj
   have := rises_far hr j k (by omega)
   rw [List.getElem_drop] at e'
   simp only [show k + 1 + j = k + j + 1 by omega] at e'
   rw [e', less_irrefl] at this
   cases this
 have h2 := ix_any (forks[k]).f0 (forks.take k ++ forks.drop (k + 1))
 rw [hno] at h2
 have := of_decide_eq_false h2
 omega
theorem packsG_app (n : Nat) (x : ByteArray) : ∀ (l seen : List ByteArray), packsG n seen (l ++ [x]) = (packsG n seen l && (!((seen ++ l).any fun s => decide (s.data = x.data)) && Hello.idF x))
 | [], seen => by
  simp only [List.nil_append, packsG, List.append_nil]
  cases (seen.any fun s => decide (s.data = x.data)) <;> cases Hello.idF x <;> cases decide ((n : Int) <= 24) <;> rfl
 | y :: t, seen => by
  simp only [List.cons_append, packsG]
  rw [packsG_app n x t (y :: seen)]
  have e : ((seen ++ y :: t).any fun s => decide (s.data = x.data)) = ((y :: seen ++ t).any fun s => decide (s.data = x.data)) := by
   simp only [List.any_append, List.any_cons, List.cons_append]
   cases (seen.any fun s => decide (s.data = x.data)) <;> cases decide (y.data = x.data) <;> simp
  rw [e]
  simp only [Bool.and_assoc]
theorem packsG_len : ∀ (l seen : List ByteArray) (n m : Nat), packsG n seen l = true -> packsG m seen l = decide ((m : Int) <= 24)
 | [], seen, n, m, h => rfl
 | y :: t, seen, n, m, h => by
  simp only [packsG, Bool.and_eq_true] at h ⊢
  rw [packsG_len t _ n m h.2.2, h.1, h.2.1]
  rfl
def hasT (l : List ByteArray) (x : ByteArray) : Bool := l.any fun s => s.toList == x.toList
theorem has_data (l : List ByteArray) (x : ByteArray) : (l.any fun s => decide (s.data = x.data)) = hasT l x := by
 unfold hasT
 congr 1
 funext s
 rw [Bool.eq_iff_iff, decide_eq_true_iff, beq_iff_eq]
 constructor
 ·intro e
  have : s = x := ByteArray.ext e
  rw [this]
 ·intro e
  rw [Hello.toList_inj e]
theorem packs_more {pool : List ByteArray} {x : ByteArray} (h : packsF pool = true) (hx : Hello.idF x = true) : packsF (pool ++ [x]) = (!hasT pool x && decide (pool.length < 24)) := by
 unfold packsF at h ⊢
 rw [packsG_app, packsG_len pool [] pool.length (pool ++ [x]).length h, List.nil_append, has_data, hx, Bool.and_true, Bool.and_comm]
 congr 1
 rw [decide_eq_decide, List.length_append, List.length_singleton]
 omega
theorem more_right {n : Int} {pool : List ByteArray} {forks : List Fk} (h : rootF n pool forks = true) {x : ByteArray} (hx : Hello.idF x = true) : rootF n (pool ++ [x]) forks = (!hasT pool x && decide (pool.length < 24)) := by
 have h2 := h
 unfold rootF at h2 ⊢
 simp only [Bool.and_eq_true] at h2
 rw [h2.1, h2.2.1, h2.2.2.2, packs_more h2.2.2.1 hx]
 simp
theorem has_next (l : List ByteArray) (x : ByteArray) (i : Nat) (h : i < l.length) : hasT (l.take (i + 1)) x = (hasT (l.take i) x || ((l[i]).toList == x.toList)) := by
 unfold hasT
 rw [List.take_succ_eq_append_getElem h, List.any_append]
 simp
end Go.Proofs.YtlfenakgphmepaaGreatDoor.Root
