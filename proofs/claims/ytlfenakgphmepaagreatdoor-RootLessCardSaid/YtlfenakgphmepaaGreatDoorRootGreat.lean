/- Root's guards: what is not too much is small. -/
import Derived.Test.YtlfenakgphmepaaGreatDoorRootArg
import Derived.Test.YtlfenakgphmepaaGreatDoorRootCall
namespace Go.Proofs.YtlfenakgphmepaaGreatDoor.Root
open Go.RowKit Go.Proofs.YtlfenakgphmepaaGreatDoorW.PrintWords Go.Proofs.YtlfenakgphmepaaGreatDoor.Print Go.Proofs.YtlfenakgphmepaaGreatDoor.Build
set_option linter.unusedVariables false
set_option linter.unusedSimpArgs false
theorem leO_get {α : Type} {a b : Option α} (h : LeO a b) {r : α} (e : a = some r) : b = some r := h r e
theorem up_mono {α : Type} {f : Nat -> Option α} (h : ∀ k, LeO (f k) (f (k + 1))) {r : α} : ∀ (d k : Nat), f k = some r -> f (k + d) = some r
 | 0, _, e => e
 | d + 1, k, e => leO_get (h (k + d)) (up_mono h d k e)
theorem up_to {α : Type} {f : Nat -> Option α} (h : ∀ k, LeO (f k) (f (k + 1))) {r : α} {k m : Nat} (hm : k <= m) (e : f k = some r) : f m = some r := by
 have := up_mono h (m - k) k e
 rw [show k + (m - k) = m by omega] at this
 exact this
theorem mn_le (a : Nat) : 0 <= mn (a : Int) 20000 /\ mn (a : Int) 20000 <= 20000 /\ (mn (a : Int) 20000 < 20000 -> a < 20000) := by unfold mn; split <;> omega
theorem rd_bs (l : List ByteArray) (i : Nat) (h : i < l.length) : rdOf ByteArray.empty l (i : Int) = l[i] := Hello.rd_get l i h
def refsQ (l : List Rf) : Prop := l.length <= 100 /\ ∀ y ∈ l, y.f0.size <= 20000 /\ y.f1.size <= 20000
theorem great9_loop (l : List Rf) (hl : l.length * 32 <= reachN) : ∀ (d i : Nat) (x3 : Int), i + d = l.length -> 0 <= x3 -> x3 <= 1000000000000000 -> ∃ b, w9_Great.l0 (d + 1) l x3 (i : Int) = some b /\ (20000 <= x3 -> b = true) /\ (b = false -> l.length <= 100 /\ ∀ y ∈ l.drop i, y.f0.size <= 20000 /\ y.f1.size <= 20000) := by
 intro d
 unfold reachN at hl
 induction d with
 | zero =>
  intro i x3 hi h0 h1
  simp only [w9_Great.l0]
  rw [if_neg (by omega)]
  by_cases c : x3 >= 20000
  ·rw [if_pos c]; exact ⟨true, rfl, fun _ => rfl, fun e => Bool.noConfusion e⟩
  ·rw [if_neg c]
   refine ⟨_, rfl, fun e => absurd e c, fun e => ⟨by have := of_decide_eq_false e; omega, fun y hy => ?_⟩⟩
   rw [List.drop_eq_nil_of_le (by omega)] at hy
   cases hy
 | succ d ih =>
  intro i x3 hi h0 h1
  have hlt : i < l.length := by omega
  have e1 : wrap64 ((i : Int) + 1) = ((i + 1 : Nat) : Int) := by unfold wrap64; omega
  rw [w9_Great.l0, if_pos (by omega)]
  by_cases c : x3 < 20000
  ·rw [if_pos c, if_pos (by omega), e1, Hello.getR l i hlt]
   have m0 := mn_le (l[i]).f0.size
   have m1 := mn_le (l[i]).f1.size
   have e2 : wrap64 (wrap64 (x3 + mn ((l[i]).f0.size : Int) 20000) + mn ((l[i]).f1.size : Int) 20000) = x3 + mn ((l[i]).f0.size : Int) 20000 + mn ((l[i]).f1.size : Int) 20000 := by unfold wrap64; omega
   rw [e2]
   obtain ⟨b, hb, h2, h3⟩ := ih (i + 1) _ (by omega) (show 0 <= x3 + mn ((l[i]).f0.size : Int) 20000 + mn ((l[i]).f1.size : Int) 20000 by omega) (by omega)
   refine ⟨b, hb, fun e => by omega, fun e => ?_⟩
   have h4 := h3 e
   have h5 : ¬ 20000 <= x3 + mn ((l[i]).f0.size : Int) 20000 + mn ((l[i]).f1.size : Int) 20000 := fun e2 => by have := h2 e2; rw [e] at this; cases this
   refine ⟨h4.1, fun y hy => ?_⟩
   rw [List.drop_eq_getElem_cons hlt] at hy
   rcases List.mem_cons.1 hy with rfl | hy
   ·have a := m0.2.2 (by omega)
    have b := m1.2.2 (by omega)
    omega
   ·exact h4.2 y hy
  ·rw [if_neg c, if_pos (by omega)]
   exact ⟨true, rfl, fun _ => rfl, fun e => Bool.noConfusion e⟩
theorem great9_eq (l : List Rf) (hl : l.length * 32 <= reachN) : ∃ k b, w9_Great.f k l = some b /\ (b = false -> refsQ l) := by
 obtain ⟨b, hb, _, h⟩ := great9_loop l hl l.length 0 (l.length : Int) (by omega) (by omega) (by unfold reachN at hl; omega)
 exact ⟨l.length + 1, b, hb, fun e => by have := h e; rw [List.drop_zero] at this; exact this⟩
structure forkQ (f : Fk) : Prop where
 s : SmF 20000 f
 r : f.f3.length <= 100
 p : f.f4.length <= 20000
def inB (f : Fk) : Prop := f.f3.length * 32 <= reachN /\ f.f4.length * 16 <= reachN
section
variable (n : Int) (pool : List ByteArray) (forks : List Fk)
def L1 (i : Nat) : Prop := ∀ x3 : Int, 0 <= x3 -> x3 <= 1000000000000000 -> ∃ k b, sacristylaw10_Great.l1 k x3 (i : Int) n pool forks = some b /\ (20000 <= x3 -> b = true) /\ (b = false -> forks.length <= 40 /\ ∀ f ∈ forks.drop i, forkQ f)
theorem great_l2 (hl : forks.length * 88 <= reachN) (i : Nat) (hi : i < forks.length) (f : Fk) (hf : inB f) (hL : L1 n pool forks (i + 1)) : ∀ (d j : Nat) (x3 : Int), j + d = f.f4.length -> 0 <= x3 -> x3 <= 900000000000000 ->
  ∃ k b, sacristylaw10_Great.l2 k x3 (i : Int) (j : Int) n pool forks f.f0 f.f1 f.f2 f.f3 f.f4 = some b /\ (20000 <= x3 -> b = true) /\ (b = false -> refsQ f.f3 /\ (∀ s ∈ f.f4.drop j, s.size <= 20000) /\ forks.length <= 40 /\ ∀ g ∈ forks.drop (i + 1), forkQ g) := by
 unfold reachN at hl
 have hf2 := hf.2
 unfold reachN at hf2
 have e1 : wrap64 ((i : Int) + 1) = ((i + 1 : Nat) : Int) := by unfold wrap64; omega
 obtain ⟨k9, b9, h9, hq9⟩ := great9_eq f.f3 hf.1
 have key : ∀ x3 : Int, 0 <= x3 -> x3 <= 1000000000000000 -> ∃ k b, ((w9_Great.f k f.f3).bind fun t => (if t = true then (some true) else (sacristylaw10_Great.l1 k x3 (wrap64 ((i : Int) + 1)) n pool forks))) = some b /\ (20000 <= x3 -> b = true) /\ (b = false -> refsQ f.f3 /\ forks.length <= 40 /\ ∀ g ∈ forks.drop (i + 1), forkQ g) := by
  intro x3 h0 h1
  obtain ⟨k1, b1, hk1, ht1, hq1⟩ := hL x3 h0 h1
  refine ⟨k9 + k1, ?_⟩
  have a := up_to (fun k => w9_Great.mono f.f3 k) (show k9 <= k9 + k1 by omega) h9
  have b := up_to (fun k => (sacristylaw10_Great.mono_l k).2.1 x3 ((i + 1 : Nat) : Int) n pool forks) (show k1 <= k9 + k1 by omega) hk1
  rw [a, e1, b]
  simp only [Option.bind_some]
  cases hb9 : b9 with
  | true => rw [if_pos rfl]; exact ⟨true, rfl, fun _ => rfl, fun e => Bool.noConfusion e⟩
  | false =>
   rw [if_neg (fun e => Bool.noConfusion e)]
   exact ⟨b1, rfl, ht1, fun e => ⟨hq9 hb9, hq1 e⟩⟩
 intro d
 induction d with
 | zero =>
  intro j x3 hj h0 h1
  obtain ⟨k, b, hk, ht, hq⟩ := key x3 h0 (by omega)
  refine ⟨k + 1, b, ?_, ht, fun e => ⟨(hq e).1, fun s hs => ?_, (hq e).2⟩⟩
  ·rw [sacristylaw10_Great.l2, if_neg (by omega)]
   exact hk
  ·rw [List.drop_eq_nil_of_le (by omega)] at hs
   cases hs
 | succ d ih =>
  intro j x3 hj h0 h1
  have hlt : j < f.f4.length := by omega
  have e2 : wrap64 ((j : Int) + 1) = ((j + 1 : Nat) : Int) := by unfold wrap64; omega
  by_cases c : x3 < 20000
  ·have m0 := mn_le (f.f4[j]).size
   have e3 : wrap64 (x3 + mn ((f.f4[j]).size : Int) 20000) = x3 + mn ((f.f4[j]).size : Int) 20000 := by unfold wrap64; omega
   obtain ⟨k, b, hk, ht, hq⟩ := ih (j + 1) (x3 + mn ((f.f4[j]).size : Int) 20000) (by omega) (by omega) (by omega)
   refine ⟨k + 1, b, ?_, fun e => by omega, fun e => ?_⟩
   ·rw [sacristylaw10_Great.l2, if_pos (by omega), if_pos c, if_pos (by omega), rd_bs f.f4 j hlt, e2, e3]
    exact hk
   ·have h4 := hq e
    have h5 : ¬ 20000 <= x3 + mn ((f.f4[j]).size : Int) 20000 := fun e2 => by have := ht e2; rw [e] at this; cases this
    refine ⟨h4.1, fun s hs => ?_, h4.2.2⟩
    rw [List.drop_eq_getElem_cons hlt] at hs
    rcases List.mem_cons.1 hs with rfl | hs
    ·have := m0.2.2 (by omega); omega
    ·exact h4.2.1 s hs
  ·obtain ⟨k, b, hk, ht, hq⟩ := key x3 h0 (by omega)
   have hb := ht (by omega)
   subst hb
   refine ⟨k + 1, true, ?_, fun _ => rfl, fun e => Bool.noConfusion e⟩
   rw [sacristylaw10_Great.l2, if_pos (by omega), if_neg c]
   exact hk
theorem great_l1 (hl : forks.length * 88 <= reachN) (hin : ∀ f ∈ forks, inB f) : ∀ (d i : Nat), i + d = forks.length -> L1 n pool forks i := by
 intro d
 have hl' := hl
 unfold reachN at hl'
 induction d with
 | zero =>
  intro i hi x3 h0 h1
  refine ⟨2, ?_⟩
  rw [sacristylaw10_Great.l1, if_neg (by omega), sacristylaw10_Great.j3, if_neg (fun e => Bool.noConfusion e)]
  by_cases c : x3 >= 20000
  ·rw [if_pos c]; exact ⟨true, rfl, fun _ => rfl, fun e => Bool.noConfusion e⟩
  ·rw [if_neg c]
   refine ⟨_, rfl, fun e => absurd e c, fun e => ⟨by have := of_decide_eq_false e; omega, fun y hy => ?_⟩⟩
   rw [List.drop_eq_nil_of_le (by omega)] at hy
   cases hy
 | succ d ih =>
  intro i hi x3 h0 h1
  have hlt : i < forks.length := by omega
  by_cases c : x3 < 20000
  ·have m0 := mn_le (forks[i]).f0.size
   have m2 := mn_le (forks[i]).f2.size
   have hib := hin _ (List.getElem_mem hlt)
   have hib2 := hib.2
   unfold reachN at hib2
   have e3 : wrap64 ((wrap64 ((wrap64 ((wrap64 (x3 + 1)) + (mn ((forks[i]).f0.size : Int) 20000))) + (mn ((forks[i]).f2.size : Int) 20000))) + ((forks[i]).f4.length : Int)) = x3 + 1 + mn ((forks[i]).f0.size : Int) 20000 + mn ((forks[i]).f2.size : Int) 20000 + ((forks[i]).f4.length : Int) := by unfold wrap64; omega
   obtain ⟨k, b, hk, ht, hq⟩ := great_l2 n pool forks hl i hlt forks[i] hib (ih (i + 1) (by omega)) (forks[i]).f4.length 0 (x3 + 1 + mn ((forks[i]).f0.size : Int) 20000 + mn ((forks[i]).f2.size : Int) 20000 + ((forks[i]).f4.length : Int)) (by omega) (by omega) (by omega)
   refine ⟨k + 2, b, ?_, fun e => by omega, fun e => ?_⟩
   ·rw [sacristylaw10_Great.l1, if_pos (by omega), sacristylaw10_Great.j3, if_pos (decide_eq_true c), if_pos (by omega), if_pos (by omega), rd_fk forks i hlt, e3]
    exact hk
   ·have h4 := hq e
    have h5 : ¬ 20000 <= x3 + 1 + mn ((forks[i]).f0.size : Int) 20000 + mn ((forks[i]).f2.size : Int) 20000 + ((forks[i]).f4.length : Int) := fun e2 => by have := ht e2; rw [e] at this; cases this
    rw [List.drop_zero] at h4
    refine ⟨h4.2.2.1, fun f hf => ?_⟩
    rw [List.drop_eq_getElem_cons hlt] at hf
    rcases List.mem_cons.1 hf with rfl | hf
    ·have a := m0.2.2 (by omega)
     have b := m2.2.2 (by omega)
     exact ⟨⟨by omega, by omega, h4.1.2, h4.2.1⟩, h4.1.1, by omega⟩
    ·exact h4.2.2.2 f hf
  ·refine ⟨2, true, ?_, fun _ => rfl, fun e => Bool.noConfusion e⟩
   rw [sacristylaw10_Great.l1, if_pos (by omega), sacristylaw10_Great.j3, if_neg (fun e => c (of_decide_eq_true e)), if_pos (by omega)]
theorem great_l0 (hp : pool.length * 16 <= reachN) (hL : L1 n pool forks 0) : ∀ (d i : Nat) (x3 : Int), i + d = pool.length -> 0 <= x3 -> x3 <= 900000000000000 ->
  ∃ k b, sacristylaw10_Great.l0 k x3 (i : Int) n pool forks = some b /\ (20000 <= x3 -> b = true) /\ (b = false -> (∀ s ∈ pool.drop i, s.size <= 20000) /\ forks.length <= 40 /\ ∀ g ∈ forks, forkQ g) := by
 intro d
 unfold reachN at hp
 have key : ∀ x3 : Int, 0 <= x3 -> x3 <= 1000000000000000 -> ∃ k b, sacristylaw10_Great.j1 k x3 n pool forks = some b /\ (20000 <= x3 -> b = true) /\ (b = false -> forks.length <= 40 /\ ∀ g ∈ forks, forkQ g) := by
  intro x3 h0 h1
  obtain ⟨k, b, hk, ht, hq⟩ := hL x3 h0 h1
  rw [List.drop_zero] at hq
  exact ⟨k + 1, b, by rw [sacristylaw10_Great.j1]; exact hk, ht, hq⟩
 induction d with
 | zero =>
  intro i x3 hi h0 h1
  obtain ⟨k, b, hk, ht, hq⟩ := key x3 h0 (by omega)
  refine ⟨k + 1, b, ?_, ht, fun e => ⟨fun s hs => ?_, hq e⟩⟩
  ·rw [sacristylaw10_Great.l0, if_neg (by omega)]
   exact hk
  ·rw [List.drop_eq_nil_of_le (by omega)] at hs
   cases hs
 | succ d ih =>
  intro i x3 hi h0 h1
  have hlt : i < pool.length := by omega
  have e2 : wrap64 ((i : Int) + 1) = ((i + 1 : Nat) : Int) := by unfold wrap64; omega
  by_cases c : x3 < 20000
  ·have m0 := mn_le (pool[i]).size
   have e3 : wrap64 (x3 + mn ((pool[i]).size : Int) 20000) = x3 + mn ((pool[i]).size : Int) 20000 := by unfold wrap64; omega
   obtain ⟨k, b, hk, ht, hq⟩ := ih (i + 1) (x3 + mn ((pool[i]).size : Int) 20000) (by omega) (by omega) (by omega)
   refine ⟨k + 1, b, ?_, fun e => by omega, fun e => ?_⟩
   ·rw [sacristylaw10_Great.l0, if_pos (by omega), if_pos c, if_pos (by omega), rd_bs pool i hlt, e2, e3]
    exact hk
   ·have h4 := hq e
    have h5 : ¬ 20000 <= x3 + mn ((pool[i]).size : Int) 20000 := fun e2 => by have := ht e2; rw [e] at this; cases this
    refine ⟨fun s hs => ?_, h4.2⟩
    rw [List.drop_eq_getElem_cons hlt] at hs
    rcases List.mem_cons.1 hs with rfl | hs
    ·have := m0.2.2 (by omega); omega
    ·exact h4.1 s hs
  ·obtain ⟨k, b, hk, ht, hq⟩ := key x3 h0 (by omega)
   have hb := ht (by omega)
   subst hb
   refine ⟨k + 1, true, ?_, fun _ => rfl, fun e => Bool.noConfusion e⟩
   rw [sacristylaw10_Great.l0, if_pos (by omega), if_neg c]
   exact hk
end
structure SmallR (pool : List ByteArray) (forks : List Fk) : Prop where
 p : ∀ s ∈ pool, s.size <= 20000
 pl : pool.length <= 20000
 f : ∀ g ∈ forks, forkQ g
 l : forks.length <= 40
theorem great_eq {n : Int} {pool : List ByteArray} {forks : List Fk} (h : okRoot (n, pool, forks)) : ∃ k b, sacristylaw10_Great.f k n pool forks = some b /\ (b = false -> SmallR pool forks) := by
 obtain ⟨hn, hp, hf⟩ := h
 have hp1 : pool.length * 16 <= reachN := by have := hp.1.2; rw [reach_eq] at this; exact this
 have hf1 : forks.length * 88 <= reachN := by have := hf.1.2; rw [reach_eq] at this; exact this
 have hin : ∀ f ∈ forks, inB f := fun f hfm => by
  obtain ⟨_, _, _, hr, ht⟩ := hf.2 f hfm
  have a := hr.1.2
  have b := ht.1.2
  rw [reach_eq] at a b
  exact ⟨a, b⟩
 have hp2 := hp1
 have hf2 := hf1
 unfold reachN at hp2 hf2
 have e : wrap64 ((pool.length : Int) + (forks.length : Int)) = (pool.length : Int) + (forks.length : Int) := by unfold wrap64; omega
 obtain ⟨k, b, hk, ht, hq⟩ := great_l0 n pool forks hp1 (great_l1 n pool forks hf1 hin forks.length 0 (by omega)) pool.length 0 ((pool.length : Int) + (forks.length : Int)) (by omega) (by omega) (by omega)
 refine ⟨k, b, ?_, fun e => ?_⟩
 ·unfold sacristylaw10_Great.f
  rw [e]
  exact hk
 ·have h5 : ¬ 20000 <= (pool.length : Int) + (forks.length : Int) := fun e2 => by have := ht e2; rw [e] at this; cases this
  have := hq e
  rw [List.drop_zero] at this
  exact ⟨this.1, by omega, this.2.2, this.2.1⟩
theorem SmallR.sm {n : Int} {pool : List ByteArray} {forks : List Fk} (h : SmallR pool forks) : SmR n pool forks :=
 ⟨fun s hs => by have := h.p s hs; omega, fun f hf => by
  obtain ⟨a, b, c, d⟩ := (h.f f hf).s
  exact ⟨by omega, by omega, fun y hy => by have := c y hy; omega, fun s hs => by have := d s hs; omega⟩, by have := h.l; omega⟩
end Go.Proofs.YtlfenakgphmepaaGreatDoor.Root
