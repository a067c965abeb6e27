/- Parts of the proof. -/
import Derived.Test.YtlfenakgphmepaaGreatDoorRootArg
import Derived.Test.YtlfenakgphmepaaGreatDoorRootCall
import Derived.Test.YtlfenakgphmepaaGreatDoorRefGb
section
namespace Go.Proofs.YtlfenakgphmepaaGreatDoor.Root
open Go.RowKit YtlfenakgphmepaaGreatDoorW.PrintWords Print Build
set_option linter.unusedVariables false
set_option linter.unusedSimpArgs false
theorem leO_get {α : Type} {a b : Option α} (h : LeO a b) {r : α} (e : a = some r) : b = some r := h r e
theorem up_mono {α : Type} {f : Nat -> Option α} (h : ∀ k, LeO (f k) (f (k + 1))) {r : α} : ∀ (d k : Nat), f k = some r -> f (k + d) = some r
 | 0, _, e => e
 | d + 1, k, e => leO_get (h (k + d)) (up_mono h d k e)
theorem up_to {α : Type} {f : Nat -> Option α} (h : ∀ k, LeO (f k) (f (k + 1))) {r : α} {k m : Nat} (hm : k <= m) (e : f k = some r) : f m = some r := by
 have := up_mono h (m - k) k e
 rw [show k + (m - k) = m by omega] at this
 exact this
theorem mn_le (a : Nat) : 0 <= mn (a : Int) 20000 /\ mn (a : Int) 20000 <= 20000 /\ (mn (a : Int) 20000 < 20000 -> a < 20000) := by unfold mn; split <;> omega
theorem rd_bs (l : List ByteArray) (i : Nat) (h : i < l.length) : rdOf ByteArray.empty l (i : Int) = l[i] := Hello.rd_get l i h
def refsQ (l : List Rf) : Prop := l.length <= 100 /\ ∀ y ∈ l, y.f0.size <= 20000 /\ y.f1.size <= 20000
theorem great9_loop (l : List Rf) (hl : l.length * 32 <= reachN) : ∀ (d i : Nat) (x3 : Int), i + d = l.length -> 0 <= x3 -> x3 <= 1000000000000000 -> ∃ b, w9_Great.l0 (d + 1) l x3 (i : Int) = some b /\ (20000 <= x3 -> b = true) /\ (b = false -> l.length <= 100 /\ ∀ y ∈ l.drop i, y.f0.size <= 20000 /\ y.f1.size <= 20000) := by
 intro d
 unfold reachN at hl
 induction d with
 | zero =>
  intro i x3 hi h0 h1
  simp only [w9_Great.l0]
  rw [if_neg (by omega)]
  by_cases c : x3 >= 20000
  ·rw [if_pos c]; exact ⟨true, rfl, fun _ => rfl, fun e => Bool.noConfusion e⟩
  ·rw [if_neg c]
   refine ⟨_, rfl, fun e => absurd e c, fun e => ⟨by have := of_decide_eq_false e; omega, fun y hy => ?_⟩⟩
   rw [List.drop_eq_nil_of_le (by omega)] at hy
   cases hy
 | succ d ih =>
  intro i x3 hi h0 h1
  have hlt : i < l.length := by omega
  have e1 : wrap64 ((i : Int) + 1) = ((i + 1 : Nat) : Int) := by unfold wrap64; omega
  rw [w9_Great.l0, if_pos (by omega)]
  by_cases c : x3 < 20000
  ·rw [if_pos c, if_pos (by omega), e1, Hello.getR l i hlt]
   have m0 := mn_le (l[i]).f0.size
   have m1 := mn_le (l[i]).f1.size
   have e2 : wrap64 (wrap64 (x3 + mn ((l[i]).f0.size : Int) 20000) + mn ((l[i]).f1.size : Int) 20000) = x3 + mn ((l[i]).f0.size : Int) 20000 + mn ((l[i]).f1.size : Int) 20000 := by unfold wrap64; omega
   rw [e2]
   obtain ⟨b, hb, h2, h3⟩ := ih (i + 1) _ (by omega) (show 0 <= x3 + mn ((l[i]).f0.size : Int) 20000 + mn ((l[i]).f1.size : Int) 20000 by omega) (by omega)
   refine ⟨b, hb, fun e => by omega, fun e => ?_⟩
   have h4 := h3 e
   have h5 : ¬ 20000 <= x3 + mn ((l[i]).f0.size : Int) 20000 + mn ((l[i]).f1.size : Int) 20000 := fun e2 => by have := h2 e2; rw [e] at this; cases this
   refine ⟨h4.1, fun y hy => ?_⟩
   rw [List.drop_eq_getElem_cons hlt] at hy
   rcases List.mem_cons.1 hy with rfl | hy
   ·have a := m0.2.2 (by omega)
    have b := m1.2.2 (by omega)
    omega
   ·exact h4.2 y hy
  ·rw [if_neg c, if_pos (by omega)]
   exact ⟨true, rfl, fun _ => rfl, fun e => Bool.noConfusion e⟩
theorem great9_eq (l : List Rf) (hl : l.length * 32 <= reachN) : ∃ k b, w9_Great.f k l = some b /\ (b = false -> refsQ l) := by
 obtain ⟨b, hb, _, h⟩ := great9_loop l hl l.length 0 (l.length : Int) (by omega) (by omega) (by unfold reachN at hl; omega)
 exact ⟨l.length + 1, b, hb, fun e => by have := h e; rw [List.drop_zero] at this; exact this⟩
structure forkQ (f : Fk) : Prop where
 s : SmF 20000 f
 r : f.f3.length <= 100
 p : f.f4.length <= 20000
def inB (f : Fk) : Prop := f.f3.length * 32 <= reachN /\ f.f4.length * 16 <= reachN
section
variable (n : Int) (pool : List ByteArray) (forks : List Fk)
def L1 (i : Nat) : Prop := ∀ x3 : Int, 0 <= x3 -> x3 <= 1000000000000000 -> ∃ k b, sacristylaw10_Great.l1 k x3 (i : Int) n pool forks = some b /\ (20000 <= x3 -> b = true) /\ (b = false -> forks.length <= 40 /\ ∀ f ∈ forks.drop i, forkQ f)
theorem great_l2 (hl : forks.length * 88 <= reachN) (i : Nat) (hi : i < forks.length) (f : Fk) (hf : inB f) (hL : L1 n pool forks (i + 1)) : ∀ (d j : Nat) (x3 : Int), j + d = f.f4.length -> 0 <= x3 -> x3 <= 900000000000000 ->
  ∃ k b, sacristylaw10_Great.l2 k x3 (i : Int) (j : Int) n pool forks f.f0 f.f1 f.f2 f.f3 f.f4 = some b /\ (20000 <= x3 -> b = true) /\ (b = false -> refsQ f.f3 /\ (∀ s ∈ f.f4.drop j, s.size <= 20000) /\ forks.length <= 40 /\ ∀ g ∈ forks.drop (i + 1), forkQ g) := by
 unfold reachN at hl
 have hf2 := hf.2
 unfold reachN at hf2
 have e1 : wrap64 ((i : Int) + 1) = ((i + 1 : Nat) : Int) := by unfold wrap64; omega
 obtain ⟨k9, b9, h9, hq9⟩ := great9_eq f.f3 hf.1
 have key : ∀ x3 : Int, 0 <= x3 -> x3 <= 1000000000000000 -> ∃ k b, ((w9_Great.f k f.f3).bind fun t => (if t = true then (some true) else (sacristylaw10_Great.l1 k x3 (wrap64 ((i : Int) + 1)) n pool forks))) = some b /\ (20000 <= x3 -> b = true) /\ (b = false -> refsQ f.f3 /\ forks.length <= 40 /\ ∀ g ∈ forks.drop (i + 1), forkQ g) := by
  intro x3 h0 h1
  obtain ⟨k1, b1, hk1, ht1, hq1⟩ := hL x3 h0 h1
  refine ⟨k9 + k1, ?_⟩
  have a := up_to (fun k => w9_Great.mono f.f3 k) (show k9 <= k9 + k1 by omega) h9
  have b := up_to (fun k => (sacristylaw10_Great.mono_l k).2.1 x3 ((i + 1 : Nat) : Int) n pool forks) (show k1 <= k9 + k1 by omega) hk1
  rw [a, e1, b]
  simp only [Option.bind_some]
  cases hb9 : b9 with
  | true => rw [if_pos rfl]; exact ⟨true, rfl, fun _ => rfl, fun e => Bool.noConfusion e⟩
  | false =>
   rw [if_neg (fun e => Bool.noConfusion e)]
   exact ⟨b1, rfl, ht1, fun e => ⟨hq9 hb9, hq1 e⟩⟩
 intro d
 induction d with
 | zero =>
  intro j x3 hj h0 h1
  obtain ⟨k, b, hk, ht, hq⟩ := key x3 h0 (by omega)
  refine ⟨k + 1, b, ?_, ht, fun e => ⟨(hq e).1, fun s hs => ?_, (hq e).2⟩⟩
  ·rw [sacristylaw10_Great.l2, if_neg (by omega)]
   exact hk
  ·rw [List.drop_eq_nil_of_le (by omega)] at hs
   cases hs
 | succ d ih =>
  intro j x3 hj h0 h1
  have hlt : j < f.f4.length := by omega
  have e2 : wrap64 ((j : Int) + 1) = ((j + 1 : Nat) : Int) := by unfold wrap64; omega
  by_cases c : x3 < 20000
  ·have m0 := mn_le (f.f4[j]).size
   have e3 : wrap64 (x3 + mn ((f.f4[j]).size : Int) 20000) = x3 + mn ((f.f4[j]).size : Int) 20000 := by unfold wrap64; omega
   obtain ⟨k, b, hk, ht, hq⟩ := ih (j + 1) (x3 + mn ((f.f4[j]).size : Int) 20000) (by omega) (by omega) (by omega)
   refine ⟨k + 1, b, ?_, fun e => by omega, fun e => ?_⟩
   ·rw [sacristylaw10_Great.l2, if_pos (by omega), if_pos c, if_pos (by omega), rd_bs f.f4 j hlt, e2, e3]
    exact hk
   ·have h4 := hq e
    have h5 : ¬ 20000 <= x3 + mn ((f.f4[j]).size : Int) 20000 := fun e2 => by have := ht e2; rw [e] at this; cases this
    refine ⟨h4.1, fun s hs => ?_, h4.2.2⟩
    rw [List.drop_eq_getElem_cons hlt] at hs
    rcases List.mem_cons.1 hs with rfl | hs
    ·have := m0.2.2 (by omega); omega
    ·exact h4.2.1 s hs
  ·obtain ⟨k, b, hk, ht, hq⟩ := key x3 h0 (by omega)
   have hb := ht (by omega)
   subst hb
   refine ⟨k + 1, true, ?_, fun _ => rfl, fun e => Bool.noConfusion e⟩
   rw [sacristylaw10_Great.l2, if_pos (by omega), if_neg c]
   exact hk
theorem great_l1 (hl : forks.length * 88 <= reachN) (hin : ∀ f ∈ forks, inB f) : ∀ (d i : Nat), i + d = forks.length -> L1 n pool forks i := by
 intro d
 have hl' := hl
 unfold reachN at hl'
 induction d with
 | zero =>
  intro i hi x3 h0 h1
  refine ⟨2, ?_⟩
  rw [sacristylaw10_Great.l1, if_neg (by omega), sacristylaw10_Great.j3, if_neg (fun e => Bool.noConfusion e)]
  by_cases c : x3 >= 20000
  ·rw [if_pos c]; exact ⟨true, rfl, fun _ => rfl, fun e => Bool.noConfusion e⟩
  ·rw [if_neg c]
   refine ⟨_, rfl, fun e => absurd e c, fun e => ⟨by have := of_decide_eq_false e; omega, fun y hy => ?_⟩⟩
   rw [List.drop_eq_nil_of_le (by omega)] at hy
   cases hy
 | succ d ih =>
  intro i hi x3 h0 h1
  have hlt : i < forks.length := by omega
  by_cases c : x3 < 20000
  ·have m0 := mn_le (forks[i]).f0.size
   have m2 := mn_le (forks[i]).f2.size
   have hib := hin _ (List.getElem_mem hlt)
   have hib2 := hib.2
   unfold reachN at hib2
   have e3 : wrap64 ((wrap64 ((wrap64 ((wrap64 (x3 + 1)) + (mn ((forks[i]).f0.size : Int) 20000))) + (mn ((forks[i]).f2.size : Int) 20000))) + ((forks[i]).f4.length : Int)) = x3 + 1 + mn ((forks[i]).f0.size : Int) 20000 + mn ((forks[i]).f2.size : Int) 20000 + ((forks[i]).f4.length : Int) := by unfold wrap64; omega
   obtain ⟨k, b, hk, ht, hq⟩ := great_l2 n pool forks hl i hlt forks[i] hib (ih (i + 1) (by omega)) (forks[i]).f4.length 0 (x3 + 1 + mn ((forks[i]).f0.size : Int) 20000 + mn ((forks[i]).f2.size : Int) 20000 + ((forks[i]).f4.length : Int)) (by omega) (by omega) (by omega)
   refine ⟨k + 2, b, ?_, fun e => by omega, fun e => ?_⟩
   ·rw [sacristylaw10_Great.l1, if_pos (by omega), sacristylaw10_Great.j3, if_pos (decide_eq_true c), if_pos (by omega), if_pos (by omega), rd_fk forks i hlt, e3]
    exact hk
   ·have h4 := hq e
    have h5 : ¬ 20000 <= x3 + 1 + mn ((forks[i]).f0.size : Int) 20000 + mn ((forks[i]).f2.size : Int) 20000 + ((forks[i]).f4.length : Int) := fun e2 => by have := ht e2; rw [e] at this; cases this
    rw [List.drop_zero] at h4
    refine ⟨h4.2.2.1, fun f hf => ?_⟩
    rw [List.drop_eq_getElem_cons hlt] at hf
    rcases List.mem_cons.1 hf with rfl | hf
    ·have a := m0.2.2 (by omega)
     have b := m2.2.2 (by omega)
     exact ⟨⟨by omega, by omega, h4.1.2, h4.2.1⟩, h4.1.1, by omega⟩
    ·exact h4.2.2.2 f hf
  ·refine ⟨2, true, ?_, fun _ => rfl, fun e => Bool.noConfusion e⟩
   rw [sacristylaw10_Great.l1, if_pos (by omega), sacristylaw10_Great.j3, if_neg (fun e => c (of_decide_eq_true e)), if_pos (by omega)]
theorem great_l0 (hp : pool.length * 16 <= reachN) (hL : L1 n pool forks 0) : ∀ (d i : Nat) (x3 : Int), i + d = pool.length -> 0 <= x3 -> x3 <= 900000000000000 ->
  ∃ k b, sacristylaw10_Great.l0 k x3 (i : Int) n pool forks = some b /\ (20000 <= x3 -> b = true) /\ (b = false -> (∀ s ∈ pool.drop i, s.size <= 20000) /\ forks.length <= 40 /\ ∀ g ∈ forks, forkQ g) := by
 intro d
 unfold reachN at hp
 have key : ∀ x3 : Int, 0 <= x3 -> x3 <= 1000000000000000 -> ∃ k b, sacristylaw10_Great.j1 k x3 n pool forks = some b /\ (20000 <= x3 -> b = true) /\ (b = false -> forks.length <= 40 /\ ∀ g ∈ forks, forkQ g) := by
  intro x3 h0 h1
  obtain ⟨k, b, hk, ht, hq⟩ := hL x3 h0 h1
  rw [List.drop_zero] at hq
  exact ⟨k + 1, b, by rw [sacristylaw10_Great.j1]; exact hk, ht, hq⟩
 induction d with
 | zero =>
  intro i x3 hi h0 h1
  obtain ⟨k, b, hk, ht, hq⟩ := key x3 h0 (by omega)
  refine ⟨k + 1, b, ?_, ht, fun e => ⟨fun s hs => ?_, hq e⟩⟩
  ·rw [sacristylaw10_Great.l0, if_neg (by omega)]
   exact hk
  ·rw [List.drop_eq_nil_of_le (by omega)] at hs
   cases hs
 | succ d ih =>
  intro i x3 hi h0 h1
  have hlt : i < pool.length := by omega
  have e2 : wrap64 ((i : Int) + 1) = ((i + 1 : Nat) : Int) := by unfold wrap64; omega
  by_cases c : x3 < 20000
  ·have m0 := mn_le (pool[i]).size
   have e3 : wrap64 (x3 + mn ((pool[i]).size : Int) 20000) = x3 + mn ((pool[i]).size : Int) 20000 := by unfold wrap64; omega
   obtain ⟨k, b, hk, ht, hq⟩ := ih (i + 1) (x3 + mn ((pool[i]).size : Int) 20000) (by omega) (by omega) (by omega)
   refine ⟨k + 1, b, ?_, fun e => by omega, fun e => ?_⟩
   ·rw [sacristylaw10_Great.l0, if_pos (by omega), if_pos c, if_pos (by omega), rd_bs pool i hlt, e2, e3]
    exact hk
   ·have h4 := hq e
    have h5 : ¬ 20000 <= x3 + mn ((pool[i]).size : Int) 20000 := fun e2 => by have := ht e2; rw [e] at this; cases this
    refine ⟨fun s hs => ?_, h4.2⟩
    rw [List.drop_eq_getElem_cons hlt] at hs
    rcases List.mem_cons.1 hs with rfl | hs
    ·have := m0.2.2 (by omega); omega
    ·exact h4.1 s hs
  ·obtain ⟨k, b, hk, ht, hq⟩ := key x3 h0 (by omega)
   have hb := ht (by omega)
   subst hb
   refine ⟨k + 1, true, ?_, fun _ => rfl, fun e => Bool.noConfusion e⟩
   rw [sacristylaw10_Great.l0, if_pos (by omega), if_neg c]
   exact hk
end
structure SmallR (pool : List ByteArray) (forks : List Fk) : Prop where
 p : ∀ s ∈ pool, s.size <= 20000
 pl : pool.length <= 20000
 f : ∀ g ∈ forks, forkQ g
 l : forks.length <= 40
theorem great_eq {n : Int} {pool : List ByteArray} {forks : List Fk} (h : okRoot (n, pool, forks)) : ∃ k b, sacristylaw10_Great.f k n pool forks = some b /\ (b = false -> SmallR pool forks) := by
 obtain ⟨hn, hp, hf⟩ := h
 have hp1 : pool.length * 16 <= reachN := by have := hp.1.2; rw [reach_eq] at this; exact this
 have hf1 : forks.length * 88 <= reachN := by have := hf.1.2; rw [reach_eq] at this; exact this
 have hin : ∀ f ∈ forks, inB f := fun f hfm => by
  obtain ⟨_, _, _, hr, ht⟩ := hf.2 f hfm
  have a := hr.1.2
  have b := ht.1.2
  rw [reach_eq] at a b
  exact ⟨a, b⟩
 have hp2 := hp1
 have hf2 := hf1
 unfold reachN at hp2 hf2
 have e : wrap64 ((pool.length : Int) + (forks.length : Int)) = (pool.length : Int) + (forks.length : Int) := by unfold wrap64; omega
 obtain ⟨k, b, hk, ht, hq⟩ := great_l0 n pool forks hp1 (great_l1 n pool forks hf1 hin forks.length 0 (by omega)) pool.length 0 ((pool.length : Int) + (forks.length : Int)) (by omega) (by omega) (by omega)
 refine ⟨k, b, ?_, fun e => ?_⟩
 ·unfold sacristylaw10_Great.f
  rw [e]
  exact hk
 ·have h5 : ¬ 20000 <= (pool.length : Int) + (forks.length : Int) := fun e2 => by have := ht e2; rw [e] at this; cases this
  have := hq e
  rw [List.drop_zero] at this
  exact ⟨this.1, by omega, this.2.2, this.2.1⟩
theorem SmallR.sm {n : Int} {pool : List ByteArray} {forks : List Fk} (h : SmallR pool forks) : SmR n pool forks :=
 ⟨fun s hs => by have := h.p s hs; omega, fun f hf => by
  obtain ⟨a, b, c, d⟩ := (h.f f hf).s
  exact ⟨by omega, by omega, fun y hy => by have := c y hy; omega, fun s hs => by have := d s hs; omega⟩, by have := h.l; omega⟩
end Go.Proofs.YtlfenakgphmepaaGreatDoor.Root
end
section
namespace Go.Proofs.YtlfenakgphmepaaGreatDoor.Root
open Go.RowKit YtlfenakgphmepaaGreatDoorW.PrintWords Print Build
set_option linter.unusedVariables false
set_option linter.unusedSimpArgs false
theorem sameT_loop (a b : List ByteArray) (hl : a.length = b.length) (hm : a.length <= 900000000000) : ∀ (d i k : Nat), i + d = a.length -> d + 1 <= k -> ∃ r, q4_SameTexts.l0 k a b (i : Int) = some r /\ (r = true <-> a.drop i = b.drop i)
 | 0, i, k, hi, hk => by
  obtain ⟨k, rfl⟩ : ∃ m, k = m + 1 := ⟨k - 1, by omega⟩
  rw [q4_SameTexts.l0, if_neg (by omega)]
  exact ⟨true, rfl, ⟨fun _ => by rw [List.drop_eq_nil_of_le (by omega), List.drop_eq_nil_of_le (by omega)], fun _ => rfl⟩⟩
 | d + 1, i, k, hi, hk => by
  obtain ⟨k, rfl⟩ : ∃ m, k = m + 1 := ⟨k - 1, by omega⟩
  have h1 : i < a.length := by omega
  have h2 : i < b.length := by omega
  have e1 : wrap64 ((i : Int) + 1) = ((i + 1 : Nat) : Int) := by unfold wrap64; omega
  obtain ⟨r, hr, hq⟩ := sameT_loop a b hl hm d (i + 1) k (by omega) (by omega)
  rw [q4_SameTexts.l0, if_pos (by omega), if_pos (by omega), if_pos (by omega), rd_bs a i h1, rd_bs b i h2, e1]
  rw [List.drop_eq_getElem_cons h1, List.drop_eq_getElem_cons h2]
  by_cases c : (a[i]).toList = (b[i]).toList
  ·rw [if_pos c]
   exact ⟨r, hr, hq.trans ⟨fun e => by rw [Hello.toList_inj c, e], fun e => (List.cons.inj e).2⟩⟩
  ·rw [if_neg c]
   exact ⟨false, rfl, ⟨fun e => Bool.noConfusion e, fun e => absurd (by rw [(List.cons.inj e).1]) c⟩⟩
theorem sameT_eq (a b : List ByteArray) (hm : a.length <= 900000000000) {k : Nat} (hk : a.length + 1 <= k) : ∃ r, q4_SameTexts.f k a b = some r /\ (r = true <-> a = b) := by
 unfold q4_SameTexts.f
 by_cases c : a.length = b.length
 ·rw [if_pos (by omega)]
  exact sameT_loop a b c hm a.length 0 k (by omega) (by omega)
 ·rw [if_neg (by omega)]
  exact ⟨false, rfl, ⟨fun e => Bool.noConfusion e, fun e => absurd (by rw [e]) c⟩⟩
theorem rf_ext {a b : Rf} (h0 : a.f0.toList = b.f0.toList) (h1 : a.f1.toList = b.f1.toList) : a = b := by
 cases a
 cases b
 have e0 := Hello.toList_inj h0
 have e1 := Hello.toList_inj h1
 simp only at e0 e1
 rw [e0, e1]
theorem sameR_loop (a b : List Rf) (hl : a.length = b.length) (hm : a.length <= 900000000000) : ∀ (d i k : Nat), i + d = a.length -> d + 1 <= k -> ∃ r, q9_Same.l0 k a b (i : Int) = some r /\ (r = true <-> a.drop i = b.drop i)
 | 0, i, k, hi, hk => by
  obtain ⟨k, rfl⟩ : ∃ m, k = m + 1 := ⟨k - 1, by omega⟩
  rw [q9_Same.l0, if_neg (by omega)]
  exact ⟨true, rfl, ⟨fun _ => by rw [List.drop_eq_nil_of_le (by omega), List.drop_eq_nil_of_le (by omega)], fun _ => rfl⟩⟩
 | d + 1, i, k, hi, hk => by
  obtain ⟨k, rfl⟩ : ∃ m, k = m + 1 := ⟨k - 1, by omega⟩
  have h1 : i < a.length := by omega
  have h2 : i < b.length := by omega
  have e1 : wrap64 ((i : Int) + 1) = ((i + 1 : Nat) : Int) := by unfold wrap64; omega
  obtain ⟨r, hr, hq⟩ := sameR_loop a b hl hm d (i + 1) k (by omega) (by omega)
  rw [q9_Same.l0, if_pos (by omega), if_pos (by omega), if_pos (by omega), Hello.getR a i h1, Hello.getR b i h2, e1]
  rw [List.drop_eq_getElem_cons h1, List.drop_eq_getElem_cons h2]
  by_cases c0 : (a[i]).f0.toList = (b[i]).f0.toList
  ·by_cases c1 : (a[i]).f1.toList = (b[i]).f1.toList
   ·rw [beq_iff_eq.2 c0, beq_iff_eq.2 c1, if_neg (by decide)]
    exact ⟨r, hr, hq.trans ⟨fun e => by rw [rf_ext c0 c1, e], fun e => (List.cons.inj e).2⟩⟩
   ·rw [beq_eq_false_iff_ne.2 c1, if_pos (by simp)]
    exact ⟨false, rfl, ⟨fun e => Bool.noConfusion e, fun e => absurd (by rw [(List.cons.inj e).1]) c1⟩⟩
  ·rw [beq_eq_false_iff_ne.2 c0, if_pos (by simp)]
   exact ⟨false, rfl, ⟨fun e => Bool.noConfusion e, fun e => absurd (by rw [(List.cons.inj e).1]) c0⟩⟩
theorem sameR_eq (a b : List Rf) (hm : a.length <= 900000000000) {k : Nat} (hk : a.length + 1 <= k) : ∃ r, q9_Same.f k a b = some r /\ (r = true <-> a = b) := by
 unfold q9_Same.f
 by_cases c : a.length = b.length
 ·rw [if_pos (by omega)]
  exact sameR_loop a b c hm a.length 0 k (by omega) (by omega)
 ·rw [if_neg (by omega)]
  exact ⟨false, rfl, ⟨fun e => Bool.noConfusion e, fun e => absurd (by rw [e]) c⟩⟩
structure LenR (pool : List ByteArray) (forks : List Fk) : Prop where
 p : pool.length <= 900000
 l : forks.length <= 900000
 f : ∀ g ∈ forks, g.f3.length <= 900000 /\ g.f4.length <= 900000
theorem SmallR.len {pool : List ByteArray} {forks : List Fk} (h : SmallR pool forks) : LenR pool forks :=
 ⟨by have := h.pl; omega, by have := h.l; omega, fun g hg => ⟨by have := (h.f g hg).r; omega, by have := (h.f g hg).p; omega⟩⟩
theorem right_len {n : Int} {pool : List ByteArray} {forks : List Fk} (h : rootF n pool forks = true) : LenR pool forks := by
 obtain ⟨hf, hn, hp, hm⟩ := rootF_out h
 refine ⟨by have := (packs_out hp).1; omega, by omega, fun g hg => ?_⟩
 obtain ⟨a, b, c, d, e⟩ := forkB_out (hf g hg)
 exact ⟨by have := (rightF_out c).1; omega, by have := (packs_out b).1; omega⟩
end Go.Proofs.YtlfenakgphmepaaGreatDoor.Root
end
section
namespace Go.Proofs.YtlfenakgphmepaaGreatDoor.Root
open Go.RowKit YtlfenakgphmepaaGreatDoorW.PrintWords YtlfenakgphmepaaGreatDoorW.PrintLast YtlfenakgphmepaaGreatDoorW.PrintMore YtlfenakgphmepaaGreatDoor.Conv Print Build
set_option linter.unusedVariables false
set_option linter.unusedSimpArgs false
theorem sameT_calls (l : List ByteArray) (hl : l.length <= 900000) (A : Option Addr) (c : Nat) (B : Option Addr) (d : Nat) (W : World) (h1 : Kd.C Kd.string W A l.length l) (l1 : l.length <= c) (h2 : Kd.C Kd.string W B l.length l) (l2 : l.length <= d) :
  Calls Tryz.prog 45 #[.slice A l.length c, .slice B l.length d] W fun e w' => e = .returned (.bool true) /\ Below W.heap.size W w' := by
 obtain ⟨r, hr, hq⟩ := sameT_eq l l (by omega) (show l.length + 1 <= 1000000 by omega)
 obtain rfl := hq.2 rfl
 exact (q4_SameTexts.calls 1000000 A c l B d l true W h1 l1 h2 l2 hr).mono (fun e w' h => ⟨h.1, h.2.below⟩)
theorem sameR_calls (l : List Rf) (hl : l.length <= 900000) (A : Option Addr) (c : Nat) (B : Option Addr) (d : Nat) (W : World) (h1 : Kd.C k83 W A l.length l) (l1 : l.length <= c) (h2 : Kd.C k83 W B l.length l) (l2 : l.length <= d) :
  Calls Tryz.prog 46 #[.slice A l.length c, .slice B l.length d] W fun e w' => e = .returned (.bool true) /\ Below W.heap.size W w' := by
 obtain ⟨r, hr, hq⟩ := sameR_eq l l (by omega) (show l.length + 1 <= 1000000 by omega)
 obtain rfl := hq.2 rfl
 exact (q9_Same.calls 1000000 A c l B d l true W h1 l1 h2 l2 hr).mono (fun e w' h => ⟨h.1, h.2.below⟩)
set_option maxRecDepth 100000 in
set_option maxHeartbeats 8000000 in
theorem same_self {n : Int} {pl : List ByteArray} {fl : List Fk} (hL : LenR pl fl) (A1 : Option Addr) (c1 : Nat) (A2 : Option Addr) (c2 : Nat) (B1 : Option Addr) (d1 : Nat) (B2 : Option Addr) (d2 : Nat) (W : World)
  (h1 : Kd.C Kd.string W A1 pl.length pl) (l1 : pl.length <= c1) (h2 : Kd.C k39 W A2 fl.length fl) (l2 : fl.length <= c2) (h3 : Kd.C Kd.string W B1 pl.length pl) (l3 : pl.length <= d1) (h4 : Kd.C k39 W B2 fl.length fl) (l4 : fl.length <= d2) :
  Calls Tryz.prog 13 #[.agg #[.int .i64 n, .slice A1 pl.length c1, .slice A2 fl.length c2], .agg #[.int .i64 n, .slice B1 pl.length d1, .slice B2 fl.length d2]] W fun e w' => e = .returned (.bool true) /\ Below W.heap.size W w' := by
 have HL := Asd.mk hL
 have H1 := Asd.mk h1
 have H2 := Asd.mk h2
 have H3 := Asd.mk h3
 have H4 := Asd.mk h4
 have L1 := Asd.mk l1
 have L3 := Asd.mk l3
 clear hL h1 h2 h3 h4 l1 l2 l3 l4
 go_enter Tryz.func13, Tryz.ntmps13
 go_upto_region 1 with (fail)
 generalize hW0 : World.alloc _ _ = W0
 have HB : Asd (Below W.heap.size W W0) := ⟨by rw [<- hW0]; exact bal (bal (Below.refl _ _) _) _⟩
 have HX : Asd (W0.heap[W.heap.size]? = some (.cells #[.int .i64 n, .slice A1 pl.length c1, .slice A2 fl.length c2] 25 (0, 0))) := ⟨by rw [<- hW0]; exact qB (bal (Below.refl _ _) _) (heap_alloc_new W _)⟩
 have hy := heap_alloc_new (W.alloc (.cells #[.int .i64 n, .slice A1 pl.length c1, .slice A2 fl.length c2] 25)) (.cells #[.int .i64 n, .slice B1 pl.length d1, .slice B2 fl.length d2] 25)
 rw [sz_alloc, hW0] at hy
 have HY := Asd.mk hy
 generalize W.heap.size + 1 = y at *
 clear hW0 hy
 have kx0 := (qx HX.out 0 rfl).1
 have kx1 := (qx HX.out 1 rfl).1
 have kx2 := (qx HX.out 2 rfl).1
 have ky0 := (qx HY.out 0 rfl).1
 have ky1 := (qx HY.out 1 rfl).1
 have ky2 := (qx HY.out 2 rfl).1
 have ST := Asd.mk (fun (W' : World) (hb : Below W.heap.size W W') => sameT_calls pl HL.out.p A1 c1 B1 d1 W' (Kd.C_below H1.out hb) L1.out (Kd.C_below H3.out hb) L3.out)
 go_wp2_with (go_at_call 45; with_reducible refine (ST.out _ HB.out).mono ?_; rintro e W1 ⟨rfl, hb⟩; replace HB := Asd.mk (qW HB.out hb); replace HX := Asd.mk (qB hb HX.out); replace HY := Asd.mk (qB hb HY.out); have kz2 := (qx HX.out 2 rfl).1; have kw2 := (qx HY.out 2 rfl).1; clear hb)
 have hfl := HL.out.l
 go_loopg [5] fl.length (fun gg s5 wr => ∃ kk : Nat, kk <= fl.length /\ fl.length - kk <= gg /\ s5 = .int .i64 (kk : Int) /\ Asd (Below W.heap.size W wr) /\ Asd (wr.heap[W.heap.size]? = some (.cells #[.int .i64 n, .slice A1 pl.length c1, .slice A2 fl.length c2] 25 (0, 0))) /\ Asd (wr.heap[y]? = some (.cells #[.int .i64 n, .slice B1 pl.length d1, .slice B2 fl.length d2] 25 (0, 0))))
 case atStart => exact ⟨0, Nat.zero_le _, by omega, rfl, HB, HX, HY⟩
 case round =>
  obtain ⟨kk, hk1, hk2, rfl, HB, HX, HY⟩ := hrel
  clear kx0 kx1 kx2 ky0 ky1 ky2 kz2 kw2
  have kx2 := (qx HX.out 2 rfl).1
  by_cases hk : kk < fl.length
  ·have d4 : decide ((kk : Int) < (fl.length : Int)) = true := decide_eq_true (by omega)
   have hkz : (kk : Int) < (fl.length : Int) := by omega
   have hkz0 : (0 : Int) <= (kk : Int) := by omega
   obtain ⟨f, hf⟩ : ∃ f, f = fl[kk] := ⟨_, rfl⟩
   obtain ⟨ad, A3, e3, A4, e4, hA2, q0, q1, q2, q3, q4, l3, g3, l4, g4⟩ := at_T39 (Kd.C_below H2.out HB.out) (kk : Int) (by omega) (by omega)
   subst hA2
   rw [rd_fk fl kk hk, <- hf] at q0 q1 q2 q3 q4 l3 g3 l4 g4
   rw [Int.toNat_natCast] at q0 q1 q2 q3 q4
   have HK := Asd.mk (And.intro hk hk2)
   have HG3 := Asd.mk g3
   have HG4 := Asd.mk g4
   have HE3 := Asd.mk l3
   have HE4 := Asd.mk l4
   have HF := Asd.mk (HL.out.f f (by rw [hf]; exact List.getElem_mem hk))
   have HFE := Asd.mk hf
   clear hk1 hk2 g3 g4 l3 l4 hf hfl
   go_upto_region 7 with (fail)
   generalize hW6 : World.alloc _ _ = W6
   have hb6 : Below wr.heap.size wr W6 := by rw [<- hW6]; exact bal (Below.refl _ _) _
   have HWR := Asd.mk hb6
   have HU : Asd (W6.heap[wr.heap.size]? = some (.cells #[.string f.f0, .bool f.f1, .string f.f2, .slice A3 f.f3.length e3, .slice A4 f.f4.length e4] 39 (0, 0))) := ⟨by rw [<- hW6]; exact heap_alloc_new _ _⟩
   obtain ⟨u, hu⟩ : ∃ u, u = wr.heap.size := ⟨_, rfl⟩
   rw [<- hu]
   have hU := HU.out
   rw [<- hu] at hU
   have HU := Asd.mk hU
   replace HB := Asd.mk (qW HB.out hb6)
   replace HX := Asd.mk (qB hb6 HX.out)
   replace HY := Asd.mk (qB hb6 HY.out)
   clear hW6 hb6 hu hU kx2 q0 q1 q2 q3 q4
   have ky2 := (qx HY.out 2 rfl).1
   obtain ⟨ae, B3, r3, B4, r4, hB2, q0, q1, q2, q3, q4, l3, g3, l4, g4⟩ := at_T39 (Kd.C_below H4.out HB.out) (kk : Int) (by omega) (by omega)
   subst hB2
   rw [rd_fk fl kk HK.out.1, <- HFE.out] at q0 q1 q2 q3 q4 l3 g3 l4 g4
   rw [Int.toNat_natCast] at q0 q1 q2 q3 q4
   have HO3 := Asd.mk g3
   have HO4 := Asd.mk g4
   have HR3 := Asd.mk l3
   have HR4 := Asd.mk l4
   clear g3 g4 l3 l4
   have HB6 := HB
   go_upto_region 8 with (fail)
   generalize hW7 : World.alloc _ _ = W7
   have hb7 : Below W6.heap.size W6 W7 := by rw [<- hW7]; exact bal (Below.refl _ _) _
   have hV : W7.heap[W6.heap.size]? = some (.cells #[.string f.f0, .bool f.f1, .string f.f2, .slice B3 f.f3.length r3, .slice B4 f.f4.length r4] 39 (0, 0)) := by rw [<- hW7]; exact heap_alloc_new _ _
   obtain ⟨v, hv⟩ : ∃ v, v = W6.heap.size := ⟨_, rfl⟩
   rw [<- hv] at hV ⊢
   have HV := Asd.mk hV
   replace HB := Asd.mk (qW HB.out hb7)
   replace HX := Asd.mk (qB hb7 HX.out)
   replace HY := Asd.mk (qB hb7 HY.out)
   replace HU := Asd.mk (qB hb7 HU.out)
   have HW := Asd.mk (show Below wr.heap.size wr W7 from HWR.out.trans (below_less hb7 HWR.out.size))
   have HW6 := Asd.mk hb7
   clear hW7 hb7 hv hV ky2 q0 q1 q2 q3 q4
   have ku0 := (qx HU.out 0 rfl).1
   have ku1 := (qx HU.out 1 rfl).1
   have ku2 := (qx HU.out 2 rfl).1
   have ku3 := (qx HU.out 3 rfl).1
   have kv0 := (qx HV.out 0 rfl).1
   have kv1 := (qx HV.out 1 rfl).1
   have kv2 := (qx HV.out 2 rfl).1
   have kv3 := (qx HV.out 3 rfl).1
   have hw : IntKind.i64.wrap ((kk : Int) + 1) = ((kk + 1 : Nat) : Int) := by have h1 := HL.out.l; have h2 := HK.out.1; rw [i64_w, w64 (by omega) (by omega)]; omega
   have SR := Asd.mk (sameR_calls f.f3 HF.out.1 A3 e3 B3 r3 W7 (Kd.C_below HG3.out HW.out) HE3.out (Kd.C_below HO3.out HW6.out) HR3.out)
   have SX := Asd.mk (fun (W' : World) (hb : Below W7.heap.size W7 W') => sameT_calls f.f4 HF.out.2 A4 e4 B4 r4 W' (Kd.C_below (Kd.C_below HG4.out HW.out) hb) HE4.out (Kd.C_below (Kd.C_below HO4.out HW6.out) hb) HR4.out)
   go_wp2_with (first
    | (go_at_call 46; with_reducible refine SR.out.mono ?_; rintro e W8 ⟨rfl, hb⟩; have H78 := Asd.mk hb; replace HB := Asd.mk (qW HB.out hb); replace HX := Asd.mk (qB hb HX.out); replace HY := Asd.mk (qB hb HY.out); have ku4 := (qx (qB hb HU.out) 4 rfl).1; have kv4 := (qx (qB hb HV.out) 4 rfl).1; clear hb)
    | (go_at_call 45; with_reducible refine (SX.out _ H78.out).mono ?_; rintro e W9 ⟨rfl, hb⟩; replace HB := Asd.mk (qW HB.out hb); replace HX := Asd.mk (qB hb HX.out); replace HY := Asd.mk (qB hb HY.out); clear hb))
   go_roundg (fl.length - (kk + 1))
   case measure => have h1 := HK.out; omega
   case rel => exact ⟨kk + 1, by have h1 := HK.out; omega, Nat.le_refl _, by first | rfl | go_num, HB, HX, HY⟩
  ·obtain rfl : kk = fl.length := by omega
   have d4 : ¬ fl.length < fl.length := Nat.lt_irrefl _
   go_wp2
   go_ret
   exact ⟨rfl, HB.out⟩
end Go.Proofs.YtlfenakgphmepaaGreatDoor.Root
end
