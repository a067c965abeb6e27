/- Root's plain law: the tests as Booleans. -/
import Derived.Test.YtlfenakgphmepaaGreatDoorRootPlain
namespace Go.Proofs.YtlfenakgphmepaaGreatDoor.Root
open Go.RowKit Go.Proofs.YtlfenakgphmepaaGreatDoorW.PrintWords Go.Proofs.YtlfenakgphmepaaGreatDoor.Print Go.Proofs.YtlfenakgphmepaaGreatDoor.Build
set_option linter.unusedVariables false
set_option linter.unusedSimpArgs false
def rnB (c : Int) : Bool := decide (c = 45 ∨ (97 <= c /\ c <= 122) ∨ (48 <= c /\ c <= 57))
theorem rnB_iff (c : Int) : rnB c = true <-> c = 45 ∨ (97 <= c /\ c <= 122) ∨ (48 <= c /\ c <= 57) := by unfold rnB; exact decide_eq_true_iff
theorem rn_step (c : Int) (X : Option Bool) : (if c = 45 then X else (if c < 97 then (if c < 48 then (some false) else (if c > 57 then (some false) else X)) else (if c > 122 then (if c < 48 then (some false) else (if c > 57 then (some false) else X)) else X))) = if rnB c = true then X else some false := by
 have h := rnB_iff c
 by_cases b : rnB c = true
 ·rw [if_pos b]
  have n := h.1 b
  repeat' split
  all_goals first | rfl | (exfalso; omega)
 ·rw [if_neg b]
  have n : ¬ (c = 45 ∨ (97 <= c /\ c <= 122) ∨ (48 <= c /\ c <= 57)) := fun e => b (h.2 e)
  repeat' split
  all_goals first | rfl | (exfalso; omega)
def rnFrom (s : ByteArray) : Nat -> Nat -> Bool
 | 0, _ => true
 | d + 1, i => rnB (bt s (i : Int)) && rnFrom s d (i + 1)
def rnEnd (s : ByteArray) : Bool := decide (1 <= s.size /\ s.size <= 20)
def rnF (s : ByteArray) : Bool := rnFrom s s.size 0 && rnEnd s
theorem toList_nil {s : ByteArray} : s.toList = ([] : List UInt8) <-> s.size = 0 := by
 rw [Lib.toList_data]
 constructor
 ·intro h
  have := congrArg List.length h
  rw [Array.length_toList] at this
  exact this
 ·intro h
  exact List.eq_nil_of_length_eq_zero (by rw [Array.length_toList]; exact h)
theorem rn_loop (s : ByteArray) (hl : s.size <= 9223372036854775806) : ∀ (d i k : Nat), i + d = s.size -> d + 1 <= k -> root_Named.l0 k s (s.size : Int) (i : Int) = some (rnFrom s d i && rnEnd s) := by
 intro d
 induction d with
 | zero =>
  intro i k hi hk
  obtain ⟨k, rfl⟩ : ∃ j, k = j + 1 := ⟨k - 1, by omega⟩
  simp only [root_Named.l0]
  rw [if_neg (by omega)]
  unfold rnFrom rnEnd
  rw [Bool.true_and]
  by_cases h : s.size = 0
  ·rw [if_pos (toList_nil.2 h), decide_eq_false (by omega)]
  ·rw [if_neg (fun e => h (toList_nil.1 e))]
   congr 1
   rw [decide_eq_decide]
   omega
 | succ d ih =>
  intro i k hi hk
  obtain ⟨k, rfl⟩ : ∃ j, k = j + 1 := ⟨k - 1, by omega⟩
  simp only [root_Named.l0]
  rw [if_pos (by omega), if_pos (by omega), if_pos (by omega), rn_step, w64 (by omega) (by omega), show ((i : Int) + 1) = ((i + 1 : Nat) : Int) by omega, ih (i + 1) k (by omega) (by omega)]
  simp only [rnFrom]
  by_cases b : rnB (bt s (i : Int)) = true
  ·rw [if_pos b, b, Bool.true_and]
  ·rw [if_neg b, Bool.eq_false_iff.2 b]; rfl
theorem rn_eq (s : ByteArray) (hl : s.size <= 9223372036854775806) {k : Nat} (hk : s.size + 1 <= k) : root_Named.f k s = some (rnF s) := rn_loop s hl s.size 0 k (by omega) hk
def packsG (n : Nat) : List ByteArray -> List ByteArray -> Bool
 | _, [] => decide ((n : Int) <= 24)
 | seen, x :: t => !(seen.any fun s => decide (s.data = x.data)) && (Hello.idF x && packsG n (x :: seen) t)
def packsF (l : List ByteArray) : Bool := packsG l.length [] l
theorem packs_eq {M k : Nat} (hM : M <= 9223372036854775806) (hk : M + 1 <= k) (n : Nat) : ∀ (l seen : List ByteArray), (∀ s ∈ l, s.size <= M) -> root_packs.g k n seen l = some (packsG n seen l)
 | [], seen, h => rfl
 | x :: t, seen, h => by
  have hx := h x List.mem_cons_self
  have ih := packs_eq hM hk n t (x :: seen) (fun s hs => h s (List.mem_cons_of_mem _ hs))
  simp only [root_packs.g, packsG]
  rw [if_pos (by omega), Hello.digest_eq x (by omega) (by omega)]
  simp only [Option.bind_some]
  rw [ih]
  by_cases c : (seen.any fun s => decide (s.data = x.data)) = true
  ·rw [if_pos c, c]; rfl
  ·rw [if_neg c, Bool.eq_false_iff.2 c]
   by_cases b : Hello.idF x = true
   ·rw [if_pos b, b]; simp
   ·rw [if_neg b, Bool.eq_false_iff.2 b]; simp
theorem right1_eqM (x : ByteArray) : ∀ (l : List Rf), (∀ y ∈ l, y.f0.size <= 1000000) -> refs_Right_1.f x l = some (l.any fun y => Hello.prefF x (y.f0 ++ Hello.slashT))
 | [], _ => rfl
 | y :: t, h => by
  simp only [refs_Right_1.f]
  rw [Hello.above_eq y.f0 x (by have := h y (by simp); omega)]
  simp only [Option.bind_some, List.any_cons]
  by_cases b : Hello.prefF x (y.f0 ++ Hello.slashT) = true
  ·rw [if_pos b, b, Bool.true_or]
  ·rw [if_neg b, right1_eqM x t (fun z hz => h z (by simp [hz])), Bool.eq_false_iff.2 b, Bool.false_or]
theorem rightGo_eqM (l : List Rf) (hl : ∀ y ∈ l, y.f0.size <= 1000000 /\ y.f1.size <= 1000000) {k : Nat} (hk : 2000000 <= k) : ∀ (t : List Rf) (p : Option ByteArray), (∀ y ∈ t, y.f0.size <= 1000000 /\ y.f1.size <= 1000000) -> refs_Right.go k l t p = some (Hello.rightGo l t p)
 | [], _, _ => rfl
 | y :: t, p, h => by
  have hy := h y (by simp)
  simp only [refs_Right.go, Hello.rightGo]
  rw [Hello.refnamed_eq y.f0 (by omega) (by omega)]
  simp only [Option.bind_some]
  by_cases a : Hello.namedF y.f0 = true
  ·rw [if_pos a, Hello.digest_eq y.f1 (by omega) (by omega), a, Bool.true_and]
   simp only [Option.bind_some]
   by_cases b : Hello.idF y.f1 = true
   ·rw [if_pos b, b, Bool.true_and]
    by_cases c : notAbove p y.f0 = true
    ·rw [if_pos c, c]; rfl
    ·rw [if_neg c, Bool.eq_false_iff.2 c, right1_eqM y.f0 l (fun z hz => (hl z hz).1)]
     simp only [Option.bind_some, Bool.not_false, Bool.true_and]
     by_cases d : (l.any fun z => Hello.prefF y.f0 (z.f0 ++ Hello.slashT)) = true
     ·rw [if_pos d, d]; rfl
     ·rw [if_neg d, rightGo_eqM l hl hk t _ (fun z hz => h z (by simp [hz])), Bool.eq_false_iff.2 d]; rfl
   ·rw [if_neg b, Bool.eq_false_iff.2 b, Bool.false_and]
  ·rw [if_neg a, Bool.eq_false_iff.2 a, Bool.false_and]
theorem right_eqM (l : List Rf) (hl : ∀ y ∈ l, y.f0.size <= 1000000 /\ y.f1.size <= 1000000) {k : Nat} (hk : 2000000 <= k) : refs_Right.f k l = some (Hello.rightF l) := rightGo_eqM l hl hk l none hl
def headsP : ByteArray := ⟨#[104, 101, 97, 100, 115, 47]⟩
def forkB (f : Fk) : Bool := rnF f.f0 && (packsF f.f4 && (Hello.rightF f.f3 && (Hello.namedF f.f2 && Hello.prefF f.f2 headsP)))
theorem fork_eq {M k : Nat} (hM : M <= 1000000) (hk : 2000000 <= k) (f : Fk) (h : SmF M f) : root_fork.f k f.f0 f.f1 f.f2 f.f3 f.f4 = some (forkB f) := by
 obtain ⟨h0, h2, h3, h4⟩ := h
 unfold root_fork.f forkB packsF
 rw [rn_eq f.f0 (by omega) (by omega), show root_packs.f k f.f4 = some (packsG f.f4.length [] f.f4) from packs_eq (M := M) (by omega) (by omega) f.f4.length f.f4 [] h4, right_eqM f.f3 (fun y hy => by have := h3 y hy; omega) (by omega), Hello.refnamed_eq f.f2 (by omega) (by omega), Hello.hasPrefix_eq]
 simp only [Option.bind_some]
 cases rnF f.f0 <;> cases packsG f.f4.length [] f.f4 <;> cases Hello.rightF f.f3 <;> cases Hello.namedF f.f2 <;> rfl
def prevOk (p : Option ByteArray) (s : ByteArray) : Bool := match p with
 | none => true
 | some q => Op.bytesLess q.toList s.toList
def forksGo : List Fk -> Option ByteArray -> Bool
 | [], _ => true
 | f :: t, p => forkB f && (prevOk p f.f0 && forksGo t (some f.f0))
def rootF (n : Int) (pool : List ByteArray) (forks : List Fk) : Bool := forksGo forks none && (decide (0 <= n /\ n <= 1099511627776) && (packsF pool && decide (forks.length <= 16)))
def prevOf (l : List Fk) (i : Nat) : Option ByteArray := if i = 0 then none else (l[i - 1]?).map (·.f0)
theorem rd_fk (l : List Fk) (i : Nat) (h : i < l.length) : rd_T39 l (i : Int) = l[i] := by
 unfold rd_T39
 rw [Int.toNat_natCast, List.getD_eq_getElem?_getD, List.getElem?_eq_getElem h]
 rfl
theorem root_loop {M : Nat} (hM : M <= 1000000) (n : Int) (pool : List ByteArray) (forks : List Fk) (hp : ∀ s ∈ pool, s.size <= M) (hf : ∀ f ∈ forks, SmF M f) (hl : forks.length <= 1000000) : ∀ (d i k : Nat), i + d = forks.length -> 2000001 + d <= k ->
  root_Right.l0 k forks (forks.length : Int) (i : Int) n pool forks = some (forksGo (forks.drop i) (prevOf forks i) && (decide (0 <= n /\ n <= 1099511627776) && (packsF pool && decide (forks.length <= 16)))) := by
 intro d
 induction d with
 | zero =>
  intro i k h hk
  obtain ⟨k, rfl⟩ : ∃ m, k = m + 1 := ⟨k - 1, by omega⟩
  unfold root_Right.l0 packsF
  rw [if_neg (by omega), show root_packs.f k pool = some (packsG pool.length [] pool) from packs_eq (M := M) (by omega) (by omega) pool.length pool [] hp, List.drop_eq_nil_of_le (by omega)]
  simp only [Option.bind_some, forksGo, Bool.true_and]
  have e : decide ((forks.length : Int) <= 16) = decide (forks.length <= 16) := by rw [decide_eq_decide]; omega
  rw [e]
  by_cases c : 0 <= n /\ n <= 1099511627776
  ·rw [if_pos c.1, if_pos c.2, decide_eq_true c]
   cases packsG pool.length [] pool <;> rfl
  ·rw [decide_eq_false c, Bool.false_and]
   by_cases c1 : n >= 0
   ·rw [if_pos c1, if_neg (fun e => c ⟨c1, e⟩)]
   ·rw [if_neg c1]
 | succ d ih =>
  intro i k h hk
  obtain ⟨k, rfl⟩ : ∃ m, k = m + 1 := ⟨k - 1, by omega⟩
  have hi : i < forks.length := by omega
  have e : wrap64 ((i : Int) + 1) = ((i + 1 : Nat) : Int) := by unfold wrap64; omega
  have ihh := ih (i + 1) k (by omega) (by omega)
  have hp1 : prevOf forks (i + 1) = some (forks[i]).f0 := by
   unfold prevOf
   rw [if_neg (by omega), show i + 1 - 1 = i by omega, List.getElem?_eq_getElem hi]
   rfl
  rw [hp1] at ihh
  rw [List.drop_eq_getElem_cons hi]
  unfold root_Right.l0
  rw [if_pos (by omega), if_pos (by omega), if_pos (by omega), e, ihh, rd_fk forks i hi, fork_eq hM (by omega) _ (hf _ (List.getElem_mem hi))]
  simp only [Option.bind_some, forksGo]
  by_cases hf0 : forkB forks[i] = true
  ·rw [if_pos hf0, hf0, Bool.true_and]
   by_cases h0 : i = 0
   ·rw [if_neg (by omega)]
    have e2 : prevOf forks i = none := if_pos h0
    rw [e2]
    rfl
   ·have e2 : wrap64 ((i : Int) - 1) = ((i - 1 : Nat) : Int) := by unfold wrap64; omega
    have e3 : prevOf forks i = some (forks[i - 1]'(by omega)).f0 := by
     unfold prevOf
     rw [if_neg h0, List.getElem?_eq_getElem (by omega)]
     rfl
    rw [if_pos (by omega), e2, if_pos (by omega), if_pos (by omega), rd_fk forks (i - 1) (by omega), e3]
    simp only [prevOk]
    by_cases c : Op.bytesLess (forks[i - 1]'(by omega)).f0.toList forks[i].f0.toList = true
    ·rw [if_pos c, c, Bool.true_and]
    ·rw [if_neg c, Bool.eq_false_iff.2 c]; rfl
  ·rw [if_neg hf0, Bool.eq_false_iff.2 hf0]; rfl
theorem root_eq {M k : Nat} (hM : M <= 1000000) (n : Int) (pool : List ByteArray) (forks : List Fk) (hp : ∀ s ∈ pool, s.size <= M) (hf : ∀ f ∈ forks, SmF M f) (hl : forks.length <= 900000) (hk : 3000000 <= k) : root_Right.f k n pool forks = some (rootF n pool forks) :=
 root_loop hM n pool forks hp hf (by omega) forks.length 0 k (by omega) (by omega)
theorem packsG_out (n : Nat) : ∀ (l seen : List ByteArray), packsG n seen l = true -> n <= 24 /\ (∀ s ∈ l, Hello.idF s = true /\ s ∉ seen) /\ l.Nodup
 | [], seen, h => ⟨by have := of_decide_eq_true h; omega, fun s hs => absurd hs List.not_mem_nil, List.nodup_nil⟩
 | x :: t, seen, h => by
  simp only [packsG, Bool.and_eq_true, Bool.not_eq_true'] at h
  obtain ⟨h1, h2, h3⟩ := h
  obtain ⟨a, b, c⟩ := packsG_out n t (x :: seen) h3
  have hx : x ∉ seen := fun e => by
   rw [List.any_eq_false] at h1
   exact h1 x e (decide_eq_true rfl)
  refine ⟨a, fun s hs => ?_, List.nodup_cons.2 ⟨fun e => (b x e).2 List.mem_cons_self, c⟩⟩
  rcases List.mem_cons.1 hs with rfl | hs
  ·exact ⟨h2, hx⟩
  ·exact ⟨(b s hs).1, fun e => (b s hs).2 (List.mem_cons_of_mem _ e)⟩
theorem packs_out {l : List ByteArray} (h : packsF l = true) : l.length <= 24 /\ (∀ s ∈ l, Hello.idF s = true) /\ l.Nodup := by
 obtain ⟨a, b, c⟩ := packsG_out _ _ _ h
 exact ⟨a, fun s hs => (b s hs).1, c⟩
theorem forkB_out {f : Fk} (h : forkB f = true) : rnF f.f0 = true /\ packsF f.f4 = true /\ Hello.rightF f.f3 = true /\ Hello.namedF f.f2 = true /\ Hello.prefF f.f2 headsP = true := by
 unfold forkB at h
 simp only [Bool.and_eq_true] at h
 exact h
theorem forksGo_out : ∀ (l : List Fk) (p : Option ByteArray), forksGo l p = true -> ∀ f ∈ l, forkB f = true
 | [], _, _, f, hf => absurd hf List.not_mem_nil
 | x :: t, p, h, f, hf => by
  simp only [forksGo, Bool.and_eq_true] at h
  rcases List.mem_cons.1 hf with rfl | hf
  ·exact h.1
  ·exact forksGo_out t _ h.2.2 f hf
theorem rootF_out {n : Int} {pool : List ByteArray} {forks : List Fk} (h : rootF n pool forks = true) : (∀ f ∈ forks, forkB f = true) /\ (0 <= n /\ n <= 1099511627776) /\ packsF pool = true /\ forks.length <= 16 := by
 unfold rootF at h
 simp only [Bool.and_eq_true, decide_eq_true_iff] at h
 exact ⟨forksGo_out _ _ h.1, h.2.1, h.2.2.1, h.2.2.2⟩
end Go.Proofs.YtlfenakgphmepaaGreatDoor.Root
