/- Parts of the proof. -/
import Derived.Test.YtlfenakgphmepaaGreatDoorRootPlain
import Derived.Test.YtlfenakgphmepaaGreatDoorRootHeadG
section
namespace Go.Proofs.YtlfenakgphmepaaGreatDoor.Root
open Go.RowKit YtlfenakgphmepaaGreatDoorW.PrintWords Print Build
set_option linter.unusedVariables false
set_option linter.unusedSimpArgs false
def rnB (c : Int) : Bool := decide (c = 45 ∨ (97 <= c /\ c <= 122) ∨ (48 <= c /\ c <= 57))
theorem rnB_iff (c : Int) : rnB c = true <-> c = 45 ∨ (97 <= c /\ c <= 122) ∨ (48 <= c /\ c <= 57) := by unfold rnB; exact decide_eq_true_iff
theorem rn_step (c : Int) (X : Option Bool) : (if c = 45 then X else (if c < 97 then (if c < 48 then (some false) else (if c > 57 then (some false) else X)) else (if c > 122 then (if c < 48 then (some false) else (if c > 57 then (some false) else X)) else X))) = if rnB c = true then X else some false := by
 have h := rnB_iff c
 by_cases b : rnB c = true
 ·rw [if_pos b]
  have n := h.1 b
  repeat' split
  all_goals first | rfl | (exfalso; omega)
 ·rw [if_neg b]
  have n : ¬ (c = 45 ∨ (97 <= c /\ c <= 122) ∨ (48 <= c /\ c <= 57)) := fun e => b (h.2 e)
  repeat' split
  all_goals first | rfl | (exfalso; omega)
def rnFrom (s : ByteArray) : Nat -> Nat -> Bool
 | 0, _ => true
 | d + 1, i => rnB (bt s (i : Int)) && rnFrom s d (i + 1)
def rnEnd (s : ByteArray) : Bool := decide (1 <= s.size /\ s.size <= 20)
def rnF (s : ByteArray) : Bool := rnFrom s s.size 0 && rnEnd s
theorem toList_nil {s : ByteArray} : s.toList = ([] : List UInt8) <-> s.size = 0 := by
 rw [Lib.toList_data]
 constructor
 ·intro h
  have := congrArg List.length h
  rw [Array.length_toList] at this
  exact this
 ·intro h
  exact List.eq_nil_of_length_eq_zero (by rw [Array.length_toList]; exact h)
theorem rn_loop (s : ByteArray) (hl : s.size <= 9223372036854775806) : ∀ (d i k : Nat), i + d = s.size -> d + 1 <= k -> root_Named.l0 k s (s.size : Int) (i : Int) = some (rnFrom s d i && rnEnd s) := by
 intro d
 induction d with
 | zero =>
  intro i k hi hk
  obtain ⟨k, rfl⟩ : ∃ j, k = j + 1 := ⟨k - 1, by omega⟩
  simp only [root_Named.l0]
  rw [if_neg (by omega)]
  unfold rnFrom rnEnd
  rw [Bool.true_and]
  by_cases h : s.size = 0
  ·rw [if_pos (toList_nil.2 h), decide_eq_false (by omega)]
  ·rw [if_neg (fun e => h (toList_nil.1 e))]
   congr 1
   rw [decide_eq_decide]
   omega
 | succ d ih =>
  intro i k hi hk
  obtain ⟨k, rfl⟩ : ∃ j, k = j + 1 := ⟨k - 1, by omega⟩
  simp only [root_Named.l0]
  rw [if_pos (by omega), if_pos (by omega), if_pos (by omega), rn_step, w64 (by omega) (by omega), show ((i : Int) + 1) = ((i + 1 : Nat) : Int) by omega, ih (i + 1) k (by omega) (by omega)]
  simp only [rnFrom]
  by_cases b : rnB (bt s (i : Int)) = true
  ·rw [if_pos b, b, Bool.true_and]
  ·rw [if_neg b, Bool.eq_false_iff.2 b]; rfl
theorem rn_eq (s : ByteArray) (hl : s.size <= 9223372036854775806) {k : Nat} (hk : s.size + 1 <= k) : root_Named.f k s = some (rnF s) := rn_loop s hl s.size 0 k (by omega) hk
def packsG (n : Nat) : List ByteArray -> List ByteArray -> Bool
 | _, [] => decide ((n : Int) <= 24)
 | seen, x :: t => !(seen.any fun s => decide (s.data = x.data)) && (Hello.idF x && packsG n (x :: seen) t)
def packsF (l : List ByteArray) : Bool := packsG l.length [] l
theorem packs_eq {M k : Nat} (hM : M <= 9223372036854775806) (hk : M + 1 <= k) (n : Nat) : ∀ (l seen : List ByteArray), (∀ s ∈ l, s.size <= M) -> root_packs.g k n seen l = some (packsG n seen l)
 | [], seen, h => rfl
 | x :: t, seen, h => by
  have hx := h x List.mem_cons_self
  have ih := packs_eq hM hk n t (x :: seen) (fun s hs => h s (List.mem_cons_of_mem _ hs))
  simp only [root_packs.g, packsG]
  rw [if_pos (by omega), Hello.digest_eq x (by omega) (by omega)]
  simp only [Option.bind_some]
  rw [ih]
  by_cases c : (seen.any fun s => decide (s.data = x.data)) = true
  ·rw [if_pos c, c]; rfl
  ·rw [if_neg c, Bool.eq_false_iff.2 c]
   by_cases b : Hello.idF x = true
   ·rw [if_pos b, b]; simp
   ·rw [if_neg b, Bool.eq_false_iff.2 b]; simp
theorem right1_eqM (x : ByteArray) : ∀ (l : List Rf), (∀ y ∈ l, y.f0.size <= 1000000) -> refs_Right_1.f x l = some (l.any fun y => Hello.prefF x (y.f0 ++ Hello.slashT))
 | [], _ => rfl
 | y :: t, h => by
  simp only [refs_Right_1.f]
  rw [Hello.above_eq y.f0 x (by have := h y (by simp); omega)]
  simp only [Option.bind_some, List.any_cons]
  by_cases b : Hello.prefF x (y.f0 ++ Hello.slashT) = true
  ·rw [if_pos b, b, Bool.true_or]
  ·rw [if_neg b, right1_eqM x t (fun z hz => h z (by simp [hz])), Bool.eq_false_iff.2 b, Bool.false_or]
theorem rightGo_eqM (l : List Rf) (hl : ∀ y ∈ l, y.f0.size <= 1000000 /\ y.f1.size <= 1000000) {k : Nat} (hk : 2000000 <= k) : ∀ (t : List Rf) (p : Option ByteArray), (∀ y ∈ t, y.f0.size <= 1000000 /\ y.f1.size <= 1000000) -> refs_Right.go k l t p = some (Hello.rightGo l t p)
 | [], _, _ => rfl
 | y :: t, p, h => by
  have hy := h y (by simp)
  simp only [refs_Right.go, Hello.rightGo]
  rw [Hello.refnamed_eq y.f0 (by omega) (by omega)]
  simp only [Option.bind_some]
  by_cases a : Hello.namedF y.f0 = true
  ·rw [if_pos a, Hello.digest_eq y.f1 (by omega) (by omega), a, Bool.true_and]
   simp only [Option.bind_some]
   by_cases b : Hello.idF y.f1 = true
   ·rw [if_pos b, b, Bool.true_and]
    by_cases c : notAbove p y.f0 = true
    ·rw [if_pos c, c]; rfl
    ·rw [if_neg c, Bool.eq_false_iff.2 c, right1_eqM y.f0 l (fun z hz => (hl z hz).1)]
     simp only [Option.bind_some, Bool.not_false, Bool.true_and]
     by_cases d : (l.any fun z => Hello.prefF y.f0 (z.f0 ++ Hello.slashT)) = true
     ·rw [if_pos d, d]; rfl
     ·rw [if_neg d, rightGo_eqM l hl hk t _ (fun z hz => h z (by simp [hz])), Bool.eq_false_iff.2 d]; rfl
   ·rw [if_neg b, Bool.eq_false_iff.2 b, Bool.false_and]
  ·rw [if_neg a, Bool.eq_false_iff.2 a, Bool.false_and]
theorem right_eqM (l : List Rf) (hl : ∀ y ∈ l, y.f0.size <= 1000000 /\ y.f1.size <= 1000000) {k : Nat} (hk : 2000000 <= k) : refs_Right.f k l = some (Hello.rightF l) := rightGo_eqM l hl hk l none hl
def headsP : ByteArray := ⟨#[104, 101, 97, 100, 115, 47]⟩
def forkB (f : Fk) : Bool := rnF f.f0 && (packsF f.f4 && (Hello.rightF f.f3 && (Hello.namedF f.f2 && Hello.prefF f.f2 headsP)))
theorem fork_eq {M k : Nat} (hM : M <= 1000000) (hk : 2000000 <= k) (f : Fk) (h : SmF M f) : root_fork.f k f.f0 f.f1 f.f2 f.f3 f.f4 = some (forkB f) := by
 obtain ⟨h0, h2, h3, h4⟩ := h
 unfold root_fork.f forkB packsF
 rw [rn_eq f.f0 (by omega) (by omega), show root_packs.f k f.f4 = some (packsG f.f4.length [] f.f4) from packs_eq (M := M) (by omega) (by omega) f.f4.length f.f4 [] h4, right_eqM f.f3 (fun y hy => by have := h3 y hy; omega) (by omega), Hello.refnamed_eq f.f2 (by omega) (by omega), Hello.hasPrefix_eq]
 simp only [Option.bind_some]
 cases rnF f.f0 <;> cases packsG f.f4.length [] f.f4 <;> cases Hello.rightF f.f3 <;> cases Hello.namedF f.f2 <;> rfl
def prevOk (p : Option ByteArray) (s : ByteArray) : Bool := match p with
 | none => true
 | some q => Op.bytesLess q.toList s.toList
def forksGo : List Fk -> Option ByteArray -> Bool
 | [], _ => true
 | f :: t, p => forkB f && (prevOk p f.f0 && forksGo t (some f.f0))
def rootF (n : Int) (pool : List ByteArray) (forks : List Fk) : Bool := forksGo forks none && (decide (0 <= n /\ n <= 1099511627776) && (packsF pool && decide (forks.length <= 16)))
def prevOf (l : List Fk) (i : Nat) : Option ByteArray := if i = 0 then none else (l[i - 1]?).map (·.f0)
theorem rd_fk (l : List Fk) (i : Nat) (h : i < l.length) : qT l (i : Int) = l[i] := by
 unfold qT
 rw [Int.toNat_natCast, List.getD_eq_getElem?_getD, List.getElem?_eq_getElem h]
 rfl
theorem root_loop {M : Nat} (hM : M <= 1000000) (n : Int) (pool : List ByteArray) (forks : List Fk) (hp : ∀ s ∈ pool, s.size <= M) (hf : ∀ f ∈ forks, SmF M f) (hl : forks.length <= 1000000) : ∀ (d i k : Nat), i + d = forks.length -> 2000001 + d <= k ->
  root_Right.l0 k forks (forks.length : Int) (i : Int) n pool forks = some (forksGo (forks.drop i) (prevOf forks i) && (decide (0 <= n /\ n <= 1099511627776) && (packsF pool && decide (forks.length <= 16)))) := by
 intro d
 induction d with
 | zero =>
  intro i k h hk
  obtain ⟨k, rfl⟩ : ∃ m, k = m + 1 := ⟨k - 1, by omega⟩
  unfold root_Right.l0 packsF
  rw [if_neg (by omega), show root_packs.f k pool = some (packsG pool.length [] pool) from packs_eq (M := M) (by omega) (by omega) pool.length pool [] hp, List.drop_eq_nil_of_le (by omega)]
  simp only [Option.bind_some, forksGo, Bool.true_and]
  have e : decide ((forks.length : Int) <= 16) = decide (forks.length <= 16) := by rw [decide_eq_decide]; omega
  rw [e]
  by_cases c : 0 <= n /\ n <= 1099511627776
  ·rw [if_pos c.1, if_pos c.2, decide_eq_true c]
   cases packsG pool.length [] pool <;> rfl
  ·rw [decide_eq_false c, Bool.false_and]
   by_cases c1 : n >= 0
   ·rw [if_pos c1, if_neg (fun e => c ⟨c1, e⟩)]
   ·rw [if_neg c1]
 | succ d ih =>
  intro i k h hk
  obtain ⟨k, rfl⟩ : ∃ m, k = m + 1 := ⟨k - 1, by omega⟩
  have hi : i < forks.length := by omega
  have e : wrap64 ((i : Int) + 1) = ((i + 1 : Nat) : Int) := by unfold wrap64; omega
  have ihh := ih (i + 1) k (by omega) (by omega)
  have hp1 : prevOf forks (i + 1) = some (forks[i]).f0 := by
   unfold prevOf
   rw [if_neg (by omega), show i + 1 - 1 = i by omega, List.getElem?_eq_getElem hi]
   rfl
  rw [hp1] at ihh
  rw [List.drop_eq_getElem_cons hi]
  unfold root_Right.l0
  rw [if_pos (by omega), if_pos (by omega), if_pos (by omega), e, ihh, rd_fk forks i hi, fork_eq hM (by omega) _ (hf _ (List.getElem_mem hi))]
  simp only [Option.bind_some, forksGo]
  by_cases hf0 : forkB forks[i] = true
  ·rw [if_pos hf0, hf0, Bool.true_and]
   by_cases h0 : i = 0
   ·rw [if_neg (by omega)]
    have e2 : prevOf forks i = none := if_pos h0
    rw [e2]
    rfl
   ·have e2 : wrap64 ((i : Int) - 1) = ((i - 1 : Nat) : Int) := by unfold wrap64; omega
    have e3 : prevOf forks i = some (forks[i - 1]'(by omega)).f0 := by
     unfold prevOf
     rw [if_neg h0, List.getElem?_eq_getElem (by omega)]
     rfl
    rw [if_pos (by omega), e2, if_pos (by omega), if_pos (by omega), rd_fk forks (i - 1) (by omega), e3]
    simp only [prevOk]
    by_cases c : Op.bytesLess (forks[i - 1]'(by omega)).f0.toList forks[i].f0.toList = true
    ·rw [if_pos c, c, Bool.true_and]
    ·rw [if_neg c, Bool.eq_false_iff.2 c]; rfl
  ·rw [if_neg hf0, Bool.eq_false_iff.2 hf0]; rfl
theorem root_eq {M k : Nat} (hM : M <= 1000000) (n : Int) (pool : List ByteArray) (forks : List Fk) (hp : ∀ s ∈ pool, s.size <= M) (hf : ∀ f ∈ forks, SmF M f) (hl : forks.length <= 900000) (hk : 3000000 <= k) : root_Right.f k n pool forks = some (rootF n pool forks) :=
 root_loop hM n pool forks hp hf (by omega) forks.length 0 k (by omega) (by omega)
theorem packsG_out (n : Nat) : ∀ (l seen : List ByteArray), packsG n seen l = true -> n <= 24 /\ (∀ s ∈ l, Hello.idF s = true /\ s ∉ seen) /\ l.Nodup
 | [], seen, h => ⟨by have := of_decide_eq_true h; omega, fun s hs => absurd hs List.not_mem_nil, List.nodup_nil⟩
 | x :: t, seen, h => by
  simp only [packsG, Bool.and_eq_true, Bool.not_eq_true'] at h
  obtain ⟨h1, h2, h3⟩ := h
  obtain ⟨a, b, c⟩ := packsG_out n t (x :: seen) h3
  have hx : x ∉ seen := fun e => by
   rw [List.any_eq_false] at h1
   exact h1 x e (decide_eq_true rfl)
  refine ⟨a, fun s hs => ?_, List.nodup_cons.2 ⟨fun e => (b x e).2 List.mem_cons_self, c⟩⟩
  rcases List.mem_cons.1 hs with rfl | hs
  ·exact ⟨h2, hx⟩
  ·exact ⟨(b s hs).1, fun e => (b s hs).2 (List.mem_cons_of_mem _ e)⟩
theorem packs_out {l : List ByteArray} (h : packsF l = true) : l.length <= 24 /\ (∀ s ∈ l, Hello.idF s = true) /\ l.Nodup := by
 obtain ⟨a, b, c⟩ := packsG_out _ _ _ h
 exact ⟨a, fun s hs => (b s hs).1, c⟩
theorem forkB_out {f : Fk} (h : forkB f = true) : rnF f.f0 = true /\ packsF f.f4 = true /\ Hello.rightF f.f3 = true /\ Hello.namedF f.f2 = true /\ Hello.prefF f.f2 headsP = true := by
 unfold forkB at h
 simp only [Bool.and_eq_true] at h
 exact h
theorem forksGo_out : ∀ (l : List Fk) (p : Option ByteArray), forksGo l p = true -> ∀ f ∈ l, forkB f = true
 | [], _, _, f, hf => absurd hf List.not_mem_nil
 | x :: t, p, h, f, hf => by
  simp only [forksGo, Bool.and_eq_true] at h
  rcases List.mem_cons.1 hf with rfl | hf
  ·exact h.1
  ·exact forksGo_out t _ h.2.2 f hf
theorem rootF_out {n : Int} {pool : List ByteArray} {forks : List Fk} (h : rootF n pool forks = true) : (∀ f ∈ forks, forkB f = true) /\ (0 <= n /\ n <= 1099511627776) /\ packsF pool = true /\ forks.length <= 16 := by
 unfold rootF at h
 simp only [Bool.and_eq_true, decide_eq_true_iff] at h
 exact ⟨forksGo_out _ _ h.1, h.2.1, h.2.2.1, h.2.2.2⟩
end Go.Proofs.YtlfenakgphmepaaGreatDoor.Root
end
section
namespace Go.Proofs.YtlfenakgphmepaaGreatDoor.Root
open Go.RowKit YtlfenakgphmepaaGreatDoorW.PrintWords Print Build
set_option linter.unusedVariables false
set_option linter.unusedSimpArgs false
def decL : List UInt8 -> Nat -> Int -> Option Int
 | [], _, n => some n
 | b :: t, i, n => if 48 <= (b.toNat : Int) /\ (b.toNat : Int) <= 57 /\ i ≠ 13 then decL t (i + 1) (10 * n + ((b.toNat : Int) - 48)) else none
theorem bt_get (s : ByteArray) (i : Nat) (h : i < s.size) : bt s (i : Int) = ((s.data.toList[i]'(by simpa using h)).toNat : Int) := by
 rw [<- bt_at s (i : Int) (by rw [Int.toNat_natCast]; exact h)]
 simp only [Int.toNat_natCast]
 rfl
theorem decR_list (s : ByteArray) : ∀ (d i : Nat) (n : Int), i + d = s.size -> decR s d i n = decL (s.data.toList.drop i) i n
 | 0, i, n, h => by
  have e : s.data.toList.drop i = [] := List.drop_eq_nil_of_le (by rw [Array.length_toList]; show s.size <= i; omega)
  rw [e]
  rfl
 | d + 1, i, n, h => by
  have hi : i < s.data.toList.length := by rw [Array.length_toList]; show i < s.size; omega
  have hb : bt s (i : Int) = ((s.data.toList[i]).toNat : Int) := bt_get s i (by omega)
  rw [List.drop_eq_getElem_cons hi]
  simp only [decR, decL]
  rw [hb]
  split
  ·exact decR_list s d (i + 1) _ (by omega)
  ·rfl
theorem pow13 : (10 : Nat) ^ 13 = 10000000000000 := by decide
theorem dig_nat {u : Nat} (h : u < 10) : ((UInt8.ofNat (48 + u)).toNat : Int) = 48 + (u : Int) := by
 rw [show (UInt8.ofNat (48 + u)).toNat = (48 + u) % 256 from rfl]
 omega
theorem decL_digits : ∀ (u : Nat) (t : List UInt8), Lib.nDigits u <= 13 -> decL (Lib.decDigits u ++ t) 0 0 = decL t (Lib.nDigits u) (u : Int) := by
 intro u
 induction u using Nat.strongRecOn with
 | _ u ih =>
  intro t hn
  by_cases h : u < 10
  ·rw [Lib.decDigits, dif_pos h, Lib.nDigits_small h]
   show (if _ then _ else _) = _
   rw [dig_nat h, if_pos (by omega)]
   congr 1
   omega
  ·rw [Lib.decDigits, dif_neg h, Lib.nDigits_big h, List.append_assoc, ih (u / 10) (by omega) _ (by rw [Lib.nDigits_big h] at hn; omega)]
   rw [Lib.nDigits_big h] at hn
   show (if _ then _ else _) = _
   rw [dig_nat (Nat.mod_lt u (by decide)), if_pos (by omega)]
   congr 1
   omega
theorem nDigits_le : ∀ (k u : Nat), 1 <= k -> u < 10 ^ k -> Lib.nDigits u <= k
 | 0, u, h, _ => by omega
 | k + 1, u, _, h2 => by
  by_cases h : u < 10
  ·rw [Lib.nDigits_small h]; omega
  ·rw [Lib.nDigits_big h]
   have h0 : 1 <= k := by
    rcases Nat.eq_zero_or_pos k with e | e
    ·subst e; rw [Nat.zero_add, Nat.pow_one] at h2; omega
    ·exact e
   have := nDigits_le k (u / 10) h0 (by rw [Nat.pow_succ] at h2; omega)
   omega
theorem digits_mem : ∀ (u : Nat), ∀ b ∈ Lib.decDigits u, 48 <= b.toNat /\ b.toNat <= 57 := by
 intro u
 induction u using Nat.strongRecOn with
 | _ u ih =>
  intro b hb
  by_cases h : u < 10
  ·rw [Lib.decDigits, dif_pos h] at hb
   have e := List.mem_singleton.1 hb
   have := dig_nat h
   rw [<- e] at this
   omega
  ·rw [Lib.decDigits, dif_neg h] at hb
   rcases List.mem_append.1 hb with hb | hb
   ·exact ih (u / 10) (by omega) b hb
   ·have e := List.mem_singleton.1 hb
    have := dig_nat (Nat.mod_lt u (show 10 > 0 by decide))
    rw [<- e] at this
    omega
theorem itoa_list {n : Int} (h : 0 <= n) : (itoaB n).data.toList = Lib.decDigits n.toNat := by
 unfold itoaB Lib.itoa
 rw [if_neg (by omega)]
theorem itoa_bytes {n : Int} (h : 0 <= n) : ∀ b ∈ (itoaB n).data.toList, 48 <= b.toNat /\ b.toNat <= 57 := by
 rw [itoa_list h]
 exact digits_mem _
theorem dec_itoa {n : Int} (h0 : 0 <= n) (h1 : n <= 1099511627776) : decF (itoaB n) = (n, true) := by
 have hd : decR (itoaB n) (itoaB n).size 0 0 = some n := by
  rw [decR_list _ _ 0 0 (by omega), List.drop_zero, itoa_list h0]
  have := decL_digits n.toNat [] (nDigits_le 13 _ (by decide) (by have := pow13; omega))
  rw [List.append_nil] at this
  rw [this]
  show some _ = some n
  congr 1
  omega
 rw [dec_some hd, if_pos ⟨h1, rfl⟩]
theorem itoa_size {n : Int} (h0 : 0 <= n) (h1 : n <= 1099511627776) : (itoaB n).size <= 13 /\ 1 <= (itoaB n).size := by
 have e : (itoaB n).size = (Lib.decDigits n.toNat).length := by
  rw [<- itoa_list h0, Array.length_toList]
  rfl
 rw [e, Lib.decDigits_length]
 exact ⟨nDigits_le 13 _ (by decide) (by have := pow13; omega), Lib.nDigits_pos _⟩
def plainC (c : UInt8) (s : ByteArray) : Prop := c ∉ s.data.toList
theorem plain_app {c : UInt8} {a b : ByteArray} (ha : plainC c a) (hb : plainC c b) : plainC c (a ++ b) := by
 unfold plainC at *
 rw [ByteArray.data_append, Array.toList_append, List.mem_append]
 exact fun e => e.elim ha hb
theorem indexB_one (c : UInt8) (s : ByteArray) : Lib.indexB s ⟨#[c]⟩ = Lib.indexByte s.data.toList c := Lib.index_one _ _
theorem index_miss {c : UInt8} : ∀ {l : List UInt8}, c ∉ l -> Lib.indexByte l c = -1
 | [], _ => rfl
 | b :: l, h => by
  unfold Lib.indexByte
  rw [if_neg (fun e => h (by rw [eq_of_beq e]; exact List.mem_cons_self)), if_pos (by rw [index_miss (fun e => h (List.mem_cons_of_mem _ e))]; rfl)]
theorem cuts_miss {c : UInt8} {s : ByteArray} (h : plainC c s) : cutsF c s = [s] := by
 unfold cutsF
 exact Lib.splitB_miss _ _ _ _ (by rw [indexB_one, index_miss h])
theorem cuts_at (c : UInt8) (s : ByteArray) (i : Nat) (h : Lib.indexB s ⟨#[c]⟩ = i) : cutsF c s = s.extract 0 i :: cutsF c (s.extract (i + 1) s.size) := by
 have hc := Lib.countB_hit s ⟨#[c]⟩ i (Nat.le_refl 1) h
 unfold cutsF
 rw [show Lib.countB s ⟨#[c]⟩ = Lib.countB (s.extract (i + 1) s.size) ⟨#[c]⟩ + 1 from by rw [hc]; show 1 + _ = _; rw [Nat.add_comm]; rfl]
 show (if Lib.indexB s ⟨#[c]⟩ == -1 then [s] else _) = _
 rw [h, if_neg (by simp), Int.toNat_natCast]
 rfl
theorem ba_ext {a b : ByteArray} (h : a.data.toList = b.data.toList) : a = b := ByteArray.ext (Array.toList_inj.1 h)
theorem ext_from (a b : ByteArray) : (a ++ b).extract a.size (a ++ b).size = b := by
 refine ba_ext ?_
 rw [ByteArray.data_extract, Array.toList_extract, List.extract_eq_take_drop, ByteArray.data_append, Array.toList_append]
 have e : a.size = a.data.toList.length := by rw [Array.length_toList]; rfl
 rw [e, List.drop_left, List.take_of_length_le]
 rw [ByteArray.size_append]
 have e2 : b.size = b.data.toList.length := by rw [Array.length_toList]; rfl
 omega
theorem ext_to (a b : ByteArray) : (a ++ b).extract 0 a.size = a := by
 refine ba_ext ?_
 rw [ByteArray.data_extract, Array.toList_extract, List.extract_eq_take_drop, ByteArray.data_append, Array.toList_append]
 have e : a.size = a.data.toList.length := by rw [Array.length_toList]; rfl
 rw [e, List.drop_zero, Nat.sub_zero, List.take_left]
theorem cuts_app {c : UInt8} {a : ByteArray} (h : plainC c a) (t : ByteArray) : cutsF c ((a ++ (⟨#[c]⟩ : ByteArray)) ++ t) = a :: cutsF c t := by
 have hi : Lib.indexB ((a ++ (⟨#[c]⟩ : ByteArray)) ++ t) ⟨#[c]⟩ = (a.size : Int) := by
  rw [indexB_one, ByteArray.data_append, ByteArray.data_append, Array.toList_append, Array.toList_append, List.append_assoc]
  exact (Hello.indexByte_app a.data.toList t.data.toList c h).trans (by rw [Array.length_toList]; rfl)
 rw [cuts_at c _ a.size hi]
 congr 1
 ·rw [ByteArray.append_assoc]
  exact ext_to a _
 ·congr 1
  have e : (a ++ (⟨#[c]⟩ : ByteArray)).size = a.size + 1 := by rw [ByteArray.size_append]; rfl
  rw [<- e]
  exact ext_from _ t
theorem joinA_app (l : List ByteArray) : ∀ acc : ByteArray, joinA acc l = acc ++ joinA ⟨#[]⟩ l := by
 induction l with
 | nil => intro acc; show acc = acc ++ (⟨#[]⟩ : ByteArray); exact (ByteArray.append_empty (b := acc)).symm
 | cons x t ih =>
  intro acc
  show joinA (acc ++ lineS [x]) t = acc ++ joinA ((⟨#[]⟩ : ByteArray) ++ lineS [x]) t
  rw [ih (acc ++ lineS [x]), ih ((⟨#[]⟩ : ByteArray) ++ lineS [x]), ByteArray.append_assoc]
  congr 2
end Go.Proofs.YtlfenakgphmepaaGreatDoor.Root
end
section
namespace Go.Proofs.YtlfenakgphmepaaGreatDoor.Root
open Go.RowKit YtlfenakgphmepaaGreatDoorW.PrintWords Print Build
set_option linter.unusedVariables false
set_option linter.unusedSimpArgs false
theorem bytes_of {s : ByteArray} {Q : Int -> Prop} (h : ∀ j, j < s.size -> Q (bt s (j : Int))) : ∀ b ∈ s.data.toList, Q (b.toNat : Int) := by
 intro b hb
 obtain ⟨j, hj, rfl⟩ := List.mem_iff_getElem.1 hb
 have hz : j < s.size := by rw [Array.length_toList] at hj; exact hj
 have := h j hz
 rw [bt_get s j hz] at this
 exact this
theorem plain_of {c : UInt8} {s : ByteArray} (h : ∀ j, j < s.size -> bt s (j : Int) ≠ (c.toNat : Int)) : plainC c s := fun e => bytes_of (Q := fun z => z ≠ (c.toNat : Int)) h c e rfl
theorem rnFrom_at (s : ByteArray) : ∀ (d i : Nat), rnFrom s d i = true -> ∀ j, i <= j -> j < i + d -> rnB (bt s (j : Int)) = true
 | 0, i, _, j, h1, h2 => by omega
 | d + 1, i, h, j, h1, h2 => by
  unfold rnFrom at h
  rw [Bool.and_eq_true] at h
  by_cases e : j = i
  ·rw [e]; exact h.1
  ·exact rnFrom_at s d (i + 1) h.2 j (by omega) (by omega)
theorem rn_plain {s : ByteArray} (h : rnF s = true) {c : UInt8} (hc : rnB (c.toNat : Int) = false) : plainC c s := by
 unfold rnF at h
 rw [Bool.and_eq_true] at h
 refine plain_of (fun j hj e => ?_)
 have := rnFrom_at s s.size 0 h.1 j (Nat.zero_le _) (by omega)
 rw [e, hc] at this
 cases this
theorem rn_size {s : ByteArray} (h : rnF s = true) : 1 <= s.size /\ s.size <= 20 := by
 unfold rnF rnEnd at h
 rw [Bool.and_eq_true, decide_eq_true_iff] at h
 exact h.2
theorem letFrom_at (s : ByteArray) : ∀ (d i : Nat), Hello.letFrom s d i = true -> ∀ j, i <= j -> j < i + d -> Hello.letB (bt s (j : Int)) = true
 | 0, i, _, j, h1, h2 => by omega
 | d + 1, i, h, j, h1, h2 => by
  unfold Hello.letFrom at h
  rw [Bool.and_eq_true] at h
  by_cases e : j = i
  ·rw [e]; exact h.1
  ·exact letFrom_at s d (i + 1) h.2 j (by omega) (by omega)
theorem part_plain {s : ByteArray} (h : Hello.partF s = true) {c : UInt8} (hc : Hello.letB (c.toNat : Int) = false) : plainC c s := by
 unfold Hello.partF at h
 rw [Bool.and_eq_true] at h
 refine plain_of (fun j hj e => ?_)
 have := letFrom_at s s.size 0 h.1 j (Nat.zero_le _) (by omega)
 rw [e, hc] at this
 cases this
theorem id_plainC {s : ByteArray} (h : Hello.idF s = true) {c : UInt8} (hc : Hello.hexB (c.toNat : Int) = false) : plainC c s := fun e => by
 have h1 := Hello.id_bytes h c e
 have : Hello.hexB (c.toNat : Int) = true := (Hello.hexB_iff _).2 (by omega)
 rw [hc] at this
 cases this
theorem mem_cuts (c : UInt8) : ∀ (n : Nat) (s : ByteArray), s.size <= n -> ∀ b ∈ s.data.toList, b = c ∨ ∃ p ∈ cutsF c s, b ∈ p.data.toList := by
 intro n
 induction n with
 | zero =>
  intro s hs b hb
  have : s.data.toList = [] := List.eq_nil_of_length_eq_zero (by rw [Array.length_toList]; show s.size = 0; omega)
  rw [this] at hb
  cases hb
 | succ n ih =>
  intro s hs b hb
  by_cases h : c ∈ s.data.toList
  ·have hge := Lib.indexByte_ge s.data.toList c
   by_cases hm : Lib.indexByte s.data.toList c = -1
   ·obtain ⟨k, hk, e⟩ := List.mem_iff_getElem.1 h
    exact absurd (by rw [List.getElem?_eq_getElem hk, e]) (Lib.indexByte_none hm k)
   ·obtain ⟨o, ho⟩ : ∃ o : Nat, Lib.indexByte s.data.toList c = o := ⟨(Lib.indexByte s.data.toList c).toNat, by omega⟩
    have h1 := Lib.indexByte_some ho
    have hlt := (List.getElem?_eq_some_iff.1 h1.1).1
    have hz : s.data.toList.length = s.size := by rw [Array.length_toList]; rfl
    have hcut := cuts_at c s o ((indexB_one c s).trans ho)
    have e1 : (s.extract 0 o).data.toList = s.data.toList.take o := by
     rw [ByteArray.data_extract, Array.toList_extract, List.extract_eq_take_drop, List.drop_zero, Nat.sub_zero]
    have e2 : (s.extract (o + 1) s.size).data.toList = s.data.toList.drop (o + 1) := by
     rw [ByteArray.data_extract, Array.toList_extract, List.extract_eq_take_drop, List.take_of_length_le]
     rw [List.length_drop]
     omega
    have hb2 : b ∈ s.data.toList.take o ++ s.data.toList.drop o := by rw [List.take_append_drop]; exact hb
    rw [List.drop_eq_getElem_cons hlt] at hb2
    rcases List.mem_append.1 hb2 with hb2 | hb2
    ·exact Or.inr ⟨_, by rw [hcut]; exact List.mem_cons_self, by rw [e1]; exact hb2⟩
    ·rcases List.mem_cons.1 hb2 with hb2 | hb2
     ·left
      rw [hb2]
      have := h1.1
      rw [List.getElem?_eq_getElem hlt] at this
      exact Option.some.inj this
     ·rcases ih (s.extract (o + 1) s.size) (by rw [ByteArray.size_extract]; omega) b (by rw [e2]; exact hb2) with h3 | ⟨p, hp, h3⟩
      ·exact Or.inl h3
      ·exact Or.inr ⟨p, by rw [hcut]; exact List.mem_cons_of_mem _ hp, h3⟩
  ·exact Or.inr ⟨s, by rw [cuts_miss h]; exact List.mem_singleton.2 rfl, hb⟩
theorem first_plain {p : ByteArray} (h : Hello.firstF p = true) {c : UInt8} (hc : Hello.letB (c.toNat : Int) = false) : plainC c p := by
 unfold Hello.firstF at h
 rw [decide_eq_true_iff, Lib.toList_data] at h
 intro e
 rcases h with h | h <;> rw [h] at e <;> simp only [List.mem_cons, List.not_mem_nil, or_false] at e
 ·rcases e with rfl | rfl | rfl | rfl | rfl <;> exact absurd hc (by decide)
 ·rcases e with rfl | rfl | rfl | rfl <;> exact absurd hc (by decide)
theorem named_plain {s : ByteArray} (h : Hello.namedF s = true) {c : UInt8} (hc : Hello.letB (c.toNat : Int) = false) (hs : c ≠ 47) : plainC c s := by
 unfold Hello.namedF at h
 simp only [Bool.and_eq_true, decide_eq_true_iff] at h
 intro e
 rcases mem_cuts 47 s.size s (Nat.le_refl _) c e with h1 | ⟨p, hp, h1⟩
 ·exact hs h1
 ·have hp' : p ∈ Hello.piecesF s := hp
  obtain ⟨hn, hf, ha⟩ := h
  cases hx : Hello.piecesF s with
  | nil => rw [hx] at hp'; cases hp'
  | cons x t =>
   rw [hx] at hp' hf ha
   rcases List.mem_cons.1 hp' with rfl | hp'
   ·exact first_plain hf hc h1
   ·exact part_plain (List.all_eq_true.1 ha p hp') hc h1
theorem joinA_two (a b : List ByteArray) : ∀ acc : ByteArray, joinA acc (a ++ b) = joinA (joinA acc a) b := by
 induction a with
 | nil => intro acc; rfl
 | cons x t ih => intro acc; exact ih _
def forkLine (f : Fk) : ByteArray := joinS [forkT, f.f0, linkT f.f1, f.f2, itoaB f.f3.length, itoaB f.f4.length]
def forkLs (f : Fk) : List ByteArray := forkLine f :: (f.f3.map Hello.refT ++ f.f4)
def rootLs (n : Int) (pool : List ByteArray) (forks : List Fk) : List ByteArray :=
 joinS [netT, itoaB n] :: joinS [poolT, itoaB pool.length] :: (pool ++ joinS [forksT, itoaB forks.length] :: forks.flatMap forkLs)
theorem textG_lines {P : List Rf -> ByteArray} : ∀ (forks : List Fk) (acc : ByteArray), (∀ f ∈ forks, P f.f3 = joinA ⟨#[]⟩ (f.f3.map Hello.refT)) -> textG P acc forks = joinA acc (forks.flatMap forkLs)
 | [], acc, h => rfl
 | f :: t, acc, h => by
  show textG P (joinA ((acc ++ lineS [forkT, f.f0, linkT f.f1, f.f2, itoaB f.f3.length, itoaB f.f4.length]) ++ P f.f3) f.f4) t = _
  rw [textG_lines t _ (fun g hg => h g (List.mem_cons_of_mem _ hg)), h f List.mem_cons_self, <- joinA_app, List.flatMap_cons, joinA_two]
  congr 1
  show _ = joinA (joinA acc [forkLine f]) (f.f3.map Hello.refT ++ f.f4)
  rw [joinA_two]
  rfl
theorem textP_lines {P : List Rf -> ByteArray} (n : Int) (pool : List ByteArray) (forks : List Fk) (h : ∀ f ∈ forks, P f.f3 = joinA ⟨#[]⟩ (f.f3.map Hello.refT)) : textP P n pool forks = joinA ⟨#[]⟩ (rootLs n pool forks) := by
 unfold textP
 rw [textG_lines forks _ h]
 have e1 : joinA (lineS [netT, itoaB n] ++ lineS [poolT, itoaB pool.length]) pool ++ lineS [forksT, itoaB forks.length] = joinA ⟨#[]⟩ (joinS [netT, itoaB n] :: joinS [poolT, itoaB pool.length] :: (pool ++ [joinS [forksT, itoaB forks.length]])) := by
  show _ = joinA (((⟨#[]⟩ : ByteArray) ++ lineS [netT, itoaB n]) ++ lineS [poolT, itoaB pool.length]) (pool ++ [joinS [forksT, itoaB forks.length]])
  rw [joinA_two, empty_app]
  rfl
 rw [e1, <- joinA_two]
 unfold rootLs
 congr 1
 simp
theorem cuts_joinA {l : List ByteArray} : (∀ s ∈ l, plainC 10 s) -> ∀ t : ByteArray, cutsF 10 (joinA ⟨#[]⟩ l ++ t) = l ++ cutsF 10 t := by
 induction l with
 | nil =>
  intro h t
  show cutsF 10 ((⟨#[]⟩ : ByteArray) ++ t) = _
  rw [empty_app]
  rfl
 | cons x l ih =>
  intro h t
  show cutsF 10 (joinA ((⟨#[]⟩ : ByteArray) ++ (x ++ (⟨#[10]⟩ : ByteArray))) l ++ t) = _
  rw [empty_app, joinA_app, ByteArray.append_assoc, cuts_app (h x List.mem_cons_self), ih (fun s hs => h s (List.mem_cons_of_mem _ hs))]
  rfl
theorem joinG_app (l : List ByteArray) : ∀ a b : ByteArray, joinG (a ++ b) l = a ++ joinG b l := by
 induction l with
 | nil => intro a b; rfl
 | cons y t ih =>
  intro a b
  show joinG (((a ++ b) ++ (⟨#[32]⟩ : ByteArray)) ++ y) t = a ++ joinG ((b ++ (⟨#[32]⟩ : ByteArray)) ++ y) t
  rw [<- ih, ByteArray.append_assoc, ByteArray.append_assoc, ByteArray.append_assoc]
theorem cuts_words : ∀ (x : ByteArray) (l : List ByteArray), (∀ s ∈ x :: l, plainC 32 s) -> cutsF 32 (joinG x l) = x :: l
 | x, [], h => cuts_miss (h x List.mem_cons_self)
 | x, y :: t, h => by
  show cutsF 32 (joinG ((x ++ (⟨#[32]⟩ : ByteArray)) ++ y) t) = _
  rw [joinG_app, cuts_app (h x List.mem_cons_self), cuts_words y t (fun s hs => h s (List.mem_cons_of_mem _ hs))]
theorem plain_joinG {c : UInt8} (hc : c ≠ 32) : ∀ (l : List ByteArray) (x : ByteArray), (∀ s ∈ x :: l, plainC c s) -> plainC c (joinG x l)
 | [], x, h => h x List.mem_cons_self
 | y :: t, x, h => by
  show plainC c (joinG ((x ++ (⟨#[32]⟩ : ByteArray)) ++ y) t)
  refine plain_joinG hc t _ (fun s hs => ?_)
  rcases List.mem_cons.1 hs with rfl | hs
  ·refine plain_app (plain_app (h x List.mem_cons_self) (fun e => ?_)) (h y (List.mem_cons_of_mem _ List.mem_cons_self))
   exact hc (List.mem_singleton.1 e)
  ·exact h s (List.mem_cons_of_mem _ (List.mem_cons_of_mem _ hs))
theorem itoa_plain {n : Int} (h : 0 <= n) {c : UInt8} (hc : c.toNat < 48) : plainC c (itoaB n) := fun e => by
 have := itoa_bytes h c e
 omega
theorem words_line {first : ByteArray} {ws rest : List ByteArray} {many : Nat} (h : ∀ s ∈ first :: ws, plainC 32 s) (hm : ws.length + 1 = many) : wordsF first many (joinS (first :: ws) :: rest) false = (first :: ws, rest, false) := by
 have e : someF 1 (joinS (first :: ws) :: rest) false = ([joinS (first :: ws)], rest, false) := some_ok (by simp)
 have hh : hd0 (joinS (first :: ws) :: rest) = joinG first ws := rfl
 unfold wordsF
 rw [e, hh, cuts_words first ws h, if_neg (show ¬ (false = true) from fun e => Bool.noConfusion e), if_pos ⟨hm, rfl⟩]
end Go.Proofs.YtlfenakgphmepaaGreatDoor.Root
end
section
namespace Go.Proofs.YtlfenakgphmepaaGreatDoor.Root
open Go.RowKit YtlfenakgphmepaaGreatDoorW.PrintWords Print Build
set_option linter.unusedVariables false
set_option linter.unusedSimpArgs false
theorem rightF_out {l : List Rf} (h : Hello.rightF l = true) : l.length <= 64 /\ ∀ y ∈ l, Hello.namedF y.f0 = true /\ Hello.idF y.f1 = true := Hello.rightGo_out l l none h
theorem rf_size {l : List Rf} (h : Hello.rightF l = true) : ∀ y ∈ l, y.f0.size <= 80 /\ y.f1.size = 64 := fun y hy => ⟨Hello.named_size ((rightF_out h).2 y hy).1, Hello.id_size ((rightF_out h).2 y hy).2⟩
theorem putg_eq : ∀ (l : List Rf) (acc : ByteArray), (∀ y ∈ l, y.f0.size <= 80 /\ y.f1.size = 64) -> acc.size + l.length * 200 <= 140737488355328 -> refs_Put.g acc l = some (joinA acc (l.map Hello.refT), true)
 | [], acc, _, _ => rfl
 | y :: t, acc, h, hz => by
  have hy := h y List.mem_cons_self
  rw [List.length_cons, Nat.succ_mul] at hz
  simp only [refs_Put.g]
  rw [if_pos (by omega)]
  refine putg_eq t _ (fun z hz => h z (List.mem_cons_of_mem _ hz)) ?_
  rw [ByteArray.size_append, ByteArray.size_append, ByteArray.size_append, ByteArray.size_append]
  show acc.size + (y.f1.size + 1 + y.f0.size + 1) + _ <= _
  omega
theorem put_eq {l : List Rf} (h : Hello.rightF l = true) {k : Nat} (hk : 2000000 <= k) : refs_Put.f k l = some (joinA ⟨#[]⟩ (l.map Hello.refT), true) := by
 have hs := rf_size h
 have hl := (rightF_out h).1
 unfold refs_Put.f
 rw [right_eqM l (fun y hy => by have := hs y hy; omega) hk, h]
 simp only [Option.bind_some]
 rw [if_pos trivial]
 exact putg_eq l _ hs (by show 0 + _ <= _; omega)
theorem P0_eq {l : List Rf} (h : Hello.rightF l = true) : P0 l = joinA ⟨#[]⟩ (l.map Hello.refT) := by
 unfold P0
 rw [put_eq h (by decide)]
 rfl
theorem cutC_app (c : UInt8) (a b : ByteArray) (h : plainC c a) : cutC c ((a ++ (⟨#[c]⟩ : ByteArray)) ++ b) = (a, b) := by
 have hd : ((a ++ (⟨#[c]⟩ : ByteArray)) ++ b).data.toList = a.data.toList ++ c :: b.data.toList := by
  simp [ByteArray.data_append]
 have hi : Lib.indexByte ((a ++ (⟨#[c]⟩ : ByteArray)) ++ b).data.toList c = (a.size : Int) := by
  rw [hd, Hello.indexByte_app _ _ _ h, Array.length_toList]; rfl
 unfold cutC
 rw [hi, if_pos (by omega), Int.toNat_natCast]
 have e1 : ((a ++ (⟨#[c]⟩ : ByteArray)) ++ b).extract 0 a.size = a := by
  rw [ByteArray.append_assoc]; exact ByteArray.extract_append_eq_left rfl
 have e2 : ((a ++ (⟨#[c]⟩ : ByteArray)) ++ b).extract (a.size + 1) ((a ++ (⟨#[c]⟩ : ByteArray)) ++ b).size = b := by
  have hz : (a ++ (⟨#[c]⟩ : ByteArray)).size = a.size + 1 := by rw [ByteArray.size_append]; rfl
  rw [<- hz]
  exact ByteArray.extract_append_eq_right rfl ByteArray.size_append
 rw [e1, e2]
theorem refT_plain {y : Rf} (h : Hello.namedF y.f0 = true /\ Hello.idF y.f1 = true) : plainC 10 (Hello.refT y) :=
 plain_app (plain_app (id_plainC h.2 (by decide)) (fun e => absurd (List.mem_singleton.1 e) (by decide))) (named_plain h.1 (by decide) (by decide))
theorem get_loop {l : List Rf} (h : Hello.rightF l = true) : ∀ (t acc : List Rf) (k : Nat), acc ++ t = l -> 2000001 + t.length <= k ->
  refs_Get.l0 k (joinA ⟨#[]⟩ (l.map Hello.refT)) acc (joinA ⟨#[]⟩ (t.map Hello.refT)) = some (l, true)
 | [], acc, k, e, hk => by
  obtain ⟨k, rfl⟩ : ∃ m, k = m + 1 := ⟨k - 1, by omega⟩
  rw [List.append_nil] at e
  subst e
  unfold refs_Get.l0
  rw [if_pos (show (joinA ⟨#[]⟩ (([] : List Rf).map Hello.refT)).toList = [] from toList_nil.2 rfl), put_eq h (by simp only [List.length_nil] at hk; omega)]
  simp only [Option.bind_some]
  rw [if_pos trivial, if_pos trivial]
 | y :: t, acc, k, e, hk => by
  obtain ⟨k, rfl⟩ : ∃ m, k = m + 1 := ⟨k - 1, by omega⟩
  have hy : y ∈ l := by rw [<- e]; exact List.mem_append_right _ List.mem_cons_self
  have ho := (rightF_out h).2 y hy
  have hs := rf_size h y hy
  have hl := (rightF_out h).1
  have hle : acc.length + (t.length + 1) = l.length := by rw [<- e, List.length_append, List.length_cons]
  have ej : joinA ⟨#[]⟩ ((y :: t).map Hello.refT) = (Hello.refT y ++ (⟨#[10]⟩ : ByteArray)) ++ joinA ⟨#[]⟩ (t.map Hello.refT) := by
   show joinA ((⟨#[]⟩ : ByteArray) ++ (Hello.refT y ++ (⟨#[10]⟩ : ByteArray))) (t.map Hello.refT) = _
   rw [empty_app, joinA_app]
  have hts : sizeT (t.map Hello.refT) <= 200 * t.length := by
   clear ej hk
   have : ∀ z ∈ t, (Hello.refT z).size + 1 <= 200 := fun z hz => by
    have := rf_size h z (by rw [<- e]; exact List.mem_append_right _ (List.mem_cons_of_mem _ hz))
    rw [Hello.refT_size]
    omega
   clear e hle
   induction t with
   | nil => exact Nat.le_refl _
   | cons z t ih =>
    rw [List.map_cons, qz, List.length_cons]
    have a := this z List.mem_cons_self
    have b := ih (fun w hw => this w (List.mem_cons_of_mem _ hw))
    omega
  have hz : ((Hello.refT y ++ (⟨#[10]⟩ : ByteArray)) ++ joinA ⟨#[]⟩ (t.map Hello.refT)).size <= 1000000 := by
   rw [ByteArray.size_append, ByteArray.size_append, joinA_size, Hello.refT_size]
   show y.f1.size + 1 + y.f0.size + 1 + (0 + _) <= _
   omega
  obtain ⟨b1, h1⟩ := cutC_eq 10 ((Hello.refT y ++ (⟨#[10]⟩ : ByteArray)) ++ joinA ⟨#[]⟩ (t.map Hello.refT)) (by omega)
  rw [cutC_app 10 _ _ (refT_plain ho)] at h1
  obtain ⟨b2, h2⟩ := cutC_eq 32 (Hello.refT y) (by rw [Hello.refT_size]; omega)
  rw [show cutC 32 (Hello.refT y) = (y.f1, y.f0) from cutC_app 32 _ _ (id_plainC ho.2 (by decide))] at h2
  have hne : ¬ (((Hello.refT y ++ (⟨#[10]⟩ : ByteArray)) ++ joinA ⟨#[]⟩ (t.map Hello.refT)).toList = []) := fun e => by
   have := toList_nil.1 e
   rw [ByteArray.size_append, ByteArray.size_append] at this
   have e3 : (⟨#[10]⟩ : ByteArray).size = 1 := rfl
   omega
  rw [ej]
  unfold refs_Get.l0
  rw [if_neg hne, h1]
  simp only [Option.bind_some]
  rw [h2]
  simp only [Option.bind_some]
  rw [if_pos (by omega)]
  exact get_loop h t (acc ++ [y]) k (by rw [List.append_assoc]; exact e) (by rw [List.length_cons] at hk; omega)
theorem G0_right {l : List Rf} (h : Hello.rightF l = true) : G0 (joinA ⟨#[]⟩ (l.map Hello.refT)) = (l, true) := by
 have hl := (rightF_out h).1
 have := get_loop h l [] 3000000 rfl (by omega)
 unfold G0
 rw [show refs_Get.f 3000000 (joinA ⟨#[]⟩ (l.map Hello.refT)) = some (l, true) from this]
 rfl
theorem some_app (a b : List ByteArray) : someF a.length (a ++ b) false = (a, b, false) := by
 rw [some_ok (by rw [List.length_append]; omega), List.take_left, List.drop_left]
theorem link_plain (b : Bool) {c : UInt8} (hc : c.toNat < 97) : plainC c (linkT b) := by
 intro e
 cases b
 ·have e2 : c ∈ ([97, 108, 111, 110, 101] : List UInt8) := e
  simp only [List.mem_cons, List.not_mem_nil, or_false] at e2
  rcases e2 with rfl | rfl | rfl | rfl | rfl <;> exact absurd hc (by decide)
 ·have e2 : c ∈ ([108, 105, 110, 107, 101, 100] : List UInt8) := e
  simp only [List.mem_cons, List.not_mem_nil, or_false] at e2
  rcases e2 with rfl | rfl | rfl | rfl | rfl | rfl <;> exact absurd hc (by decide)
theorem forkT_plain {c : UInt8} (hc : c.toNat < 97) : plainC c forkT := by
 intro e
 have e2 : c ∈ ([102, 111, 114, 107] : List UInt8) := e
 simp only [List.mem_cons, List.not_mem_nil, or_false] at e2
 rcases e2 with rfl | rfl | rfl | rfl <;> exact absurd hc (by decide)
theorem fork_words {f : Fk} (h : forkB f = true) {c : UInt8} (h1 : c.toNat < 45) (h2 : c ≠ 47) : ∀ s ∈ [forkT, f.f0, linkT f.f1, f.f2, itoaB f.f3.length, itoaB f.f4.length], plainC c s := by
 obtain ⟨a, b, c1, d, e⟩ := forkB_out h
 intro s hs
 have r1 : rnB (c.toNat : Int) = false := by
  cases hx : rnB (c.toNat : Int)
  ·rfl
  ·have := (rnB_iff _).1 hx; omega
 have r2 : Hello.letB (c.toNat : Int) = false := by
  unfold Hello.letB
  exact decide_eq_false (by omega)
 simp only [List.mem_cons, List.not_mem_nil, or_false] at hs
 rcases hs with rfl | rfl | rfl | rfl | rfl | rfl
 ·exact forkT_plain (by omega)
 ·exact rn_plain a r1
 ·exact link_plain _ (by omega)
 ·exact named_plain d r2 h2
 ·exact itoa_plain (by omega) (by omega)
 ·exact itoa_plain (by omega) (by omega)
theorem fork_read {f : Fk} (h : forkB f = true) (rest : List ByteArray) : forkF G0 (forkLs f ++ rest) false = (f, rest, false) := by
 obtain ⟨a, b, c, d, e⟩ := forkB_out h
 have hl := (rightF_out c).1
 have hp := (packs_out b).1
 have hw : wordsF forkT 6 (forkLs f ++ rest) false = ([forkT, f.f0, linkT f.f1, f.f2, itoaB f.f3.length, itoaB f.f4.length], f.f3.map Hello.refT ++ (f.f4 ++ rest), false) := by
  have := words_line (first := forkT) (ws := [f.f0, linkT f.f1, f.f2, itoaB f.f3.length, itoaB f.f4.length]) (rest := f.f3.map Hello.refT ++ (f.f4 ++ rest)) (many := 6) (fork_words h (by decide) (by decide)) rfl
  rw [<- this]
  unfold forkLs forkLine
  rw [List.cons_append, List.append_assoc]
 have d1 : decF (nth [forkT, f.f0, linkT f.f1, f.f2, itoaB f.f3.length, itoaB f.f4.length] 4) = ((f.f3.length : Int), true) := dec_itoa (by omega) (by omega)
 have d2 : decF (nth [forkT, f.f0, linkT f.f1, f.f2, itoaB f.f3.length, itoaB f.f4.length] 5) = ((f.f4.length : Int), true) := dec_itoa (by omega) (by omega)
 have s1 : someF f.f3.length (f.f3.map Hello.refT ++ (f.f4 ++ rest)) false = (f.f3.map Hello.refT, f.f4 ++ rest, false) := by
  have := some_app (f.f3.map Hello.refT) (f.f4 ++ rest)
  rw [List.length_map] at this
  exact this
 have hlink : ((linkT f.f1).toList == [108, 105, 110, 107, 101, 100]) = f.f1 := by
  cases f.f1 <;> rw [Lib.toList_data] <;> rfl
 unfold forkF
 simp only [hw, d1, d2, Int.toNat_natCast, s1, Bool.not_true, Bool.or_false, G0_right c, some_app]
 show (((⟨f.f0, (linkT f.f1).toList == [108, 105, 110, 107, 101, 100], f.f2, f.f3, f.f4⟩ : Fk), rest, false) : Fk × List ByteArray × Bool) = _
 rw [hlink]
theorem getL_read : ∀ (t acc : List Fk) (rest : List ByteArray), (∀ f ∈ t, forkB f = true) -> getL G0 t.length acc (t.flatMap forkLs ++ rest) false = (acc ++ t, false)
 | [], acc, rest, h => by rw [List.append_nil]; rfl
 | f :: t, acc, rest, h => by
  rw [List.flatMap_cons, List.append_assoc, List.length_cons]
  unfold getL
  rw [if_neg (fun e => Bool.noConfusion e), fork_read (h f List.mem_cons_self), getL_read t _ rest (fun g hg => h g (List.mem_cons_of_mem _ hg)), List.append_assoc]
  rfl
def getF (s : ByteArray) : (Int × List ByteArray × List Fk) × Bool :=
 let w1 := wordsF netT 2 (cutsF 10 s) false
 let d1 := decF (nth w1.1 1)
 let w2 := wordsF poolT 2 w1.2.1 (w1.2.2 || !d1.2)
 let d2 := decF (nth w2.1 1)
 let s3 := someF d2.1.toNat w2.2.1 (w2.2.2 || !d2.2)
 let w3 := wordsF forksT 2 s3.2.1 s3.2.2
 let d3 := decF (nth w3.1 1)
 let g := getL G0 d3.1.toNat [] w3.2.1 (w3.2.2 || !d3.2)
 ((d1.1, s3.1, g.1), g.2)
theorem two_plain {w : ByteArray} (hw : ∀ b ∈ w.data.toList, 97 <= b.toNat) {n : Int} (hn : 0 <= n) {c : UInt8} (hc : c.toNat < 48) : ∀ s ∈ [w, itoaB n], plainC c s := by
 intro s hs
 rcases List.mem_cons.1 hs with rfl | hs
 ·intro e
  have := hw c e
  omega
 ·obtain rfl := List.mem_singleton.1 hs
  exact itoa_plain hn hc
theorem net_let : ∀ b ∈ netT.data.toList, 97 <= b.toNat := by decide
theorem pool_let : ∀ b ∈ poolT.data.toList, 97 <= b.toNat := by decide
theorem forks_let : ∀ b ∈ forksT.data.toList, 97 <= b.toNat := by decide
theorem root_lines {n : Int} {pool : List ByteArray} {forks : List Fk} (h : rootF n pool forks = true) : ∀ s ∈ rootLs n pool forks, plainC 10 s := by
 obtain ⟨hf, hn, hp, hm⟩ := rootF_out h
 have hpo := packs_out hp
 have J : ∀ (w : ByteArray) (m : Int), (∀ b ∈ w.data.toList, 97 <= b.toNat) -> 0 <= m -> plainC 10 (joinS [w, itoaB m]) := fun w m hw hm => plain_joinG (by decide) _ _ (two_plain hw hm (by decide))
 intro s hs
 unfold rootLs at hs
 simp only [List.mem_cons, List.mem_append, List.mem_flatMap] at hs
 rcases hs with rfl | rfl | hs | rfl | ⟨f, hfm, hs⟩
 ·exact J _ _ net_let hn.1
 ·exact J _ _ pool_let (by omega)
 ·exact id_plainC (hpo.2.1 s hs) (by decide)
 ·exact J _ _ forks_let (by omega)
 ·have hb := hf f hfm
  obtain ⟨a, b, c, d, e⟩ := forkB_out hb
  unfold forkLs at hs
  simp only [List.mem_cons, List.mem_append, List.mem_map] at hs
  rcases hs with rfl | ⟨y, hy, rfl⟩ | hs
  ·exact plain_joinG (by decide) _ _ (fork_words hb (by decide) (by decide))
  ·exact refT_plain ((rightF_out c).2 y hy)
  ·exact id_plainC ((packs_out b).2.1 s hs) (by decide)
def textR (n : Int) (pool : List ByteArray) (forks : List Fk) : ByteArray := textP P0 n pool forks
theorem textR_lines {n : Int} {pool : List ByteArray} {forks : List Fk} (h : rootF n pool forks = true) : textR n pool forks = joinA ⟨#[]⟩ (rootLs n pool forks) :=
 textP_lines n pool forks (fun f hf => P0_eq (forkB_out ((rootF_out h).1 f hf)).2.2.1)
theorem get_read {n : Int} {pool : List ByteArray} {forks : List Fk} (h : rootF n pool forks = true) (t : ByteArray) : getF (textR n pool forks ++ t) = ((n, pool, forks), false) := by
 obtain ⟨hf, hn, hp, hm⟩ := rootF_out h
 have hpo := (packs_out hp).1
 have hc : cutsF 10 (textR n pool forks ++ t) = joinS [netT, itoaB n] :: joinS [poolT, itoaB pool.length] :: (pool ++ joinS [forksT, itoaB forks.length] :: (forks.flatMap forkLs ++ cutsF 10 t)) := by
  rw [textR_lines h, cuts_joinA (root_lines h)]
  unfold rootLs
  simp
 have w1 := words_line (first := netT) (ws := [itoaB n]) (rest := joinS [poolT, itoaB pool.length] :: (pool ++ joinS [forksT, itoaB forks.length] :: (forks.flatMap forkLs ++ cutsF 10 t))) (many := 2) (two_plain net_let hn.1 (by decide)) rfl
 have w2 := words_line (first := poolT) (ws := [itoaB pool.length]) (rest := pool ++ joinS [forksT, itoaB forks.length] :: (forks.flatMap forkLs ++ cutsF 10 t)) (many := 2) (two_plain pool_let (by omega) (by decide)) rfl
 have w3 := words_line (first := forksT) (ws := [itoaB forks.length]) (rest := forks.flatMap forkLs ++ cutsF 10 t) (many := 2) (two_plain forks_let (by omega) (by decide)) rfl
 have d1 : decF (nth [netT, itoaB n] 1) = (n, true) := dec_itoa hn.1 hn.2
 have d2 : decF (nth [poolT, itoaB pool.length] 1) = ((pool.length : Int), true) := dec_itoa (by omega) (by omega)
 have d3 : decF (nth [forksT, itoaB forks.length] 1) = ((forks.length : Int), true) := dec_itoa (by omega) (by omega)
 unfold getF
 simp only [hc, w1, d1, w2, d2, w3, d3, Int.toNat_natCast, Bool.not_true, Bool.or_false, some_app, getL_read forks [] _ hf, List.nil_append]
def getR (s : ByteArray) : Option (Int × List ByteArray × List Fk) :=
 if (getF s).2 = false /\ rootF (getF s).1.1 (getF s).1.2.1 (getF s).1.2.2 = true /\ textR (getF s).1.1 (getF s).1.2.1 (getF s).1.2.2 = s then some (getF s).1 else none
theorem getR_out {s : ByteArray} {n : Int} {pool : List ByteArray} {forks : List Fk} (h : getR s = some (n, pool, forks)) : rootF n pool forks = true /\ textR n pool forks = s := by
 unfold getR at h
 split at h
 ·rename_i c
  obtain ⟨c1, c2, c3⟩ := c
  have e := Option.some.inj h
  rw [e] at c2 c3
  exact ⟨c2, c3⟩
 ·cases h
theorem getR_read {n : Int} {pool : List ByteArray} {forks : List Fk} (h : rootF n pool forks = true) : getR (textR n pool forks) = some (n, pool, forks) := by
 have := get_read h ⟨#[]⟩
 rw [show textR n pool forks ++ (⟨#[]⟩ : ByteArray) = textR n pool forks from ByteArray.append_empty] at this
 unfold getR
 rw [this, if_pos ⟨rfl, h, rfl⟩]
end Go.Proofs.YtlfenakgphmepaaGreatDoor.Root
end
section
namespace Go.Proofs.YtlfenakgphmepaaGreatDoor.Root
open Go.RowKit YtlfenakgphmepaaGreatDoorW.PrintWords Print Build
set_option linter.unusedVariables false
set_option linter.unusedSimpArgs false
theorem rget_sm {M : Nat} (hM : M <= 1000000) (x0 : ByteArray) : ∀ (d : Nat) (x4 : List Rf) (x5 : ByteArray) (k : Nat), x5.size <= d -> d <= M -> M + 2 + d <= k -> x4.length + d <= 2000000 -> (∀ y ∈ x4, y.f0.size <= M /\ y.f1.size <= M) -> ∃ r, refs_Get.l0 k x0 x4 x5 = some r /\ ∀ y ∈ r.1, y.f0.size <= M /\ y.f1.size <= M := by
 intro d
 induction d with
 | zero =>
  intro x4 x5 k h0 hd hk hn hl
  obtain ⟨k, rfl⟩ : ∃ m, k = m + 1 := ⟨k - 1, by omega⟩
  obtain ⟨r, hr⟩ := put_total hM (k := k) (by omega) x4 (by omega) hl
  have e : x5.toList = [] := toList_nil.2 (by omega)
  unfold refs_Get.l0
  rw [if_pos e, hr]
  simp only [Option.bind_some]
  repeat' split
  all_goals first | exact ⟨_, rfl, hl⟩ | exact ⟨_, rfl, fun y hy => absurd hy List.not_mem_nil⟩
 | succ d ih =>
  intro x4 x5 k h0 hd hk hn hl
  obtain ⟨k, rfl⟩ : ∃ m, k = m + 1 := ⟨k - 1, by omega⟩
  by_cases e : x5.toList = []
  ·obtain ⟨r, hr⟩ := put_total hM (k := k) (by omega) x4 (by omega) hl
   unfold refs_Get.l0
   rw [if_pos e, hr]
   simp only [Option.bind_some]
   repeat' split
   all_goals first | exact ⟨_, rfl, hl⟩ | exact ⟨_, rfl, fun y hy => absurd hy List.not_mem_nil⟩
  ·have hp : 0 < x5.size := by
    rcases Nat.eq_zero_or_pos x5.size with h | h
    ·exact absurd (toList_nil.2 h) e
    ·exact h
   obtain ⟨b1, h1⟩ := cutC_eq 10 x5 (by omega)
   have z1 := cutC_size 10 x5
   obtain ⟨b2, h2⟩ := cutC_eq 32 (cutC 10 x5).1 (by omega)
   have z2 := cutC_size 32 (cutC 10 x5).1
   unfold refs_Get.l0
   rw [if_neg e, h1]
   simp only [Option.bind_some]
   rw [h2]
   simp only [Option.bind_some]
   rw [if_pos (by omega)]
   refine ih _ _ k (by have := z1.2.2 hp; omega) (by omega) (by omega) (by rw [List.length_append]; show _ + 1 + _ <= _; omega) (fun y hy => ?_)
   rcases List.mem_append.1 hy with hy | hy
   ·exact hl y hy
   ·obtain rfl := List.mem_singleton.1 hy
    exact ⟨by show (cutC 32 (cutC 10 x5).1).2.size <= M; omega, by show (cutC 32 (cutC 10 x5).1).1.size <= M; omega⟩
theorem G0_sm (t : ByteArray) (ht : t.size <= 1000000) : ∀ y ∈ (G0 t).1, y.f0.size <= 1000000 /\ y.f1.size <= 1000000 := by
 obtain ⟨r, hr, hs⟩ := rget_sm (M := 1000000) (Nat.le_refl _) t t.size [] t 3000000 (Nat.le_refl _) ht (by omega) (by show 0 + _ <= _; omega) (fun y hy => absurd hy List.not_mem_nil)
 unfold G0
 rw [show refs_Get.f 3000000 t = some r from hr]
 exact hs
theorem nth_size {l : List ByteArray} {Z i : Nat} (h : ∀ s ∈ l, s.size <= Z) : (nth l i).size <= Z := by
 unfold nth
 by_cases hi : i < l.length
 ·exact h _ (nth_mem hi)
 ·rw [List.getD_eq_getElem?_getD, List.getElem?_eq_none (by omega)]
  exact Nat.zero_le _
theorem forkF_parts (G : ByteArray -> List Rf × Bool) (l : List ByteArray) (e : Bool) : ∃ (w l1 : List ByteArray) (e1 : Bool) (m : Int) (b : Bool) (o : Int) (b2 : Bool) (r1 l2 : List ByteArray) (e2 : Bool) (p l3 : List ByteArray) (e3 : Bool),
  wordsF forkT 6 l e = (w, l1, e1) /\ decF (nth w 4) = (m, b) /\ decF (nth w 5) = (o, b2) /\ someF m.toNat l1 ((e1 || !b) || !b2) = (r1, l2, e2) /\ someF o.toNat l2 (e2 || !(G (joinA ⟨#[]⟩ r1)).2) = (p, l3, e3) /\
   forkF G l e = (⟨nth w 1, (nth w 2).toList == [108, 105, 110, 107, 101, 100], nth w 3, (G (joinA ⟨#[]⟩ r1)).1, p⟩, l3, e3) :=
 ⟨_, _, _, _, _, _, _, _, _, _, _, _, _, rfl, rfl, rfl, rfl, rfl, rfl⟩
theorem forkF_sm (l : List ByteArray) (e : Bool) (hz : sizeT l <= 1000000) : SmF 1000000 (forkF G0 l e).1 := by
 obtain ⟨w, l1, e1, m, b, o, b2, r1, l2, e2, p, l3, e3, h1, h2, h3, h4, h5, h6⟩ := forkF_parts G0 l e
 have a := words_size forkT 6 l e
 have z1 := words_left forkT 6 l e
 have z2 := some_size m.toNat l1 ((e1 || !b) || !b2)
 have z3 := some_size o.toNat l2 (e2 || !(G0 (joinA ⟨#[]⟩ r1)).2)
 rw [h1] at a z1
 rw [h4] at z2
 rw [h5] at z3
 simp only at a z1 z2 z3
 have a' : ∀ s ∈ w, s.size <= 1000000 := fun s hs => Nat.le_trans (a s hs) hz
 rw [h6]
 refine ⟨nth_size a', nth_size a', G0_sm _ ?_, fun s hs => ?_⟩
 ·rw [joinA_size]
  show 0 + _ <= _
  omega
 ·have : s.size + 1 <= sizeT p := sizeT_mem hs
  omega
theorem someF_ok {n : Nat} {l : List ByteArray} {e : Bool} (h : (someF n l e).2.2 = false) : e = false /\ n <= l.length := by
 unfold someF at h
 split at h
 ·cases h
 ·rename_i c
  exact ⟨by cases e <;> simp_all, by omega⟩
theorem words_ok {first : ByteArray} {many : Nat} {l : List ByteArray} {e : Bool} (h : (wordsF first many l e).2.2 = false) : e = false /\ sizeT (wordsF first many l e).2.1 + 1 <= sizeT l := by
 by_cases c : (someF 1 l e).2.2 = true
 ·unfold wordsF at h
  rw [if_pos c] at h
  rw [show (blanks many, (someF 1 l e).2).2.2 = (someF 1 l e).2.2 from rfl, c] at h
  cases h
 ·have c' := Bool.eq_false_iff.2 c
  obtain ⟨rfl, hl⟩ := someF_ok c'
  refine ⟨rfl, ?_⟩
  have e2 : (someF 1 l false).2.1 = l.drop 1 := by rw [some_ok hl]
  have e3 : (wordsF first many l false).2.1 = l.drop 1 := by
   unfold wordsF
   rw [if_neg c]
   split
   ·exact e2
   ·exact e2
  rw [e3]
  cases l with
  | nil => simp at hl
  | cons x t => rw [qz]; show sizeT t + 1 <= _; omega
theorem fork_ok {G : ByteArray -> List Rf × Bool} {l : List ByteArray} {e : Bool} (h : (forkF G l e).2.2 = false) : sizeT (forkF G l e).2.1 + 1 <= sizeT l := by
 obtain ⟨w, l1, e1, m, b, o, b2, r1, l2, e2, p, l3, e3, h1, h2, h3, h4, h5, h6⟩ := forkF_parts G l e
 have z2 := some_size m.toNat l1 ((e1 || !b) || !b2)
 have z3 := some_size o.toNat l2 (e2 || !(G (joinA ⟨#[]⟩ r1)).2)
 rw [h4] at z2
 rw [h5] at z3
 rw [h6] at h ⊢
 simp only at z2 z3 h ⊢
 subst h
 have k1 := (someF_ok (n := o.toNat) (l := l2) (by rw [h5])).1
 simp only [Bool.or_eq_false_iff] at k1
 obtain ⟨rfl, _⟩ := k1
 have k2 := (someF_ok (n := m.toNat) (l := l1) (by rw [h4])).1
 simp only [Bool.or_eq_false_iff] at k2
 obtain ⟨⟨rfl, _⟩, _⟩ := k2
 have k3 := (words_ok (first := forkT) (many := 6) (l := l) (e := e) (by rw [h1])).2
 rw [h1] at k3
 simp only at k3
 omega
theorem getL_sm : ∀ (n : Nat) (acc : List Fk) (l : List ByteArray) (e : Bool), sizeT l <= 1000000 -> (∀ f ∈ acc, SmF 1000000 f) -> (∀ f ∈ (getL G0 n acc l e).1, SmF 1000000 f) /\ (getL G0 n acc l e).1.length <= acc.length + sizeT l + 1
 | 0, acc, l, e, hz, h => ⟨h, by show acc.length <= _; omega⟩
 | n + 1, acc, l, e, hz, h => by
  unfold getL
  split
  ·exact ⟨h, by show acc.length <= _; omega⟩
  ·have hl := fork_left G0 l e
   have ih := getL_sm n (acc ++ [(forkF G0 l e).1]) (forkF G0 l e).2.1 (forkF G0 l e).2.2 (by omega) (fun f hf => by
    rcases List.mem_append.1 hf with hf | hf
    ·exact h f hf
    ·rw [List.mem_singleton.1 hf]; exact forkF_sm l e hz)
   refine ⟨ih.1, ?_⟩
   cases hx : (forkF G0 l e).2.2 with
   | false =>
    have h1 := fork_ok hx
    have h2 := ih.2
    rw [hx, List.length_append, List.length_singleton] at h2
    omega
   | true =>
    cases n with
    | zero => show (acc ++ [_]).length <= _; rw [List.length_append, List.length_singleton]; omega
    | succ n =>
     unfold getL
     rw [if_pos rfl]
     show (acc ++ [_]).length <= _
     rw [List.length_append, List.length_singleton]; omega
theorem sizeT_cuts (c : UInt8) : ∀ (n : Nat) (s : ByteArray), s.size <= n -> sizeT (cutsF c s) <= s.size + 1 := by
 intro n
 induction n with
 | zero =>
  intro s hs
  have e : s.data.toList = [] := List.eq_nil_of_length_eq_zero (by rw [Array.length_toList]; show s.size = 0; omega)
  rw [cuts_miss (show plainC c s by unfold plainC; rw [e]; exact List.not_mem_nil), qz]
  exact Nat.le_refl _
 | succ n ih =>
  intro s hs
  by_cases h : c ∈ s.data.toList
  ·have hge := Lib.indexByte_ge s.data.toList c
   by_cases hm : Lib.indexByte s.data.toList c = -1
   ·obtain ⟨k, hk, e⟩ := List.mem_iff_getElem.1 h
    exact absurd (by rw [List.getElem?_eq_getElem hk, e]) (Lib.indexByte_none hm k)
   ·obtain ⟨o, ho⟩ : ∃ o : Nat, Lib.indexByte s.data.toList c = o := ⟨(Lib.indexByte s.data.toList c).toNat, by omega⟩
    have hlt := (List.getElem?_eq_some_iff.1 (Lib.indexByte_some ho).1).1
    rw [Array.length_toList] at hlt
    have hlt' : o < s.size := hlt
    rw [cuts_at c s o ((indexB_one c s).trans ho), qz, ByteArray.size_extract]
    have := ih (s.extract (o + 1) s.size) (by rw [ByteArray.size_extract]; omega)
    rw [ByteArray.size_extract] at this
    omega
  ·rw [cuts_miss h, qz]
   exact Nat.le_refl _
theorem sizeT_ids {l : List ByteArray} (h : ∀ s ∈ l, s.size = 64) : sizeT l = 65 * l.length := by
 induction l with
 | nil => rfl
 | cons x t ih => rw [qz, List.length_cons, ih (fun s hs => h s (List.mem_cons_of_mem _ hs)), h x List.mem_cons_self]; omega
theorem sizeT_refs {l : List Rf} (h : ∀ y ∈ l, y.f0.size <= 80 /\ y.f1.size = 64) : sizeT (l.map Hello.refT) <= 146 * l.length := by
 induction l with
 | nil => exact Nat.le_refl _
 | cons x t ih =>
  have a := h x List.mem_cons_self
  have b := ih (fun s hs => h s (List.mem_cons_of_mem _ hs))
  rw [List.map_cons, qz, List.length_cons, Hello.refT_size]
  omega
theorem fork_small {f : Fk} (h : forkB f = true) : f.f0.size <= 20 /\ f.f2.size <= 80 /\ (itoaB f.f3.length).size <= 13 /\ (itoaB f.f4.length).size <= 13 /\ (P0 f.f3).size <= 9344 /\ sizeT f.f4 <= 1560 := by
 obtain ⟨a, b, c, d, e⟩ := forkB_out h
 have hl := (rightF_out c).1
 have hp := packs_out b
 refine ⟨(rn_size a).2, Hello.named_size d, (itoa_size (by omega) (by omega)).1, (itoa_size (by omega) (by omega)).1, ?_, ?_⟩
 ·rw [P0_eq c, joinA_size]
  have := sizeT_refs (rf_size c)
  show 0 + _ <= _
  omega
 ·rw [sizeT_ids (fun s hs => Hello.id_size (hp.2.1 s hs))]
  omega
theorem sizeF_small : ∀ (l : List Fk), (∀ f ∈ l, forkB f = true) -> sizeF P0 l <= 12000 * l.length
 | [], _ => Nat.le_refl _
 | f :: t, h => by
  have a := fork_small (h f List.mem_cons_self)
  have b := sizeF_small t (fun g hg => h g (List.mem_cons_of_mem _ hg))
  rw [List.length_cons]
  show 100 + f.f0.size + f.f2.size + (itoaB f.f3.length).size + (itoaB f.f4.length).size + (P0 f.f3).size + sizeT f.f4 + sizeF P0 t <= _
  omega
theorem sizeP_small {n : Int} {pool : List ByteArray} {forks : List Fk} (h : rootF n pool forks = true) : sizeP P0 n pool forks <= 200000 := by
 obtain ⟨hf, hn, hp, hm⟩ := rootF_out h
 have hpo := packs_out hp
 have a := sizeF_small forks hf
 have b := sizeT_ids (fun s hs => Hello.id_size (hpo.2.1 s hs))
 have c := (itoa_size hn.1 hn.2).1
 have d := (itoa_size (n := (pool.length : Int)) (by omega) (by omega)).1
 have e := (itoa_size (n := (forks.length : Int)) (by omega) (by omega)).1
 unfold sizeP
 omega
structure SmR (n : Int) (pool : List ByteArray) (forks : List Fk) : Prop where
 p : ∀ s ∈ pool, s.size <= 1000000
 f : ∀ f ∈ forks, SmF 1000000 f
 l : forks.length <= 900000
theorem SmR.right {n : Int} {pool : List ByteArray} {forks : List Fk} (h : SmR n pool forks) : root_Right.f 3000000 n pool forks = some (rootF n pool forks) := root_eq (Nat.le_refl _) n pool forks h.p h.f h.l (Nat.le_refl _)
theorem put_R_no {n : Int} {pool : List ByteArray} {forks : List Fk} (h : SmR n pool forks) (hb : rootF n pool forks = false) (Ap : Option Addr) (cp : Nat) (Af : Option Addr) (cf : Nat) (W : World) (hrp : Kd.C Kd.string W Ap pool.length pool) (hcp : pool.length <= cp) (hrf : Kd.C k39 W Af forks.length forks) (hcf : forks.length <= cf) :
  Calls Tryz.prog 7 #[.agg #[.int .i64 n, .slice Ap pool.length cp, .slice Af forks.length cf]] W fun e w' => e = .returned (.tuple #[.slice none 0 0, .bool false]) /\ Below W.heap.size W w' :=
 put_no 3000000 n Ap cp pool Af cf forks W hrp hcp hrf hcf (by rw [h.right, hb])
theorem put_R {n : Int} {pool : List ByteArray} {forks : List Fk} (h : SmR n pool forks) (hb : rootF n pool forks = true) (Ap : Option Addr) (cp : Nat) (Af : Option Addr) (cf : Nat) (W : World) (hrp : Kd.C Kd.string W Ap pool.length pool) (hcp : pool.length <= cp) (hrf : Kd.C k39 W Af forks.length forks) (hcf : forks.length <= cf) (hT : Tb W) :
  Calls Tryz.prog 7 #[.agg #[.int .i64 n, .slice Ap pool.length cp, .slice Af forks.length cf]] W fun e w' => ∃ v, e = .returned (.tuple #[v, .bool true]) /\ Kd.V (Kd.int .u8) 5 w' W.heap.size (fun k_ => W.heap.size <= k_) v (bytesOf (textR n pool forks)) /\ Below W.heap.size W w' := by
 have ho := rootF_out hb
 exact put_ok 3000000 n Ap cp pool Af cf forks W hrp hcp hrf hcf (by rw [h.right, hb]) P0 (fun f hf => by
  have := (forkB_out (ho.1 f hf)).2.2.1
  rw [P0_eq this]
  exact ⟨true, put_eq this (by decide)⟩) (by have := sizeP_small hb; omega) ho.2.1.1 (by have := ho.2.1.2; omega) hT
theorem get_R (s : ByteArray) (hs : s.size <= 800000) (A : Option Addr) (n c : Nat) (bs : List Int) (W : World) (hr : Kd.C (Kd.int .u8) W A n bs) (hbs : strOfNums bs = s) (hT : Tb W) :
  Calls Tryz.prog 9 #[.slice A n c] W fun r w' => Below W.heap.size W w' /\
   ((∃ m pl fl, getR s = some (m, pl, fl) /\ ∃ Ap cp Af cf, r = .returned (.tuple #[.agg #[.int .i64 m, .slice Ap pl.length cp, .slice Af fl.length cf], .bool true]) /\ Kd.C Kd.string w' Ap pl.length pl /\ pl.length <= cp /\ Kd.C k39 w' Af fl.length fl /\ fl.length <= cf) ∨
   (getR s = none /\ r = .returned (.tuple #[.agg #[.int .i64 0, .slice none 0 0, .slice none 0 0], .bool false]))) := by
 have hz := sizeT_cuts 10 s.size s (Nat.le_refl _)
 obtain ⟨w1, l1, e1, h1⟩ : ∃ w l e, wordsF netT 2 (cutsF 10 s) false = (w, l, e) := ⟨_, _, _, rfl⟩
 have z1 := words_left netT 2 (cutsF 10 s) false
 rw [h1] at z1
 have d1 : ∃ (m : Nat) (b : Bool), decF (nth w1 1) = ((m : Int), b) := ⟨(decF (nth w1 1)).1.toNat, (decF (nth w1 1)).2, by have := (decF_bd (nth w1 1)).1; rw [Int.toNat_of_nonneg this]⟩
 obtain ⟨m1, b1, d1⟩ := d1
 obtain ⟨w2, l2, e2, h2⟩ : ∃ w l e, wordsF poolT 2 l1 (e1 || !b1) = (w, l, e) := ⟨_, _, _, rfl⟩
 have z2 := words_left poolT 2 l1 (e1 || !b1)
 rw [h2] at z2
 have d2 : ∃ (m : Nat) (b : Bool), decF (nth w2 1) = ((m : Int), b) := ⟨(decF (nth w2 1)).1.toNat, (decF (nth w2 1)).2, by have := (decF_bd (nth w2 1)).1; rw [Int.toNat_of_nonneg this]⟩
 obtain ⟨m2, b2, d2⟩ := d2
 obtain ⟨pl, l3, e3, h3⟩ : ∃ w l e, someF m2 l2 (e2 || !b2) = (w, l, e) := ⟨_, _, _, rfl⟩
 have z3 := some_size m2 l2 (e2 || !b2)
 rw [h3] at z3
 obtain ⟨w3, l4, e4, h4⟩ : ∃ w l e, wordsF forksT 2 l3 e3 = (w, l, e) := ⟨_, _, _, rfl⟩
 have z4 := words_left forksT 2 l3 e3
 rw [h4] at z4
 have d3 : ∃ (m : Nat) (b : Bool), decF (nth w3 1) = ((m : Int), b) := ⟨(decF (nth w3 1)).1.toNat, (decF (nth w3 1)).2, by have := (decF_bd (nth w3 1)).1; rw [Int.toNat_of_nonneg this]⟩
 obtain ⟨m3, b3, d3⟩ := d3
 obtain ⟨fl, e, h5⟩ : ∃ f e, getL G0 m3 [] l4 (e4 || !b3) = (f, e) := ⟨_, _, rfl⟩
 simp only at z1 z2 z3 z4
 have z5 := getL_sm m3 [] l4 (e4 || !b3) (by omega) (fun f hf => absurd hf List.not_mem_nil)
 rw [h5] at z5
 have hF : getF s = (((m1 : Int), pl, fl), e) := by
  unfold getF
  simp only [h1, d1, h2, d2, Int.toNat_natCast, h3, h4, d3, h5]
 have hSm : SmR (m1 : Int) pl fl := ⟨fun x hx => by have := sizeT_mem hx; omega, z5.1, by have := z5.2; simp only [List.length_nil] at this; omega⟩
 refine (get_calls 3000000 s A n c bs W hr hbs (by omega) 1000000 (by decide) (by omega) G0 G0_eq w1 w2 w3 pl l1 l2 l3 l4 e1 e2 e3 e4 b1 b2 b3 e (rootF m1 pl fl) m1 m2 m3 fl h1 d1 h2 d2 h3 h4 d3 h5 hSm.right P0 (fun hb => ?_) hT).mono ?_
 ·have ho := rootF_out hb
  refine ⟨fun f hf => ?_, by have := sizeP_small hb; omega⟩
  have := (forkB_out (ho.1 f hf)).2.2.1
  rw [P0_eq this]
  exact ⟨true, put_eq this (by decide)⟩
 ·rintro r w' ⟨hb, h | h⟩
  ·refine ⟨hb, Or.inl ⟨m1, pl, fl, ?_, h.2⟩⟩
   unfold getR
   rw [hF]
   exact if_pos h.1
  ·refine ⟨hb, Or.inr ⟨?_, h.2⟩⟩
   unfold getR
   rw [hF]
   exact if_neg h.1
end Go.Proofs.YtlfenakgphmepaaGreatDoor.Root
end
