/- What talks begin with, as plain functions: what the program's functions and the reference's tell. -/
import Derived.Test.YtlfenakgphmepaaGreatDoorPrint
namespace Go.Proofs.YtlfenakgphmepaaGreatDoor.Hello
open Go.RowKit Go.Proofs.YtlfenakgphmepaaGreatDoorW.PrintWords Go.Proofs.YtlfenakgphmepaaGreatDoorW.PrintLast Go.Proofs.YtlfenakgphmepaaGreatDoorW.PrintMore Go.Proofs.YtlfenakgphmepaaGreatDoor.Conv Go.Proofs.YtlfenakgphmepaaGreatDoor.Print
theorem w64 {x : Int} (h0 : -9223372036854775808 <= x) (h1 : x <= 9223372036854775807) : wrap64 x = x := by unfold wrap64; omega
theorem rd_get (l : List ByteArray) (i : Nat) (h : i < l.length) : rdOf ByteArray.empty l (i : Int) = l[i] := by
 unfold rdOf
 rw [Int.toNat_natCast, List.getD_eq_getElem?_getD, List.getElem?_eq_getElem h]; rfl
def hexB (c : Int) : Bool := decide ((48 <= c /\ c <= 57) ∨ (97 <= c /\ c <= 102))
theorem hexB_iff (c : Int) : hexB c = true <-> (48 <= c /\ c <= 57) ∨ (97 <= c /\ c <= 102) := by unfold hexB; exact decide_eq_true_iff
theorem hex_step (c : Int) (X : Option Bool) : (if c < 48 then (if c < 97 then (some false) else (if c > 102 then (some false) else X)) else (if c > 57 then (if c < 97 then (some false) else (if c > 102 then (some false) else X)) else X)) = if hexB c = true then X else some false := by
 have h := hexB_iff c
 by_cases b : hexB c = true
 ·rw [if_pos b]
  rcases h.1 b with ⟨h1, h2⟩ | ⟨h1, h2⟩
  ·rw [if_neg (by omega), if_neg (by omega)]
  ·rw [if_neg (by omega), if_pos (by omega), if_neg (by omega), if_neg (by omega)]
 ·rw [if_neg b]
  have n : ¬ ((48 <= c /\ c <= 57) ∨ (97 <= c /\ c <= 102)) := fun e => b (h.2 e)
  repeat' split
  all_goals first | rfl | (exfalso; omega)
def hexFrom (s : ByteArray) : Nat -> Nat -> Bool
 | 0, _ => true
 | d + 1, i => hexB (bt s (i : Int)) && hexFrom s d (i + 1)
def idF (s : ByteArray) : Bool := hexFrom s s.size 0 && ((s.size : Int) == 64)
theorem digest_loop (s : ByteArray) (hl : s.size <= 9223372036854775806) : ∀ (d i k : Nat), i + d = s.size -> d + 1 <= k -> digest_Named.l0 k s (s.size : Int) (i : Int) = some (hexFrom s d i && ((s.size : Int) == 64)) := by
 intro d
 induction d with
 | zero =>
  intro i k hi hk
  obtain ⟨k, rfl⟩ : ∃ j, k = j + 1 := ⟨k - 1, by omega⟩
  simp only [digest_Named.l0]
  rw [if_neg (by omega)]
  rfl
 | succ d ih =>
  intro i k hi hk
  obtain ⟨k, rfl⟩ : ∃ j, k = j + 1 := ⟨k - 1, by omega⟩
  simp only [digest_Named.l0]
  rw [if_pos (by omega), if_pos (by omega), if_pos (by omega), hex_step, w64 (by omega) (by omega), show ((i : Int) + 1) = ((i + 1 : Nat) : Int) by omega, ih (i + 1) k (by omega) (by omega)]
  simp only [hexFrom]
  by_cases b : hexB (bt s (i : Int)) = true
  ·rw [if_pos b, b, Bool.true_and]
  ·rw [if_neg b, Bool.eq_false_iff.2 b]; rfl
theorem digest_eq (s : ByteArray) (hl : s.size <= 9223372036854775806) {k : Nat} (hk : s.size + 1 <= k) : digest_Named.f k s = some (idF s) := digest_loop s hl s.size 0 k (by omega) hk
theorem id_size {s : ByteArray} (h : idF s = true) : s.size = 64 := by
 unfold idF at h
 have := beq_iff_eq.1 (Bool.and_eq_true _ _ ▸ h).2
 omega
def letB (c : Int) : Bool := decide (c = 46 ∨ c = 45 ∨ c = 95 ∨ (97 <= c /\ c <= 122) ∨ (48 <= c /\ c <= 57))
theorem let_step (c : Int) (X : Option Bool) : (if c = 46 then X else (if c = 45 then X else (if c = 95 then X else (if c < 97 then (if c < 48 then (some false) else (if c > 57 then (some false) else X)) else (if c > 122 then (if c < 48 then (some false) else (if c > 57 then (some false) else X)) else X))))) = if letB c = true then X else some false := by
 have h : letB c = true <-> (c = 46 ∨ c = 45 ∨ c = 95 ∨ (97 <= c /\ c <= 122) ∨ (48 <= c /\ c <= 57)) := decide_eq_true_iff
 by_cases b : letB c = true
 ·have e := h.1 b
  rw [if_pos b]
  repeat' split
  all_goals first | rfl | (exfalso; omega)
 ·have n : ¬ (c = 46 ∨ c = 45 ∨ c = 95 ∨ (97 <= c /\ c <= 122) ∨ (48 <= c /\ c <= 57)) := fun e => b (h.2 e)
  rw [if_neg b]
  repeat' split
  all_goals first | rfl | (exfalso; omega)
def letFrom (s : ByteArray) : Nat -> Nat -> Bool
 | 0, _ => true
 | d + 1, i => letB (bt s (i : Int)) && letFrom s d (i + 1)
def partEnd (s : ByteArray) : Bool := decide (1 <= s.size /\ s.size <= 30) && ((bt s 0) != 46)
def partF (s : ByteArray) : Bool := letFrom s s.size 0 && partEnd s
theorem letters_loop (s : ByteArray) (hl : s.size <= 9223372036854775806) : ∀ (d i k : Nat), i + d = s.size -> d + 1 <= k -> refs_letters.l0 k s (s.size : Int) (i : Int) = some (letFrom s d i && partEnd s) := by
 intro d
 induction d with
 | zero =>
  intro i k hi hk
  obtain ⟨k, rfl⟩ : ∃ j, k = j + 1 := ⟨k - 1, by omega⟩
  simp only [refs_letters.l0]
  rw [if_neg (by omega)]
  unfold partEnd
  by_cases c : s.toList = ([] : List UInt8)
  ·have e : s.size = 0 := by
    have : s.toList.length = 0 := by rw [c]; rfl
    rwa [Lib.toList_data, Array.length_toList] at this
   rw [if_pos c, decide_eq_false (by omega)]
   simp [letFrom]
  ·have e : s.size ≠ 0 := fun e => c (by
    have : s.toList.length = 0 := by rw [Lib.toList_data, Array.length_toList]; exact e
    exact List.eq_nil_of_length_eq_zero this)
   rw [if_neg c]
   by_cases h : (s.size : Int) <= 30
   ·rw [if_pos h, if_pos (by omega), decide_eq_true (by omega)]
    simp [letFrom]
   ·rw [if_neg h, decide_eq_false (by omega)]
    simp [letFrom]
 | succ d ih =>
  intro i k hi hk
  obtain ⟨k, rfl⟩ : ∃ j, k = j + 1 := ⟨k - 1, by omega⟩
  simp only [refs_letters.l0]
  rw [if_pos (by omega), if_pos (by omega), if_pos (by omega), let_step, w64 (by omega) (by omega), show ((i : Int) + 1) = ((i + 1 : Nat) : Int) by omega, ih (i + 1) k (by omega) (by omega)]
  simp only [letFrom]
  by_cases b : letB (bt s (i : Int)) = true
  ·rw [if_pos b, b, Bool.true_and]
  ·rw [if_neg b, Bool.eq_false_iff.2 b]; rfl
theorem letters_eq (s : ByteArray) (hl : s.size <= 9223372036854775806) {k : Nat} (hk : s.size + 1 <= k) : refs_letters.f k s = some (partF s) := letters_loop s hl s.size 0 k (by omega) hk
theorem parts1_eq (k : Nat) : ∀ (l : List ByteArray), (∀ s ∈ l, s.size + 1 <= k) -> (∀ s ∈ l, s.size <= 9223372036854775806) -> refs_Named_1.f k l = some (!(l.all partF))
 | [], _, _ => rfl
 | x :: t, hk, hs => by
  simp only [refs_Named_1.f]
  rw [letters_eq x (hs x (by simp)) (hk x (by simp))]
  simp only [Option.bind_some, List.all_cons]
  by_cases b : partF x = true
  ·rw [if_pos b, parts1_eq k t (fun s h => hk s (by simp [h])) (fun s h => hs s (by simp [h])), b, Bool.true_and]
  ·rw [if_neg b, Bool.eq_false_iff.2 b]; rfl
theorem splitB_size (sep : ByteArray) : ∀ (k : Nat) (s : ByteArray), ∀ p ∈ Lib.splitB sep 0 k s, p.size <= s.size
 | 0, s, p, h => by
  rw [Lib.splitB_zero, List.mem_singleton] at h
  rw [h]; exact Nat.le_refl _
 | k + 1, s, p, h => by
  unfold Lib.splitB at h
  split at h
  ·rw [List.mem_singleton] at h
   rw [h]; exact Nat.le_refl _
  ·rcases List.mem_cons.1 h with rfl | h
   ·rw [ByteArray.size_extract]; omega
   ·have := splitB_size sep k _ p h
    rw [ByteArray.size_extract] at this
    omega
def piecesF (s : ByteArray) : List ByteArray := Lib.splitB ⟨#[47]⟩ 0 (Lib.countB s ⟨#[47]⟩) s
def firstF (p : ByteArray) : Bool := decide (p.toList = ([104, 101, 97, 100, 115] : List UInt8) ∨ p.toList = ([116, 97, 103, 115] : List UInt8))
def namedF (s : ByteArray) : Bool := decide (s.size <= 80 /\ 2 <= (piecesF s).length /\ (piecesF s).length <= 4) && (firstF (rdOf ByteArray.empty (piecesF s) 0) && ((piecesF s).drop 1).all partF)
theorem refnamed_eq (s : ByteArray) (hl : s.size < 4294967281) {k : Nat} (hk : s.size + 1 <= k) : refs_Named.f k s = some (namedF s) := by
 have hp := splitB_size ⟨#[47]⟩ (Lib.countB s ⟨#[47]⟩) s
 have hd : ∀ p ∈ (piecesF s).drop 1, p.size <= s.size := fun p h => hp p (List.mem_of_mem_drop h)
 have h1 := parts1_eq k ((piecesF s).drop 1) (fun p h => by have := hd p h; omega) (fun p h => by have := hd p h; omega)
 unfold refs_Named.f namedF
 rw [show strings_Split.f s (⟨#[47]⟩ : ByteArray) = some (piecesF s) from if_pos ⟨rfl, hl⟩]
 simp only [Option.bind_some]
 generalize piecesF s = ps at h1 ⊢
 by_cases a : s.size <= 80 /\ 2 <= ps.length /\ ps.length <= 4
 ·rw [decide_eq_true a, Bool.true_and, if_neg (by omega), if_neg (by omega), if_neg (by omega), if_pos (by omega)]
  by_cases c1 : (rdOf ByteArray.empty ps 0).toList = ([104, 101, 97, 100, 115] : List UInt8)
  ·rw [if_pos c1, if_pos (by omega), h1]
   simp [firstF, c1]
  ·rw [if_neg c1]
   by_cases c2 : (rdOf ByteArray.empty ps 0).toList = ([116, 97, 103, 115] : List UInt8)
   ·rw [if_pos c2, if_pos (by omega), h1]
    simp [firstF, c2]
   ·rw [if_neg c2]
    simp [firstF, c1, c2]
 ·rw [decide_eq_false a, Bool.false_and]
  by_cases b1 : (s.size : Int) > 80
  ·rw [if_pos b1]
  ·rw [if_neg b1]
   by_cases b2 : (ps.length : Int) < 2
   ·rw [if_pos b2]
   ·rw [if_neg b2, if_pos (by omega)]
end Go.Proofs.YtlfenakgphmepaaGreatDoor.Hello
