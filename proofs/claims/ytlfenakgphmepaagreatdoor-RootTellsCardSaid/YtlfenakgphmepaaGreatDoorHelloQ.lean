/- Parts of the proof. -/
import Derived.Test.YtlfenakgphmepaaGreatDoorPrint
section
namespace Go.Proofs.YtlfenakgphmepaaGreatDoor.Hello
open Go.RowKit YtlfenakgphmepaaGreatDoorW.PrintWords YtlfenakgphmepaaGreatDoorW.PrintLast YtlfenakgphmepaaGreatDoorW.PrintMore YtlfenakgphmepaaGreatDoor.Conv Print
theorem w64 {x : Int} (h0 : -9223372036854775808 <= x) (h1 : x <= 9223372036854775807) : wrap64 x = x := by unfold wrap64; omega
theorem rd_get (l : List ByteArray) (i : Nat) (h : i < l.length) : rdOf ByteArray.empty l (i : Int) = l[i] := by
 unfold rdOf
 rw [Int.toNat_natCast, List.getD_eq_getElem?_getD, List.getElem?_eq_getElem h]; rfl
def hexB (c : Int) : Bool := decide ((48 <= c /\ c <= 57) ∨ (97 <= c /\ c <= 102))
theorem hexB_iff (c : Int) : hexB c = true <-> (48 <= c /\ c <= 57) ∨ (97 <= c /\ c <= 102) := by unfold hexB; exact decide_eq_true_iff
theorem hex_step (c : Int) (X : Option Bool) : (if c < 48 then (if c < 97 then (some false) else (if c > 102 then (some false) else X)) else (if c > 57 then (if c < 97 then (some false) else (if c > 102 then (some false) else X)) else X)) = if hexB c = true then X else some false := by
 have h := hexB_iff c
 by_cases b : hexB c = true
 ·rw [if_pos b]
  rcases h.1 b with ⟨h1, h2⟩ | ⟨h1, h2⟩
  ·rw [if_neg (by omega), if_neg (by omega)]
  ·rw [if_neg (by omega), if_pos (by omega), if_neg (by omega), if_neg (by omega)]
 ·rw [if_neg b]
  have n : ¬ ((48 <= c /\ c <= 57) ∨ (97 <= c /\ c <= 102)) := fun e => b (h.2 e)
  repeat' split
  all_goals first | rfl | (exfalso; omega)
theorem hex_step2 (c : Int) (X : Option Bool) : (if c >= 48 then (if c <= 57 then X else (if c >= 97 then (if (c <= 102) then X else (some false)) else (some false))) else (if c >= 97 then (if (c <= 102) then X else (some false)) else (some false))) = if hexB c = true then X else some false := by
 have h := hexB_iff c
 by_cases b : hexB c = true
 ·rw [if_pos b]
  rcases h.1 b with ⟨h1, h2⟩ | ⟨h1, h2⟩
  ·rw [if_pos (by omega), if_pos (by omega)]
  ·rw [if_pos (by omega), if_neg (by omega), if_pos (by omega), if_pos (by omega)]
 ·rw [if_neg b]
  have n : ¬ ((48 <= c /\ c <= 57) ∨ (97 <= c /\ c <= 102)) := fun e => b (h.2 e)
  repeat' split
  all_goals first | rfl | (exfalso; omega)
def hexFrom (s : ByteArray) : Nat -> Nat -> Bool
 | 0, _ => true
 | d + 1, i => hexB (bt s (i : Int)) && hexFrom s d (i + 1)
def idF (s : ByteArray) : Bool := hexFrom s s.size 0 && ((s.size : Int) == 64)
theorem digest_loop (s : ByteArray) (hl : s.size <= 9223372036854775806) : ∀ (d i k : Nat), i + d = s.size -> d + 1 <= k -> digest_Named.l0 k s (s.size : Int) (i : Int) = some (hexFrom s d i && ((s.size : Int) == 64)) := by
 intro d
 induction d with
 | zero =>
  intro i k hi hk
  obtain ⟨k, rfl⟩ : ∃ j, k = j + 1 := ⟨k - 1, by omega⟩
  simp only [digest_Named.l0]
  rw [if_neg (by omega)]
  rfl
 | succ d ih =>
  intro i k hi hk
  obtain ⟨k, rfl⟩ : ∃ j, k = j + 1 := ⟨k - 1, by omega⟩
  simp only [digest_Named.l0]
  rw [if_pos (by omega), if_pos (by omega), if_pos (by omega), hex_step, w64 (by omega) (by omega), show ((i : Int) + 1) = ((i + 1 : Nat) : Int) by omega, ih (i + 1) k (by omega) (by omega)]
  simp only [hexFrom]
  by_cases b : hexB (bt s (i : Int)) = true
  ·rw [if_pos b, b, Bool.true_and]
  ·rw [if_neg b, Bool.eq_false_iff.2 b]; rfl
theorem digest_eq (s : ByteArray) (hl : s.size <= 9223372036854775806) {k : Nat} (hk : s.size + 1 <= k) : digest_Named.f k s = some (idF s) := digest_loop s hl s.size 0 k (by omega) hk
theorem id_size {s : ByteArray} (h : idF s = true) : s.size = 64 := by
 unfold idF at h
 have := beq_iff_eq.1 (Bool.and_eq_true _ _ ▸ h).2
 omega
def letB (c : Int) : Bool := decide (c = 46 ∨ c = 45 ∨ c = 95 ∨ (97 <= c /\ c <= 122) ∨ (48 <= c /\ c <= 57))
theorem let_step (c : Int) (X : Option Bool) : (if c = 46 then X else (if c = 45 then X else (if c = 95 then X else (if c < 97 then (if c < 48 then (some false) else (if c > 57 then (some false) else X)) else (if c > 122 then (if c < 48 then (some false) else (if c > 57 then (some false) else X)) else X))))) = if letB c = true then X else some false := by
 have h : letB c = true <-> (c = 46 ∨ c = 45 ∨ c = 95 ∨ (97 <= c /\ c <= 122) ∨ (48 <= c /\ c <= 57)) := decide_eq_true_iff
 by_cases b : letB c = true
 ·have e := h.1 b
  rw [if_pos b]
  repeat' split
  all_goals first | rfl | (exfalso; omega)
 ·have n : ¬ (c = 46 ∨ c = 45 ∨ c = 95 ∨ (97 <= c /\ c <= 122) ∨ (48 <= c /\ c <= 57)) := fun e => b (h.2 e)
  rw [if_neg b]
  repeat' split
  all_goals first | rfl | (exfalso; omega)
def letFrom (s : ByteArray) : Nat -> Nat -> Bool
 | 0, _ => true
 | d + 1, i => letB (bt s (i : Int)) && letFrom s d (i + 1)
def partEnd (s : ByteArray) : Bool := decide (1 <= s.size /\ s.size <= 30) && ((bt s 0) != 46)
def partF (s : ByteArray) : Bool := letFrom s s.size 0 && partEnd s
theorem letters_loop (s : ByteArray) (hl : s.size <= 9223372036854775806) : ∀ (d i k : Nat), i + d = s.size -> d + 1 <= k -> refs_letters.l0 k s (s.size : Int) (i : Int) = some (letFrom s d i && partEnd s) := by
 intro d
 induction d with
 | zero =>
  intro i k hi hk
  obtain ⟨k, rfl⟩ : ∃ j, k = j + 1 := ⟨k - 1, by omega⟩
  simp only [refs_letters.l0]
  rw [if_neg (by omega)]
  unfold partEnd
  by_cases c : s.toList = ([] : List UInt8)
  ·have e : s.size = 0 := by
    have : s.toList.length = 0 := by rw [c]; rfl
    rwa [Lib.toList_data, Array.length_toList] at this
   rw [if_pos c, df (by omega)]
   simp [letFrom]
  ·have e : s.size ≠ 0 := fun e => c (by
    have : s.toList.length = 0 := by rw [Lib.toList_data, Array.length_toList]; exact e
    exact List.eq_nil_of_length_eq_zero this)
   rw [if_neg c]
   by_cases h : (s.size : Int) <= 30
   ·rw [if_pos h, if_pos (by omega), dt (by omega)]
    simp [letFrom]
   ·rw [if_neg h, df (by omega)]
    simp [letFrom]
 | succ d ih =>
  intro i k hi hk
  obtain ⟨k, rfl⟩ : ∃ j, k = j + 1 := ⟨k - 1, by omega⟩
  simp only [refs_letters.l0]
  rw [if_pos (by omega), if_pos (by omega), if_pos (by omega), let_step, w64 (by omega) (by omega), show ((i : Int) + 1) = ((i + 1 : Nat) : Int) by omega, ih (i + 1) k (by omega) (by omega)]
  simp only [letFrom]
  by_cases b : letB (bt s (i : Int)) = true
  ·rw [if_pos b, b, Bool.true_and]
  ·rw [if_neg b, Bool.eq_false_iff.2 b]; rfl
theorem letters_eq (s : ByteArray) (hl : s.size <= 9223372036854775806) {k : Nat} (hk : s.size + 1 <= k) : refs_letters.f k s = some (partF s) := letters_loop s hl s.size 0 k (by omega) hk
theorem parts1_eq (k : Nat) : ∀ (l : List ByteArray), (∀ s ∈ l, s.size + 1 <= k) -> (∀ s ∈ l, s.size <= 9223372036854775806) -> refs_Named_1.f k l = some (!(l.all partF))
 | [], _, _ => rfl
 | x :: t, hk, hs => by
  simp only [refs_Named_1.f]
  rw [letters_eq x (hs x (by simp)) (hk x (by simp))]
  simp only [Option.bind_some, List.all_cons]
  by_cases b : partF x = true
  ·rw [if_pos b, parts1_eq k t (fun s h => hk s (by simp [h])) (fun s h => hs s (by simp [h])), b, Bool.true_and]
  ·rw [if_neg b, Bool.eq_false_iff.2 b]; rfl
theorem splitB_size (sep : ByteArray) : ∀ (k : Nat) (s : ByteArray), ∀ p ∈ Lib.splitB sep 0 k s, p.size <= s.size
 | 0, s, p, h => by
  rw [Lib.splitB_zero, List.mem_singleton] at h
  rw [h]; exact Nat.le_refl _
 | k + 1, s, p, h => by
  unfold Lib.splitB at h
  split at h
  ·rw [List.mem_singleton] at h
   rw [h]; exact Nat.le_refl _
  ·rcases List.mem_cons.1 h with rfl | h
   ·rw [ByteArray.size_extract]; omega
   ·have := splitB_size sep k _ p h
    rw [ByteArray.size_extract] at this
    omega
def piecesF (s : ByteArray) : List ByteArray := Lib.splitB ⟨#[47]⟩ 0 (Lib.countB s ⟨#[47]⟩) s
def firstF (p : ByteArray) : Bool := decide (p.toList = ([104, 101, 97, 100, 115] : List UInt8) ∨ p.toList = ([116, 97, 103, 115] : List UInt8))
def namedF (s : ByteArray) : Bool := decide (s.size <= 80 /\ 2 <= (piecesF s).length /\ (piecesF s).length <= 4) && (firstF (rdOf ByteArray.empty (piecesF s) 0) && ((piecesF s).drop 1).all partF)
theorem refnamed_eq (s : ByteArray) (hl : s.size < 4294967281) {k : Nat} (hk : s.size + 1 <= k) : refs_Named.f k s = some (namedF s) := by
 have hp := splitB_size ⟨#[47]⟩ (Lib.countB s ⟨#[47]⟩) s
 have hd : ∀ p ∈ (piecesF s).drop 1, p.size <= s.size := fun p h => hp p (List.mem_of_mem_drop h)
 have h1 := parts1_eq k ((piecesF s).drop 1) (fun p h => by have := hd p h; omega) (fun p h => by have := hd p h; omega)
 unfold refs_Named.f namedF
 rw [show strings_Split.f s (⟨#[47]⟩ : ByteArray) = some (piecesF s) from if_pos ⟨rfl, hl⟩]
 simp only [Option.bind_some]
 generalize piecesF s = ps at h1 ⊢
 by_cases a : s.size <= 80 /\ 2 <= ps.length /\ ps.length <= 4
 ·rw [dt a, Bool.true_and, if_neg (by omega), if_neg (by omega), if_neg (by omega), if_pos (by omega)]
  by_cases c1 : (rdOf ByteArray.empty ps 0).toList = ([104, 101, 97, 100, 115] : List UInt8)
  ·rw [if_pos c1, if_pos (by omega), h1]
   simp [firstF, c1]
  ·rw [if_neg c1]
   by_cases c2 : (rdOf ByteArray.empty ps 0).toList = ([116, 97, 103, 115] : List UInt8)
   ·rw [if_pos c2, if_pos (by omega), h1]
    simp [firstF, c2]
   ·rw [if_neg c2]
    simp [firstF, c1, c2]
 ·rw [df a, Bool.false_and]
  by_cases b1 : (s.size : Int) > 80
  ·rw [if_pos b1]
  ·rw [if_neg b1]
   by_cases b2 : (ps.length : Int) < 2
   ·rw [if_pos b2]
   ·rw [if_neg b2, if_pos (by omega)]
theorem pieces_miss (s : ByteArray) (h : Lib.indexB s ⟨#[47]⟩ = -1) : piecesF s = [s] := by
 unfold piecesF
 exact Lib.splitB_miss _ _ _ _ h
theorem pieces_hit (s : ByteArray) (i : Nat) (h : Lib.indexB s ⟨#[47]⟩ = i) : piecesF s = s.extract 0 i :: piecesF (s.extract (i + 1) s.size) := by
 have hc := Lib.countB_hit s ⟨#[47]⟩ i (Nat.le_refl 1) h
 unfold piecesF
 rw [show Lib.countB s ⟨#[47]⟩ = Lib.countB (s.extract (i + 1) s.size) ⟨#[47]⟩ + 1 from by rw [hc]; show 1 + _ = _; rw [Nat.add_comm]; rfl]
 show (if Lib.indexB s ⟨#[47]⟩ == -1 then [s] else _) = _
 rw [h, if_neg (by simp), Int.toNat_natCast]
 rfl
end Go.Proofs.YtlfenakgphmepaaGreatDoor.Hello
end
section
namespace Go.Proofs.YtlfenakgphmepaaGreatDoor.Hello
open Go.RowKit YtlfenakgphmepaaGreatDoorW.PrintWords YtlfenakgphmepaaGreatDoorW.PrintLast YtlfenakgphmepaaGreatDoorW.PrintMore YtlfenakgphmepaaGreatDoor.Conv Print
abbrev Rf := S83
theorem getR (l : List Rf) (i : Nat) (h : i < l.length) : rd_T83 l (i : Int) = l[i] := by
 unfold rd_T83
 rw [Int.toNat_natCast, List.getD_eq_getElem?_getD, List.getElem?_eq_getElem h]; rfl
theorem toList_inj {a b : ByteArray} (h : a.toList = b.toList) : a = b := by
 rw [Lib.toList_data, Lib.toList_data] at h
 exact ByteArray.ext (Array.ext' h)
def prefF (s p : ByteArray) : Bool := if (s.size : Int) >= (p.size : Int) then (s.extract 0 p.size).toList == p.toList else false
theorem hasPrefix_eq (s p : ByteArray) : strings_HasPrefix.f s p = some (prefF s p) := by
 unfold strings_HasPrefix.f sl_HasPrefix.f prefF
 by_cases h : (s.size : Int) >= (p.size : Int)
 ·rw [if_pos h, if_pos (by omega), if_pos (by omega), if_pos h]; rfl
 ·rw [if_neg h, if_neg h]; rfl
theorem indexByte_lt (l : List UInt8) (c : UInt8) : Lib.indexByte l c < l.length := by
 induction l with
 | nil => simp [Lib.indexByte]
 | cons b l ih =>
  unfold Lib.indexByte
  simp only [List.length_cons]
  split
  ·omega
  ·split <;> omega
theorem indexByte_app (a b : List UInt8) (c : UInt8) (h : c ∉ a) : Lib.indexByte (a ++ c :: b) c = a.length := by
 induction a with
 | nil => simp [Lib.indexByte]
 | cons x a ih =>
  have hx : x ≠ c := fun e => h (by simp [e])
  have := ih (fun e => h (by simp [e]))
  simp only [List.cons_append, Lib.indexByte, this, List.length_cons]
  rw [if_neg (by simpa using hx), if_neg (by simp)]
  try omega
theorem hexFrom_at (s : ByteArray) : ∀ (d i : Nat), hexFrom s d i = true -> ∀ j, i <= j -> j < i + d -> hexB (bt s (j : Int)) = true
 | 0, i, _, j, h1, h2 => by omega
 | d + 1, i, h, j, h1, h2 => by
  unfold hexFrom at h
  rw [Bool.and_eq_true] at h
  by_cases e : j = i
  ·rw [e]; exact h.1
  ·exact hexFrom_at s d (i + 1) h.2 j (by omega) (by omega)
theorem id_bytes {s : ByteArray} (h : idF s = true) : ∀ b ∈ s.data.toList, (48 <= b.toNat /\ b.toNat <= 57) ∨ (97 <= b.toNat /\ b.toNat <= 102) := by
 intro b hb
 obtain ⟨j, hj, rfl⟩ := List.mem_iff_getElem.1 hb
 unfold idF at h
 rw [Bool.and_eq_true] at h
 rw [Array.length_toList] at hj
 have hz : s.data.size = s.size := rfl
 have := hexFrom_at s s.size 0 h.1 j (Nat.zero_le _) (by omega)
 have hx := (hexB_iff _).1 this
 have e := bt_at s (j : Int) (by rw [Int.toNat_natCast]; omega)
 rw [<- e] at hx
 have e2 : (s[(j : Int).toNat]'(by rw [Int.toNat_natCast]; omega)).toNat = (s.data.toList[j]).toNat := by
  simp only [Int.toNat_natCast, Array.getElem_toList]; rfl
 rw [e2] at hx
 omega
end Go.Proofs.YtlfenakgphmepaaGreatDoor.Hello
end
section
namespace Go.Proofs.YtlfenakgphmepaaGreatDoor.Hello
open Go.RowKit YtlfenakgphmepaaGreatDoorW.PrintWords YtlfenakgphmepaaGreatDoorW.PrintLast YtlfenakgphmepaaGreatDoorW.PrintMore YtlfenakgphmepaaGreatDoor.Conv Print
def slashT : ByteArray := ⟨#[47]⟩
theorem above_eq (a b : ByteArray) (h : a.size + 1 <= 9223372036854775807) : refs_above.f a b = some (prefF b (a ++ slashT)) := by
 unfold refs_above.f
 rw [if_pos h, show strings_HasPrefix.f b (a ++ (⟨#[47]⟩ : ByteArray)) = some (prefF b (a ++ slashT)) from hasPrefix_eq _ _]
 rfl
def rightGo (l : List Rf) : List Rf -> Option ByteArray -> Bool
 | [], _ => decide ((l.length : Int) <= 64)
 | y :: t, p => namedF y.f0 && (idF y.f1 && (!(notAbove p y.f0) && (!(l.any fun z => prefF y.f0 (z.f0 ++ slashT)) && rightGo l t (some y.f0))))
def rightF (l : List Rf) : Bool := rightGo l l none
theorem rightGo_out (l : List Rf) : ∀ (t : List Rf) (p : Option ByteArray), rightGo l t p = true -> l.length <= 64 /\ ∀ y ∈ t, namedF y.f0 = true /\ idF y.f1 = true
 | [], _, h => ⟨by have := of_decide_eq_true h; omega, by simp⟩
 | y :: t, p, h => by
  simp only [rightGo, Bool.and_eq_true] at h
  have ih := rightGo_out l t _ h.2.2.2.2
  refine ⟨ih.1, fun z hz => ?_⟩
  rcases List.mem_cons.1 hz with rfl | hz
  ·exact ⟨h.1, h.2.1⟩
  ·exact ih.2 z hz
theorem named_size {s : ByteArray} (h : namedF s = true) : s.size <= 80 := by
 unfold namedF at h
 rw [Bool.and_eq_true] at h
 exact (of_decide_eq_true h.1).1
def refT (y : Rf) : ByteArray := (y.f1 ++ (⟨#[32]⟩ : ByteArray)) ++ y.f0
theorem refT_size (y : Rf) : (refT y).size = y.f1.size + 1 + y.f0.size := by
 unfold refT
 rw [ByteArray.size_append, ByteArray.size_append]; rfl
end Go.Proofs.YtlfenakgphmepaaGreatDoor.Hello
end
section
namespace Go.Proofs.YtlfenakgphmepaaGreatDoor.Hello
open Go.RowKit YtlfenakgphmepaaGreatDoorW.PrintWords YtlfenakgphmepaaGreatDoorW.PrintLast YtlfenakgphmepaaGreatDoorW.PrintMore YtlfenakgphmepaaGreatDoor.Conv Print
theorem rnamed_loop (s : ByteArray) (hl : s.size = 64) : ∀ (d i k : Nat), i + d = s.size -> d + 1 <= k -> q2_Named.l0 k s (i : Int) = some (hexFrom s d i) := by
 intro d
 induction d with
 | zero =>
  intro i k hi hk
  obtain ⟨k, rfl⟩ : ∃ j, k = j + 1 := ⟨k - 1, by omega⟩
  simp only [q2_Named.l0]
  rw [if_neg (by omega)]
  rfl
 | succ d ih =>
  intro i k hi hk
  obtain ⟨k, rfl⟩ : ∃ j, k = j + 1 := ⟨k - 1, by omega⟩
  simp only [q2_Named.l0]
  rw [if_pos (by omega), if_pos (by omega), if_pos (by omega), hex_step2, w64 (by omega) (by omega), show ((i : Int) + 1) = ((i + 1 : Nat) : Int) by omega, ih (i + 1) k (by omega) (by omega)]
  simp only [hexFrom]
  by_cases b : hexB (bt s (i : Int)) = true
  ·rw [if_pos b, b, Bool.true_and]
  ·rw [if_neg b, Bool.eq_false_iff.2 b]; rfl
theorem rnamed_eq (s : ByteArray) {k : Nat} (hk : 65 <= k) : q2_Named.f k s = some (idF s) := by
 unfold q2_Named.f idF
 by_cases h : (s.size : Int) = 64
 ·rw [if_pos h, beq_iff_eq.2 h, Bool.and_true]
  exact rnamed_loop s (by omega) s.size 0 k (by omega) (by omega)
 ·rw [if_neg h, beq_eq_false_iff_ne.2 h, Bool.and_false]
theorem part_loop (s : ByteArray) (hl : s.size <= 9223372036854775806) : ∀ (d i k : Nat), i + d = s.size -> d + 1 <= k -> q9_part.l0 k s (i : Int) = some (letFrom s d i && partEnd s) := by
 intro d
 induction d with
 | zero =>
  intro i k hi hk
  obtain ⟨k, rfl⟩ : ∃ j, k = j + 1 := ⟨k - 1, by omega⟩
  simp only [q9_part.l0]
  rw [if_neg (by omega)]
  unfold partEnd
  by_cases c : (s.size : Int) >= 1
  ·rw [if_pos c]
   by_cases h : (s.size : Int) <= 30
   ·rw [if_pos h, if_pos (by omega), dt (by omega)]
    simp [letFrom]
   ·rw [if_neg h, df (by omega)]
    simp [letFrom]
  ·rw [if_neg c, df (by omega)]
   simp [letFrom]
 | succ d ih =>
  intro i k hi hk
  obtain ⟨k, rfl⟩ : ∃ j, k = j + 1 := ⟨k - 1, by omega⟩
  simp only [q9_part.l0]
  rw [if_pos (by omega), if_pos (by omega), let_step, w64 (by omega) (by omega), show ((i : Int) + 1) = ((i + 1 : Nat) : Int) by omega, ih (i + 1) k (by omega) (by omega)]
  simp only [letFrom]
  by_cases b : letB (bt s (i : Int)) = true
  ·rw [if_pos b, b, Bool.true_and]
  ·rw [if_neg b, Bool.eq_false_iff.2 b]; rfl
theorem part_eq (s : ByteArray) (hl : s.size <= 9223372036854775806) {k : Nat} (hk : s.size + 1 <= k) : q9_part.f k s = some (partF s) := part_loop s hl s.size 0 k (by omega) hk
end Go.Proofs.YtlfenakgphmepaaGreatDoor.Hello
end
section
namespace Go.Proofs.YtlfenakgphmepaaGreatDoor.Hello
open Go.RowKit YtlfenakgphmepaaGreatDoorW.PrintWords YtlfenakgphmepaaGreatDoorW.PrintLast YtlfenakgphmepaaGreatDoorW.PrintMore YtlfenakgphmepaaGreatDoor.Conv Print
theorem index_one (c : UInt8) : ∀ l : List UInt8, Lib.index l [c] = Lib.indexByte l c
 | [] => rfl
 | b :: l => by
  unfold Lib.index Lib.indexByte
  rw [index_one c l]
  have e : [c].isPrefixOf (b :: l) = (b == c) := by
   simp only [List.isPrefixOf, Bool.and_true]
   exact BEq.comm
  rw [e]
theorem bt_get (s : ByteArray) (i : Nat) (h : i < s.size) : bt s (i : Int) = ((s.data.toList[i]'(by simpa using h)).toNat : Int) := by
 rw [<- bt_at s (i : Int) (by rw [Int.toNat_natCast]; exact h)]
 simp only [Int.toNat_natCast]
 rfl
theorem bt_slash (s : ByteArray) (i : Nat) (h : i < s.size) : bt s (i : Int) = 47 <-> s.data.toList[i]? = some 47 := by
 rw [bt_get s i h, List.getElem?_eq_getElem (by simpa using h)]
 constructor
 ·intro e
  have : (s.data.toList[i]'(by simpa using h)).toNat = 47 := by omega
  congr 1
  exact UInt8.toNat_inj.1 this
 ·intro e
  rw [Option.some.inj e]
  rfl
theorem slash_cases (s : ByteArray) : (piecesF s = [s] /\ ∀ x, x < s.size -> bt s (x : Int) ≠ 47) ∨ ∃ e, e < s.size /\ bt s (e : Int) = 47 /\ (∀ x, x < e -> bt s (x : Int) ≠ 47) /\ piecesF s = s.extract 0 e :: piecesF (s.extract (e + 1) s.size) := by
 have hi : Lib.indexB s ⟨#[47]⟩ = Lib.indexByte s.data.toList 47 := index_one 47 s.data.toList
 have hge := Lib.indexByte_ge s.data.toList 47
 by_cases h : Lib.indexByte s.data.toList 47 = -1
 ·left
  exact ⟨pieces_miss s (hi.trans h), fun x hx e => Lib.indexByte_none h x ((bt_slash s x hx).1 e)⟩
 ·right
  obtain ⟨o, ho⟩ : ∃ o : Nat, Lib.indexByte s.data.toList 47 = o := ⟨(Lib.indexByte s.data.toList 47).toNat, by omega⟩
  have h1 := Lib.indexByte_some ho
  have hlt : o < s.size := by
   have := (List.getElem?_eq_some_iff.1 h1.1).1
   simpa using this
  exact ⟨o, hlt, (bt_slash s o hlt).2 h1.1, fun x hx e => h1.2 x hx ((bt_slash s x (by omega)).1 e), pieces_hit s o (hi.trans ho)⟩
theorem part_nil (s : ByteArray) (h : s.size = 0) : partF s = false := by
 unfold partF partEnd
 rw [df (by omega), Bool.false_and, Bool.and_false]
theorem pieces_nil (s : ByteArray) (h : s.size = 0) : piecesF s = [s] := by
 rcases slash_cases s with h1 | ⟨e, h1, _⟩
 ·exact h1.1
 ·omega
def behindF (k n : Nat) (s : ByteArray) (e : Nat) : Option Bool := if (e : Int) = (s.size : Int) - 1 then some false else q9_Named.l0 k ((n : Int) + 1) (s.extract (e + 1) s.size)
def pieceF (n : Nat) (p : ByteArray) : Bool := if n = 0 then firstF p else partF p
theorem mn_next (e m : Nat) (h : e <= m) : (mn ((e : Int) + 1) (m : Int)).toNat = min (e + 1) m /\ 0 <= mn ((e : Int) + 1) (m : Int) /\ mn ((e : Int) + 1) (m : Int) <= (m : Int) := by
 unfold mn
 split <;> omega
theorem extract_min (s : ByteArray) (e : Nat) (h : e <= s.size) : s.extract (min (e + 1) s.size) s.size = s.extract (e + 1) s.size := by
 by_cases c : e + 1 <= s.size
 ·rw [Nat.min_eq_left c]
 ·rw [Nat.min_eq_right (by omega)]
  apply ByteArray.ext
  rw [ByteArray.data_extract, ByteArray.data_extract]
  apply Array.ext'
  simp [List.extract]
  omega
theorem stop_eq (k n : Nat) (s : ByteArray) (e : Nat) (hn : n <= 1000) (hs : s.size <= 1000) (he : e <= s.size) (hk : s.size + 1 <= k) (hx : e < s.size -> bt s (e : Int) = 47) : q9_Named.l1 (k + 1) (n : Int) s (e : Int) = if pieceF n (s.extract 0 e) = true then behindF k n s e else some false := by
 have hw1 : wrap64 ((e : Int) + 1) = (e : Int) + 1 := w64 (by omega) (by omega)
 have hw2 : wrap64 ((s.size : Int) - 1) = (s.size : Int) - 1 := w64 (by omega) (by omega)
 have hw3 : wrap64 ((n : Int) + 1) = (n : Int) + 1 := w64 (by omega) (by omega)
 obtain ⟨m1, m2, m3⟩ := mn_next e s.size he
 have hx1 : s.extract (mn ((e : Int) + 1) (s.size : Int)).toNat s.size = s.extract (e + 1) s.size := by rw [m1, extract_min s e he]
 have hp := part_eq (s.extract 0 e) (by rw [ByteArray.size_extract]; omega) (k := k) (by rw [ByteArray.size_extract]; omega)
 have key : (if (n : Int) = 0 then
   (if (s.extract 0 e).toList = ([104, 101, 97, 100, 115] : List UInt8) then behindF k n s e
    else if (s.extract 0 e).toList = ([116, 97, 103, 115] : List UInt8) then behindF k n s e else some false)
   else (if partF (s.extract 0 e) = true then behindF k n s e else some false)) = if pieceF n (s.extract 0 e) = true then behindF k n s e else some false := by
  unfold pieceF firstF
  by_cases c0 : n = 0
  ·rw [if_pos (by omega), if_pos c0]
   by_cases c1 : (s.extract 0 e).toList = ([104, 101, 97, 100, 115] : List UInt8)
   ·rw [if_pos c1, dt (Or.inl c1), if_pos rfl]
   ·rw [if_neg c1]
    by_cases c2 : (s.extract 0 e).toList = ([116, 97, 103, 115] : List UInt8)
    ·rw [if_pos c2, dt (Or.inr c2), if_pos rfl]
    ·rw [if_neg c2, df (by simp [c1, c2]), if_neg (by simp)]
  ·rw [if_neg (by omega), if_neg c0]
 rw [<- key]
 by_cases c : e < s.size
 ·simp only [q9_Named.l1, hp, Option.bind_some, hw1, hw2, hw3, hx1, Int.toNat_natCast]
  rw [if_pos (by omega), if_pos (by omega), if_pos (hx c), if_pos (by omega)]
  by_cases c0 : n = 0
  ·subst c0
   simp [m2, m3, behindF]
  ·have c1 : ¬ (n : Int) = 0 := by omega
   have c2 : 0 < n := by omega
   simp [m2, m3, behindF, c0, c2]
 ·simp only [q9_Named.l1, hp, Option.bind_some, hw1, hw2, hw3, hx1, Int.toNat_natCast]
  rw [if_neg (by omega), if_pos (by omega), if_pos (by omega)]
  by_cases c0 : n = 0
  ·subst c0
   simp [m2, m3, behindF]
  ·have c1 : ¬ (n : Int) = 0 := by omega
   have c2 : 0 < n := by omega
   simp [m2, m3, behindF, c0, c2]
theorem scan_eq (n : Nat) (s : ByteArray) (e : Nat) (hn : n <= 1000) (hs : s.size <= 1000) (he : e <= s.size) (hx : e < s.size -> bt s (e : Int) = 47) (hne : ∀ x, x < e -> bt s (x : Int) ≠ 47) : ∀ (d i k : Nat), i + d = e -> s.size + 2 + d <= k ->
  q9_Named.l1 k (n : Int) s (i : Int) = if pieceF n (s.extract 0 e) = true then behindF (k - d - 1) n s e else some false := by
 intro d
 induction d with
 | zero =>
  intro i k hi hk
  obtain ⟨k, rfl⟩ : ∃ j, k = j + 1 := ⟨k - 1, by omega⟩
  obtain rfl : i = e := by omega
  exact stop_eq k n s i hn hs he (by omega) hx
 | succ d ih =>
  intro i k hi hk
  obtain ⟨k, rfl⟩ : ∃ j, k = j + 1 := ⟨k - 1, by omega⟩
  have h := ih (i + 1) k (by omega) (by omega)
  simp only [q9_Named.l1]
  rw [if_pos (by omega), if_pos (by omega), if_neg (hne i (by omega)), w64 (by omega) (by omega), show ((i : Int) + 1) = ((i + 1 : Nat) : Int) by omega, h, show k + 1 - (d + 1) - 1 = k - d - 1 by omega]
theorem named_empty (n : Nat) (s : ByteArray) (hs : s.size = 0) (hn : 1 <= n) {k : Nat} (hk : 2 <= k) : q9_Named.l0 k (n : Int) s = some (decide (2 <= n /\ n <= 4)) := by
 obtain ⟨k, rfl⟩ : ∃ j, k = j + 2 := ⟨k - 2, by omega⟩
 have hf : ((n : Int) == 0) = false := by
  rw [beq_eq_false_iff_ne]
  omega
 simp only [q9_Named.l0, q9_Named.j1]
 rw [if_neg (by omega), hf, if_neg (by simp)]
 by_cases c : 2 <= n
 ·rw [if_pos (by omega)]
  congr 1
  by_cases c2 : n <= 4
  ·rw [dt (by omega), dt (by omega)]
  ·rw [df (by omega), df (by omega)]
 ·rw [if_neg (by omega), df (by omega)]
theorem first_scan (n : Nat) (s : ByteArray) (e : Nat) (hn : n <= 1000) (hs : s.size <= 1000) (hp : 0 < s.size ∨ n = 0) (he : e <= s.size) (hx : e < s.size -> bt s (e : Int) = 47) (hne : ∀ x, x < e -> bt s (x : Int) ≠ 47) {k : Nat} (hk : s.size + 5 + e <= k) :
  q9_Named.l0 k (n : Int) s = if pieceF n (s.extract 0 e) = true then behindF (k - 2 - e - 1) n s e else some false := by
 obtain ⟨k, rfl⟩ : ∃ j, k = j + 2 := ⟨k - 2, by omega⟩
 have h := scan_eq n s e hn hs he hx hne e 0 k (by omega) (by omega)
 simp only [q9_Named.l0, q9_Named.j1]
 by_cases c : (s.size : Int) > 0
 ·rw [if_pos c, if_pos True.intro]
  exact h
 ·rw [if_neg c]
  have hf : ((n : Int) == 0) = true := by
   rw [beq_iff_eq]
   omega
  rw [hf, if_pos rfl]
  exact h
set_option maxHeartbeats 1000000 in
theorem named_rest : ∀ (m : Nat) (s : ByteArray) (n k : Nat), s.size <= m -> s.size <= 80 -> 1 <= n -> n + s.size <= 200 -> 4 * s.size + 10 <= k -> 0 < s.size -> q9_Named.l0 k (n : Int) s = some ((piecesF s).all partF && decide (2 <= n + (piecesF s).length /\ n + (piecesF s).length <= 4)) := by
 intro m
 induction m with
 | zero => intro s n k hm _ _ _ _ h0; omega
 | succ m ih =>
  intro s n k hm h80 hn hns hk h0
  have hp : ∀ p, pieceF n p = partF p := fun p => if_neg (by omega)
  rcases slash_cases s with ⟨h1, h2⟩ | ⟨e, h1, h2, h3, h4⟩
  ·have hz : (s.extract (s.size + 1) s.size).size = 0 := by rw [ByteArray.size_extract]; omega
   have h5 := named_empty (n + 1) _ hz (by omega) (k := k - 2 - s.size - 1) (by omega)
   have h6 := first_scan n s s.size (by omega) (by omega) (Or.inl h0) (Nat.le_refl _) (fun h => absurd h (Nat.lt_irrefl _)) h2 (k := k) (by omega)
   rw [h6, h1, hp, ByteArray.extract_zero_size]
   by_cases c : partF s = true
   ·have h7 : behindF (k - 2 - s.size - 1) n s s.size = some (decide (2 <= n + 1 /\ n + 1 <= 4)) := by
     unfold behindF
     rw [if_neg (by omega), show ((n : Int) + 1) = ((n + 1 : Nat) : Int) by omega, h5]
    rw [if_pos c, h7]
    simp [c]
   ·rw [if_neg c]
    simp [c]
  ·have h6 := first_scan n s e (by omega) (by omega) (Or.inl h0) (by omega) (fun _ => h2) h3 (k := k) (by omega)
   rw [h6, h4, hp]
   have hz : (s.extract (e + 1) s.size).size = s.size - (e + 1) := by rw [ByteArray.size_extract]; omega
   generalize hr : s.extract (e + 1) s.size = r at hz ⊢
   generalize s.extract 0 e = p
   by_cases c : partF p = true
   ·rw [if_pos c]
    by_cases c2 : e + 1 = s.size
    ·have h7 : behindF (k - 2 - e - 1) n s e = some false := by
      unfold behindF
      rw [if_pos (by omega)]
     rw [h7, pieces_nil r (by omega)]
     simp [part_nil r (by omega)]
    ·have h5 := ih r (n + 1) (k - 2 - e - 1) (by omega) (by omega) (by omega) (by omega) (by omega) (by omega)
     have h7 : behindF (k - 2 - e - 1) n s e = some ((piecesF r).all partF && decide (2 <= n + 1 + (piecesF r).length /\ n + 1 + (piecesF r).length <= 4)) := by
      unfold behindF
      rw [if_neg (by omega), show ((n : Int) + 1) = ((n + 1 : Nat) : Int) by omega, hr, h5]
     rw [h7, List.all_cons, c, Bool.true_and, List.length_cons, show n + 1 + (piecesF r).length = n + ((piecesF r).length + 1) by omega]
   ·rw [if_neg c]
    simp [c]
theorem refn_eq (s : ByteArray) {k : Nat} (hk : 400 <= k) : q9_Named.f k s = some (namedF s) := by
 unfold q9_Named.f namedF
 by_cases h80 : (s.size : Int) > 80
 ·rw [if_pos h80, df (by omega), Bool.false_and]
 rw [if_neg h80, show (0 : Int) = ((0 : Nat) : Int) from rfl]
 have hp : ∀ p, pieceF 0 p = firstF p := fun p => if_pos rfl
 rcases slash_cases s with ⟨h1, h2⟩ | ⟨e, h1, h2, h3, h4⟩
 ·rw [first_scan 0 s s.size (by omega) (by omega) (Or.inr rfl) (Nat.le_refl _) (fun h => absurd h (Nat.lt_irrefl _)) h2 (by omega), h1, hp, df (by simp), Bool.false_and]
  split
  ·unfold behindF
   rw [if_neg (by omega), show (((0 : Nat) : Int) + 1) = ((1 : Nat) : Int) from rfl, named_empty 1 _ (by rw [ByteArray.size_extract]; omega) (by omega) (by omega)]
   rfl
  ·rfl
 ·have h6 := first_scan 0 s e (by omega) (by omega) (Or.inr rfl) (by omega) (fun _ => h2) h3 (k := k) (by omega)
  rw [h6, h4, hp]
  have hr : rdOf ByteArray.empty (s.extract 0 e :: piecesF (s.extract (e + 1) s.size)) ((0 : Nat) : Int) = s.extract 0 e := rfl
  rw [hr, List.drop_succ_cons, List.drop_zero, List.length_cons]
  have hz : (s.extract (e + 1) s.size).size = s.size - (e + 1) := by rw [ByteArray.size_extract]; omega
  clear hr h4
  generalize hr : s.extract (e + 1) s.size = r at hz ⊢
  generalize s.extract 0 e = p
  by_cases c : firstF p = true
  ·rw [if_pos c, c, Bool.true_and]
   by_cases c2 : e + 1 = s.size
   ·have h7 : behindF (k - 2 - e - 1) 0 s e = some false := by
     unfold behindF
     rw [if_pos (by omega)]
    rw [h7, pieces_nil r (by omega)]
    simp [part_nil r (by omega)]
   ·have h5 := named_rest s.size r 1 (k - 2 - e - 1) (by omega) (by omega) (by omega) (by omega) (by omega) (by omega)
    have h7 : behindF (k - 2 - e - 1) 0 s e = some ((piecesF r).all partF && decide (2 <= 1 + (piecesF r).length /\ 1 + (piecesF r).length <= 4)) := by
     unfold behindF
     rw [if_neg (by omega), show (((0 : Nat) : Int) + 1) = ((1 : Nat) : Int) from rfl, hr, h5]
    rw [h7, Bool.and_comm]
    congr 2
    by_cases c3 : 2 <= 1 + (piecesF r).length /\ 1 + (piecesF r).length <= 4
    ·rw [dt c3, dt (by omega)]
    ·rw [df c3, df (by omega)]
  ·rw [if_neg c]
   simp [c]
end Go.Proofs.YtlfenakgphmepaaGreatDoor.Hello
end
section
namespace Go.Proofs.YtlfenakgphmepaaGreatDoor.Hello
open Go.RowKit YtlfenakgphmepaaGreatDoorW.PrintWords YtlfenakgphmepaaGreatDoorW.PrintLast YtlfenakgphmepaaGreatDoorW.PrintMore YtlfenakgphmepaaGreatDoor.Conv Print
theorem take_list (s : ByteArray) (n : Nat) : (s.extract 0 n).toList = s.data.toList.take n := by
  rw [Lib.toList_data, ByteArray.data_extract, Array.toList_extract]
  simp [List.extract]
theorem rabove_eq (a b : ByteArray) : q9_above.f a b = some (prefF b (a ++ slashT)) := by
  unfold q9_above.f prefF
  have hz : (a ++ slashT).size = a.size + 1 := by rw [ByteArray.size_append]; rfl
  have hl : (a ++ slashT).toList = a.data.toList ++ [47] := by rw [Lib.toList_data, ByteArray.data_append]; simp [slashT]
  have hn : a.data.toList.length = a.size := by simp
  by_cases c : (b.size : Int) > (a.size : Int)
  · have hlt : a.size < b.data.toList.length := by have : b.data.toList.length = b.size := by simp
                                                   omega
    have hr : (if (b.size : Int) >= ((a ++ slashT).size : Int) then (b.extract 0 (a ++ slashT).size).toList == (a ++ slashT).toList else false) = (b.data.toList.take a.size ++ [b.data.toList[a.size]] == a.data.toList ++ [47]) := by
      rw [if_pos (by omega), hz, hl, take_list, List.take_succ_eq_append_getElem hlt]
    rw [hr, if_pos c, if_pos (by omega), if_pos (by omega), Int.toNat_natCast, take_list, Lib.toList_data a]
    by_cases d : b.data.toList.take a.size = a.data.toList
    · rw [if_pos d, if_pos c, d, bt_get b a.size (by omega)]
      congr 1
      generalize b.data.toList[a.size] = x
      by_cases e : x = 47
      · subst e
        simp
      · have h1 : ¬ ((x.toNat : Int) = 47) := fun h => e (UInt8.toNat_inj.1 (show x.toNat = (47 : UInt8).toNat by show x.toNat = 47; omega))
        rw [beq_eq_false_iff_ne.2 h1]
        symm
        rw [beq_eq_false_iff_ne]
        intro h
        have := List.append_cancel_left h
        simp at this
        exact e this
    · rw [if_neg d]
      congr 1
      symm
      rw [beq_eq_false_iff_ne]
      intro h
      exact d (List.append_inj_left' h rfl)
  · rw [if_neg c, if_neg (by omega)]
def prevF (l : List Rf) : Nat -> Option ByteArray
  | 0 => none
  | j + 1 => (l[j]?).map (·.f0)
theorem rright_l1 (l : List Rf) (i : Nat) (hi : i < l.length) (hl : l.length <= 100000) : ∀ (d j k : Nat), j + d = l.length -> d + 1 <= k ->
    q9_Right.l1 k l (i : Int) (j : Int) = cond ((l.drop j).any fun z => prefF l[i].f0 (z.f0 ++ slashT)) (some false) (q9_Right.l0 (k - d - 1) l ((i : Int) + 1)) := by
  intro d
  induction d with
  | zero =>
    intro j k hj hk
    obtain ⟨k, rfl⟩ : ∃ j, k = j + 1 := ⟨k - 1, by omega⟩
    simp only [q9_Right.l1]
    rw [if_neg (by omega), List.drop_eq_nil_of_le (by omega), w64 (by omega) (by omega)]
    rfl
  | succ d ih =>
    intro j k hj hk
    obtain ⟨k, rfl⟩ : ∃ j, k = j + 1 := ⟨k - 1, by omega⟩
    have hlt : j < l.length := by omega
    simp only [q9_Right.l1]
    rw [if_pos (by omega), if_pos (by omega), if_pos (by omega), if_pos (by omega), getR l i hi, getR l j hlt, rabove_eq, w64 (by omega) (by omega), show ((j : Int) + 1) = ((j + 1 : Nat) : Int) by omega, ih (j + 1) k (by omega) (by omega), List.drop_eq_getElem_cons hlt]
    simp only [Option.bind_some, List.any_cons]
    rw [show k + 1 - (d + 1) - 1 = k - d - 1 by omega]
    by_cases c : prefF l[i].f0 (l[j].f0 ++ slashT) = true
    · rw [if_pos c, c, Bool.true_or, cond_true]
    · rw [if_neg c, Bool.eq_false_iff.2 c, Bool.false_or]
theorem rright_l0 (l : List Rf) (hl : l.length <= 100000) : ∀ (d i k : Nat), i + d = l.length -> 1000 + d * (l.length + 4) <= k ->
    q9_Right.l0 k l (i : Int) = some (rightGo l (l.drop i) (prevF l i)) := by
  intro d
  induction d with
  | zero =>
    intro i k hi hk
    obtain ⟨k, rfl⟩ : ∃ j, k = j + 1 := ⟨k - 1, by omega⟩
    simp only [q9_Right.l0]
    rw [if_neg (by omega), List.drop_eq_nil_of_le (by omega)]
    rfl
  | succ d ih =>
    intro i k hi hk
    rw [Nat.succ_mul] at hk
    obtain ⟨q, hq⟩ : ∃ q, q = d * (l.length + 4) := ⟨_, rfl⟩
    rw [<- hq] at hk ih
    obtain ⟨k, rfl⟩ : ∃ j, k = j + 2 := ⟨k - 2, by omega⟩
    have hlt : i < l.length := by omega
    have hj : ∀ b : Bool, q9_Right.j1 (k + 1) l (i : Int) b = some (!b && (!(l.any fun z => prefF l[i].f0 (z.f0 ++ slashT)) && rightGo l (l.drop (i + 1)) (some l[i].f0))) := by
      intro b
      simp only [q9_Right.j1]
      by_cases c : b = true
      · rw [if_pos c, c]; rfl
      · rw [if_neg c, Bool.eq_false_iff.2 c]
        have h1 := rright_l1 l i hlt hl l.length 0 k (by omega) (by omega)
        rw [List.drop_zero] at h1
        rw [show (0 : Int) = ((0 : Nat) : Int) from rfl, h1]
        have h2 := ih (i + 1) (k - l.length - 1) (by omega) (by omega)
        rw [show prevF l (i + 1) = some l[i].f0 by simp [prevF, hlt]] at h2
        by_cases e : (l.any fun z => prefF l[i].f0 (z.f0 ++ slashT)) = true
        · rw [e]; rfl
        · rw [Bool.eq_false_iff.2 e, cond_false, show ((i : Int) + 1) = ((i + 1 : Nat) : Int) by omega, h2]; rfl
    simp only [q9_Right.l0]
    rw [if_pos (by omega), if_pos (by omega), getR l i hlt, refn_eq _ (by omega), rnamed_eq _ (by omega), hj, hj, hj, List.drop_eq_getElem_cons hlt]
    simp only [Option.bind_some, rightGo]
    by_cases a : namedF l[i].f0 = true
    · rw [if_pos a, a, Bool.true_and]
      by_cases b : idF l[i].f1 = true
      · rw [if_pos b, b, Bool.true_and]
        by_cases c : i = 0
        · subst c
          rw [if_neg (by omega)]
          rfl
        · obtain ⟨j, rfl⟩ : ∃ j, i = j + 1 := ⟨i - 1, by omega⟩
          have hp : prevF l (j + 1) = some l[j].f0 := by
            have : j < l.length := by omega
            simp [prevF, this]
          rw [if_pos (by omega), w64 (by omega) (by omega), show (((j + 1 : Nat) : Int) - 1) = ((j : Nat) : Int) by omega, if_pos (by omega), if_pos (by omega), getR l j (by omega), hp]
          rfl
      · rw [if_neg b, Bool.eq_false_iff.2 b]
        simp
    · rw [if_neg a, Bool.eq_false_iff.2 a]
      simp
theorem rright_big (l : List Rf) (hl : l.length <= 20000) {k : Nat} (hk : 499999999 <= k) : q9_Right.f k l = some (rightF l) := by
  refine rright_l0 l (by omega) l.length 0 k (by omega) ?_
  have := Nat.mul_le_mul hl (show l.length + 4 <= 20004 by omega)
  omega
end Go.Proofs.YtlfenakgphmepaaGreatDoor.Hello
end
