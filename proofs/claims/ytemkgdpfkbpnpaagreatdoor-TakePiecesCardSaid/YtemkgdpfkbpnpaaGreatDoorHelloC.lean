/- What talks begin with: the program's functions of whole lines, as plain functions (2). -/
import Derived.Test.YtemkgdpfkbpnpaaGreatDoorHelloB
namespace Go.Proofs.YtemkgdpfkbpnpaaGreatDoor.Hello
open Go.RowKit Go.Proofs.YtemkgdpfkbpnpaaGreatDoorW.PrintWords Go.Proofs.YtemkgdpfkbpnpaaGreatDoorW.PrintLast Go.Proofs.YtemkgdpfkbpnpaaGreatDoorW.PrintMore Go.Proofs.YtemkgdpfkbpnpaaGreatDoor.Conv Go.Proofs.YtemkgdpfkbpnpaaGreatDoor.Print
def slashT : ByteArray := ⟨#[47]⟩
theorem above_eq (a b : ByteArray) (h : a.size + 1 <= 9223372036854775807) : refs_above.f a b = some (prefF b (a ++ slashT)) := by
 unfold refs_above.f
 rw [if_pos h, show strings_HasPrefix.f b (a ++ (⟨#[47]⟩ : ByteArray)) = some (prefF b (a ++ slashT)) from hasPrefix_eq _ _]
 rfl
theorem right1_eq (x : ByteArray) : ∀ (l : List Rf), (∀ y ∈ l, y.f0.size <= 100000) -> refs_Right_1.f x l = some (l.any fun y => prefF x (y.f0 ++ slashT))
 | [], _ => rfl
 | y :: t, h => by
  simp only [refs_Right_1.f]
  rw [above_eq y.f0 x (by have := h y (by simp); omega)]
  simp only [Option.bind_some, List.any_cons]
  by_cases b : prefF x (y.f0 ++ slashT) = true
  ·rw [if_pos b, b, Bool.true_or]
  ·rw [if_neg b, right1_eq x t (fun z hz => h z (by simp [hz])), Bool.eq_false_iff.2 b, Bool.false_or]
def rightGo (l : List Rf) : List Rf -> Option ByteArray -> Bool
 | [], _ => decide ((l.length : Int) <= 64)
 | y :: t, p => namedF y.f0 && (idF y.f1 && (!(notAbove p y.f0) && (!(l.any fun z => prefF y.f0 (z.f0 ++ slashT)) && rightGo l t (some y.f0))))
theorem rightGo_eq (l : List Rf) (hl : ∀ y ∈ l, y.f0.size <= 100000 /\ y.f1.size <= 100000) {k : Nat} (hk : 200000 <= k) : ∀ (t : List Rf) (p : Option ByteArray), (∀ y ∈ t, y.f0.size <= 100000 /\ y.f1.size <= 100000) -> refs_Right.go k l t p = some (rightGo l t p)
 | [], _, _ => rfl
 | y :: t, p, h => by
  have hy := h y (by simp)
  simp only [refs_Right.go, rightGo]
  rw [refnamed_eq y.f0 (by omega) (by omega)]
  simp only [Option.bind_some]
  by_cases a : namedF y.f0 = true
  ·rw [if_pos a, digest_eq y.f1 (by omega) (by omega), a, Bool.true_and]
   simp only [Option.bind_some]
   by_cases b : idF y.f1 = true
   ·rw [if_pos b, b, Bool.true_and]
    by_cases c : notAbove p y.f0 = true
    ·rw [if_pos c, c]; rfl
    ·rw [if_neg c, Bool.eq_false_iff.2 c, right1_eq y.f0 l (fun z hz => (hl z hz).1)]
     simp only [Option.bind_some, Bool.not_false, Bool.true_and]
     by_cases d : (l.any fun z => prefF y.f0 (z.f0 ++ slashT)) = true
     ·rw [if_pos d, d]; rfl
     ·rw [if_neg d, rightGo_eq l hl hk t _ (fun z hz => h z (by simp [hz])), Bool.eq_false_iff.2 d]; rfl
   ·rw [if_neg b, Bool.eq_false_iff.2 b, Bool.false_and]
  ·rw [if_neg a, Bool.eq_false_iff.2 a, Bool.false_and]
def rightF (l : List Rf) : Bool := rightGo l l none
theorem right_eq (l : List Rf) (hl : ∀ y ∈ l, y.f0.size <= 100000 /\ y.f1.size <= 100000) {k : Nat} (hk : 200000 <= k) : refs_Right.f k l = some (rightF l) := rightGo_eq l hl hk l none hl
theorem rightGo_out (l : List Rf) : ∀ (t : List Rf) (p : Option ByteArray), rightGo l t p = true -> l.length <= 64 /\ ∀ y ∈ t, namedF y.f0 = true /\ idF y.f1 = true
 | [], _, h => ⟨by have := of_decide_eq_true h; omega, by simp⟩
 | y :: t, p, h => by
  simp only [rightGo, Bool.and_eq_true] at h
  have ih := rightGo_out l t _ h.2.2.2.2
  refine ⟨ih.1, fun z hz => ?_⟩
  rcases List.mem_cons.1 hz with rfl | hz
  ·exact ⟨h.1, h.2.1⟩
  ·exact ih.2 z hz
theorem named_size {s : ByteArray} (h : namedF s = true) : s.size <= 80 := by
 unfold namedF at h
 rw [Bool.and_eq_true] at h
 exact (of_decide_eq_true h.1).1
def titleT : ByteArray := ⟨#[115, 97, 99, 114, 105, 115, 116, 121, 32, 104, 101, 97, 100, 32]⟩
def refT (y : Rf) : ByteArray := (y.f1 ++ (⟨#[32]⟩ : ByteArray)) ++ y.f0
def toldT (h : ByteArray) (l : List Rf) : List ByteArray := (titleT ++ h) :: l.map refT
def toldF (h : ByteArray) (l : List Rf) : List Ln × Bool := if namedF h = true /\ rightF l = true then (endsF (toldT h l), true) else ([], false)
theorem refT_size (y : Rf) : (refT y).size = y.f1.size + 1 + y.f0.size := by
 unfold refT
 rw [ByteArray.size_append, ByteArray.size_append]; rfl
theorem told_loop (l : List Rf) (hl : l.length <= 64) (hs : ∀ y ∈ l, y.f0.size <= 100000 /\ y.f1.size <= 100000) (pre : List ByteArray) (hp : pre.length <= 10) (hps : ∀ s ∈ pre, s.size <= 1000000) : ∀ (d i k : Nat), i + d = l.length -> d + 200 <= k ->
  hello_Told.l0 k (pre ++ (l.take i).map refT) l (l.length : Int) (i : Int) = some (endsF (pre ++ l.map refT), true) := by
 intro d
 induction d with
 | zero =>
  intro i k hi hk
  obtain ⟨k, rfl⟩ : ∃ j, k = j + 1 := ⟨k - 1, by omega⟩
  obtain rfl : i = l.length := by omega
  simp only [hello_Told.l0]
  rw [if_neg (by omega), List.take_length]
  rw [ended_eq _ (fun s h => ?_) (by rw [List.length_append, List.length_map]; omega) (by rw [List.length_append, List.length_map]; omega)]
  ·rfl
  ·rcases List.mem_append.1 h with h | h
   ·have := hps s h; omega
   ·obtain ⟨y, hy, rfl⟩ := List.mem_map.1 h
    have := hs y hy
    rw [refT_size]; omega
 | succ d ih =>
  intro i k hi hk
  obtain ⟨k, rfl⟩ : ∃ j, k = j + 1 := ⟨k - 1, by omega⟩
  have hlt : i < l.length := by omega
  have h1 := hs l[i] (List.getElem_mem hlt)
  have hz : ((l[i].f1) ++ (⟨#[32]⟩ : ByteArray)).size = l[i].f1.size + 1 := by rw [ByteArray.size_append]; rfl
  have hlen : (pre ++ (l.take i).map refT).length <= 1000 := by rw [List.length_append, List.length_map, List.length_take]; omega
  simp only [hello_Told.l0]
  rw [if_pos (by omega), if_pos (by omega), if_pos (by omega), getR l i hlt, if_pos (by omega), if_pos (by omega), if_pos (by omega), w64 (by omega) (by omega), show ((i : Int) + 1) = ((i + 1 : Nat) : Int) by omega]
  have e : (pre ++ (l.take i).map refT) ++ [((l[i].f1) ++ (⟨#[32]⟩ : ByteArray)) ++ (l[i].f0)] = pre ++ (l.take (i + 1)).map refT := by
   rw [List.take_add_one, List.getElem?_eq_getElem hlt, List.map_append, List.append_assoc]; rfl
  rw [e]
  exact ih (i + 1) k (by omega) (by omega)
theorem told_eq (h : ByteArray) (l : List Rf) (hh : h.size <= 100000) (hs : ∀ y ∈ l, y.f0.size <= 100000 /\ y.f1.size <= 100000) {k : Nat} (hk : 1000000 <= k) : hello_Told.f k h l = some (toldF h l) := by
 obtain ⟨j, rfl⟩ : ∃ j, k = j + 1 := ⟨k - 1, by omega⟩
 unfold hello_Told.f toldF
 rw [refnamed_eq h (by omega) (by omega)]
 simp only [Option.bind_some]
 by_cases a : namedF h = true
 ·rw [if_pos a, right_eq l hs (by omega)]
  simp only [Option.bind_some]
  by_cases b : rightF l = true
  ·rw [b, if_pos ⟨a, rfl⟩]
   have hr := rightGo_out l l none b
   simp only [hello_Told.j0]
   rw [if_neg (by decide), if_pos (by omega)]
   exact told_loop l hr.1 hs [titleT ++ h] (by simp) (fun s hs => by
    rw [List.mem_singleton] at hs
    rw [hs, ByteArray.size_append]
    have : titleT.size = 14 := rfl
    omega) l.length 0 j (by omega) (by omega)
  ·rw [Bool.eq_false_iff.2 b, if_neg (by simp)]
   simp [hello_Told.j0]
 ·rw [if_neg a, if_neg (fun e => a e.1)]
  simp [hello_Told.j0]
theorem line_ext {a b : Ln} (h0 : a.f0 = b.f0) (h1 : a.f1.toList = b.f1.toList) : a = b := by
 cases a; cases b
 simp only at h0
 have := toList_inj h1
 simp only at this
 rw [h0, this]
theorem equal_loop (a b : List Ln) (hl : a.length = b.length) (hm : a.length <= 1000000000000) : ∀ (d i k : Nat), i + d = a.length -> d + 1 <= k -> ∃ r, api_Line.l0 k a b (a.length : Int) (i : Int) = some r /\ (r = true <-> a.drop i = b.drop i) := by
 intro d
 induction d with
 | zero =>
  intro i k hi hk
  obtain ⟨k, rfl⟩ : ∃ j, k = j + 1 := ⟨k - 1, by omega⟩
  simp only [api_Line.l0]
  rw [if_neg (by omega), List.drop_eq_nil_of_le (by omega), List.drop_eq_nil_of_le (by omega)]
  exact ⟨true, rfl, by simp⟩
 | succ d ih =>
  intro i k hi hk
  obtain ⟨k, rfl⟩ : ∃ j, k = j + 1 := ⟨k - 1, by omega⟩
  have hlt : i < a.length := by omega
  have hlt2 : i < b.length := by omega
  simp only [api_Line.l0]
  rw [if_pos (by omega), if_pos (by omega), if_pos (by omega), if_pos (by omega), getL a i hlt, getL b i hlt2, w64 (by omega) (by omega), show ((i : Int) + 1) = ((i + 1 : Nat) : Int) by omega]
  obtain ⟨r, hr, hi2⟩ := ih (i + 1) k (by omega) (by omega)
  rw [List.drop_eq_getElem_cons hlt, List.drop_eq_getElem_cons hlt2, hr]
  by_cases c : (!(a[i].f0 == b[i].f0) || !(a[i].f1.toList == b[i].f1.toList)) = true
  ·rw [if_pos c]
   refine ⟨false, rfl, ?_⟩
   constructor
   ·intro e; cases e
   ·intro e
    rw [List.cons.injEq] at e
    rw [e.1] at c
    simp at c
  ·rw [if_neg c]
   refine ⟨r, rfl, hi2.trans ?_⟩
   have e : a[i] = b[i] := by
    simp at c
    exact line_ext c.1 c.2
   rw [e]
   exact ⟨fun h => by rw [h], fun h => (List.cons.inj h).2⟩
theorem equal_eq (a b : List Ln) (hm : a.length <= 1000000000) {k : Nat} (hk : a.length + 1 <= k) : ∃ r, api_Line.f k a b = some r /\ (r = true <-> a = b) := by
 unfold api_Line.f
 by_cases h : (a.length : Int) = (b.length : Int)
 ·rw [if_pos h]
  obtain ⟨r, hr, hi⟩ := equal_loop a b (by omega) (by omega) a.length 0 k (by omega) hk
  exact ⟨r, hr, by simpa using hi⟩
 ·rw [if_neg h]
  exact ⟨false, rfl, by constructor; (intro e; cases e); (intro e; rw [e] at h; exact absurd rfl h)⟩
theorem again_eq (a b : List Ln) (i : Bool) (hm : a.length <= 1000000000) {k : Nat} (hk : a.length + 1 <= k) : ∃ r, hello_again.f k a i b = some r /\ (r = true <-> (i = true /\ a = b)) := by
 unfold hello_again.f
 by_cases h : i = true
 ·rw [if_pos h]
  obtain ⟨r, hr, hi⟩ := equal_eq a b hm hk
  rw [hr]
  exact ⟨r, rfl, hi.trans ⟨fun e => ⟨h, e⟩, fun e => e.2⟩⟩
 ·rw [if_neg h]
  exact ⟨false, rfl, by constructor; (intro e; cases e); (intro e; exact absurd e.1 h)⟩
end Go.Proofs.YtemkgdpfkbpnpaaGreatDoor.Hello
