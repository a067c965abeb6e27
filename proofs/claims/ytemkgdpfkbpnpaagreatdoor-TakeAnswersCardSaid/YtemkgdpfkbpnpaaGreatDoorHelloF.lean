/- Parts of the proof. -/
import Derived.Test.YtemkgdpfkbpnpaaGreatDoorHello
section
namespace Go.Proofs.YtemkgdpfkbpnpaaGreatDoor.Hello
open Go.RowKit Go.Proofs.YtemkgdpfkbpnpaaGreatDoorW.PrintWords Go.Proofs.YtemkgdpfkbpnpaaGreatDoorW.PrintLast Go.Proofs.YtemkgdpfkbpnpaaGreatDoorW.PrintMore Go.Proofs.YtemkgdpfkbpnpaaGreatDoor.Conv Go.Proofs.YtemkgdpfkbpnpaaGreatDoor.Print
abbrev Rf := S73
abbrev Up := S42
theorem getR (l : List Rf) (i : Nat) (h : i < l.length) : rd_T73 l (i : Int) = l[i] := by
 unfold rd_T73
 rw [Int.toNat_natCast, List.getD_eq_getElem?_getD, List.getElem?_eq_getElem h]; rfl
theorem getU (l : List Up) (i : Nat) (h : i < l.length) : rd_T42 l (i : Int) = l[i] := by
 unfold rd_T42
 rw [Int.toNat_natCast, List.getD_eq_getElem?_getD, List.getElem?_eq_getElem h]; rfl
theorem getL (l : List Ln) (i : Nat) (h : i < l.length) : rd_T65 l (i : Int) = l[i] := by
 unfold rd_T65
 rw [Int.toNat_natCast, List.getD_eq_getElem?_getD, List.getElem?_eq_getElem h]; rfl
theorem toList_inj {a b : ByteArray} (h : a.toList = b.toList) : a = b := by
 rw [Lib.toList_data, Lib.toList_data] at h
 exact ByteArray.ext (Array.ext' h)
theorem toList_eq {a b : ByteArray} : a.toList = b.toList <-> a = b := ⟨toList_inj, fun h => by rw [h]⟩
def prefF (s p : ByteArray) : Bool := if (s.size : Int) >= (p.size : Int) then (s.extract 0 p.size).toList == p.toList else false
theorem hasPrefix_eq (s p : ByteArray) : strings_HasPrefix.f s p = some (prefF s p) := by
 unfold strings_HasPrefix.f sl_HasPrefix.f prefF
 by_cases h : (s.size : Int) >= (p.size : Int)
 ·rw [if_pos h, if_pos (by omega), if_pos (by omega), if_pos h]; rfl
 ·rw [if_neg h, if_neg h]; rfl
def sufF (s : ByteArray) : ByteArray × Bool := if (s.size : Int) >= 1 /\ (s.extract (s.size - 1) s.size).toList = ([10] : List UInt8) then (s.extract 0 (s.size - 1), true) else (s, false)
theorem cutSuffix_eq (s : ByteArray) (hs : s.size <= 9223372036854775807) : strings_CutSuffix.f s (⟨#[10]⟩ : ByteArray) = some (sufF s) := by
 unfold strings_CutSuffix.f sl_CutSuffix.f sl_HasSuffix.f sufF
 have e1 : ((⟨#[10]⟩ : ByteArray).size : Int) = 1 := rfl
 have e2 : (⟨#[10]⟩ : ByteArray).toList = ([10] : List UInt8) := by rw [Lib.toList_data]
 rw [e1, e2]
 by_cases h : (s.size : Int) >= 1
 ·have hw : wrap64 ((s.size : Int) - 1) = ((s.size - 1 : Nat) : Int) := by rw [w64 (by omega) (by omega)]; omega
  rw [hw, if_pos h, if_pos (by omega), if_pos (by omega)]
  simp only [Option.bind_some, Int.toNat_natCast]
  by_cases c : (s.extract (s.size - 1) s.size).toList = ([10] : List UInt8)
  ·rw [if_pos (by rw [c]; decide), if_pos (by omega), if_pos (by omega), if_pos ⟨h, c⟩]; rfl
  ·rw [if_neg (by simpa using c), if_neg (fun e => c e.2)]; rfl
 ·rw [if_neg h, if_neg (fun e : (s.size : Int) >= 1 /\ _ => h e.1)]
  simp
theorem sufF_line (s : ByteArray) : sufF (s ++ (⟨#[10]⟩ : ByteArray)) = (s, true) := by
 have hz : (s ++ (⟨#[10]⟩ : ByteArray)).size = s.size + 1 := by rw [ByteArray.size_append]; rfl
 have e1 : (s ++ (⟨#[10]⟩ : ByteArray)).extract (s.size + 1 - 1) (s.size + 1) = ⟨#[10]⟩ := ByteArray.extract_append_eq_right rfl rfl
 have e2 : (s ++ (⟨#[10]⟩ : ByteArray)).extract 0 (s.size + 1 - 1) = s := ByteArray.extract_append_eq_left rfl
 unfold sufF
 rw [hz, e1, e2, if_pos ⟨by omega, by rw [Lib.toList_data]⟩]
theorem sufF_size (s : ByteArray) : (sufF s).1.size <= s.size := by
 unfold sufF
 split
 ·show (s.extract 0 (s.size - 1)).size <= _
  rw [ByteArray.size_extract]; omega
 ·exact Nat.le_refl _
def cutF (s : ByteArray) : ByteArray × ByteArray := if Lib.indexByte s.data.toList 32 >= 0 then (s.extract 0 (Lib.indexByte s.data.toList 32).toNat, s.extract ((Lib.indexByte s.data.toList 32).toNat + 1) s.size) else (s, ⟨#[]⟩)
theorem indexByte_lt (l : List UInt8) (c : UInt8) : Lib.indexByte l c < l.length := by
 induction l with
 | nil => simp [Lib.indexByte]
 | cons b l ih =>
  unfold Lib.indexByte
  simp only [List.length_cons]
  split
  ·omega
  ·split <;> omega
theorem cut_eq (s : ByteArray) (hs : s.size <= 9223372036854775800) : ∃ b, strings_Cut.f s (⟨#[32]⟩ : ByteArray) = some ((cutF s).1, (cutF s).2, b) := by
 have e1 : ((⟨#[32]⟩ : ByteArray).size : Int) = 1 := rfl
 have hi : sl_Index.f s (⟨#[32]⟩ : ByteArray) = some (Lib.indexByte s.data.toList 32) := by
  unfold sl_Index.f
  exact if_pos rfl
 have hlt := indexByte_lt s.data.toList 32
 rw [Array.length_toList] at hlt
 have hz : s.data.size = s.size := rfl
 unfold strings_Cut.f sl_Cut.f cutF
 rw [hi]
 simp only [Option.bind_some]
 generalize Lib.indexByte s.data.toList 32 = t at hlt ⊢
 by_cases h : t >= 0
 ·have hw : wrap64 (t + 1) = ((t.toNat + 1 : Nat) : Int) := by rw [w64 (by omega) (by omega)]; omega
  rw [e1, hw, if_pos h, if_pos h, if_pos (by omega), if_pos (by omega), if_pos (by omega), if_pos h]
  exact ⟨true, rfl⟩
 ·rw [if_neg h, if_neg h]
  exact ⟨false, rfl⟩
theorem cutF_size (s : ByteArray) : (cutF s).1.size <= s.size /\ (cutF s).2.size <= s.size := by
 unfold cutF
 split
 ·show (s.extract _ _).size <= _ /\ (s.extract _ _).size <= _
  rw [ByteArray.size_extract, ByteArray.size_extract]; omega
 ·exact ⟨Nat.le_refl _, Nat.zero_le _⟩
theorem indexByte_app (a b : List UInt8) (c : UInt8) (h : c ∉ a) : Lib.indexByte (a ++ c :: b) c = a.length := by
 induction a with
 | nil => simp [Lib.indexByte]
 | cons x a ih =>
  have hx : x ≠ c := fun e => h (by simp [e])
  have := ih (fun e => h (by simp [e]))
  simp only [List.cons_append, Lib.indexByte, this, List.length_cons]
  rw [if_neg (by simpa using hx), if_neg (by simp)]
  try omega
def plainT (s : ByteArray) : Prop := (32 : UInt8) ∉ s.data.toList
theorem cutF_app (a b : ByteArray) (h : plainT a) : cutF ((a ++ (⟨#[32]⟩ : ByteArray)) ++ b) = (a, b) := by
 have hd : ((a ++ (⟨#[32]⟩ : ByteArray)) ++ b).data.toList = a.data.toList ++ 32 :: b.data.toList := by
  simp [ByteArray.data_append]
 have hi : Lib.indexByte ((a ++ (⟨#[32]⟩ : ByteArray)) ++ b).data.toList 32 = (a.size : Int) := by
  rw [hd, indexByte_app _ _ _ h, Array.length_toList]; rfl
 unfold cutF
 rw [hi, if_pos (by omega), Int.toNat_natCast]
 have e1 : ((a ++ (⟨#[32]⟩ : ByteArray)) ++ b).extract 0 a.size = a := by
  rw [ByteArray.append_assoc]; exact ByteArray.extract_append_eq_left rfl
 have e2 : ((a ++ (⟨#[32]⟩ : ByteArray)) ++ b).extract (a.size + 1) ((a ++ (⟨#[32]⟩ : ByteArray)) ++ b).size = b := by
  have hz : (a ++ (⟨#[32]⟩ : ByteArray)).size = a.size + 1 := by rw [ByteArray.size_append]; rfl
  rw [<- hz]
  exact ByteArray.extract_append_eq_right rfl ByteArray.size_append
 rw [e1, e2]
theorem hexFrom_at (s : ByteArray) : ∀ (d i : Nat), hexFrom s d i = true -> ∀ j, i <= j -> j < i + d -> hexB (bt s (j : Int)) = true
 | 0, i, _, j, h1, h2 => by omega
 | d + 1, i, h, j, h1, h2 => by
  unfold hexFrom at h
  rw [Bool.and_eq_true] at h
  by_cases e : j = i
  ·rw [e]; exact h.1
  ·exact hexFrom_at s d (i + 1) h.2 j (by omega) (by omega)
theorem id_bytes {s : ByteArray} (h : idF s = true) : ∀ b ∈ s.data.toList, (48 <= b.toNat /\ b.toNat <= 57) ∨ (97 <= b.toNat /\ b.toNat <= 102) := by
 intro b hb
 obtain ⟨j, hj, rfl⟩ := List.mem_iff_getElem.1 hb
 unfold idF at h
 rw [Bool.and_eq_true] at h
 rw [Array.length_toList] at hj
 have hz : s.data.size = s.size := rfl
 have := hexFrom_at s s.size 0 h.1 j (Nat.zero_le _) (by omega)
 have hx := (hexB_iff _).1 this
 have e := bt_at s (j : Int) (by rw [Int.toNat_natCast]; omega)
 rw [<- e] at hx
 have e2 : (s[(j : Int).toNat]'(by rw [Int.toNat_natCast]; omega)).toNat = (s.data.toList[j]).toNat := by
  simp only [Int.toNat_natCast, Array.getElem_toList]; rfl
 rw [e2] at hx
 omega
theorem id_plain {s : ByteArray} (h : idF s = true) : plainT s := fun e => by
 have := id_bytes h _ e
 simp at this
end Go.Proofs.YtemkgdpfkbpnpaaGreatDoor.Hello
end
section
namespace Go.Proofs.YtemkgdpfkbpnpaaGreatDoor.Hello
open Go.RowKit Go.Proofs.YtemkgdpfkbpnpaaGreatDoorW.PrintWords Go.Proofs.YtemkgdpfkbpnpaaGreatDoorW.PrintLast Go.Proofs.YtemkgdpfkbpnpaaGreatDoorW.PrintMore Go.Proofs.YtemkgdpfkbpnpaaGreatDoor.Conv Go.Proofs.YtemkgdpfkbpnpaaGreatDoor.Print
def slashT : ByteArray := ⟨#[47]⟩
theorem above_eq (a b : ByteArray) (h : a.size + 1 <= 9223372036854775807) : refs_above.f a b = some (prefF b (a ++ slashT)) := by
 unfold refs_above.f
 rw [if_pos h, show strings_HasPrefix.f b (a ++ (⟨#[47]⟩ : ByteArray)) = some (prefF b (a ++ slashT)) from hasPrefix_eq _ _]
 rfl
theorem right1_eq (x : ByteArray) : ∀ (l : List Rf), (∀ y ∈ l, y.f0.size <= 100000) -> refs_Right_1.f x l = some (l.any fun y => prefF x (y.f0 ++ slashT))
 | [], _ => rfl
 | y :: t, h => by
  simp only [refs_Right_1.f]
  rw [above_eq y.f0 x (by have := h y (by simp); omega)]
  simp only [Option.bind_some, List.any_cons]
  by_cases b : prefF x (y.f0 ++ slashT) = true
  ·rw [if_pos b, b, Bool.true_or]
  ·rw [if_neg b, right1_eq x t (fun z hz => h z (by simp [hz])), Bool.eq_false_iff.2 b, Bool.false_or]
def rightGo (l : List Rf) : List Rf -> Option ByteArray -> Bool
 | [], _ => decide ((l.length : Int) <= 64)
 | y :: t, p => namedF y.f0 && (idF y.f1 && (!(notAbove p y.f0) && (!(l.any fun z => prefF y.f0 (z.f0 ++ slashT)) && rightGo l t (some y.f0))))
theorem rightGo_eq (l : List Rf) (hl : ∀ y ∈ l, y.f0.size <= 100000 /\ y.f1.size <= 100000) {k : Nat} (hk : 200000 <= k) : ∀ (t : List Rf) (p : Option ByteArray), (∀ y ∈ t, y.f0.size <= 100000 /\ y.f1.size <= 100000) -> refs_Right.go k l t p = some (rightGo l t p)
 | [], _, _ => rfl
 | y :: t, p, h => by
  have hy := h y (by simp)
  simp only [refs_Right.go, rightGo]
  rw [refnamed_eq y.f0 (by omega) (by omega)]
  simp only [Option.bind_some]
  by_cases a : namedF y.f0 = true
  ·rw [if_pos a, digest_eq y.f1 (by omega) (by omega), a, Bool.true_and]
   simp only [Option.bind_some]
   by_cases b : idF y.f1 = true
   ·rw [if_pos b, b, Bool.true_and]
    by_cases c : notAbove p y.f0 = true
    ·rw [if_pos c, c]; rfl
    ·rw [if_neg c, Bool.eq_false_iff.2 c, right1_eq y.f0 l (fun z hz => (hl z hz).1)]
     simp only [Option.bind_some, Bool.not_false, Bool.true_and]
     by_cases d : (l.any fun z => prefF y.f0 (z.f0 ++ slashT)) = true
     ·rw [if_pos d, d]; rfl
     ·rw [if_neg d, rightGo_eq l hl hk t _ (fun z hz => h z (by simp [hz])), Bool.eq_false_iff.2 d]; rfl
   ·rw [if_neg b, Bool.eq_false_iff.2 b, Bool.false_and]
  ·rw [if_neg a, Bool.eq_false_iff.2 a, Bool.false_and]
def rightF (l : List Rf) : Bool := rightGo l l none
theorem right_eq (l : List Rf) (hl : ∀ y ∈ l, y.f0.size <= 100000 /\ y.f1.size <= 100000) {k : Nat} (hk : 200000 <= k) : refs_Right.f k l = some (rightF l) := rightGo_eq l hl hk l none hl
theorem rightGo_out (l : List Rf) : ∀ (t : List Rf) (p : Option ByteArray), rightGo l t p = true -> l.length <= 64 /\ ∀ y ∈ t, namedF y.f0 = true /\ idF y.f1 = true
 | [], _, h => ⟨by have := of_decide_eq_true h; omega, by simp⟩
 | y :: t, p, h => by
  simp only [rightGo, Bool.and_eq_true] at h
  have ih := rightGo_out l t _ h.2.2.2.2
  refine ⟨ih.1, fun z hz => ?_⟩
  rcases List.mem_cons.1 hz with rfl | hz
  ·exact ⟨h.1, h.2.1⟩
  ·exact ih.2 z hz
theorem named_size {s : ByteArray} (h : namedF s = true) : s.size <= 80 := by
 unfold namedF at h
 rw [Bool.and_eq_true] at h
 exact (of_decide_eq_true h.1).1
def titleT : ByteArray := ⟨#[115, 97, 99, 114, 105, 115, 116, 121, 32, 104, 101, 97, 100, 32]⟩
def refT (y : Rf) : ByteArray := (y.f1 ++ (⟨#[32]⟩ : ByteArray)) ++ y.f0
def toldT (h : ByteArray) (l : List Rf) : List ByteArray := (titleT ++ h) :: l.map refT
def toldF (h : ByteArray) (l : List Rf) : List Ln × Bool := if namedF h = true /\ rightF l = true then (endsF (toldT h l), true) else ([], false)
theorem refT_size (y : Rf) : (refT y).size = y.f1.size + 1 + y.f0.size := by
 unfold refT
 rw [ByteArray.size_append, ByteArray.size_append]; rfl
theorem told_loop (l : List Rf) (hl : l.length <= 64) (hs : ∀ y ∈ l, y.f0.size <= 100000 /\ y.f1.size <= 100000) (pre : List ByteArray) (hp : pre.length <= 10) (hps : ∀ s ∈ pre, s.size <= 1000000) : ∀ (d i k : Nat), i + d = l.length -> d + 200 <= k ->
  hello_Told.l0 k (pre ++ (l.take i).map refT) l (l.length : Int) (i : Int) = some (endsF (pre ++ l.map refT), true) := by
 intro d
 induction d with
 | zero =>
  intro i k hi hk
  obtain ⟨k, rfl⟩ : ∃ j, k = j + 1 := ⟨k - 1, by omega⟩
  obtain rfl : i = l.length := by omega
  simp only [hello_Told.l0]
  rw [if_neg (by omega), List.take_length]
  rw [ended_eq _ (fun s h => ?_) (by rw [List.length_append, List.length_map]; omega) (by rw [List.length_append, List.length_map]; omega)]
  ·rfl
  ·rcases List.mem_append.1 h with h | h
   ·have := hps s h; omega
   ·obtain ⟨y, hy, rfl⟩ := List.mem_map.1 h
    have := hs y hy
    rw [refT_size]; omega
 | succ d ih =>
  intro i k hi hk
  obtain ⟨k, rfl⟩ : ∃ j, k = j + 1 := ⟨k - 1, by omega⟩
  have hlt : i < l.length := by omega
  have h1 := hs l[i] (List.getElem_mem hlt)
  have hz : ((l[i].f1) ++ (⟨#[32]⟩ : ByteArray)).size = l[i].f1.size + 1 := by rw [ByteArray.size_append]; rfl
  have hlen : (pre ++ (l.take i).map refT).length <= 1000 := by rw [List.length_append, List.length_map, List.length_take]; omega
  simp only [hello_Told.l0]
  rw [if_pos (by omega), if_pos (by omega), if_pos (by omega), getR l i hlt, if_pos (by omega), if_pos (by omega), if_pos (by omega), w64 (by omega) (by omega), show ((i : Int) + 1) = ((i + 1 : Nat) : Int) by omega]
  have e : (pre ++ (l.take i).map refT) ++ [((l[i].f1) ++ (⟨#[32]⟩ : ByteArray)) ++ (l[i].f0)] = pre ++ (l.take (i + 1)).map refT := by
   rw [List.take_add_one, List.getElem?_eq_getElem hlt, List.map_append, List.append_assoc]; rfl
  rw [e]
  exact ih (i + 1) k (by omega) (by omega)
theorem told_eq (h : ByteArray) (l : List Rf) (hh : h.size <= 100000) (hs : ∀ y ∈ l, y.f0.size <= 100000 /\ y.f1.size <= 100000) {k : Nat} (hk : 1000000 <= k) : hello_Told.f k h l = some (toldF h l) := by
 obtain ⟨j, rfl⟩ : ∃ j, k = j + 1 := ⟨k - 1, by omega⟩
 unfold hello_Told.f toldF
 rw [refnamed_eq h (by omega) (by omega)]
 simp only [Option.bind_some]
 by_cases a : namedF h = true
 ·rw [if_pos a, right_eq l hs (by omega)]
  simp only [Option.bind_some]
  by_cases b : rightF l = true
  ·rw [b, if_pos ⟨a, rfl⟩]
   have hr := rightGo_out l l none b
   simp only [hello_Told.j0]
   rw [if_neg (by decide), if_pos (by omega)]
   exact told_loop l hr.1 hs [titleT ++ h] (by simp) (fun s hs => by
    rw [List.mem_singleton] at hs
    rw [hs, ByteArray.size_append]
    have : titleT.size = 14 := rfl
    omega) l.length 0 j (by omega) (by omega)
  ·rw [Bool.eq_false_iff.2 b, if_neg (by simp)]
   simp [hello_Told.j0]
 ·rw [if_neg a, if_neg (fun e => a e.1)]
  simp [hello_Told.j0]
theorem line_ext {a b : Ln} (h0 : a.f0 = b.f0) (h1 : a.f1.toList = b.f1.toList) : a = b := by
 cases a; cases b
 simp only at h0
 have := toList_inj h1
 simp only at this
 rw [h0, this]
theorem equal_loop (a b : List Ln) (hl : a.length = b.length) (hm : a.length <= 1000000000000) : ∀ (d i k : Nat), i + d = a.length -> d + 1 <= k -> ∃ r, api_Line.l0 k a b (a.length : Int) (i : Int) = some r /\ (r = true <-> a.drop i = b.drop i) := by
 intro d
 induction d with
 | zero =>
  intro i k hi hk
  obtain ⟨k, rfl⟩ : ∃ j, k = j + 1 := ⟨k - 1, by omega⟩
  simp only [api_Line.l0]
  rw [if_neg (by omega), List.drop_eq_nil_of_le (by omega), List.drop_eq_nil_of_le (by omega)]
  exact ⟨true, rfl, by simp⟩
 | succ d ih =>
  intro i k hi hk
  obtain ⟨k, rfl⟩ : ∃ j, k = j + 1 := ⟨k - 1, by omega⟩
  have hlt : i < a.length := by omega
  have hlt2 : i < b.length := by omega
  simp only [api_Line.l0]
  rw [if_pos (by omega), if_pos (by omega), if_pos (by omega), if_pos (by omega), getL a i hlt, getL b i hlt2, w64 (by omega) (by omega), show ((i : Int) + 1) = ((i + 1 : Nat) : Int) by omega]
  obtain ⟨r, hr, hi2⟩ := ih (i + 1) k (by omega) (by omega)
  rw [List.drop_eq_getElem_cons hlt, List.drop_eq_getElem_cons hlt2, hr]
  by_cases c : (!(a[i].f0 == b[i].f0) || !(a[i].f1.toList == b[i].f1.toList)) = true
  ·rw [if_pos c]
   refine ⟨false, rfl, ?_⟩
   constructor
   ·intro e; cases e
   ·intro e
    rw [List.cons.injEq] at e
    rw [e.1] at c
    simp at c
  ·rw [if_neg c]
   refine ⟨r, rfl, hi2.trans ?_⟩
   have e : a[i] = b[i] := by
    simp at c
    exact line_ext c.1 c.2
   rw [e]
   exact ⟨fun h => by rw [h], fun h => (List.cons.inj h).2⟩
theorem equal_eq (a b : List Ln) (hm : a.length <= 1000000000) {k : Nat} (hk : a.length + 1 <= k) : ∃ r, api_Line.f k a b = some r /\ (r = true <-> a = b) := by
 unfold api_Line.f
 by_cases h : (a.length : Int) = (b.length : Int)
 ·rw [if_pos h]
  obtain ⟨r, hr, hi⟩ := equal_loop a b (by omega) (by omega) a.length 0 k (by omega) hk
  exact ⟨r, hr, by simpa using hi⟩
 ·rw [if_neg h]
  exact ⟨false, rfl, by constructor; (intro e; cases e); (intro e; rw [e] at h; exact absurd rfl h)⟩
theorem again_eq (a b : List Ln) (i : Bool) (hm : a.length <= 1000000000) {k : Nat} (hk : a.length + 1 <= k) : ∃ r, hello_again.f k a i b = some r /\ (r = true <-> (i = true /\ a = b)) := by
 unfold hello_again.f
 by_cases h : i = true
 ·rw [if_pos h]
  obtain ⟨r, hr, hi⟩ := equal_eq a b hm hk
  rw [hr]
  exact ⟨r, rfl, hi.trans ⟨fun e => ⟨h, e⟩, fun e => e.2⟩⟩
 ·rw [if_neg h]
  exact ⟨false, rfl, by constructor; (intro e; cases e); (intro e; exact absurd e.1 h)⟩
end Go.Proofs.YtemkgdpfkbpnpaaGreatDoor.Hello
end
section
namespace Go.Proofs.YtemkgdpfkbpnpaaGreatDoor.Hello
open Go.RowKit Go.Proofs.YtemkgdpfkbpnpaaGreatDoorW.PrintWords Go.Proofs.YtemkgdpfkbpnpaaGreatDoorW.PrintLast Go.Proofs.YtemkgdpfkbpnpaaGreatDoorW.PrintMore Go.Proofs.YtemkgdpfkbpnpaaGreatDoor.Conv Go.Proofs.YtemkgdpfkbpnpaaGreatDoor.Print
def textsGo : List Ln -> List ByteArray -> List ByteArray
 | [], _ => []
 | x :: t, out => if t = [] /\ (x.f0 && (x.f1.toList == ([] : List UInt8))) = true then out else if (sufF x.f1).2 = true then (if x.f0 = true then [] else textsGo t (out ++ [(sufF x.f1).1])) else []
theorem texts_loop (l : List Ln) (hl : l.length <= 1000000) (hs : ∀ x ∈ l, x.f1.size <= 1000000) : ∀ (d i k : Nat) (out : List ByteArray), i + d = l.length -> out.length <= i -> 2 * d + 2 <= k ->
  hello_texts.l0 k l out l (l.length : Int) (i : Int) = some (textsGo (l.drop i) out) := by
 intro d
 induction d with
 | zero =>
  intro i k out hi ho hk
  obtain ⟨k, rfl⟩ : ∃ j, k = j + 1 := ⟨k - 1, by omega⟩
  simp only [hello_texts.l0]
  rw [if_neg (by omega), List.drop_eq_nil_of_le (by omega)]
  rfl
 | succ d ih =>
  intro i k out hi ho hk
  obtain ⟨k, rfl⟩ : ∃ j, k = j + 2 := ⟨k - 2, by omega⟩
  have hlt : i < l.length := by omega
  have h1 := hs l[i] (List.getElem_mem hlt)
  have hj : ∀ b : Bool, hello_texts.j1 (k + 1) l out (sufF l[i].f1).1 (sufF l[i].f1).2 l (l.length : Int) (i : Int) b l[i].f0 l[i].f1 = some (if b = true then out else if (sufF l[i].f1).2 = true then (if l[i].f0 = true then [] else textsGo (l.drop (i + 1)) (out ++ [(sufF l[i].f1).1])) else []) := by
   intro b
   simp only [hello_texts.j1]
   by_cases hb : b = true
   ·rw [if_pos hb, if_pos hb]
   ·rw [if_neg hb, if_neg hb]
    by_cases c : (sufF l[i].f1).2 = true
    ·rw [if_pos c, if_pos c]
     by_cases f : l[i].f0 = true
     ·rw [if_pos f, if_pos f]
     ·rw [if_neg f, if_neg f, if_pos (by omega), w64 (by omega) (by omega), show ((i : Int) + 1) = ((i + 1 : Nat) : Int) by omega]
      exact ih (i + 1) k _ (by omega) (by rw [List.length_append]; simp; omega) (by omega)
    ·rw [if_neg c, if_neg c]
  simp only [hello_texts.l0]
  rw [if_pos (by omega), if_pos (by omega), if_pos (by omega), getL l i hlt, cutSuffix_eq _ (by omega)]
  simp only [Option.bind_some]
  rw [hj, hj, List.drop_eq_getElem_cons hlt]
  have hw : wrap64 ((l.length : Int) - 1) = (l.length : Int) - 1 := w64 (by omega) (by omega)
  rw [hw]
  simp only [textsGo]
  by_cases c : d = 0
  ·have hd : l.drop (i + 1) = [] := List.drop_eq_nil_of_le (by omega)
   rw [if_pos (by omega), hd]
   simp only [true_and]
  ·have hd : ¬ (l.drop (i + 1) = []) := fun e => by
    have := congrArg List.length e
    rw [List.length_drop] at this
    simp at this
    omega
   rw [if_neg (by omega), if_neg (by decide), if_neg (fun e : l.drop (i + 1) = [] /\ _ => hd e.1)]
def textsF (l : List Ln) : List ByteArray := textsGo l []
theorem texts_eq (l : List Ln) (hl : l.length <= 1000000) (hs : ∀ x ∈ l, x.f1.size <= 1000000) {k : Nat} (hk : 2 * l.length + 2 <= k) : hello_texts.f k l = some (textsF l) := by
 have := texts_loop l hl hs l.length 0 k [] (by omega) (by simp) hk
 simpa [hello_texts.f, textsF] using this
theorem textsGo_ends : ∀ (ts out : List ByteArray), textsGo (endsF ts) out = out ++ ts
 | [], out => by simp [endsF, textsGo, flushL]
 | s :: t, out => by
  have e : endsF (s :: t) = lineOf s :: endsF t := rfl
  have hne : ¬ (endsF t = []) := by simp [endsF]
  rw [e]
  simp only [textsGo]
  rw [if_neg (fun e : endsF t = [] /\ _ => hne e.1), show (lineOf s).f1 = s ++ (⟨#[10]⟩ : ByteArray) from rfl, sufF_line, if_pos rfl, show (lineOf s).f0 = false from rfl, if_neg (by decide), textsGo_ends t]
  simp
theorem textsF_ends (ts : List ByteArray) : textsF (endsF ts) = ts := by unfold textsF; rw [textsGo_ends]; rfl
theorem textsGo_size (B : Nat) : ∀ (l : List Ln) (out : List ByteArray), (∀ x ∈ l, x.f1.size <= B) -> (∀ s ∈ out, s.size <= B) -> (∀ s ∈ textsGo l out, s.size <= B) /\ (textsGo l out).length <= out.length + l.length
 | [], out, _, _ => by simp [textsGo]
 | x :: t, out, h, ho => by
  simp only [textsGo]
  split
  ·exact ⟨ho, by simp⟩
  ·split
   ·split
    ·simp
    ·have := textsGo_size B t (out ++ [(sufF x.f1).1]) (fun y hy => h y (by simp [hy])) (fun s hs => by
      rcases List.mem_append.1 hs with hs | hs
      ·exact ho s hs
      ·rw [List.mem_singleton] at hs
       rw [hs]
       exact Nat.le_trans (sufF_size _) (h x (by simp)))
     refine ⟨this.1, ?_⟩
     have := this.2
     simp at this ⊢
     omega
   ·simp
theorem textsF_size (B : Nat) (l : List Ln) (h : ∀ x ∈ l, x.f1.size <= B) : (∀ s ∈ textsF l, s.size <= B) /\ (textsF l).length <= l.length := by
 have := textsGo_size B l [] h (by simp)
 simpa [textsF] using this
theorem told_len (h : ByteArray) (l : List Rf) : (toldF h l).1.length <= 66 := by
 unfold toldF
 split
 ·rename_i c
  have := rightGo_out l l none c.2
  show (endsF (toldT h l)).length <= 66
  unfold endsF toldT
  simp only [List.length_append, List.length_map, List.length_cons, List.length_nil]
  omega
 ·simp
end Go.Proofs.YtemkgdpfkbpnpaaGreatDoor.Hello
end
section
namespace Go.Proofs.YtemkgdpfkbpnpaaGreatDoor.Hello
open Go.RowKit Go.Proofs.YtemkgdpfkbpnpaaGreatDoorW.PrintWords Go.Proofs.YtemkgdpfkbpnpaaGreatDoorW.PrintLast Go.Proofs.YtemkgdpfkbpnpaaGreatDoorW.PrintMore Go.Proofs.YtemkgdpfkbpnpaaGreatDoor.Conv Go.Proofs.YtemkgdpfkbpnpaaGreatDoor.Print
def okU (y : Up) : Bool := namedF y.f0 && (mayF y.f1 && (mayF y.f2 && !((y.f1 ++ y.f2).toList == ([] : List UInt8))))
def upT (y : Up) : ByteArray := (((dashF y.f1 ++ (⟨#[32]⟩ : ByteArray)) ++ dashF y.f2) ++ (⟨#[32]⟩ : ByteArray)) ++ y.f0
def pushF (u : List Up) : List Ln × Bool := if u.all okU = true /\ u.length ≠ 0 /\ u.length <= 16 then (endsF (u.map upT), true) else ([], false)
def smallU (y : Up) : Prop := y.f0.size <= 100000 /\ y.f1.size <= 100000 /\ y.f2.size <= 100000
theorem sp (s : ByteArray) : (s ++ (⟨#[32]⟩ : ByteArray)).size = s.size + 1 := by rw [ByteArray.size_append]; rfl
theorem upT_size (y : Up) (h1 : mayF y.f1 = true) (h2 : mayF y.f2 = true) : (upT y).size <= 130 + y.f0.size := by
 have := dashF_size h1
 have := dashF_size h2
 unfold upT
 rw [ByteArray.size_append, sp, ByteArray.size_append, sp]
 omega
theorem push_loop (u : List Up) (hl : u.length <= 1000000) (hs : ∀ y ∈ u, smallU y) : ∀ (d i k : Nat) (out : List ByteArray), i + d = u.length -> out.length <= i -> (∀ s ∈ out, s.size <= 1000000) -> 2 * d + 1000002 <= k ->
  hello_Push.l0 k u out u (u.length : Int) (i : Int) = some (if (u.drop i).all okU = true /\ u.length ≠ 0 /\ u.length <= 16 then (endsF (out ++ (u.drop i).map upT), true) else ([], false)) := by
 intro d
 induction d with
 | zero =>
  intro i k out hi ho hos hk
  obtain ⟨k, rfl⟩ : ∃ j, k = j + 1 := ⟨k - 1, by omega⟩
  simp only [hello_Push.l0]
  rw [if_neg (by omega), List.drop_eq_nil_of_le (by omega), List.map_nil, List.append_nil]
  by_cases c0 : (u.length : Int) = 0
  ·rw [if_pos c0, if_neg (fun e => e.2.1 (by omega))]
  ·rw [if_neg c0]
   by_cases c1 : (u.length : Int) > 16
   ·rw [if_pos c1, if_neg (fun e => by have := e.2.2; omega)]
   ·rw [if_neg c1, if_pos ⟨rfl, by omega, by omega⟩, ended_eq out (fun s h => by have := hos s h; omega) (by omega) (by omega)]
    rfl
 | succ d ih =>
  intro i k out hi ho hos hk
  obtain ⟨k, rfl⟩ : ∃ j, k = j + 2 := ⟨k - 2, by omega⟩
  have hlt : i < u.length := by omega
  have hz := hs u[i] (List.getElem_mem hlt)
  unfold smallU at hz
  have hj : ∀ b : Bool, (b = false -> mayF u[i].f1 = true /\ mayF u[i].f2 = true) -> hello_Push.j1 (k + 1) u out u (u.length : Int) (i : Int) b u[i].f0 u[i].f1 u[i].f2 = some (if b = true then ([], false) else if (u.drop (i + 1)).all okU = true /\ u.length ≠ 0 /\ u.length <= 16 then (endsF ((out ++ [upT u[i]]) ++ (u.drop (i + 1)).map upT), true) else ([], false)) := by
   intro b hb
   simp only [hello_Push.j1]
   by_cases c : b = true
   ·rw [if_pos c, if_pos c]
   ·have hm := hb (Bool.eq_false_iff.2 c)
    have d1 := dashF_size hm.1
    have d2 := dashF_size hm.2
    have hu := upT_size u[i] hm.1 hm.2
    rw [if_neg c, if_neg c, dash_eq u[i].f1, dash_eq u[i].f2]
    simp only [Option.bind_some]
    have s1 := sp (dashF u[i].f1)
    have s2 : ((dashF u[i].f1 ++ (⟨#[32]⟩ : ByteArray)) ++ dashF u[i].f2).size = (dashF u[i].f1).size + 1 + (dashF u[i].f2).size := by rw [ByteArray.size_append, s1]
    have s3 := sp ((dashF u[i].f1 ++ (⟨#[32]⟩ : ByteArray)) ++ dashF u[i].f2)
    rw [if_pos (by omega), if_pos (by omega), if_pos (by omega), if_pos (by omega), if_pos (by omega), w64 (by omega) (by omega), show ((i : Int) + 1) = ((i + 1 : Nat) : Int) by omega]
    exact ih (i + 1) k (out ++ [upT u[i]]) (by omega) (by rw [List.length_append]; simp; omega) (fun s h => by
     rcases List.mem_append.1 h with h | h
     ·exact hos s h
     ·rw [List.mem_singleton] at h
      rw [h]; omega) (by omega)
  simp only [hello_Push.l0]
  rw [if_pos (by omega), if_pos (by omega), if_pos (by omega), getU u i hlt, refnamed_eq u[i].f0 (by omega) (by omega)]
  simp only [Option.bind_some]
  rw [List.drop_eq_getElem_cons hlt, List.all_cons, List.map_cons]
  have hno : hello_Push.j1 (k + 1) u out u (u.length : Int) (i : Int) true u[i].f0 u[i].f1 u[i].f2 = some ([], false) := by
   rw [hj true (fun e => by cases e), if_pos rfl]
  have bad : okU u[i] = false -> (if (okU u[i] && (u.drop (i + 1)).all okU) = true /\ u.length ≠ 0 /\ u.length <= 16 then (endsF (out ++ upT u[i] :: (u.drop (i + 1)).map upT), true) else (([], false) : List Ln × Bool)) = ([], false) := by
   intro o
   rw [if_neg (fun e => by rw [o] at e; simp at e)]
  by_cases c1 : namedF u[i].f0 = true
  ·rw [if_pos c1, may_eq u[i].f1 (by omega) (by omega)]
   simp only [Option.bind_some]
   by_cases c2 : mayF u[i].f1 = true
   ·rw [if_pos c2, may_eq u[i].f2 (by omega) (by omega)]
    simp only [Option.bind_some]
    by_cases c3 : mayF u[i].f2 = true
    ·rw [if_pos c3, if_pos (by omega), hj _ (fun _ => ⟨c2, c3⟩)]
     by_cases c4 : ((u[i].f1 ++ u[i].f2).toList == ([] : List UInt8)) = true
     ·rw [if_pos c4, bad (by unfold okU; rw [c4]; simp)]
     ·rw [if_neg c4]
      have o : okU u[i] = true := by unfold okU; rw [c1, c2, c3, Bool.eq_false_iff.2 c4]; rfl
      simp only [o, Bool.true_and, List.append_assoc, List.singleton_append]
    ·rw [if_neg c3, hno, bad (by unfold okU; rw [Bool.eq_false_iff.2 c3]; simp)]
   ·rw [if_neg c2, hno, bad (by unfold okU; rw [Bool.eq_false_iff.2 c2]; simp)]
  ·rw [if_neg c1, hno, bad (by unfold okU; rw [Bool.eq_false_iff.2 c1]; simp)]
theorem push_eq (u : List Up) (hl : u.length <= 1000000) (hs : ∀ y ∈ u, smallU y) {k : Nat} (hk : 4000000 <= k) : hello_Push.f k u = some (pushF u) := by
 have := push_loop u hl hs u.length 0 k [] (by omega) (by simp) (by simp) (by omega)
 simpa [hello_Push.f, pushF] using this
theorem push_len (u : List Up) : (pushF u).1.length <= 17 := by
 unfold pushF
 split
 ·rename_i c
  show (endsF (u.map upT)).length <= 17
  unfold endsF
  simp only [List.length_append, List.length_map, List.length_cons, List.length_nil]
  omega
 ·simp
def plainF (s : ByteArray) : ByteArray := if s.toList = ([45] : List UInt8) then ⟨#[]⟩ else s
theorem plain_eq (s : ByteArray) : hello_plain.f s = some (plainF s) := by
 unfold hello_plain.f plainF
 split <;> rfl
theorem plainF_size (s : ByteArray) : (plainF s).size <= s.size := by
 unfold plainF
 split
 ·exact Nat.zero_le _
 ·exact Nat.le_refl _
def upOf (s : ByteArray) : Up := ⟨(cutF (cutF s).2).2, plainF (cutF s).1, plainF (cutF (cutF s).2).1⟩
theorem upOf_small (s : ByteArray) (h : s.size <= 100000) : smallU (upOf s) := by
 have h1 := cutF_size s
 have h2 := cutF_size (cutF s).2
 have h3 := plainF_size (cutF s).1
 have h4 := plainF_size (cutF (cutF s).2).1
 exact ⟨by show (cutF (cutF s).2).2.size <= _; omega, by show (plainF (cutF s).1).size <= _; omega, by show (plainF (cutF (cutF s).2).1).size <= _; omega⟩
theorem pushed_loop (l : List Ln) (ts : List ByteArray) (hl : ts.length <= 1000000) (hs : ∀ s ∈ ts, s.size <= 100000) : ∀ (d i k : Nat) (out : List Up), i + d = ts.length -> out.length <= i -> (∀ y ∈ out, smallU y) -> d + 4000001 <= k ->
  ∃ r, hello_Pushed.l0 k l out ts (ts.length : Int) (i : Int) = some r /\ ((pushF (out ++ (ts.drop i).map upOf) = (l, true) /\ r = (out ++ (ts.drop i).map upOf, true)) ∨ (pushF (out ++ (ts.drop i).map upOf) ≠ (l, true) /\ r = ([], false))) := by
 intro d
 induction d with
 | zero =>
  intro i k out hi ho hos hk
  obtain ⟨k, rfl⟩ : ∃ j, k = j + 1 := ⟨k - 1, by omega⟩
  simp only [hello_Pushed.l0]
  rw [if_neg (by omega), List.drop_eq_nil_of_le (by omega), List.map_nil, List.append_nil, push_eq out (by omega) hos (by omega)]
  have ht := push_len out
  simp only [Option.bind_some]
  obtain ⟨r, hr, hi⟩ := again_eq (pushF out).1 l (pushF out).2 (by omega) (k := k) (by omega)
  rw [hr]
  simp only [Option.bind_some]
  by_cases c : r = true
  ·rw [if_pos c]
   have := hi.1 c
   exact ⟨_, rfl, .inl ⟨Prod.ext this.2 this.1, rfl⟩⟩
  ·rw [if_neg c]
   exact ⟨_, rfl, .inr ⟨fun e => c (hi.2 ⟨by rw [e], by rw [e]⟩), rfl⟩⟩
 | succ d ih =>
  intro i k out hi ho hos hk
  obtain ⟨k, rfl⟩ : ∃ j, k = j + 1 := ⟨k - 1, by omega⟩
  have hlt : i < ts.length := by omega
  have hz := hs ts[i] (List.getElem_mem hlt)
  obtain ⟨b1, hc1⟩ := cut_eq ts[i] (by omega)
  have hcs := cutF_size ts[i]
  obtain ⟨b2, hc2⟩ := cut_eq (cutF ts[i]).2 (by omega)
  simp only [hello_Pushed.l0]
  rw [if_pos (by omega), if_pos (by omega), if_pos (by omega), rd_get ts i hlt, hc1]
  simp only [Option.bind_some]
  rw [hc2]
  simp only [Option.bind_some, plain_eq]
  rw [if_pos (by omega), w64 (by omega) (by omega), show ((i : Int) + 1) = ((i + 1 : Nat) : Int) by omega]
  have := ih (i + 1) k (out ++ [upOf ts[i]]) (by omega) (by rw [List.length_append]; simp; omega) (fun y hy => by
   rcases List.mem_append.1 hy with hy | hy
   ·exact hos y hy
   ·rw [List.mem_singleton] at hy
    rw [hy]
    exact upOf_small _ hz) (by omega)
  rw [List.drop_eq_getElem_cons hlt, List.map_cons]
  rw [List.append_assoc] at this
  exact this
theorem pushed_eq (l : List Ln) (hl : l.length <= 1000000) (hs : ∀ x ∈ l, x.f1.size <= 100000) {k : Nat} (hk : 6000000 <= k) :
  ∃ r, hello_Pushed.f k l = some r /\ ((pushF ((textsF l).map upOf) = (l, true) /\ r = ((textsF l).map upOf, true)) ∨ (pushF ((textsF l).map upOf) ≠ (l, true) /\ r = ([], false))) := by
 have hz := textsF_size 100000 l hs
 unfold hello_Pushed.f
 rw [texts_eq l hl (fun x hx => by have := hs x hx; omega) (by omega)]
 simp only [Option.bind_some]
 exact pushed_loop l (textsF l) (by omega) hz.1 (textsF l).length 0 k [] (by omega) (by simp) (by simp) (by omega)
theorem dash_plain {s : ByteArray} (h : mayF s = true) : plainT (dashF s) /\ plainF (dashF s) = s := by
 unfold mayF at h
 unfold dashF plainF
 by_cases c : s.toList = ([] : List UInt8)
 ·rw [if_pos c, if_pos (by rw [Lib.toList_data])]
  exact ⟨by unfold plainT; simp, (toList_inj (by rw [c, Lib.toList_data])).symm⟩
 ·rw [if_neg c]
  rw [decide_eq_false c, Bool.false_or] at h
  refine ⟨id_plain h, ?_⟩
  rw [if_neg (fun e => ?_)]
  have := id_size h
  have e2 := congrArg List.length e
  rw [Lib.toList_data, Array.length_toList] at e2
  have : s.data.size = s.size := rfl
  simp at e2
  omega
theorem upOf_upT (y : Up) (h : okU y = true) : upOf (upT y) = y := by
 unfold okU at h
 simp only [Bool.and_eq_true] at h
 have h1 := dash_plain h.2.1
 have h2 := dash_plain h.2.2.1
 unfold upOf upT
 have e : (((dashF y.f1 ++ (⟨#[32]⟩ : ByteArray)) ++ dashF y.f2) ++ (⟨#[32]⟩ : ByteArray)) ++ y.f0 = (dashF y.f1 ++ (⟨#[32]⟩ : ByteArray)) ++ ((dashF y.f2 ++ (⟨#[32]⟩ : ByteArray)) ++ y.f0) := by
  simp only [ByteArray.append_assoc]
 rw [e, cutF_app _ _ h1.1]
 simp only
 rw [cutF_app _ _ h2.1]
 simp only
 rw [h1.2, h2.2]
theorem pushed_push (u : List Up) (h : u.all okU = true) : (u.map upT).map upOf = u := by
 rw [List.map_map]
 have e : ∀ y ∈ u, (upOf ∘ upT) y = id y := fun y hy => upOf_upT y (List.all_eq_true.1 h y hy)
 rw [List.map_congr_left e, List.map_id]
end Go.Proofs.YtemkgdpfkbpnpaaGreatDoor.Hello
end
section
namespace Go.Proofs.YtemkgdpfkbpnpaaGreatDoor.Hello
open Go.RowKit Go.Proofs.YtemkgdpfkbpnpaaGreatDoorW.PrintWords Go.Proofs.YtemkgdpfkbpnpaaGreatDoorW.PrintLast Go.Proofs.YtemkgdpfkbpnpaaGreatDoorW.PrintMore Go.Proofs.YtemkgdpfkbpnpaaGreatDoor.Conv Go.Proofs.YtemkgdpfkbpnpaaGreatDoor.Print
theorem push_first {u : List Up} {x : List Ln} (e : pushF u = (x, true)) : x = endsF (u.map upT) /\ u.all okU = true /\ u.length ≠ 0 /\ u.length <= 16 := by
 unfold pushF at e
 split at e
 ·rename_i c
  exact ⟨(Prod.mk.inj e).1.symm, c⟩
 ·exact absurd (Prod.mk.inj e).2 (by simp)
theorem ends_small {B : Nat} {ts : List ByteArray} (h : ∀ s ∈ ts, s.size + 1 <= B) : ∀ x ∈ endsF ts, x.f1.size <= B := by
 intro x hx
 unfold endsF at hx
 rcases List.mem_append.1 hx with hx | hx
 ·obtain ⟨s, hs, rfl⟩ := List.mem_map.1 hx
  show (s ++ (⟨#[10]⟩ : ByteArray)).size <= B
  rw [ByteArray.size_append]
  exact h s hs
 ·rw [List.mem_singleton] at hx
  rw [hx]; exact Nat.zero_le _
theorem push_small {u : List Up} (h : u.all okU = true) : ∀ s ∈ u.map upT, s.size + 1 <= 300 := by
 intro s hs
 obtain ⟨y, hy, rfl⟩ := List.mem_map.1 hs
 have := List.all_eq_true.1 h y hy
 unfold okU at this
 simp only [Bool.and_eq_true] at this
 have h1 := upT_size y this.2.1 this.2.2.1
 have h2 := named_size this.1
 omega
theorem ends_len (ts : List ByteArray) : (endsF ts).length = ts.length + 1 := by
 unfold endsF
 simp
theorem pushed_back {u : List Up} {x : List Ln} (e : pushF u = (x, true)) {k : Nat} (hk : 6000000 <= k) : hello_Pushed.f k x = some (u, true) := by
 have h1 := push_first e
 obtain ⟨r, hr1, hr2⟩ := pushed_eq x (by rw [h1.1, ends_len]; simp; omega) (by rw [h1.1]; intro y hy; have := ends_small (push_small h1.2.1) y hy; omega) hk
 have ht : textsF x = u.map upT := by rw [h1.1, textsF_ends]
 rw [ht, pushed_push u h1.2.1] at hr2
 rcases hr2 with ⟨_, rfl⟩ | ⟨hne, _⟩
 ·exact hr1
 ·exact absurd e hne
end Go.Proofs.YtemkgdpfkbpnpaaGreatDoor.Hello
end
