/- What talks begin with: the program's functions of whole lines, as plain functions. -/
import Derived.Test.YtemkgdpfkbpnpaaGreatDoorHello
namespace Go.Proofs.YtemkgdpfkbpnpaaGreatDoor.Hello
open Go.RowKit Go.Proofs.YtemkgdpfkbpnpaaGreatDoorW.PrintWords Go.Proofs.YtemkgdpfkbpnpaaGreatDoorW.PrintLast Go.Proofs.YtemkgdpfkbpnpaaGreatDoorW.PrintMore Go.Proofs.YtemkgdpfkbpnpaaGreatDoor.Conv Go.Proofs.YtemkgdpfkbpnpaaGreatDoor.Print
abbrev Rf := S73
abbrev Up := S42
theorem getR (l : List Rf) (i : Nat) (h : i < l.length) : rd_T73 l (i : Int) = l[i] := by
 unfold rd_T73
 rw [Int.toNat_natCast, List.getD_eq_getElem?_getD, List.getElem?_eq_getElem h]; rfl
theorem getU (l : List Up) (i : Nat) (h : i < l.length) : rd_T42 l (i : Int) = l[i] := by
 unfold rd_T42
 rw [Int.toNat_natCast, List.getD_eq_getElem?_getD, List.getElem?_eq_getElem h]; rfl
theorem getL (l : List Ln) (i : Nat) (h : i < l.length) : rd_T65 l (i : Int) = l[i] := by
 unfold rd_T65
 rw [Int.toNat_natCast, List.getD_eq_getElem?_getD, List.getElem?_eq_getElem h]; rfl
theorem toList_inj {a b : ByteArray} (h : a.toList = b.toList) : a = b := by
 rw [Lib.toList_data, Lib.toList_data] at h
 exact ByteArray.ext (Array.ext' h)
theorem toList_eq {a b : ByteArray} : a.toList = b.toList <-> a = b := ⟨toList_inj, fun h => by rw [h]⟩
def prefF (s p : ByteArray) : Bool := if (s.size : Int) >= (p.size : Int) then (s.extract 0 p.size).toList == p.toList else false
theorem hasPrefix_eq (s p : ByteArray) : strings_HasPrefix.f s p = some (prefF s p) := by
 unfold strings_HasPrefix.f sl_HasPrefix.f prefF
 by_cases h : (s.size : Int) >= (p.size : Int)
 ·rw [if_pos h, if_pos (by omega), if_pos (by omega), if_pos h]; rfl
 ·rw [if_neg h, if_neg h]; rfl
def sufF (s : ByteArray) : ByteArray × Bool := if (s.size : Int) >= 1 /\ (s.extract (s.size - 1) s.size).toList = ([10] : List UInt8) then (s.extract 0 (s.size - 1), true) else (s, false)
theorem cutSuffix_eq (s : ByteArray) (hs : s.size <= 9223372036854775807) : strings_CutSuffix.f s (⟨#[10]⟩ : ByteArray) = some (sufF s) := by
 unfold strings_CutSuffix.f sl_CutSuffix.f sl_HasSuffix.f sufF
 have e1 : ((⟨#[10]⟩ : ByteArray).size : Int) = 1 := rfl
 have e2 : (⟨#[10]⟩ : ByteArray).toList = ([10] : List UInt8) := by rw [Lib.toList_data]
 rw [e1, e2]
 by_cases h : (s.size : Int) >= 1
 ·have hw : wrap64 ((s.size : Int) - 1) = ((s.size - 1 : Nat) : Int) := by rw [w64 (by omega) (by omega)]; omega
  rw [hw, if_pos h, if_pos (by omega), if_pos (by omega)]
  simp only [Option.bind_some, Int.toNat_natCast]
  by_cases c : (s.extract (s.size - 1) s.size).toList = ([10] : List UInt8)
  ·rw [if_pos (by rw [c]; decide), if_pos (by omega), if_pos (by omega), if_pos ⟨h, c⟩]; rfl
  ·rw [if_neg (by simpa using c), if_neg (fun e => c e.2)]; rfl
 ·rw [if_neg h, if_neg (fun e : (s.size : Int) >= 1 /\ _ => h e.1)]
  simp
theorem sufF_line (s : ByteArray) : sufF (s ++ (⟨#[10]⟩ : ByteArray)) = (s, true) := by
 have hz : (s ++ (⟨#[10]⟩ : ByteArray)).size = s.size + 1 := by rw [ByteArray.size_append]; rfl
 have e1 : (s ++ (⟨#[10]⟩ : ByteArray)).extract (s.size + 1 - 1) (s.size + 1) = ⟨#[10]⟩ := ByteArray.extract_append_eq_right rfl rfl
 have e2 : (s ++ (⟨#[10]⟩ : ByteArray)).extract 0 (s.size + 1 - 1) = s := ByteArray.extract_append_eq_left rfl
 unfold sufF
 rw [hz, e1, e2, if_pos ⟨by omega, by rw [Lib.toList_data]⟩]
theorem sufF_size (s : ByteArray) : (sufF s).1.size <= s.size := by
 unfold sufF
 split
 ·show (s.extract 0 (s.size - 1)).size <= _
  rw [ByteArray.size_extract]; omega
 ·exact Nat.le_refl _
def cutF (s : ByteArray) : ByteArray × ByteArray := if Lib.indexByte s.data.toList 32 >= 0 then (s.extract 0 (Lib.indexByte s.data.toList 32).toNat, s.extract ((Lib.indexByte s.data.toList 32).toNat + 1) s.size) else (s, ⟨#[]⟩)
theorem indexByte_lt (l : List UInt8) (c : UInt8) : Lib.indexByte l c < l.length := by
 induction l with
 | nil => simp [Lib.indexByte]
 | cons b l ih =>
  unfold Lib.indexByte
  simp only [List.length_cons]
  split
  ·omega
  ·split <;> omega
theorem cut_eq (s : ByteArray) (hs : s.size <= 9223372036854775800) : ∃ b, strings_Cut.f s (⟨#[32]⟩ : ByteArray) = some ((cutF s).1, (cutF s).2, b) := by
 have e1 : ((⟨#[32]⟩ : ByteArray).size : Int) = 1 := rfl
 have hi : sl_Index.f s (⟨#[32]⟩ : ByteArray) = some (Lib.indexByte s.data.toList 32) := by
  unfold sl_Index.f
  exact if_pos rfl
 have hlt := indexByte_lt s.data.toList 32
 rw [Array.length_toList] at hlt
 have hz : s.data.size = s.size := rfl
 unfold strings_Cut.f sl_Cut.f cutF
 rw [hi]
 simp only [Option.bind_some]
 generalize Lib.indexByte s.data.toList 32 = t at hlt ⊢
 by_cases h : t >= 0
 ·have hw : wrap64 (t + 1) = ((t.toNat + 1 : Nat) : Int) := by rw [w64 (by omega) (by omega)]; omega
  rw [e1, hw, if_pos h, if_pos h, if_pos (by omega), if_pos (by omega), if_pos (by omega), if_pos h]
  exact ⟨true, rfl⟩
 ·rw [if_neg h, if_neg h]
  exact ⟨false, rfl⟩
theorem cutF_size (s : ByteArray) : (cutF s).1.size <= s.size /\ (cutF s).2.size <= s.size := by
 unfold cutF
 split
 ·show (s.extract _ _).size <= _ /\ (s.extract _ _).size <= _
  rw [ByteArray.size_extract, ByteArray.size_extract]; omega
 ·exact ⟨Nat.le_refl _, Nat.zero_le _⟩
theorem indexByte_app (a b : List UInt8) (c : UInt8) (h : c ∉ a) : Lib.indexByte (a ++ c :: b) c = a.length := by
 induction a with
 | nil => simp [Lib.indexByte]
 | cons x a ih =>
  have hx : x ≠ c := fun e => h (by simp [e])
  have := ih (fun e => h (by simp [e]))
  simp only [List.cons_append, Lib.indexByte, this, List.length_cons]
  rw [if_neg (by simpa using hx), if_neg (by simp)]
  try omega
def plainT (s : ByteArray) : Prop := (32 : UInt8) ∉ s.data.toList
theorem cutF_app (a b : ByteArray) (h : plainT a) : cutF ((a ++ (⟨#[32]⟩ : ByteArray)) ++ b) = (a, b) := by
 have hd : ((a ++ (⟨#[32]⟩ : ByteArray)) ++ b).data.toList = a.data.toList ++ 32 :: b.data.toList := by
  simp [ByteArray.data_append]
 have hi : Lib.indexByte ((a ++ (⟨#[32]⟩ : ByteArray)) ++ b).data.toList 32 = (a.size : Int) := by
  rw [hd, indexByte_app _ _ _ h, Array.length_toList]; rfl
 unfold cutF
 rw [hi, if_pos (by omega), Int.toNat_natCast]
 have e1 : ((a ++ (⟨#[32]⟩ : ByteArray)) ++ b).extract 0 a.size = a := by
  rw [ByteArray.append_assoc]; exact ByteArray.extract_append_eq_left rfl
 have e2 : ((a ++ (⟨#[32]⟩ : ByteArray)) ++ b).extract (a.size + 1) ((a ++ (⟨#[32]⟩ : ByteArray)) ++ b).size = b := by
  have hz : (a ++ (⟨#[32]⟩ : ByteArray)).size = a.size + 1 := by rw [ByteArray.size_append]; rfl
  rw [<- hz]
  exact ByteArray.extract_append_eq_right rfl ByteArray.size_append
 rw [e1, e2]
theorem hexFrom_at (s : ByteArray) : ∀ (d i : Nat), hexFrom s d i = true -> ∀ j, i <= j -> j < i + d -> hexB (bt s (j : Int)) = true
 | 0, i, _, j, h1, h2 => by omega
 | d + 1, i, h, j, h1, h2 => by
  unfold hexFrom at h
  rw [Bool.and_eq_true] at h
  by_cases e : j = i
  ·rw [e]; exact h.1
  ·exact hexFrom_at s d (i + 1) h.2 j (by omega) (by omega)
theorem id_bytes {s : ByteArray} (h : idF s = true) : ∀ b ∈ s.data.toList, (48 <= b.toNat /\ b.toNat <= 57) ∨ (97 <= b.toNat /\ b.toNat <= 102) := by
 intro b hb
 obtain ⟨j, hj, rfl⟩ := List.mem_iff_getElem.1 hb
 unfold idF at h
 rw [Bool.and_eq_true] at h
 rw [Array.length_toList] at hj
 have hz : s.data.size = s.size := rfl
 have := hexFrom_at s s.size 0 h.1 j (Nat.zero_le _) (by omega)
 have hx := (hexB_iff _).1 this
 have e := bt_at s (j : Int) (by rw [Int.toNat_natCast]; omega)
 rw [<- e] at hx
 have e2 : (s[(j : Int).toNat]'(by rw [Int.toNat_natCast]; omega)).toNat = (s.data.toList[j]).toNat := by
  simp only [Int.toNat_natCast, Array.getElem_toList]; rfl
 rw [e2] at hx
 omega
theorem id_plain {s : ByteArray} (h : idF s = true) : plainT s := fun e => by
 have := id_bytes h _ e
 simp at this
end Go.Proofs.YtemkgdpfkbpnpaaGreatDoor.Hello
