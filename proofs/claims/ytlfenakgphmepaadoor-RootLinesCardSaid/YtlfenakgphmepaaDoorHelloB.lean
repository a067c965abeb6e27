/- What talks begin with: the program's functions of whole lines, as plain functions. -/
import Derived.Test.YtlfenakgphmepaaDoorHello
namespace Go.Proofs.YtlfenakgphmepaaDoor.Hello
open Go.RowKit Go.Proofs.YtlfenakgphmepaaDoorW.PrintWords Go.Proofs.YtlfenakgphmepaaDoorW.PrintLast Go.Proofs.YtlfenakgphmepaaDoorW.PrintMore Go.Proofs.YtlfenakgphmepaaDoor.Conv Go.Proofs.YtlfenakgphmepaaDoor.Print
abbrev Rf := S76
theorem getR (l : List Rf) (i : Nat) (h : i < l.length) : rd_T76 l (i : Int) = l[i] := by
 unfold rd_T76
 rw [Int.toNat_natCast, List.getD_eq_getElem?_getD, List.getElem?_eq_getElem h]; rfl
theorem toList_inj {a b : ByteArray} (h : a.toList = b.toList) : a = b := by
 rw [Lib.toList_data, Lib.toList_data] at h
 exact ByteArray.ext (Array.ext' h)
def prefF (s p : ByteArray) : Bool := if (s.size : Int) >= (p.size : Int) then (s.extract 0 p.size).toList == p.toList else false
theorem hasPrefix_eq (s p : ByteArray) : strings_HasPrefix.f s p = some (prefF s p) := by
 unfold strings_HasPrefix.f sl_HasPrefix.f prefF
 by_cases h : (s.size : Int) >= (p.size : Int)
 ·rw [if_pos h, if_pos (by omega), if_pos (by omega), if_pos h]; rfl
 ·rw [if_neg h, if_neg h]; rfl
theorem indexByte_lt (l : List UInt8) (c : UInt8) : Lib.indexByte l c < l.length := by
 induction l with
 | nil => simp [Lib.indexByte]
 | cons b l ih =>
  unfold Lib.indexByte
  simp only [List.length_cons]
  split
  ·omega
  ·split <;> omega
theorem indexByte_app (a b : List UInt8) (c : UInt8) (h : c ∉ a) : Lib.indexByte (a ++ c :: b) c = a.length := by
 induction a with
 | nil => simp [Lib.indexByte]
 | cons x a ih =>
  have hx : x ≠ c := fun e => h (by simp [e])
  have := ih (fun e => h (by simp [e]))
  simp only [List.cons_append, Lib.indexByte, this, List.length_cons]
  rw [if_neg (by simpa using hx), if_neg (by simp)]
  try omega
theorem hexFrom_at (s : ByteArray) : ∀ (d i : Nat), hexFrom s d i = true -> ∀ j, i <= j -> j < i + d -> hexB (bt s (j : Int)) = true
 | 0, i, _, j, h1, h2 => by omega
 | d + 1, i, h, j, h1, h2 => by
  unfold hexFrom at h
  rw [Bool.and_eq_true] at h
  by_cases e : j = i
  ·rw [e]; exact h.1
  ·exact hexFrom_at s d (i + 1) h.2 j (by omega) (by omega)
theorem id_bytes {s : ByteArray} (h : idF s = true) : ∀ b ∈ s.data.toList, (48 <= b.toNat /\ b.toNat <= 57) ∨ (97 <= b.toNat /\ b.toNat <= 102) := by
 intro b hb
 obtain ⟨j, hj, rfl⟩ := List.mem_iff_getElem.1 hb
 unfold idF at h
 rw [Bool.and_eq_true] at h
 rw [Array.length_toList] at hj
 have hz : s.data.size = s.size := rfl
 have := hexFrom_at s s.size 0 h.1 j (Nat.zero_le _) (by omega)
 have hx := (hexB_iff _).1 this
 have e := bt_at s (j : Int) (by rw [Int.toNat_natCast]; omega)
 rw [<- e] at hx
 have e2 : (s[(j : Int).toNat]'(by rw [Int.toNat_natCast]; omega)).toNat = (s.data.toList[j]).toNat := by
  simp only [Int.toNat_natCast, Array.getElem_toList]; rfl
 rw [e2] at hx
 omega
end Go.Proofs.YtlfenakgphmepaaDoor.Hello
