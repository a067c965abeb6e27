/- What talks begin with: the program's functions of whole lines, as plain functions. -/
import Derived.Test.YtlfenakgphmepaaGreatDoorHello
namespace Go.Proofs.YtlfenakgphmepaaGreatDoor.Hello
open Go.RowKit Go.Proofs.YtlfenakgphmepaaGreatDoorW.PrintWords Go.Proofs.YtlfenakgphmepaaGreatDoorW.PrintLast Go.Proofs.YtlfenakgphmepaaGreatDoorW.PrintMore Go.Proofs.YtlfenakgphmepaaGreatDoor.Conv Go.Proofs.YtlfenakgphmepaaGreatDoor.Print
abbrev Rf := S83
theorem getR (l : List Rf) (i : Nat) (h : i < l.length) : rd_T83 l (i : Int) = l[i] := by
 unfold rd_T83
 rw [Int.toNat_natCast, List.getD_eq_getElem?_getD, List.getElem?_eq_getElem h]; rfl
theorem toList_inj {a b : ByteArray} (h : a.toList = b.toList) : a = b := by
 rw [Lib.toList_data, Lib.toList_data] at h
 exact ByteArray.ext (Array.ext' h)
def prefF (s p : ByteArray) : Bool := if (s.size : Int) >= (p.size : Int) then (s.extract 0 p.size).toList == p.toList else false
theorem hasPrefix_eq (s p : ByteArray) : strings_HasPrefix.f s p = some (prefF s p) := by
 unfold strings_HasPrefix.f sl_HasPrefix.f prefF
 by_cases h : (s.size : Int) >= (p.size : Int)
 ·rw [if_pos h, if_pos (by omega), if_pos (by omega), if_pos h]; rfl
 ·rw [if_neg h, if_neg h]; rfl
theorem indexByte_lt (l : List UInt8) (c : UInt8) : Lib.indexByte l c < l.length := by
 induction l with
 | nil => simp [Lib.indexByte]
 | cons b l ih =>
  unfold Lib.indexByte
  simp only [List.length_cons]
  split
  ·omega
  ·split <;> omega
end Go.Proofs.YtlfenakgphmepaaGreatDoor.Hello
