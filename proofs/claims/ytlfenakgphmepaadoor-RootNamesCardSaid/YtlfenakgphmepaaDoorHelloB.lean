/- What talks begin with: the program's functions of whole lines, as plain functions. -/
import Derived.Test.YtlfenakgphmepaaDoorHello
namespace Go.Proofs.YtlfenakgphmepaaDoor.Hello
open Go.RowKit Go.Proofs.YtlfenakgphmepaaDoorW.PrintWords Go.Proofs.YtlfenakgphmepaaDoorW.PrintLast Go.Proofs.YtlfenakgphmepaaDoorW.PrintMore Go.Proofs.YtlfenakgphmepaaDoor.Conv Go.Proofs.YtlfenakgphmepaaDoor.Print
abbrev Rf := S76
theorem toList_inj {a b : ByteArray} (h : a.toList = b.toList) : a = b := by
 rw [Lib.toList_data, Lib.toList_data] at h
 exact ByteArray.ext (Array.ext' h)
def prefF (s p : ByteArray) : Bool := if (s.size : Int) >= (p.size : Int) then (s.extract 0 p.size).toList == p.toList else false
theorem hasPrefix_eq (s p : ByteArray) : strings_HasPrefix.f s p = some (prefF s p) := by
 unfold strings_HasPrefix.f sl_HasPrefix.f prefF
 by_cases h : (s.size : Int) >= (p.size : Int)
 ·rw [if_pos h, if_pos (by omega), if_pos (by omega), if_pos h]; rfl
 ·rw [if_neg h, if_neg h]; rfl
theorem indexByte_lt (l : List UInt8) (c : UInt8) : Lib.indexByte l c < l.length := by
 induction l with
 | nil => simp [Lib.indexByte]
 | cons b l ih =>
  unfold Lib.indexByte
  simp only [List.length_cons]
  split
  ·omega
  ·split <;> omega
end Go.Proofs.YtlfenakgphmepaaDoor.Hello
