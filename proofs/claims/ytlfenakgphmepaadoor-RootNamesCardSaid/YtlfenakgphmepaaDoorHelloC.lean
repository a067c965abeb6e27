/- What talks begin with: the program's functions of whole lines, as plain functions (2). -/
import Derived.Test.YtlfenakgphmepaaDoorHelloB
namespace Go.Proofs.YtlfenakgphmepaaDoor.Hello
open Go.RowKit Go.Proofs.YtlfenakgphmepaaDoorW.PrintWords Go.Proofs.YtlfenakgphmepaaDoorW.PrintLast Go.Proofs.YtlfenakgphmepaaDoorW.PrintMore Go.Proofs.YtlfenakgphmepaaDoor.Conv Go.Proofs.YtlfenakgphmepaaDoor.Print
def slashT : ByteArray := ⟨#[47]⟩
theorem above_eq (a b : ByteArray) (h : a.size + 1 <= 9223372036854775807) : refs_above.f a b = some (prefF b (a ++ slashT)) := by
 unfold refs_above.f
 rw [if_pos h, show strings_HasPrefix.f b (a ++ (⟨#[47]⟩ : ByteArray)) = some (prefF b (a ++ slashT)) from hasPrefix_eq _ _]
 rfl
def rightGo (l : List Rf) : List Rf -> Option ByteArray -> Bool
 | [], _ => decide ((l.length : Int) <= 64)
 | y :: t, p => namedF y.f0 && (idF y.f1 && (!(notAbove p y.f0) && (!(l.any fun z => prefF y.f0 (z.f0 ++ slashT)) && rightGo l t (some y.f0))))
def rightF (l : List Rf) : Bool := rightGo l l none
end Go.Proofs.YtlfenakgphmepaaDoor.Hello
