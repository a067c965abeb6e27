/- Bytes out of a text, and out of a constant: one step of a walk each. -/
import Derived.Test.YtmmionafcmnfoaaDoorWWords
import Derived.Lib.ConvBytes
import Derived.Lib.SlBytesConst
import Derived.WalkKit
namespace Go.Proofs.YtmmionafcmnfoaaDoor.Conv
open Go.RowKit Go.Proofs.YtmmionafcmnfoaaDoorW.PrintWords Go.Proofs.YtmmionafcmnfoaaDoorW.PrintLast Go.Proofs.YtmmionafcmnfoaaDoorW.PrintMore
def conv_bytes.f (s : ByteArray) : Option (List Int) := if s.size <= 9223372036854775807 then some (bytesOf s) else none
def lit_bytes.f (xs : List Int) : Option (List Int) := some xs
variable {P : Program} {ops : Array Oper} {rest : List Oper} {o o2 : Oper} {a : Act} {Q : Exit -> Act -> World -> Prop} {W : World}
def bB : Nat -> Nat -> List Bool
 | 0, _ => []
 | n + 1, v => (v % 2 == 1) :: bB n (v / 2)
def bA (n v : Nat) : Array Bool := (bB n v).toArray
theorem zA {α : Type} {l : List α} {i : Nat} {a : α} : l.toArray.setIfInBounds i a = (l.set i a).toArray := List.setIfInBounds_toArray ..
theorem zB {α : Type} {x : α} {xs : List α} {a : α} : (x :: xs).set 0 a = a :: xs := List.set_cons_zero
theorem zC {α : Type} {x : α} {xs : List α} {n : Nat} {a : α} : (x :: xs).set (n + 1) a = x :: xs.set n a := List.set_cons_succ
end Go.Proofs.YtmmionafcmnfoaaDoor.Conv
