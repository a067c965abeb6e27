/- The calls of a law, as a plain function, printed by a program. -/
import Derived.Test.YtmmionafcmnfoaaDoorPrint0
import Derived.Test.YtmmionafcmnfoaaDoorPrint1
import Derived.Test.YtmmionafcmnfoaaDoorPrint2
import Derived.Test.YtmmionafcmnfoaaDoorPrint3
import Derived.Test.YtmmionafcmnfoaaDoorPrint4
import Derived.Test.YtmmionafcmnfoaaDoorPrint6
import Derived.Test.YtmmionafcmnfoaaDoorPrint7
import Derived.Test.YtmmionafcmnfoaaDoorPrint8
import Derived.Test.YtmmionafcmnfoaaDoorPrint9
namespace Go.Proofs.YtmmionafcmnfoaaDoor.Print
open Go.RowKit Go.Proofs.YtmmionafcmnfoaaDoorW.PrintWords Go.Proofs.YtmmionafcmnfoaaDoorW.PrintLast Go.Proofs.YtmmionafcmnfoaaDoorW.PrintMore Go.Proofs.YtmmionafcmnfoaaDoor.Conv
attribute [local go_sem] max2_int min2_int max_two min_two max_three min_three max_four min_four
set_option linter.unusedVariables false
set_option linter.unusedSimpArgs false
attribute [local go_sem high] eqA49 eqA63 eqA65
def sacristylaw09_GreatUpdates.l0 : Nat → List (S65) → Int → Int → Option (Bool)
 | 0, _, _, _ => none
 | k + 1, x0, x3, x4 => if x4 < (x0.length : Int) then (if x3 < 9000 then (if 0 ≤ x4 then (sacristylaw09_GreatUpdates.l0 k x0 (wrap64 ((wrap64 ((wrap64 (x3 + (mn (((rd_T65 x0 x4).f0).size : Int) 9000))) + (mn (((rd_T65 x0 x4).f1).size : Int) 9000))) + (mn (((rd_T65 x0 x4).f2).size : Int) 9000))) (wrap64 (x4 + 1))) else (none)) else (if x3 ≥ 9000 then (some true) else (some (decide ((x0.length : Int) > 40))))) else (if x3 ≥ 9000 then (some true) else (some (decide ((x0.length : Int) > 40))))
def sacristylaw09_GreatUpdates.f (k : Nat) (l0 : List (S65)) : Option (Bool) := sacristylaw09_GreatUpdates.l0 k l0 (l0.length : Int) 0
def sacristylaw15_Great.l0 : Nat → List (S49) → Int → Int → Option (Bool)
 | 0, _, _, _ => none
 | k + 1, x0, x3, x4 => if x4 < (x0.length : Int) then (if x3 < 20000 then (if 0 ≤ x4 then (sacristylaw15_Great.l0 k x0 (wrap64 (x3 + (mn (((rd_T49 x0 x4).f1).size : Int) 20000))) (wrap64 (x4 + 1))) else (none)) else (some (decide (x3 ≥ 20000)))) else (some (decide (x3 ≥ 20000)))
def sacristylaw15_Great.f (k : Nat) (l0 : List (S49)) : Option (Bool) := sacristylaw15_Great.l0 k l0 (l0.length : Int) 0
def sacristyref15_Same.l0 : Nat → List (S49) → List (S49) → Int → Option (Bool)
 | 0, _, _, _ => none
 | k + 1, x0, x1, x5 => if x5 < (x0.length : Int) then (if 0 ≤ x5 then (if x5 < (x1.length : Int) then (if (!(((rd_T49 x0 x5).f0) == ((rd_T49 x1 x5).f0)) || (!((((rd_T49 x0 x5).f1).toList) == (((rd_T49 x1 x5).f1).toList)))) = true then (some false) else (sacristyref15_Same.l0 k x0 x1 (wrap64 (x5 + 1)))) else (none)) else (none)) else (some true)
def sacristyref15_Same.f (k : Nat) (l0 : List (S49)) (l1 : List (S49)) : Option (Bool) := if (l0.length : Int) = (l1.length : Int) then (sacristyref15_Same.l0 k l0 l1 0) else (some false)
end Go.Proofs.YtmmionafcmnfoaaDoor.Print
