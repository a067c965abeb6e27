/- Root's plain law: forks rise by their names; where one stands. -/
import Derived.Test.YtlfenakgphmepaaGreatDoorRootSameS
import Derived.Sort.Walk0
namespace Go.Proofs.YtlfenakgphmepaaGreatDoor.Root
open Go.RowKit YtlfenakgphmepaaGreatDoorW.PrintWords Print Build
set_option linter.unusedVariables false
set_option linter.unusedSimpArgs false
end Go.Proofs.YtlfenakgphmepaaGreatDoor.Root
