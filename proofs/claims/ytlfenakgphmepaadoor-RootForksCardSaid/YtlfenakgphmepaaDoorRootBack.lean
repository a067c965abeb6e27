/- Root's plain law: what a right root's lines are, and that they are read as they were. -/
import Derived.Test.YtlfenakgphmepaaDoorRootDec
import Derived.Test.YtlfenakgphmepaaDoorRootHead
namespace Go.Proofs.YtlfenakgphmepaaDoor.Root
open Go.RowKit Go.Proofs.YtlfenakgphmepaaDoorW.PrintWords Go.Proofs.YtlfenakgphmepaaDoor.Print Go.Proofs.YtlfenakgphmepaaDoor.Build
set_option linter.unusedVariables false
set_option linter.unusedSimpArgs false
end Go.Proofs.YtlfenakgphmepaaDoor.Root
