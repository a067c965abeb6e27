/- Root's plain law: refs' lines, a fork's lines, and all lines are read as they were. -/
import Derived.Test.YtlfenakgphmepaaDoorRootBack
namespace Go.Proofs.YtlfenakgphmepaaDoor.Root
open Go.RowKit Go.Proofs.YtlfenakgphmepaaDoorW.PrintWords Go.Proofs.YtlfenakgphmepaaDoor.Print Go.Proofs.YtlfenakgphmepaaDoor.Build
set_option linter.unusedVariables false
set_option linter.unusedSimpArgs false
end Go.Proofs.YtlfenakgphmepaaDoor.Root
