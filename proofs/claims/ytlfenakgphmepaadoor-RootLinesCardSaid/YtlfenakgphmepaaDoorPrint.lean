/- Functions of the program as plain functions, and proofs that the program's calls tell what these tell. Written by a program. -/
import Derived.Test.YtlfenakgphmepaaDoorPrint0
import Derived.Test.YtlfenakgphmepaaDoorPrint1
import Derived.Test.YtlfenakgphmepaaDoorPrint2
import Derived.Test.YtlfenakgphmepaaDoorPrint3
import Derived.Test.YtlfenakgphmepaaDoorPrint4
import Derived.Test.YtlfenakgphmepaaDoorPrint5
import Derived.Test.YtlfenakgphmepaaDoorPrint6
import Derived.Test.YtlfenakgphmepaaDoorPrint7
import Derived.Test.YtlfenakgphmepaaDoorPrint8
import Derived.Test.YtlfenakgphmepaaDoorPrint9
namespace Go.Proofs.YtlfenakgphmepaaDoor.Print
open Go.RowKit Go.Proofs.YtlfenakgphmepaaDoorW.PrintWords Go.Proofs.YtlfenakgphmepaaDoorW.PrintLast Go.Proofs.YtlfenakgphmepaaDoorW.PrintMore Go.Proofs.YtlfenakgphmepaaDoor.Conv
attribute [local go_sem] max2_int min2_int max_two min_two max_three min_three max_four min_four
set_option linter.unusedVariables false
set_option linter.unusedSimpArgs false
end Go.Proofs.YtlfenakgphmepaaDoor.Print
