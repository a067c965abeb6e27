/- Functions of the program as plain functions, and proofs that the program's calls tell what these tell. Written by a program. -/
import Derived.Test.YtemkgdpfkbpnpaaGreatDoorPrint0
import Derived.Test.YtemkgdpfkbpnpaaGreatDoorPrint1
import Derived.Test.YtemkgdpfkbpnpaaGreatDoorPrint2
import Derived.Test.YtemkgdpfkbpnpaaGreatDoorPrint3
import Derived.Test.YtemkgdpfkbpnpaaGreatDoorPrint4
import Derived.Test.YtemkgdpfkbpnpaaGreatDoorPrint5
import Derived.Test.YtemkgdpfkbpnpaaGreatDoorPrint6
import Derived.Test.YtemkgdpfkbpnpaaGreatDoorPrint7
import Derived.Test.YtemkgdpfkbpnpaaGreatDoorPrint8
import Derived.Test.YtemkgdpfkbpnpaaGreatDoorPrint9
import Derived.Test.YtemkgdpfkbpnpaaGreatDoorPrint10
namespace Go.Proofs.YtemkgdpfkbpnpaaGreatDoor.Print
open Go.RowKit Go.Proofs.YtemkgdpfkbpnpaaGreatDoorW.PrintWords Go.Proofs.YtemkgdpfkbpnpaaGreatDoorW.PrintLast Go.Proofs.YtemkgdpfkbpnpaaGreatDoorW.PrintMore Go.Proofs.YtemkgdpfkbpnpaaGreatDoor.Conv
attribute [local go_sem] max2_int min2_int max_two min_two max_three min_three max_four min_four
set_option linter.unusedVariables false
set_option linter.unusedSimpArgs false
end Go.Proofs.YtemkgdpfkbpnpaaGreatDoor.Print
