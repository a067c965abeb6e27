/- The calls of TakeGreets answer true, whatever they are handed. -/
import Derived.Test.YtemkgdpfkbpnpaaGreatDoorTakeWrong
import Derived.Test.YtemkgdpfkbpnpaaGreatDoorGreat
import Derived.Test.YtemkgdpfkbpnpaaGreatDoorSameB
namespace Go.Proofs.YtemkgdpfkbpnpaaGreatDoor.Take
open Go.RowKit Go.Proofs.YtemkgdpfkbpnpaaGreatDoorW.PrintWords Go.Proofs.YtemkgdpfkbpnpaaGreatDoorW.PrintLast Go.Proofs.YtemkgdpfkbpnpaaGreatDoorW.PrintMore Go.Proofs.YtemkgdpfkbpnpaaGreatDoor.Conv Go.Proofs.YtemkgdpfkbpnpaaGreatDoor.Print
set_option linter.unusedVariables false
set_option linter.unusedSimpArgs false
end Go.Proofs.YtemkgdpfkbpnpaaGreatDoor.Take
