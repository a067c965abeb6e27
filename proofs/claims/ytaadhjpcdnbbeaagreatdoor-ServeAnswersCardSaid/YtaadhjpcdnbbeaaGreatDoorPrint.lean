/- Functions of the program as plain functions, and proofs that the program's calls tell what these tell. Written by a program. -/
import Derived.Test.YtaadhjpcdnbbeaaGreatDoorPrint0
import Derived.Test.YtaadhjpcdnbbeaaGreatDoorPrint1
import Derived.Test.YtaadhjpcdnbbeaaGreatDoorPrint2
import Derived.Test.YtaadhjpcdnbbeaaGreatDoorPrint3
import Derived.Test.YtaadhjpcdnbbeaaGreatDoorPrint4
import Derived.Test.YtaadhjpcdnbbeaaGreatDoorPrint5
import Derived.Test.YtaadhjpcdnbbeaaGreatDoorPrint6
import Derived.Test.YtaadhjpcdnbbeaaGreatDoorPrint7
import Derived.Test.YtaadhjpcdnbbeaaGreatDoorPrint8
import Derived.Test.YtaadhjpcdnbbeaaGreatDoorPrint9
import Derived.Test.YtaadhjpcdnbbeaaGreatDoorPrint10
namespace Go.Proofs.YtaadhjpcdnbbeaaGreatDoor.Print
open Go.RowKit Go.Proofs.YtaadhjpcdnbbeaaGreatDoorW.PrintWords Go.Proofs.YtaadhjpcdnbbeaaGreatDoorW.PrintLast Go.Proofs.YtaadhjpcdnbbeaaGreatDoorW.PrintMore Go.Proofs.YtaadhjpcdnbbeaaGreatDoor.Conv
attribute [local go_sem] max2_int min2_int max_two min_two max_three min_three max_four min_four
set_option linter.unusedVariables false
set_option linter.unusedSimpArgs false
end Go.Proofs.YtaadhjpcdnbbeaaGreatDoor.Print
