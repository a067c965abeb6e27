/- Functions of the program as plain functions, and proofs that the program's calls tell what these tell. Written by a program. -/
import Derived.Test.YtaadhjpcdnbbeaaDoorPrint0
import Derived.Test.YtaadhjpcdnbbeaaDoorPrint1
import Derived.Test.YtaadhjpcdnbbeaaDoorPrint2
import Derived.Test.YtaadhjpcdnbbeaaDoorPrint3
import Derived.Test.YtaadhjpcdnbbeaaDoorPrint4
import Derived.Test.YtaadhjpcdnbbeaaDoorPrint5
import Derived.Test.YtaadhjpcdnbbeaaDoorPrint6
import Derived.Test.YtaadhjpcdnbbeaaDoorPrint7
import Derived.Test.YtaadhjpcdnbbeaaDoorPrint8
import Derived.Test.YtaadhjpcdnbbeaaDoorPrint9
namespace Go.Proofs.YtaadhjpcdnbbeaaDoor.Print
open Go.RowKit Go.Proofs.YtaadhjpcdnbbeaaDoorW.PrintWords Go.Proofs.YtaadhjpcdnbbeaaDoorW.PrintLast Go.Proofs.YtaadhjpcdnbbeaaDoorW.PrintMore Go.Proofs.YtaadhjpcdnbbeaaDoor.Conv
attribute [local go_sem] max2_int min2_int max_two min_two max_three min_three max_four min_four
set_option linter.unusedVariables false
set_option linter.unusedSimpArgs false
end Go.Proofs.YtaadhjpcdnbbeaaDoor.Print
