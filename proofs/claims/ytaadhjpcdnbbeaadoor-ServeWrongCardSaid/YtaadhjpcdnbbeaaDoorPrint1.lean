/- Functions of the program as plain functions, and proofs that the program's calls tell what these tell. Written by a program. -/
import Derived.Test.YtaadhjpcdnbbeaaDoorPrint0
namespace Go.Proofs.YtaadhjpcdnbbeaaDoor.Print
open Go.RowKit Go.Proofs.YtaadhjpcdnbbeaaDoorW.PrintWords Go.Proofs.YtaadhjpcdnbbeaaDoorW.PrintLast Go.Proofs.YtaadhjpcdnbbeaaDoorW.PrintMore Go.Proofs.YtaadhjpcdnbbeaaDoor.Conv
attribute [local go_sem] max2_int min2_int max_two min_two max_three min_three max_four min_four
set_option linter.unusedVariables false
set_option linter.unusedSimpArgs false
theorem eqA54 (d : Nat) (w : World) (x0 y0 : Bool) (x1 y1 : ByteArray) :
  (Op.equalIn (d + 2) 54 (.agg #[.bool x0, .string x1]) (.agg #[.bool y0, .string y1])).run Tryd.prog w = .ok (x0 == y0 && (x1.toList == y1.toList)) w := by
 refine eqA_of Tryd.underlying54 (by kernel_rfl) ?_
 refine eqf_cons (by rfl) (by go_simp; rfl) (by go_simp; rfl) (by go_simp) ?_
 exact eqf_last (by rfl) (by go_simp; rfl) (by go_simp; rfl) (by go_simp)
end Go.Proofs.YtaadhjpcdnbbeaaDoor.Print
