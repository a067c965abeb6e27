/- Functions of the program as plain functions, and proofs that the program's calls tell what these tell. Written by a program. -/
import Derived.Test.YtemkgdpfkbpnpaaGreatDoorPrint0
namespace Go.Proofs.YtemkgdpfkbpnpaaGreatDoor.Print
open Go.RowKit Go.Proofs.YtemkgdpfkbpnpaaGreatDoorW.PrintWords Go.Proofs.YtemkgdpfkbpnpaaGreatDoorW.PrintLast Go.Proofs.YtemkgdpfkbpnpaaGreatDoorW.PrintMore Go.Proofs.YtemkgdpfkbpnpaaGreatDoor.Conv
attribute [local go_sem] max2_int min2_int max_two min_two max_three min_three max_four min_four
set_option linter.unusedVariables false
set_option linter.unusedSimpArgs false
theorem eqA42 (d : Nat) (w : World) (x0 y0 : ByteArray) (x1 y1 : ByteArray) (x2 y2 : ByteArray) :
  (Op.equalIn (d + 2) 42 (.agg #[.string x0, .string x1, .string x2]) (.agg #[.string y0, .string y1, .string y2])).run Tryz.prog w = .ok (x0.toList == y0.toList && (x1.toList == y1.toList && (x2.toList == y2.toList))) w := by
 refine eqA_of Tryz.underlying42 (by kernel_rfl) ?_
 refine eqf_cons (by rfl) (by go_simp; rfl) (by go_simp; rfl) (by go_simp) ?_
 refine eqf_cons (by rfl) (by go_simp; rfl) (by go_simp; rfl) (by go_simp) ?_
 exact eqf_last (by rfl) (by go_simp; rfl) (by go_simp; rfl) (by go_simp)
end Go.Proofs.YtemkgdpfkbpnpaaGreatDoor.Print
