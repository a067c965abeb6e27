/- A function compared with nil. -/
import Derived.Test.YtemkgdpfkbpnpaaGreatDoorTakeM
import Derived.Lib.BufferMore
namespace Go.Proofs.YtemkgdpfkbpnpaaGreatDoor.Take
open Go.RowKit Go.Proofs.YtemkgdpfkbpnpaaGreatDoorW.PrintWords
theorem run_equal_func {P : Program} (w : World) {t : TypeId} {ps rs : Array TypeId} {vd : Bool} (ht : P.underlying t = some (.func ps rs vd)) : (Op.equal t .nilFunc .nilFunc).run P w = .ok true w /\ ∀ f x y, (Op.equal t (.func f x y) .nilFunc).run P w = .ok false w := by
 have h : ∀ d : Nat, (Op.equalIn (d + 1) t .nilFunc .nilFunc).run P w = .ok true w := fun d => by
  simp [Op.equalIn, run_underlying ht]
 have h2 : ∀ (d : Nat) f x y, (Op.equalIn (d + 1) t (.func f x y) .nilFunc).run P w = .ok false w := fun d f x y => by
  simp [Op.equalIn, run_underlying ht]
 exact ⟨by simp [Op.equal, Op.maxDepth, h 9999], fun f x y => by simp [Op.equal, Op.maxDepth, h2 9999 f x y]⟩
theorem nil_eql (W : World) : (binOp .eql 54 .nilFunc .nilFunc).run Tryz.prog W = .ok (.bool true) W := by
 simp [binOp, (run_equal_func W Tryz.underlying54).1]
theorem nil_neq (W : World) : (binOp .neq 54 .nilFunc .nilFunc).run Tryz.prog W = .ok (.bool false) W := by
 simp [binOp, (run_equal_func W Tryz.underlying54).1]
theorem func_eql (f : Fn) (x y : Array Value) (W : World) : (binOp .eql 54 (.func f x y) .nilFunc).run Tryz.prog W = .ok (.bool false) W := by
 simp [binOp, (run_equal_func W Tryz.underlying54).2]
theorem func_neq (f : Fn) (x y : Array Value) (W : World) : (binOp .neq 54 (.func f x y) .nilFunc).run Tryz.prog W = .ok (.bool true) W := by
 simp [binOp, (run_equal_func W Tryz.underlying54).2]
end Go.Proofs.YtemkgdpfkbpnpaaGreatDoor.Take
