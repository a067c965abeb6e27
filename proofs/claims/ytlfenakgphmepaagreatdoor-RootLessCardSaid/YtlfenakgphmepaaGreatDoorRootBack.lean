/- Root's plain law: what a right root's lines are, and that they are read as they were. -/
import Derived.Test.YtlfenakgphmepaaGreatDoorRootDec
import Derived.Test.YtlfenakgphmepaaGreatDoorRootHead
namespace Go.Proofs.YtlfenakgphmepaaGreatDoor.Root
open Go.RowKit Go.Proofs.YtlfenakgphmepaaGreatDoorW.PrintWords Go.Proofs.YtlfenakgphmepaaGreatDoor.Print Go.Proofs.YtlfenakgphmepaaGreatDoor.Build
set_option linter.unusedVariables false
set_option linter.unusedSimpArgs false
theorem rn_size {s : ByteArray} (h : rnF s = true) : 1 <= s.size /\ s.size <= 20 := by
 unfold rnF rnEnd at h
 rw [Bool.and_eq_true, decide_eq_true_iff] at h
 exact h.2
end Go.Proofs.YtlfenakgphmepaaGreatDoor.Root
