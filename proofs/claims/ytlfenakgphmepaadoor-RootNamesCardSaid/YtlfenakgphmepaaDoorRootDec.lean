/- Root's plain law: decimals are heard as they are told; texts are cut where they were joined. -/
import Derived.Test.YtlfenakgphmepaaDoorRootPure
namespace Go.Proofs.YtlfenakgphmepaaDoor.Root
open Go.RowKit Go.Proofs.YtlfenakgphmepaaDoorW.PrintWords Go.Proofs.YtlfenakgphmepaaDoor.Print Go.Proofs.YtlfenakgphmepaaDoor.Build
set_option linter.unusedVariables false
set_option linter.unusedSimpArgs false
theorem bt_get (s : ByteArray) (i : Nat) (h : i < s.size) : bt s (i : Int) = ((s.data.toList[i]'(by simpa using h)).toNat : Int) := by
 rw [<- bt_at s (i : Int) (by rw [Int.toNat_natCast]; exact h)]
 simp only [Int.toNat_natCast]
 rfl
end Go.Proofs.YtlfenakgphmepaaDoor.Root
