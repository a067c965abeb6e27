/- Root's plain law: what a right root's lines are, and that they are read as they were. -/
import Derived.Test.YtlfenakgphmepaaDoorRootDec
import Derived.Test.YtlfenakgphmepaaDoorRootHead
namespace Go.Proofs.YtlfenakgphmepaaDoor.Root
open Go.RowKit Go.Proofs.YtlfenakgphmepaaDoorW.PrintWords Go.Proofs.YtlfenakgphmepaaDoor.Print Go.Proofs.YtlfenakgphmepaaDoor.Build
set_option linter.unusedVariables false
set_option linter.unusedSimpArgs false
theorem bytes_of {s : ByteArray} {Q : Int -> Prop} (h : ∀ j, j < s.size -> Q (bt s (j : Int))) : ∀ b ∈ s.data.toList, Q (b.toNat : Int) := by
 intro b hb
 obtain ⟨j, hj, rfl⟩ := List.mem_iff_getElem.1 hb
 have hz : j < s.size := by rw [Array.length_toList] at hj; exact hj
 have := h j hz
 rw [bt_get s j hz] at this
 exact this
theorem rn_size {s : ByteArray} (h : rnF s = true) : 1 <= s.size /\ s.size <= 20 := by
 unfold rnF rnEnd at h
 rw [Bool.and_eq_true, decide_eq_true_iff] at h
 exact h.2
end Go.Proofs.YtlfenakgphmepaaDoor.Root
