/- The calls of LineParts answer true, whatever they are handed. -/
import Derived.Test.YtigcmhidbekgbaaLawC
import Derived.Test.YtigcmhidbekgbaaCoreA
namespace Go.Proofs.Ytigcmhidbekgbaa.Line
open Go.RowKit Go.Proofs.YtigcmhidbekgbaaW.PrintWords Go.Proofs.Ytigcmhidbekgbaa.Print

theorem LineParts_core {w : World} (A0 : Option Addr) (c0 : Nat) (l0 : List Int) (hr0 : Kd.C (Kd.int .u8) w A0 l0.length l0) (hc0 : l0.length ≤ c0) (_hm0 : l0.length ≤ maxLen) (hp0 : ∀ x ∈ l0, (Lit.int .u8 x).wf = true)
    (a1 : Int) (w1 : (Lit.int .u16 a1).wf = true) :
    Calls Try.prog 6 #[.slice A0 l0.length c0, .int .u16 a1] w fun e w' => e = .returned (.bool true) ∧ Below w.heap.size w w' := by
  have h1 : 0 ≤ a1 ∧ a1 ≤ 65535 := by
    simp [Lit.wf, IntKind.min, IntKind.max, IntKind.signed, IntKind.bits] at w1
    exact ⟨by omega, by omega⟩
  exact sacristylaw15_LineParts.calls 1000 A0 c0 l0 a1 true w hr0 hc0 (parts_true l0 a1 (bytes_of_wf hp0) h1.1 h1.2)
end Go.Proofs.Ytigcmhidbekgbaa.Line
