/- The calls of two laws answer true, whatever they are handed. -/
import Derived.Test.YtigcmhidbekgbaaLawA
namespace Go.Proofs.Ytigcmhidbekgbaa.Line
open Go.RowKit Go.Proofs.YtigcmhidbekgbaaW.PrintWords Go.Proofs.Ytigcmhidbekgbaa.Print

theorem bytes_of_wf {l : List Int} (h : ∀ x ∈ l, (Lit.int .u8 x).wf = true) : Bytes l := by
  intro x hx
  have := h x hx
  simp [Lit.wf, IntKind.min, IntKind.max, IntKind.signed, IntKind.bits] at this
  exact ⟨by omega, by omega⟩
theorem LineBack_core {w : World} (A0 : Option Addr) (c0 : Nat) (l0 : List Ln) (hr0 : Kd.C k38 w A0 l0.length l0) (hc0 : l0.length ≤ c0) (hm0 : l0.length ≤ maxLen) (_hp0 : ∀ x ∈ l0, True)
    (A1 : Option Addr) (c1 : Nat) (l1 : List Int) (hr1 : Kd.C (Kd.int .u8) w A1 l1.length l1) (hc1 : l1.length ≤ c1) (_hm1 : l1.length ≤ maxLen) (hp1 : ∀ x ∈ l1, (Lit.int .u8 x).wf = true) :
    Calls Try.prog 4 #[.slice A0 l0.length c0, .slice A1 l1.length c1] w fun e w' => e = .returned (.bool true) ∧ Below w.heap.size w w' :=
  sacristylaw15_LineBack.calls 400000 A0 c0 l0 A1 c1 l1 true w hr0 hc0 hr1 hc1 (back_true l0 l1 (bytes_of_wf hp1) (by simp only [maxLen] at hm0; omega))
theorem LineMany_core {w : World} (A0 : Option Addr) (c0 : Nat) (l0 : List Ln) (hr0 : Kd.C k38 w A0 l0.length l0) (hc0 : l0.length ≤ c0) (hm0 : l0.length ≤ maxLen) (_hp0 : ∀ x ∈ l0, True)
    (A1 : Option Addr) (c1 : Nat) (l1 : List Ln) (hr1 : Kd.C k38 w A1 l1.length l1) (hc1 : l1.length ≤ c1) (hm1 : l1.length ≤ maxLen) (_hp1 : ∀ x ∈ l1, True) :
    Calls Try.prog 8 #[.slice A0 l0.length c0, .slice A1 l1.length c1] w fun e w' => e = .returned (.bool true) ∧ Below w.heap.size w w' :=
  sacristylaw15_LineMany.calls 800000 A0 c0 l0 A1 c1 l1 true w hr0 hc0 hr1 hc1 (many_true l0 l1 (by simp only [maxLen] at hm0; omega) (by simp only [maxLen] at hm1; omega))
end Go.Proofs.Ytigcmhidbekgbaa.Line
