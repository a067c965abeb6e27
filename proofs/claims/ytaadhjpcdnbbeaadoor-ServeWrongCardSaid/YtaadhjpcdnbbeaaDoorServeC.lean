/- What a talk does from each of its states; numbers among the arguments. -/
import Derived.Test.YtaadhjpcdnbbeaaDoorServeHead
namespace Go.Proofs.YtaadhjpcdnbbeaaDoor.Serve
open Go.RowKit Go.Proofs.YtaadhjpcdnbbeaaDoorW.PrintWords Go.Proofs.YtaadhjpcdnbbeaaDoorW.PrintLast Go.Proofs.YtaadhjpcdnbbeaaDoorW.PrintMore Go.Proofs.YtaadhjpcdnbbeaaDoor.Conv Go.Proofs.YtaadhjpcdnbbeaaDoor.Print
set_option linter.unusedVariables false
theorem bytes_of_wf {l : List Int} (h : ∀ x ∈ l, (Lit.int .u8 x).wf = true) : Line.Bytes l := by
 intro x hx
 have := h x hx
 simp [Lit.wf, IntKind.min, IntKind.max, IntKind.signed, IntKind.bits] at this
 exact ⟨by omega, by omega⟩
section
variable (ask : List Line.Ln -> List ByteArray × List ByteArray × Bool) (err : Int -> List Int) (cm sd : List Int) (wa ha : List ByteArray)
theorem take_over (b : List Int) : takeS ask err ⟨cm, sd, wa, ha, 2⟩ b = ⟨cm ++ b, sd, wa, ha, 2⟩ := by
 unfold takeS
 rw [if_neg (by show ¬ (2 : Int) = 1; decide), if_neg (by show ¬ (2 : Int) = 0; decide)]
theorem take_wait_nil : takeS ask err ⟨cm, sd, wa, ha, 1⟩ [] = ⟨cm, sd, wa, ha, 1⟩ := by
 unfold takeS
 rw [if_pos rfl, if_pos rfl]
theorem take_wait (b : List Int) (h : b ≠ []) : takeS ask err ⟨cm, sd, wa, ha, 1⟩ b = ⟨cm ++ b, sd ++ err 3, wa, ha, 2⟩ := by
 unfold takeS
 rw [if_pos rfl, if_neg h]
 rfl
end
theorem take_first (b : List Int) (hb : Line.Bytes b) (hz : b.length <= 9000) : ∃ wa ha, takeS askR errT ⟨[], [], [], [], 0⟩ b = ⟨b, [], wa, ha, 0⟩ ∨ takeS askR errT ⟨[], [], [], [], 0⟩ b = ⟨b, [], wa, ha, 1⟩ ∨ takeS askR errT ⟨[], [], [], [], 0⟩ b = ⟨b, errB ⟨#[51]⟩, wa, ha, 2⟩ := by
 have h := takeS_good (good_new []) hb (by simp; omega)
 have h2 := takeS_send askR errT ⟨[], [], [], [], 0⟩ b rfl
 have e3 := errT3
 generalize takeS askR errT ⟨[], [], [], [], 0⟩ b = s at h h2 ⊢
 obtain ⟨cm, sd, wa, ha, st⟩ := s
 obtain ⟨hG, hc, _⟩ := h
 have hc : cm = b := hc
 subst hc
 refine ⟨wa, ha, ?_⟩
 rcases h2 with ⟨h2, h3⟩ | ⟨h2, h3⟩
 ·have h2 : st = 2 := h2
  have h3 : sd = [] ++ errT 3 := h3
  rw [h2, h3, List.nil_append, e3]
  exact Or.inr (Or.inr rfl)
 ·have h2 : st ≠ 2 := h2
  have h3 : sd = [] := h3
  have h4 : st = 0 ∨ st = 1 ∨ st = 2 := hG.st
  rcases h4 with h4 | h4 | h4
  ·rw [h4, h3]; exact Or.inl rfl
  ·rw [h4, h3]; exact Or.inr (Or.inl rfl)
  ·exact absurd h4 h2
end Go.Proofs.YtaadhjpcdnbbeaaDoor.Serve
