/- The calls of TakeWrong answer true, whatever they are handed. -/
import Derived.Test.YtemkgdpfkbpnpaaGreatDoorTakeHead
namespace Go.Proofs.YtemkgdpfkbpnpaaGreatDoor.Take
open Go.RowKit Go.Proofs.YtemkgdpfkbpnpaaGreatDoorW.PrintWords Go.Proofs.YtemkgdpfkbpnpaaGreatDoorW.PrintLast Go.Proofs.YtemkgdpfkbpnpaaGreatDoorW.PrintMore Go.Proofs.YtemkgdpfkbpnpaaGreatDoor.Conv Go.Proofs.YtemkgdpfkbpnpaaGreatDoor.Print
set_option linter.unusedVariables false
set_option linter.unusedSimpArgs false
theorem bytes_of_wf {l : List Int} (h : ∀ x ∈ l, (Lit.int .u8 x).wf = true) : Line.Bytes l := by
 intro x hx
 have := h x hx
 simp [Lit.wf, IntKind.min, IntKind.max, IntKind.signed, IntKind.bits] at this
 exact ⟨by omega, by omega⟩
def Comes (l : List Int) (s : St) : Prop := ∃ cm u p, cm.length <= l.length /\ p.length <= 1000000000 /\ ((∃ nx, nx ≠ -2 /\ s = ⟨cm, [], u, p, nx, false⟩) ∨ s = ⟨cm, [], u, p, -2, true⟩ ∨ s = ⟨cm, errT, u, p, -2, false⟩)
theorem comes_pack (l cm : List Int) (hc : cm.length <= l.length) (u : List S42) (nx : Int) (hn : nx ≠ -2) (us : List Line.Ln) (ps : List Int) (hl : us.length <= 200000) (hs : ∀ y ∈ us, y.f1.size <= 4000) : Comes l (packS errT ⟨cm, [], u, [], nx, false⟩ us ps) := by
 unfold packS
 cases f : flushF us with
 | none => exact ⟨cm, u, [], hc, by simp, Or.inl ⟨nx, hn, rfl⟩⟩
 | some j =>
  by_cases c : fine us ps j
  ·simp only [if_pos c]
   have h1 := sizes_le us hs
   have h2 := Line.joinF_length us
   exact ⟨cm, u, Line.joinF us, hc, by omega, Or.inr (Or.inl rfl)⟩
  ·simp only [if_neg c]
   exact ⟨cm, u, [], hc, by simp, Or.inr (Or.inr rfl)⟩
theorem take_first (l : List Int) (hB : Line.Bytes l) (hz : l.length <= 200000) : Comes l (takeS pushR errT ⟨[], [], [], [], -1, false⟩ l) := by
 rw [take_hear pushR errT rfl (show (-1 : Int) ≠ -2 by decide) l]
 show Comes l (hearS pushR errT ⟨[] ++ l, [], [], [], -1, false⟩)
 rw [List.nil_append]
 obtain ⟨us, ps, ge, he⟩ : ∃ us ps ge, Line.cutF l = (us, ps, ge) := ⟨_, _, _, rfl⟩
 have hf := cut_facts l hB us ps ge he
 rcases hf.1 with rfl | ⟨rfl, rfl, rfl⟩
 ·rw [hear_changes (s := ⟨l, [], [], [], -1, false⟩) he rfl]
  unfold changesS
  cases f : flushF us with
  | none => exact ⟨l, [], [], Nat.le_refl _, by simp, Or.inl ⟨-1, by decide, rfl⟩⟩
  | some i =>
   by_cases d : (pushR (us.take (i + 1))).2 = true
   ·simp only [if_pos d]
    exact comes_pack l l (Nat.le_refl _) _ (i : Int) (by omega) _ _ (by rw [List.length_drop]; omega) (fun y hy => hf.2.2.1 y (List.mem_of_mem_drop hy))
   ·simp only [if_neg d]
    exact ⟨l, [], [], Nat.le_refl _, by simp, Or.inr (Or.inr rfl)⟩
 ·rw [hear_bad (s := ⟨l, [], [], [], -1, false⟩) he]
  exact ⟨l, [], [], Nat.le_refl _, by simp, Or.inr (Or.inr rfl)⟩
end Go.Proofs.YtemkgdpfkbpnpaaGreatDoor.Take
