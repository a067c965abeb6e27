/- The row of LineTells: the statement, from what the law's function does at every call. -/
import Derived.Test.YtigcmhidbekgbaaRows
import Derived.Test.YtigcmhidbekgbaaCoreD
import Derived.Test.YtigcmhidbekgbaaOpen
import Derived.Test.YtigcmhidbekgbaaWSized
import Derived.WalkKit
import Derived.ProofKit
import Derived.OpenShut
import Derived.ShutString
import Derived.ChangeOld
import Derived.Below
import Derived.SizedLaws
namespace Go.Proofs.Ytigcmhidbekgbaa.lineTells
open Go.ChangeShapes Go.WideShapes Go.ChangeAt Go.RowKit Go.Proofs.YtigcmhidbekgbaaW.PrintWords Go.Proofs.Ytigcmhidbekgbaa.Print Go.Proofs.Ytigcmhidbekgbaa.Open
open Go.ChangeMaps (open_string shut_string)
set_option linter.unusedVariables false
theorem own : ownKnob Try.prog.godebug = none := by kernel_rfl
theorem laidOut : laidOutB Try.prog = true := by kernel_rfl
theorem opens_line : Opens Try.prog k38 38 (fun _ => True) := by
  have h : Opens Try.prog (Kd.pair Kd.bool Kd.string) 38 (fun y => True ∧ y.2.size ≤ maxLen) := opens_struct Try.underlying38 (by kernel_rfl) (opensF_cons (opens_bool Try.underlying4) rfl (by kernel_rfl) (opensF_last (opens_string Try.underlying9) rfl (by kernel_rfl)))
  constructor
  intro H enc w base spare held n cs x hx
  obtain ⟨y, hK, _⟩ := (opens_iso (fun x : S38 => (x.f0, x.f1)) (fun p => ⟨p.1, p.2⟩) (fun _ => rfl) h).go hx
  exact ⟨y, hK, trivial⟩
set_option maxRecDepth 100000 in
theorem lifted (os : Os) (started : os.Started) (H : Type) (enc : TypeId × Value → H) :
    ReturnsInHanded {} Try.checked os 3 .any (Rows.lineTellsSpec.pre6 enc Try.prog Try.f3 Rows.lineTellsRow.domain false) (Rows.lineTellsSpec.post enc Try.prog Try.f3 false true false false) := by
  refine returnsInHanded_of_change_sized (C := Try.checked) own started (by kernel_rfl) Try.func3
    (ChangeSpec.witness6 (enc := enc) (C := Try.checked) false ⟨#[], #[.slice none 0 0, .slice none 0 0], []⟩ 8 (by kernel_rfl) (by kernel_rfl) (by kernel_rfl) (by kernel_rfl)) ?_
  intro W base args ds gs before hval0 hW hcnd hsz0 _
  have hval : ∀ (j : Nat) t v, Try.f3.params[j]? = some t → args[j]? = some v → Value.okWide Try.prog W .any base t v := hval0
  have hW' := hW
  obtain ⟨p, q, hA0, hV, rfl, hfz, hnd⟩ := hW
  have hA : DataW.TrodAll enc Try.prog W 0 (fun _ => true) true Try.f3.params.toList args.toList ds p := hA0
  rw [Try.params3] at hA hval
  obtain ⟨v0, vs0, d0, ds0, p0, q0, hargs, rfl, rfl, h0, r0⟩ := trodAll_cons hA
  obtain ⟨v1, vs1, d1, ds1, p1, q1, rfl, rfl, rfl, h1, r1⟩ := trodAll_cons r0
  obtain ⟨rfl, rfl, rfl⟩ := trodAll_nil r1
  obtain rfl : args = #[v0, v1] := by cases args; simp_all
  obtain ⟨rfl, rfl⟩ := trodVars_none hV
  obtain ⟨a0, len0, cap0, rfl⟩ := okWide_slice Try.underlying22 (hval 0 22 v0 rfl rfl)
  have k0 := h0
  have lt0 : ∀ x ∈ p0, x.block < W.heap.size := by obtain ⟨m, hm⟩ := k0; exact DataW.trod_lt m _ _ _ hm
  obtain ⟨A0, c0, l0, e0, hc0, hr0, hm0, hp0⟩ := row Try.underlying22 (by kernel_rfl) opens_line rfl h0
  cases e0
  obtain ⟨a1, len1, cap1, rfl⟩ := okWide_slice Try.underlying23 (hval 1 23 v1 rfl rfl)
  have k1 := h1
  have lt1 : ∀ x ∈ p1, x.block < W.heap.size := by obtain ⟨m, hm⟩ := k1; exact DataW.trod_lt m _ _ _ hm
  obtain ⟨A1, c1, l1, e1, hc1, hr1, hm1, hp1⟩ := row Try.underlying23 (by kernel_rfl) (opens_int Try.underlying5) rfl h1
  cases e1
  clear hA0 hval0 hsz0
  refine (Line.LineTells_core _ _ l0 hr0 hc0 hm0 hp0 _ _ l1 hr1 hc1 hm1 hp1).mono fun e W' ⟨he, bel⟩ => ?_
  subst he
  exact ⟨_, rfl, _, _, _, [], _, [], hW', trodAll_mk1 (shut_bool Try.underlying4 _), (trodAll_cons_mk (Below.trod laidOut (by kernel_rfl) (of_decide_eq_true (by kernel_rfl)) k0 bel lt0) (trodAll_cons_mk (Below.trod laidOut (by kernel_rfl) (of_decide_eq_true (by kernel_rfl)) k1 bel lt1) trodAll_mk0)), rfl, bel.frame _, fun h => by cases h⟩
theorem over : Rows.lineTellsRow.holds Try.pinned (OpenSpec.ofChange Rows.lineTellsSpec) :=
  OpenClaim.holds_of_wide 3 Try.f3 rfl rfl rfl rfl rfl rfl rfl ⟨rfl, rfl, rfl, rfl, rfl⟩ rfl rfl rfl rfl rfl (by kernel_rfl) Try.func3 (by kernel_rfl)
    (of_decide_eq_true (by kernel_rfl)) (by unfold Func.isWrapper; first | (rw [if_pos (by decide +kernel)]; kernel_rfl) | (rw [if_neg (by decide +kernel)]; exact ⟨rfl, rfl⟩))
    (fun os started H enc _ => lifted os started H enc)
theorem proved : Rows.LineTellsSaid := over
#print axioms proved
end Go.Proofs.Ytigcmhidbekgbaa.lineTells
namespace Go.Proofs.Ytigcmhidbekgbaa
/-- The row, under a short name, for the claim. -/
theorem lineTells_holds : Rows.LineTellsSaid := lineTells.proved
end Go.Proofs.Ytigcmhidbekgbaa
