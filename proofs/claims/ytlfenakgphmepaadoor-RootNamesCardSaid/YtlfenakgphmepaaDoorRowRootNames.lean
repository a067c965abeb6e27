/- The tied card of RootNames: every input of the row, from what the law's function does at every call. -/
import Derived.Test.YtlfenakgphmepaaDoorRows
import Derived.Test.YtlfenakgphmepaaDoorCards
import Derived.Test.YtlfenakgphmepaaDoorTie
import Derived.Test.YtlfenakgphmepaaDoorRootNames
import Derived.Test.YtlfenakgphmepaaDoorOpen
import Derived.Test.YtlfenakgphmepaaDoorWSized
import Derived.WalkKit
import Derived.ProofKit
import Derived.OpenShut
import Derived.ShutString
import Derived.ChangeOld
import Derived.Below
import Derived.SizedLaws
import Derived.Lay
import Derived.LaidOnce
import Derived.SevenTiedAt
namespace Go.Proofs.YtlfenakgphmepaaDoor.rootNames
open Go Go.ChangeShapes Go.WideShapes Go.ChangeAt Go.RowKit Go.Proofs.YtlfenakgphmepaaDoorW.PrintWords Go.Proofs.YtlfenakgphmepaaDoor.Print Go.Proofs.YtlfenakgphmepaaDoor.Open
open Go.ChangeMaps (open_string shut_string)
set_option linter.unusedVariables false
theorem own : ownKnob Tryd.prog.godebug = none := by kernel_rfl
theorem laidOut : laidOutB Tryd.prog = true := by kernel_rfl
def laid : List (String × DataW Unit) := [("math/bits.deBruijn32tab", Rows.laid_math_bits_deBruijn32tab), ("math/bits.deBruijn64tab", Rows.laid_math_bits_deBruijn64tab), ("internal/strconv.uint64pow10", Rows.laid_internal_strconv_uint64pow10), ("unicode/utf8.acceptRanges", Rows.laid_unicode_utf8_acceptRanges), ("unicode/utf8.first", Rows.laid_unicode_utf8_first)]
set_option maxRecDepth 100000 in
theorem tab_laid {W : World} (h : laidMetH Tryd.prog laid W) : Lib.TabIs Tryd.prog W "internal/strconv.uint64pow10" .u64 Lib.pow10Tab := by
 rw [MakeChecks.laidMetH_plain _ _ _ (by kernel_rfl)] at h
 obtain ⟨ps, h, _⟩ := h
 obtain ⟨_, _, _, _, _, _, _, _, _, _, h, _⟩ := h
 obtain ⟨_, _, _, _, _, _, _, _, _, _, h, _⟩ := h
 obtain ⟨g', t', cs, fuel, p, q, hg', ht', hvar, hd, _, _⟩ := h
 have hg : (Tryd.prog.globalNamed "internal/strconv.uint64pow10").bind (fun g => (Tryd.prog.globals[g]?).map (·.type)) = some 129 := by kernel_rfl
 rw [hg'] at hg
 obtain rfl : t' = 129 := Option.some.inj (ht'.symm.trans hg)
 unfold Lib.TabIs
 rw [hvar, <- Lib.cells_of_tab (zs := Lib.pow10Tab) (k := .u64) Tryd.underlying129 Tryd.underlying121 (by kernel_rfl) (by kernel_rfl) hd]
set_option maxRecDepth 100000 in
theorem lifted (os : Os) (started : os.Started) (H : Type) (enc : TypeId × Value -> H) :
  ReturnsInHanded {} Tryd.checked os 7 .any (fun w args => (Rows.rootNamesSpec.pre enc Tryd.prog Tryd.f7 [] false w args /\ laidMetH Tryd.prog laid w) /\ sizedMet enc Tryd.prog Tryd.f7 (OpenSpec.ofChange Rows.rootNamesSpec) false w args)
   (Rows.rootNamesSpec.post enc Tryd.prog Tryd.f7 false true false false) := by
 refine returnsInHanded_of_change_and (C := Tryd.checked) (X := fun w _ => laidMetH Tryd.prog laid w) (fun _ _ _ hh h => h.of_heap hh) own started (by kernel_rfl) Tryd.func7
  (ChangeSpec.witness_shaped (enc := enc) (C := Tryd.checked) (os := os) (X := fun w _ => laidMetH Tryd.prog laid w) false (World.laidAll Tryd.prog os laid) #[.string ⟨#[]⟩, .int .u8 0] 8 (World.laidAll_os _ _ _)
   (World.shaped_of_ZipB (by kernel_rfl) (by kernel_rfl)) (by kernel_rfl) (by kernel_rfl) (by kernel_rfl)
   (by rw [MakeChecks.laidMetH_plain _ _ _ (by kernel_rfl)]; exact laidMet_laidAll _ (by kernel_rfl) (by kernel_rfl))) ?_
 intro W base args ds gs before hval0 hW hx1_ hx2_ hx3_ hx4_
 have htab := tab_laid hx3_
 have hval : ∀ (j : Nat) t v, Tryd.f7.params[j]? = some t -> args[j]? = some v -> Value.okWide Tryd.prog W .any base t v := hval0
 have hW' := hW
 obtain ⟨p, q, hA0, hV, rfl, hfz, hnd⟩ := hW
 have hA : DataW.TrodAll enc Tryd.prog W 0 (fun _ => true) true Tryd.f7.params.toList args.toList ds p := hA0
 rw [Tryd.params7] at hA hval
 obtain ⟨v0, vs0, d0, ds0, p0, q0, hargs, rfl, rfl, h0, r0⟩ := trodAll_cons hA
 obtain ⟨v1, vs1, d1, ds1, p1, q1, rfl, rfl, rfl, h1, r1⟩ := trodAll_cons r0
 obtain ⟨rfl, rfl, rfl⟩ := trodAll_nil r1
 obtain rfl : args = #[v0, v1] := by cases args; simp_all
 obtain ⟨rfl, rfl⟩ := trodVars_none hV
 obtain ⟨a0, rfl, rfl, rfl, y0⟩ := open_string Tryd.underlying9 (hval 0 9 v0 rfl rfl) h0
 obtain ⟨a1, rfl, rfl, rfl, w1⟩ := open_int Tryd.underlying5 (hval 1 5 v1 rfl rfl) h1
 clear hA0 hval0
 try simp only [List.append_nil] at hW'
 refine (Root.RootNames_core htab a0 y0 a1 w1).mono fun e W' ⟨he, bel⟩ => ?_
 subst he
 exact ⟨_, rfl, _, _, _, [], _, [], hW', trodAll_mk1 (shut_bool Tryd.underlying4 _), (trodAll_cons_mk (shut_string Tryd.underlying9 y0) (trodAll_cons_mk (shut_int Tryd.underlying5 w1) trodAll_mk0)), rfl, bel.frame _, fun h => by cases h⟩
theorem over : Rows.RootNamesSaid :=
 OpenClaim.holds_of_wide 7 Tryd.f7 rfl rfl rfl rfl rfl rfl rfl ⟨rfl, rfl, rfl, rfl, rfl⟩ rfl rfl rfl rfl rfl (by kernel_rfl) Tryd.func7 (by kernel_rfl)
  (of_decide_eq_true (by kernel_rfl)) (by unfold Func.isWrapper; first | (rw [if_pos (by decide +kernel)]; kernel_rfl) | (rw [if_neg (by decide +kernel)]; exact ⟨rfl, rfl⟩))
  (fun os started H enc _ => lifted os started H enc)
theorem card : Rows.RootNamesCardSaid :=
 Claim7.holds_tied_plain_at .later [] [.data, .data, .data, .data, .pinned] true Rows.rootNamesCard.stood.harness true over (fun _ h => by cases h) (by kernel_rfl) (fun _ h => by cases h) rootNames_row_tie rfl ⟨rfl, rfl⟩ (by kernel_rfl) rfl
  (fun f fn hf hfn => by
   obtain rfl : f = 7 := Option.some.inj ((show Tryd.prog.funcNamed "sacristy/sacristylaw10.RootNames" = some 7 by kernel_rfl).symm.trans hf) |>.symm
   obtain rfl : fn = Tryd.f7 := (Option.some.inj (Tryd.func7.symm.trans hfn)).symm
   exact ⟨by kernel_rfl, fun j t ht => by
    rw [Tryd.params7] at ht
    have hm : t ∈ [9, 5] := by simpa using Array.mem_of_getElem? ht
    have hall : ([9, 5].all fun u => !Tryd.prog.wantsStandIn u) = true := by kernel_rfl
    exact (show Tryd.prog.wantsStandIn t = false by simpa using List.all_eq_true.1 hall t hm)⟩)
  (by kernel_rfl)
end Go.Proofs.YtlfenakgphmepaaDoor.rootNames
namespace Go.Proofs.YtlfenakgphmepaaDoor
theorem rootNames_card : Rows.RootNamesCardSaid := rootNames.card
end Go.Proofs.YtlfenakgphmepaaDoor
