/- The tied card of TakeGreets: every input of the row, from what the law's function does at every call. -/
import Derived.Test.YtemkgdpfkbpnpaaGreatDoorRows
import Derived.Test.YtemkgdpfkbpnpaaGreatDoorCards
import Derived.Test.YtemkgdpfkbpnpaaGreatDoorTie
import Derived.Test.YtemkgdpfkbpnpaaGreatDoorTakeGreets
import Derived.Test.YtemkgdpfkbpnpaaGreatDoorOpen
import Derived.Test.YtemkgdpfkbpnpaaGreatDoorWSized
import Derived.WalkKit
import Derived.ProofKit
import Derived.OpenShut
import Derived.ShutString
import Derived.ChangeOld
import Derived.Below
import Derived.SizedLaws
import Derived.Lay
import Derived.LaidOnce
import Derived.SevenTiedAt
namespace Go.Proofs.YtemkgdpfkbpnpaaGreatDoor.takeGreets
open Go.ChangeShapes Go.WideShapes Go.ChangeAt Go.RowKit Go.Proofs.YtemkgdpfkbpnpaaGreatDoorW.PrintWords Go.Proofs.YtemkgdpfkbpnpaaGreatDoor.Print Go.Proofs.YtemkgdpfkbpnpaaGreatDoor.Open
open Go.ChangeMaps (open_string shut_string)
set_option linter.unusedVariables false
theorem own : ownKnob Tryz.prog.godebug = none := by kernel_rfl
theorem laidOut : laidOutB Tryz.prog = true := by kernel_rfl
set_option maxRecDepth 100000 in
theorem opens_ref : Opens Tryz.prog k73 73 (fun _ => True) := by
 have h : Opens Tryz.prog (Kd.pair Kd.string Kd.string) 73 (fun y => y.1.size <= maxLen /\ y.2.size <= maxLen) := opens_struct Tryz.underlying73 (by kernel_rfl) (opensF_cons (opens_string Tryz.underlying9) rfl (by kernel_rfl) (opensF_last (opens_string Tryz.underlying9) rfl (by kernel_rfl)))
 constructor
 intro H enc w base spare held n cs x hx
 obtain ⟨y, hK, _⟩ := (opens_iso (fun x : S73 => (x.f0, x.f1)) (fun p => ⟨p.1, p.2⟩) (fun _ => rfl) h).go hx
 exact ⟨y, hK, trivial⟩
set_option maxRecDepth 100000 in
theorem opens_up : Opens Tryz.prog k42 42 (fun _ => True) := by
 have h : Opens Tryz.prog (Kd.pair Kd.string (Kd.pair Kd.string Kd.string)) 42 (fun y => y.1.size <= maxLen /\ y.2.1.size <= maxLen /\ y.2.2.size <= maxLen) := opens_struct Tryz.underlying42 (by kernel_rfl) (opensF_cons (opens_string Tryz.underlying9) rfl (by kernel_rfl) (opensF_cons (opens_string Tryz.underlying9) rfl (by kernel_rfl) (opensF_last (opens_string Tryz.underlying9) rfl (by kernel_rfl))))
 constructor
 intro H enc w base spare held n cs x hx
 obtain ⟨y, hK, _⟩ := (opens_iso (fun x : S42 => (x.f0, x.f1, x.f2)) (fun p => ⟨p.1, p.2.1, p.2.2⟩) (fun _ => rfl) h).go hx
 exact ⟨y, hK, trivial⟩
def laid : List (String × DataW Unit) := [("math/bits.deBruijn32tab", Rows.laid_math_bits_deBruijn32tab), ("math/bits.deBruijn64tab", Rows.laid_math_bits_deBruijn64tab), ("internal/strconv.uint64pow10", Rows.laid_internal_strconv_uint64pow10), ("unicode/utf8.acceptRanges", Rows.laid_unicode_utf8_acceptRanges), ("unicode/utf8.first", Rows.laid_unicode_utf8_first)]
set_option maxRecDepth 100000 in
theorem lifted (os : Os) (started : os.Started) (H : Type) (enc : TypeId × Value -> H) :
  ReturnsInHanded {} Tryz.checked os 6 .any (fun w args => (Rows.takeGreetsSpec.pre enc Tryz.prog Tryz.f6 [] false w args /\ laidMetH Tryz.prog laid w) /\ sizedMet enc Tryz.prog Tryz.f6 (OpenSpec.ofChange Rows.takeGreetsSpec) false w args)
   (Rows.takeGreetsSpec.post enc Tryz.prog Tryz.f6 false true false false) := by
 refine returnsInHanded_of_change_and (C := Tryz.checked) (X := fun w _ => laidMetH Tryz.prog laid w) (fun _ _ _ hh h => h.of_heap hh) own started (by kernel_rfl) Tryz.func6
  (ChangeSpec.witness_shaped (enc := enc) (C := Tryz.checked) (os := os) (X := fun w _ => laidMetH Tryz.prog laid w) false (World.laidAll Tryz.prog os laid) #[.string ⟨#[]⟩, .slice none 0 0, .slice none 0 0] 8 (World.laidAll_os _ _ _)
   (World.shaped_of_ZipB (by kernel_rfl) (by kernel_rfl)) (by kernel_rfl) (by kernel_rfl) (by kernel_rfl)
   (by rw [MakeChecks.laidMetH_plain _ _ _ (by kernel_rfl)]; exact laidMet_laidAll _ (by kernel_rfl) (by kernel_rfl))) ?_
 intro W base args ds gs before hval0 hW hx1_ hx2_ hx3_ hx4_
 have hval : ∀ (j : Nat) t v, Tryz.f6.params[j]? = some t -> args[j]? = some v -> Value.okWide Tryz.prog W .any base t v := hval0
 have hW' := hW
 obtain ⟨p, q, hA0, hV, rfl, hfz, hnd⟩ := hW
 have hA : DataW.TrodAll enc Tryz.prog W 0 (fun _ => true) true Tryz.f6.params.toList args.toList ds p := hA0
 rw [Tryz.params6] at hA hval
 obtain ⟨v0, vs0, d0, ds0, p0, q0, hargs, rfl, rfl, h0, r0⟩ := trodAll_cons hA
 obtain ⟨v1, vs1, d1, ds1, p1, q1, rfl, rfl, rfl, h1, r1⟩ := trodAll_cons r0
 obtain ⟨v2, vs2, d2, ds2, p2, q2, rfl, rfl, rfl, h2, r2⟩ := trodAll_cons r1
 obtain ⟨rfl, rfl, rfl⟩ := trodAll_nil r2
 obtain rfl : args = #[v0, v1, v2] := by cases args; simp_all
 obtain ⟨rfl, rfl⟩ := trodVars_none hV
 obtain ⟨a0, rfl, rfl, rfl, y0⟩ := open_string Tryz.underlying9 (hval 0 9 v0 rfl rfl) h0
 have k1 := h1
 have lt1 : ∀ x ∈ p1, x.block < W.heap.size := by obtain ⟨m, hm⟩ := k1; exact DataW.trod_lt m _ _ _ hm
 obtain ⟨a1, len1, cap1, rfl⟩ := okWide_slice Tryz.underlying44 (hval 1 44 v1 rfl rfl)
 obtain ⟨A1, c1, l1, e1, hc1, hr1, hm1, hp1⟩ := row Tryz.underlying44 (by kernel_rfl) opens_ref rfl h1
 cases e1
 have k2 := h2
 have lt2 : ∀ x ∈ p2, x.block < W.heap.size := by obtain ⟨m, hm⟩ := k2; exact DataW.trod_lt m _ _ _ hm
 obtain ⟨a2, len2, cap2, rfl⟩ := okWide_slice Tryz.underlying27 (hval 2 27 v2 rfl rfl)
 obtain ⟨A2, c2, l2, e2, hc2, hr2, hm2, hp2⟩ := row Tryz.underlying27 (by kernel_rfl) opens_up rfl h2
 cases e2
 clear hA0 hval0
 try simp only [List.append_nil] at hW'
 refine (Take.TakeGreets_core a0 y0 _ _ l1 hr1 hc1 hm1 _ _ l2 hr2 hc2 hm2).mono fun e W' ⟨he, bel⟩ => ?_
 subst he
 exact ⟨_, rfl, _, _, _, [], _, [], hW', trodAll_mk1 (shut_bool Tryz.underlying4 _), (trodAll_cons_mk (shut_string Tryz.underlying9 y0) (trodAll_cons_mk (Below.trod laidOut (by kernel_rfl) (of_decide_eq_true (by kernel_rfl)) k1 bel lt1) (trodAll_cons_mk (Below.trod laidOut (by kernel_rfl) (of_decide_eq_true (by kernel_rfl)) k2 bel lt2) trodAll_mk0))), rfl, bel.frame _, fun h => by cases h⟩
theorem over : Rows.TakeGreetsSaid :=
 OpenClaim.holds_of_wide 6 Tryz.f6 rfl rfl rfl rfl rfl rfl rfl ⟨rfl, rfl, rfl, rfl, rfl⟩ rfl rfl rfl rfl rfl (by kernel_rfl) Tryz.func6 (by kernel_rfl)
  (of_decide_eq_true (by kernel_rfl)) (by unfold Func.isWrapper; first | (rw [if_pos (by decide +kernel)]; kernel_rfl) | (rw [if_neg (by decide +kernel)]; exact ⟨rfl, rfl⟩))
  (fun os started H enc _ => lifted os started H enc)
theorem card : Rows.TakeGreetsCardSaid :=
 Claim7.holds_tied_plain_at .later [] [.data, .data, .data, .data, .pinned] true Rows.takeGreetsCard.stood.harness false over (fun _ h => by cases h) (by kernel_rfl) (fun _ h => by cases h) takeGreets_row_tie rfl ⟨rfl, rfl⟩ (by kernel_rfl) rfl
  (fun f fn hf hfn => by
   obtain rfl : f = 6 := Option.some.inj ((show Tryz.prog.funcNamed "sacristy/sacristylaw18.TakeGreets" = some 6 by kernel_rfl).symm.trans hf) |>.symm
   obtain rfl : fn = Tryz.f6 := (Option.some.inj (Tryz.func6.symm.trans hfn)).symm
   exact ⟨by kernel_rfl, fun j t ht => by
    rw [Tryz.params6] at ht
    have hm : t ∈ [9, 44, 27] := by simpa using Array.mem_of_getElem? ht
    have hall : ([9, 44, 27].all fun u => !Tryz.prog.wantsStandIn u) = true := by kernel_rfl
    exact (show Tryz.prog.wantsStandIn t = false by simpa using List.all_eq_true.1 hall t hm)⟩)
  (by kernel_rfl)
end Go.Proofs.YtemkgdpfkbpnpaaGreatDoor.takeGreets
namespace Go.Proofs.YtemkgdpfkbpnpaaGreatDoor
theorem takeGreets_card : Rows.TakeGreetsCardSaid := takeGreets.card
end Go.Proofs.YtemkgdpfkbpnpaaGreatDoor
