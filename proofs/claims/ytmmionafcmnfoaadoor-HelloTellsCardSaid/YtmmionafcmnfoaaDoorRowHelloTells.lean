/- The tied card of HelloTells: every input of the row, from what the law's function does at every call. -/
import Derived.Test.YtmmionafcmnfoaaDoorRows
import Derived.Test.YtmmionafcmnfoaaDoorCards
import Derived.Test.YtmmionafcmnfoaaDoorTie
import Derived.Test.YtmmionafcmnfoaaDoorCoreTells
import Derived.Test.YtmmionafcmnfoaaDoorOpen
import Derived.Test.YtmmionafcmnfoaaDoorWSized
import Derived.WalkKit
import Derived.ProofKit
import Derived.OpenShut
import Derived.ShutString
import Derived.ChangeOld
import Derived.Below
import Derived.SizedLaws
import Derived.Lay
import Derived.LaidOnce
import Derived.SevenTiedAt
namespace Go.Proofs.YtmmionafcmnfoaaDoor.helloTells
open Go.ChangeShapes Go.WideShapes Go.ChangeAt Go.RowKit Go.Proofs.YtmmionafcmnfoaaDoorW.PrintWords Go.Proofs.YtmmionafcmnfoaaDoor.Print Go.Proofs.YtmmionafcmnfoaaDoor.Open
open Go.ChangeMaps (open_string shut_string)
set_option linter.unusedVariables false
theorem own : ownKnob Tryd.prog.godebug = none := by kernel_rfl
theorem laidOut : laidOutB Tryd.prog = true := by kernel_rfl
set_option maxRecDepth 100000 in
theorem opens_line : Opens Tryd.prog k49 49 (fun _ => True) := by
 have h : Opens Tryd.prog (Kd.pair Kd.bool Kd.string) 49 (fun y => True /\ y.2.size <= maxLen) := opens_struct Tryd.underlying49 (by kernel_rfl) (opensF_cons (opens_bool Tryd.underlying4) rfl (by kernel_rfl) (opensF_last (opens_string Tryd.underlying9) rfl (by kernel_rfl)))
 constructor
 intro H enc w base spare held n cs x hx
 obtain ⟨y, hK, _⟩ := (opens_iso (fun x : S49 => (x.f0, x.f1)) (fun p => ⟨p.1, p.2⟩) (fun _ => rfl) h).go hx
 exact ⟨y, hK, trivial⟩
set_option maxRecDepth 100000 in
theorem opens_ref : Opens Tryd.prog k63 63 (fun _ => True) := by
 have h : Opens Tryd.prog (Kd.pair Kd.string Kd.string) 63 (fun y => y.1.size <= maxLen /\ y.2.size <= maxLen) := opens_struct Tryd.underlying63 (by kernel_rfl) (opensF_cons (opens_string Tryd.underlying9) rfl (by kernel_rfl) (opensF_last (opens_string Tryd.underlying9) rfl (by kernel_rfl)))
 constructor
 intro H enc w base spare held n cs x hx
 obtain ⟨y, hK, _⟩ := (opens_iso (fun x : S63 => (x.f0, x.f1)) (fun p => ⟨p.1, p.2⟩) (fun _ => rfl) h).go hx
 exact ⟨y, hK, trivial⟩
set_option maxRecDepth 100000 in
theorem opens_up : Opens Tryd.prog k65 65 (fun _ => True) := by
 have h : Opens Tryd.prog (Kd.pair Kd.string (Kd.pair Kd.string Kd.string)) 65 (fun y => y.1.size <= maxLen /\ y.2.1.size <= maxLen /\ y.2.2.size <= maxLen) := opens_struct Tryd.underlying65 (by kernel_rfl) (opensF_cons (opens_string Tryd.underlying9) rfl (by kernel_rfl) (opensF_cons (opens_string Tryd.underlying9) rfl (by kernel_rfl) (opensF_last (opens_string Tryd.underlying9) rfl (by kernel_rfl))))
 constructor
 intro H enc w base spare held n cs x hx
 obtain ⟨y, hK, _⟩ := (opens_iso (fun x : S65 => (x.f0, x.f1, x.f2)) (fun p => ⟨p.1, p.2.1, p.2.2⟩) (fun _ => rfl) h).go hx
 exact ⟨y, hK, trivial⟩
def okTexts (xs : List ByteArray) : Prop := xs.length <= maxLen /\ ∀ x ∈ xs, x.size <= maxLen
set_option maxRecDepth 100000 in
theorem opens_asked : Opens Tryd.prog k25 25 (fun y => y.f0.length <= maxLen /\ y.f1.length <= maxLen) := by
 have sl : Opens Tryd.prog (Kd.slice 9 Kd.string) 23 okTexts := opens_slice Tryd.underlying23 (by kernel_rfl) (opens_string Tryd.underlying9) 9
 have h : Opens Tryd.prog (Kd.pair (Kd.slice 9 Kd.string) (Kd.slice 9 Kd.string)) 25 (fun y => okTexts y.1 /\ okTexts y.2) := opens_struct Tryd.underlying25 (by kernel_rfl) (opensF_cons (p := okTexts) (p' := okTexts) sl rfl (by kernel_rfl) (opensF_last sl rfl (by kernel_rfl)))
 constructor
 intro H enc w base spare held n cs x hx
 obtain ⟨y, hK, hp⟩ := (opens_iso (fun x : S25 => (x.f0, x.f1)) (fun p => ⟨p.1, p.2⟩) (fun _ => rfl) h).go hx
 exact ⟨y, hK, hp.1.1, hp.2.1⟩
def laid : List (String × DataW Unit) := [("unicode/utf8.acceptRanges", Rows.laid_unicode_utf8_acceptRanges), ("unicode/utf8.first", Rows.laid_unicode_utf8_first)]
set_option maxRecDepth 100000 in
theorem lifted (os : Os) (started : os.Started) (H : Type) (enc : TypeId × Value -> H) :
  ReturnsInHanded {} Tryd.checked os 3 .any (fun w args => (Rows.helloTellsSpec.pre enc Tryd.prog Tryd.f3 [] false w args /\ laidMetH Tryd.prog laid w) /\ sizedMet enc Tryd.prog Tryd.f3 (OpenSpec.ofChange Rows.helloTellsSpec) false w args)
   (Rows.helloTellsSpec.post enc Tryd.prog Tryd.f3 false true false false) := by
 refine returnsInHanded_of_change_and (C := Tryd.checked) (X := fun w _ => laidMetH Tryd.prog laid w) (fun _ _ _ hh h => h.of_heap hh) own started (by kernel_rfl) Tryd.func3
  (ChangeSpec.witness_shaped (enc := enc) (C := Tryd.checked) (os := os) (X := fun w _ => laidMetH Tryd.prog laid w) false (World.laidAll Tryd.prog os laid) #[.string ⟨#[]⟩, .slice none 0 0, .agg #[.slice none 0 0, .slice none 0 0], .slice none 0 0, .slice none 0 0] 8 (World.laidAll_os _ _ _)
   (World.shaped_of_ZipB (by kernel_rfl) (by kernel_rfl)) (by kernel_rfl) (by kernel_rfl) (by kernel_rfl)
   (by rw [MakeChecks.laidMetH_plain _ _ _ (by kernel_rfl)]; exact laidMet_laidAll _ (by kernel_rfl) (by kernel_rfl))) ?_
 intro W base args ds gs before hval0 hW _ _ _ _
 have hval : ∀ (j : Nat) t v, Tryd.f3.params[j]? = some t -> args[j]? = some v -> Value.okWide Tryd.prog W .any base t v := hval0
 have hW' := hW
 obtain ⟨p, q, hA0, hV, rfl, hfz, hnd⟩ := hW
 have hA : DataW.TrodAll enc Tryd.prog W 0 (fun _ => true) true Tryd.f3.params.toList args.toList ds p := hA0
 rw [Tryd.params3] at hA hval
 obtain ⟨v0, vs0, d0, ds0, p0, q0, hargs, rfl, rfl, h0, r0⟩ := trodAll_cons hA
 obtain ⟨v1, vs1, d1, ds1, p1, q1, rfl, rfl, rfl, h1, r1⟩ := trodAll_cons r0
 obtain ⟨v2, vs2, d2, ds2, p2, q2, rfl, rfl, rfl, h2, r2⟩ := trodAll_cons r1
 obtain ⟨v3, vs3, d3, ds3, p3, q3, rfl, rfl, rfl, h3, r3⟩ := trodAll_cons r2
 obtain ⟨v4, vs4, d4, ds4, p4, q4, rfl, rfl, rfl, h4, r4⟩ := trodAll_cons r3
 obtain ⟨rfl, rfl, rfl⟩ := trodAll_nil r4
 obtain rfl : args = #[v0, v1, v2, v3, v4] := by cases args; simp_all
 obtain ⟨rfl, rfl⟩ := trodVars_none hV
 obtain ⟨a0, rfl, rfl, rfl, y0⟩ := open_string Tryd.underlying9 (hval 0 9 v0 rfl rfl) h0
 have k1 := h1
 have lt1 : ∀ x ∈ p1, x.block < W.heap.size := by obtain ⟨m, hm⟩ := k1; exact DataW.trod_lt m _ _ _ hm
 obtain ⟨a1, len1, cap1, rfl⟩ := okWide_slice Tryd.underlying22 (hval 1 22 v1 rfl rfl)
 obtain ⟨A1, c1, l1, e1, hc1, hr1, hm1, hp1⟩ := row Tryd.underlying22 (by kernel_rfl) opens_ref rfl h1
 cases e1
 have k2 := h2
 have lt2 : ∀ x ∈ p2, x.block < W.heap.size := by obtain ⟨m, hm⟩ := k2; exact DataW.trod_lt m _ _ _ hm
 obtain ⟨cs2, rfl, hz2⟩ := okWide_struct Tryd.underlying25 (hval 2 25 v2 rfl rfl)
 obtain ⟨y2, hK2, hm2⟩ : ∃ y, k25.K W y cs2.toList /\ y.f0.length <= maxLen /\ y.f1.length <= maxLen := by obtain ⟨m, hm⟩ := h2; exact opens_asked.go hm
 obtain ⟨A2, c2, B2, e2, hcs2, hc2, hr2, hd2, hs2⟩ := k25_open hK2
 obtain rfl : cs2 = #[.slice A2 y2.f0.length c2, .slice B2 y2.f1.length e2] := Array.ext' hcs2
 have k3 := h3
 have lt3 : ∀ x ∈ p3, x.block < W.heap.size := by obtain ⟨m, hm⟩ := k3; exact DataW.trod_lt m _ _ _ hm
 obtain ⟨a3, len3, cap3, rfl⟩ := okWide_slice Tryd.underlying26 (hval 3 26 v3 rfl rfl)
 obtain ⟨A3, c3, l3, e3, hc3, hr3, hm3, hp3⟩ := row Tryd.underlying26 (by kernel_rfl) opens_up rfl h3
 cases e3
 have k4 := h4
 have lt4 : ∀ x ∈ p4, x.block < W.heap.size := by obtain ⟨m, hm⟩ := k4; exact DataW.trod_lt m _ _ _ hm
 obtain ⟨a4, len4, cap4, rfl⟩ := okWide_slice Tryd.underlying27 (hval 4 27 v4 rfl rfl)
 obtain ⟨A4, c4, l4, e4, hc4, hr4, hm4, hp4⟩ := row Tryd.underlying27 (by kernel_rfl) opens_line rfl h4
 cases e4
 clear hA0 hval0
 try simp only [List.append_nil] at hW'
 refine (Hello.HelloTells_core a0 y0 _ _ l1 hr1 hc1 hm1 _ _ y2.f0 hr2 hc2 hm2.1 _ _ y2.f1 hs2 hd2 hm2.2 _ _ l3 hr3 hc3 hm3 _ _ l4 hr4 hc4 hm4).mono fun e W' ⟨he, bel⟩ => ?_
 subst he
 exact ⟨_, rfl, _, _, _, [], _, [], hW', trodAll_mk1 (shut_bool Tryd.underlying4 _), (trodAll_cons_mk (shut_string Tryd.underlying9 y0) (trodAll_cons_mk (Below.trod laidOut (by kernel_rfl) (of_decide_eq_true (by kernel_rfl)) k1 bel lt1) (trodAll_cons_mk (Below.trod laidOut (by kernel_rfl) (of_decide_eq_true (by kernel_rfl)) k2 bel lt2) (trodAll_cons_mk (Below.trod laidOut (by kernel_rfl) (of_decide_eq_true (by kernel_rfl)) k3 bel lt3) (trodAll_cons_mk (Below.trod laidOut (by kernel_rfl) (of_decide_eq_true (by kernel_rfl)) k4 bel lt4) trodAll_mk0))))), rfl, bel.frame _, fun h => by cases h⟩
theorem over : Rows.HelloTellsSaid :=
 OpenClaim.holds_of_wide 3 Tryd.f3 rfl rfl rfl rfl rfl rfl rfl ⟨rfl, rfl, rfl, rfl, rfl⟩ rfl rfl rfl rfl rfl (by kernel_rfl) Tryd.func3 (by kernel_rfl)
  (of_decide_eq_true (by kernel_rfl)) (by unfold Func.isWrapper; first | (rw [if_pos (by decide +kernel)]; kernel_rfl) | (rw [if_neg (by decide +kernel)]; exact ⟨rfl, rfl⟩))
  (fun os started H enc _ => lifted os started H enc)
theorem card : Rows.HelloTellsCardSaid :=
 Claim7.holds_tied_plain_at .later [] [.data, .pinned] true Rows.helloTellsCard.stood.harness false over (fun _ h => by cases h) (by kernel_rfl) (fun _ h => by cases h) helloTells_row_tie rfl ⟨rfl, rfl⟩ (by kernel_rfl) rfl
  (fun f fn hf hfn => by
   obtain rfl : f = 3 := Option.some.inj ((show Tryd.prog.funcNamed "sacristy/sacristylaw16.HelloTells" = some 3 by kernel_rfl).symm.trans hf) |>.symm
   obtain rfl : fn = Tryd.f3 := (Option.some.inj (Tryd.func3.symm.trans hfn)).symm
   exact ⟨by kernel_rfl, fun j t ht => by
    rw [Tryd.params3] at ht
    have hm : t ∈ [9, 22, 25, 26, 27] := by simpa using Array.mem_of_getElem? ht
    have hall : ([9, 22, 25, 26, 27].all fun u => !Tryd.prog.wantsStandIn u) = true := by kernel_rfl
    exact (show Tryd.prog.wantsStandIn t = false by simpa using List.all_eq_true.1 hall t hm)⟩)
  (by kernel_rfl)
end Go.Proofs.YtmmionafcmnfoaaDoor.helloTells
namespace Go.Proofs.YtmmionafcmnfoaaDoor
theorem helloTells_card : Rows.HelloTellsCardSaid := helloTells.card
end Go.Proofs.YtmmionafcmnfoaaDoor
