/- The calls of a law, as a plain function, printed by a program. -/
import Derived.Test.YtmmionafcmnfoaaDoorPrint6
import Derived.Test.YtmmionafcmnfoaaDoorPrint7
import Derived.Test.YtmmionafcmnfoaaDoorPrint8
import Derived.Test.YtmmionafcmnfoaaDoorPrint9
import Derived.Test.YtmmionafcmnfoaaDoorPNamB
import Derived.Test.YtmmionafcmnfoaaDoorHead
namespace Go.Proofs.YtmmionafcmnfoaaDoor.Print
open Go.RowKit Go.Proofs.YtmmionafcmnfoaaDoorW.PrintWords Go.Proofs.YtmmionafcmnfoaaDoorW.PrintLast Go.Proofs.YtmmionafcmnfoaaDoorW.PrintMore Go.Proofs.YtmmionafcmnfoaaDoor.Conv
attribute [local go_sem] max2_int min2_int max_two min_two max_three min_three max_four min_four
set_option linter.unusedVariables false
set_option linter.unusedSimpArgs false
def sacristylaw16_head.f : Option Bool := some true
theorem sacristylaw16_head.calls (r : Bool) (w : World) (h : sacristylaw16_head.f = some r) :
  Calls Tryd.prog 8 #[] w fun e w' => e = .returned (.bool r) ∧ Below w.heap.size w w' := by
 obtain rfl := Option.some.inj h
 exact Hello.head_calls w
mutual
def sacristylaw16_HelloHeads.j0 : Nat → ByteArray → List (S63) → Bool → Bool → List ByteArray → List ByteArray → Option (Bool)
 | 0, _, _, _, _, _, _ => none
 | k + 1, x0, x1, x7, x35, x253000, x253001 => if x35 = true then (some x7) else ((hello_Told.f k x0 x1).bind fun bt257 => (if bt257.2 = true then ((sacristyref09_Put.f k x1).bind fun bt261 => (sacristylaw16_HelloHeads.l0 k x0 x7 bt257.1 bt261.1 bt261.2 (⟨#[]⟩ : ByteArray) 1 x253000 x253001)) else (sacristylaw16_HelloHeads.j2 k x7 x253000 x253001)))
def sacristylaw16_HelloHeads.j2 : Nat → Bool → List ByteArray → List ByteArray → Option (Bool)
 | 0, _, _, _ => none
 | k + 1, x7, x253000, x253001 => (hello_Ask.f k x253000 x253001).bind fun bt266 => (if bt266.2 = true then (sacristylaw16_HelloHeads.l1 k x7 bt266.1 0 x253000 x253001) else (if x7 = true then (some ((bt266.1.length : Int) == 0)) else (some false)))
def sacristylaw16_HelloHeads.l1 : Nat → Bool → List (S49) → Int → List ByteArray → List ByteArray → Option (Bool)
 | 0, _, _, _, _, _ => none
 | k + 1, x7, x14, x16, x253000, x253001 => if x16 < (wrap64 ((x14.length : Int) - 2)) then (if x16 < (x253000.length : Int) then (if 0 ≤ x16 then (if x16 < (x14.length : Int) then (if (((rd_T49 x14 x16).f1).size : Int) = 70 then (if 0 ≤ 5 then (if 5 ≤ (((rd_T49 x14 x16).f1).size : Int) then (if (((rd_T49 x14 x16).f1).extract 0 5).toList = ([119, 97, 110, 116, 32] : List UInt8) then (sacristylaw16_HelloHeads.l1 k x7 x14 (wrap64 (x16 + 1)) x253000 x253001) else (some false)) else (none)) else (none)) else (some false)) else (none)) else (none)) else (if 0 ≤ x16 then (if x16 < (x14.length : Int) then (if (((rd_T49 x14 x16).f1).size : Int) = 70 then (if 0 ≤ 5 then (if 5 ≤ (((rd_T49 x14 x16).f1).size : Int) then (if (((rd_T49 x14 x16).f1).extract 0 5).toList = ([104, 97, 118, 101, 32] : List UInt8) then (sacristylaw16_HelloHeads.l1 k x7 x14 (wrap64 (x16 + 1)) x253000 x253001) else (some false)) else (none)) else (none)) else (some false)) else (none)) else (none))) else (if x7 = true then (if 0 ≤ (wrap64 ((x14.length : Int) - 2)) then (if (wrap64 ((x14.length : Int) - 2)) < (x14.length : Int) then (if ((rd_T49 x14 (wrap64 ((x14.length : Int) - 2))).f1).toList = ([100, 111, 110, 101, 10] : List UInt8) then (if 0 ≤ (wrap64 ((x14.length : Int) - 1)) then (if (wrap64 ((x14.length : Int) - 1)) < (x14.length : Int) then (some ((rd_T49 x14 (wrap64 ((x14.length : Int) - 1))).f0)) else (none)) else (none)) else (some false)) else (none)) else (none)) else (some false))
def sacristylaw16_HelloHeads.l0 : Nat → ByteArray → Bool → List (S49) → ByteArray → Bool → ByteArray → Int → List ByteArray → List ByteArray → Option (Bool)
 | 0, _, _, _, _, _, _, _, _, _ => none
 | k + 1, x0, x7, x8, x10, x11, x12, x13, x253000, x253001 => if x13 < (wrap64 ((x8.length : Int) - 1)) then (if 0 ≤ x13 then (if x13 < (x8.length : Int) then (if x12.size + ((rd_T49 x8 x13).f1).size ≤ 9223372036854775807 then (sacristylaw16_HelloHeads.l0 k x0 x7 x8 x10 x11 (x12 ++ ((rd_T49 x8 x13).f1)) (wrap64 (x13 + 1)) x253000 x253001) else (none)) else (none)) else (none)) else (if x11 = true then (if x12.toList = x10.toList then (if 0 < (x8.length : Int) then (if 14 + x0.size ≤ 9223372036854775807 then (if ((⟨#[115, 97, 99, 114, 105, 115, 116, 121, 32, 104, 101, 97, 100, 32]⟩ : ByteArray) ++ x0).size + 1 ≤ 9223372036854775807 then (if ((rd_T49 x8 0).f1).toList = (((⟨#[115, 97, 99, 114, 105, 115, 116, 121, 32, 104, 101, 97, 100, 32]⟩ : ByteArray) ++ x0) ++ (⟨#[10]⟩ : ByteArray)).toList then (if 0 ≤ (wrap64 ((x8.length : Int) - 1)) then (if (wrap64 ((x8.length : Int) - 1)) < (x8.length : Int) then (if ((rd_T49 x8 (wrap64 ((x8.length : Int) - 1))).f0 = true) then (sacristylaw16_HelloHeads.j2 k x7 x253000 x253001) else (some false)) else (none)) else (none)) else (some false)) else (none)) else (none)) else (none)) else (some false)) else (some false))
end
def sacristylaw16_HelloHeads.f (k : Nat) (a0 : ByteArray) (l1 : List (S63)) (l2_0 : List ByteArray) (l2_1 : List ByteArray) : Option (Bool) := (sacristylaw16_head.f).bind fun t253 => ((sacristylaw09_Great.f k l1).bind fun t254 => (if t254 = true then (sacristylaw16_HelloHeads.j0 k a0 l1 t253 true l2_0 l2_1) else ((sacristylaw05_GreatTexts.f k l2_0).bind fun t255 => (if t255 = true then (sacristylaw16_HelloHeads.j0 k a0 l1 t253 true l2_0 l2_1) else ((sacristylaw05_GreatTexts.f k l2_1).bind fun t256 => (if t256 = true then (sacristylaw16_HelloHeads.j0 k a0 l1 t253 true l2_0 l2_1) else (sacristylaw16_HelloHeads.j0 k a0 l1 t253 (decide ((a0.size : Int) > 1000)) l2_0 l2_1)))))))
set_option maxHeartbeats 8000000 in
set_option maxRecDepth 100000 in
theorem sacristylaw16_HelloHeads.calls (k : Nat) (a0 : ByteArray) (A1 : Option Addr) (c1 : Nat) (l1 : List (S63)) (A2_0 : Option Addr) (c2_0 : Nat) (l2_0 : List ByteArray) (A2_1 : Option Addr) (c2_1 : Nat) (l2_1 : List ByteArray) (r : Bool) (w : World) (hr1 : Kd.C k63 w A1 l1.length l1) (hc1 : l1.length ≤ c1) (hr2_0 : Kd.C Kd.string w A2_0 l2_0.length l2_0) (hc2_0 : l2_0.length ≤ c2_0) (hr2_1 : Kd.C Kd.string w A2_1 l2_1.length l2_1) (hc2_1 : l2_1.length ≤ c2_1) (h : sacristylaw16_HelloHeads.f k a0 l1 l2_0 l2_1 = some r) :
  Calls Tryd.prog 6 #[.string a0, .slice A1 l1.length c1, .agg #[.slice A2_0 l2_0.length c2_0, .slice A2_1 l2_1.length c2_1]] w fun e w' => e = .returned (.bool r) ∧ Below w.heap.size w w' := by
 have hu25 := Tryd.underlying25
 have HR1 := Aside0.mk hr1
 have HC1 := Aside0.mk hc1
 clear hr1 hc1
 have HR2_0 := Aside0.mk hr2_0
 have HC2_0 := Aside0.mk hc2_0
 clear hr2_0 hc2_0
 have HR2_1 := Aside0.mk hr2_1
 have HC2_1 := Aside0.mk hc2_1
 clear hr2_1 hc2_1
 have HB := Aside0.mk (Below.refl w.heap.size w)
 have H : ((sacristylaw16_head.f).bind fun t253 => ((sacristylaw09_Great.f k l1).bind fun t254 => (if t254 = true then (sacristylaw16_HelloHeads.j0 k a0 l1 t253 true l2_0 l2_1) else ((sacristylaw05_GreatTexts.f k l2_0).bind fun t255 => (if t255 = true then (sacristylaw16_HelloHeads.j0 k a0 l1 t253 true l2_0 l2_1) else ((sacristylaw05_GreatTexts.f k l2_1).bind fun t256 => (if t256 = true then (sacristylaw16_HelloHeads.j0 k a0 l1 t253 true l2_0 l2_1) else (sacristylaw16_HelloHeads.j0 k a0 l1 t253 (decide ((a0.size : Int) > 1000)) l2_0 l2_1)))))))) = some r := h
 clear h
 replace H := Option.bind_eq_some_iff.mp H
 obtain ⟨t253, A40, H⟩ := H
 replace H : ((sacristylaw09_Great.f k l1).bind fun t254 => (if t254 = true then (sacristylaw16_HelloHeads.j0 k a0 l1 t253 true l2_0 l2_1) else ((sacristylaw05_GreatTexts.f k l2_0).bind fun t255 => (if t255 = true then (sacristylaw16_HelloHeads.j0 k a0 l1 t253 true l2_0 l2_1) else ((sacristylaw05_GreatTexts.f k l2_1).bind fun t256 => (if t256 = true then (sacristylaw16_HelloHeads.j0 k a0 l1 t253 true l2_0 l2_1) else (sacristylaw16_HelloHeads.j0 k a0 l1 t253 (decide ((a0.size : Int) > 1000)) l2_0 l2_1))))))) = some r := H
 have A4 := Aside0.mk A40
 clear A40
 have HC5 := Aside0.mk H
 clear H
 go_enter Tryd.func6, Tryd.ntmps6
 go_upto_region 2 with (first | ((with_reducible refine gate_dst (N := 5) rfl ?_); (try (refine gate_guard (by rfl) ?_; dsimp only)); refine box_event ?hg (N := 5) ?hd (cs := #[.slice A2_0 l2_0.length c2_0, .slice A2_1 l2_1.length c2_1]) (t := 25) ?hr ?_; (case hd => rfl); (case hg => rfl); (case hr => first | (go_simp; done) | (go_simp; rfl)); intro gb252 hg w6 hbox hb; have n0_ := Aside0.mk (below_step (by repeat (first | (with_reducible first | exact HB.out | apply below_alloc | apply pw_below_drewN | apply below_drew1) | exact HB.out)) hb); have n1_ := Aside0.mk (hbox); have n2_ := Aside0.mk ((by rw [hg]; exact (below_size (by repeat (first | (with_reducible first | exact HB.out | apply below_alloc | apply pw_below_drewN | apply below_drew1) | exact HB.out))) : w.heap.size ≤ gb252)); have n3_ := Aside0.mk ((by rw [hg]; exact (below_size (by repeat (first | (with_reducible first | exact HB.out | apply below_alloc | apply pw_below_drewN | apply below_drew1) | exact HB.out))) : w.heap.size ≤ gb252)); clear HB; have HB := n0_; have BK252 := n1_; have GW252 := n2_; have GE252 := n3_; clear n0_ n1_ n2_ n3_; clear hb hbox hg) | ((with_reducible refine gate_callee (f := 8) rfl ?_); refine goesL_ (some 18) rfl rfl Tryd.func8 (by kernel_rfl) rfl #[] rfl (by (try simp only [List.map_toArray, List.map_cons, List.map_nil]); first | done | rfl | (simp only [List.length_drop, List.length_take]; rfl)) ?_; (with_reducible refine (sacristylaw16_head.calls  t253 _ A4.out).mono ?_); rintro e w7 ⟨rfl, hb⟩; refine ⟨_, rfl, ?_⟩; have n0_ := Aside0.mk (blk_below (g := gb252) (o := .cells #[.slice A2_0 l2_0.length c2_0, .slice A2_1 l2_1.length c2_1] 25 (0, 0)) (by (with_reducible repeat (first | refine blk_drewN ?_ _ | refine blk_drew ?_ | refine blk_alloc ?_ _)); exact BK252.out) hb); have n1_ := Aside0.mk (below_step (by repeat (first | (with_reducible first | exact HB.out | apply below_alloc | apply pw_below_drewN | apply below_drew1 | refine below_set ?_ GE252.out) | exact HB.out)) hb); clear BK252; clear HB; have BK252 := n0_; have HB := n1_; clear n0_ n1_; (try clear hb); (try clear hb2); (try clear hk); (try clear hi)))
 (try simp only [Act.put, zA, zB, zC])
 go_cut [35] (fun v35 wc => ∃ (kq : Nat) (x35_4 : Bool), v35 = .bool x35_4 ∧ Aside0 (sacristylaw16_HelloHeads.j0 kq a0 l1 t253 x35_4 l2_0 l2_1 = some r) ∧ Aside0 (kq ≤ k) ∧ Aside0 (wc.heap[gb252]? = some (.cells #[(.slice A2_0 l2_0.length c2_0), (.slice A2_1 l2_1.length c2_1)] 25 (0, 0))) ∧ Aside0 (Below w.heap.size w wc))
 case first =>
  have H := HC5.out
  clear HC5
  replace H := Option.bind_eq_some_iff.mp H
  obtain ⟨t254, A80, H⟩ := H
  replace H : (if t254 = true then (sacristylaw16_HelloHeads.j0 k a0 l1 t253 true l2_0 l2_1) else ((sacristylaw05_GreatTexts.f k l2_0).bind fun t255 => (if t255 = true then (sacristylaw16_HelloHeads.j0 k a0 l1 t253 true l2_0 l2_1) else ((sacristylaw05_GreatTexts.f k l2_1).bind fun t256 => (if t256 = true then (sacristylaw16_HelloHeads.j0 k a0 l1 t253 true l2_0 l2_1) else (sacristylaw16_HelloHeads.j0 k a0 l1 t253 (decide ((a0.size : Int) > 1000)) l2_0 l2_1)))))) = some r := H
  have A8 := Aside0.mk A80
  clear A80
  by_cases c9 : t254 = true
  ·subst c9
   have H1 : (sacristylaw16_HelloHeads.j0 k a0 l1 t253 true l2_0 l2_1) = some r := by rw [if_pos rfl] at H; exact H
   clear H
   have H := H1
   clear H1
   have H' := Aside0.mk H
   clear H
   go_wp2_with (first | ((with_reducible refine gate_callee (f := 9) rfl ?_); refine goesL_ (some 20) rfl rfl Tryd.func9 (by kernel_rfl) rfl #[.slice A1 l1.length c1] rfl (by (try simp only [List.map_toArray, List.map_cons, List.map_nil]); first | done | rfl | (simp only [List.length_drop, List.length_take]; rfl)) ?_; (with_reducible refine (sacristylaw09_Great.calls k _ _ l1 true _ ?side1 ?side2 A8.out).mono ?_); (case side1 => repeat (first | exact (Kd.C_below HR1.out HB.out) | (with_reducible refine Kd.C_alloc ?_ _) | (with_reducible refine Kd.C_drewN ?_ _) | (with_reducible refine Kd.C_drew ?_))); (case side2 => exact HC1.out); rintro e w10 ⟨rfl, hb⟩; refine ⟨_, rfl, ?_⟩; have n0_ := Aside0.mk (blk_below (g := gb252) (o := .cells #[.slice A2_0 l2_0.length c2_0, .slice A2_1 l2_1.length c2_1] 25 (0, 0)) (by (with_reducible repeat (first | refine blk_drewN ?_ _ | refine blk_drew ?_ | refine blk_alloc ?_ _)); exact BK252.out) hb); have n1_ := Aside0.mk (below_step (by repeat (first | (with_reducible first | exact HB.out | apply below_alloc | apply pw_below_drewN | apply below_drew1 | refine below_set ?_ GE252.out) | exact HB.out)) hb); clear BK252; clear HB; have BK252 := n0_; have HB := n1_; clear n0_ n1_; (try clear hb); (try clear hb2); (try clear hk); (try clear hi)))
   go_meet
   case rel => exact ⟨_, (true), (by first | rfl | (simp; done) | (simp [*]; done)), H', ⟨by first | omega | exact Nat.le_refl _⟩, ⟨by (with_reducible repeat (first | refine blk_drewN ?_ _ | refine blk_drew ?_ | refine blk_alloc ?_ _)); exact BK252.out⟩, ⟨by repeat (first | (with_reducible first | exact HB.out | apply below_alloc | apply pw_below_drewN | apply below_drew1 | refine below_set ?_ GE252.out) | exact HB.out)⟩⟩
  ·replace c9 := Bool.eq_false_iff.mpr c9
   subst c9
   have H1 : ((sacristylaw05_GreatTexts.f k l2_0).bind fun t255 => (if t255 = true then (sacristylaw16_HelloHeads.j0 k a0 l1 t253 true l2_0 l2_1) else ((sacristylaw05_GreatTexts.f k l2_1).bind fun t256 => (if t256 = true then (sacristylaw16_HelloHeads.j0 k a0 l1 t253 true l2_0 l2_1) else (sacristylaw16_HelloHeads.j0 k a0 l1 t253 (decide ((a0.size : Int) > 1000)) l2_0 l2_1))))) = some r := by rw [if_neg (show ¬ (false = true) by decide)] at H; exact H
   clear H
   have H := H1
   clear H1
   replace H := Option.bind_eq_some_iff.mp H
   obtain ⟨t255, A110, H⟩ := H
   replace H : (if t255 = true then (sacristylaw16_HelloHeads.j0 k a0 l1 t253 true l2_0 l2_1) else ((sacristylaw05_GreatTexts.f k l2_1).bind fun t256 => (if t256 = true then (sacristylaw16_HelloHeads.j0 k a0 l1 t253 true l2_0 l2_1) else (sacristylaw16_HelloHeads.j0 k a0 l1 t253 (decide ((a0.size : Int) > 1000)) l2_0 l2_1)))) = some r := H
   have A11 := Aside0.mk A110
   clear A110
   by_cases c12 : t255 = true
   ·subst c12
    have H1 : (sacristylaw16_HelloHeads.j0 k a0 l1 t253 true l2_0 l2_1) = some r := by rw [if_pos rfl] at H; exact H
    clear H
    have H := H1
    clear H1
    have H' := Aside0.mk H
    clear H
    go_wp2_with (first | ((with_reducible refine gate_callee (f := 9) rfl ?_); refine goesL_ (some 20) rfl rfl Tryd.func9 (by kernel_rfl) rfl #[.slice A1 l1.length c1] rfl (by (try simp only [List.map_toArray, List.map_cons, List.map_nil]); first | done | rfl | (simp only [List.length_drop, List.length_take]; rfl)) ?_; (with_reducible refine (sacristylaw09_Great.calls k _ _ l1 false _ ?side1 ?side2 A8.out).mono ?_); (case side1 => repeat (first | exact (Kd.C_below HR1.out HB.out) | (with_reducible refine Kd.C_alloc ?_ _) | (with_reducible refine Kd.C_drewN ?_ _) | (with_reducible refine Kd.C_drew ?_))); (case side2 => exact HC1.out); rintro e w13 ⟨rfl, hb⟩; refine ⟨_, rfl, ?_⟩; have n0_ := Aside0.mk (blk_below (g := gb252) (o := .cells #[.slice A2_0 l2_0.length c2_0, .slice A2_1 l2_1.length c2_1] 25 (0, 0)) (by (with_reducible repeat (first | refine blk_drewN ?_ _ | refine blk_drew ?_ | refine blk_alloc ?_ _)); exact BK252.out) hb); have n1_ := Aside0.mk (below_step (by repeat (first | (with_reducible first | exact HB.out | apply below_alloc | apply pw_below_drewN | apply below_drew1 | refine below_set ?_ GE252.out) | exact HB.out)) hb); clear BK252; clear HB; have BK252 := n0_; have HB := n1_; clear n0_ n1_; (try clear hb); (try clear hb2); (try clear hk); (try clear hi); have hcz14_0 : w13.cell? ⟨gb252, 0, none⟩ = some (.slice A2_0 l2_0.length c2_0) := (blk_cell BK252.out 0).trans rfl; have hcz14_1 : w13.cell? ⟨gb252, 1, none⟩ = some (.slice A2_1 l2_1.length c2_1) := (blk_cell BK252.out 1).trans rfl; have hfz14_0 := blk_frozen BK252.out 0; have hfz14_1 := blk_frozen BK252.out 1) | (go_at_call 10; (with_reducible refine (sacristylaw05_GreatTexts.calls k _ _ l2_0 true _ ?side1 ?side2 A11.out).mono ?_); (case side1 => repeat (first | exact (Kd.C_below HR2_0.out HB.out) | (with_reducible refine Kd.C_alloc ?_ _) | (with_reducible refine Kd.C_drewN ?_ _) | (with_reducible refine Kd.C_drew ?_))); (case side2 => exact HC2_0.out); rintro e w15 ⟨rfl, hb⟩; have n0_ := Aside0.mk (blk_below (g := gb252) (o := .cells #[.slice A2_0 l2_0.length c2_0, .slice A2_1 l2_1.length c2_1] 25 (0, 0)) (by (with_reducible repeat (first | refine blk_drewN ?_ _ | refine blk_drew ?_ | refine blk_alloc ?_ _)); exact BK252.out) hb); have n1_ := Aside0.mk (below_step (by repeat (first | (with_reducible first | exact HB.out | apply below_alloc | apply pw_below_drewN | apply below_drew1 | refine below_set ?_ GE252.out) | exact HB.out)) hb); clear BK252; clear HB; have BK252 := n0_; have HB := n1_; clear n0_ n1_; (try clear hb); (try clear hb2); (try clear hk); (try clear hi)))
    go_meet
    case rel => exact ⟨_, (true), (by first | rfl | (simp; done) | (simp [*]; done)), H', ⟨by first | omega | exact Nat.le_refl _⟩, ⟨by (with_reducible repeat (first | refine blk_drewN ?_ _ | refine blk_drew ?_ | refine blk_alloc ?_ _)); exact BK252.out⟩, ⟨by repeat (first | (with_reducible first | exact HB.out | apply below_alloc | apply pw_below_drewN | apply below_drew1 | refine below_set ?_ GE252.out) | exact HB.out)⟩⟩
   ·replace c12 := Bool.eq_false_iff.mpr c12
    subst c12
    have H1 : ((sacristylaw05_GreatTexts.f k l2_1).bind fun t256 => (if t256 = true then (sacristylaw16_HelloHeads.j0 k a0 l1 t253 true l2_0 l2_1) else (sacristylaw16_HelloHeads.j0 k a0 l1 t253 (decide ((a0.size : Int) > 1000)) l2_0 l2_1))) = some r := by rw [if_neg (show ¬ (false = true) by decide)] at H; exact H
    clear H
    have H := H1
    clear H1
    replace H := Option.bind_eq_some_iff.mp H
    obtain ⟨t256, A160, H⟩ := H
    replace H : (if t256 = true then (sacristylaw16_HelloHeads.j0 k a0 l1 t253 true l2_0 l2_1) else (sacristylaw16_HelloHeads.j0 k a0 l1 t253 (decide ((a0.size : Int) > 1000)) l2_0 l2_1)) = some r := H
    have A16 := Aside0.mk A160
    clear A160
    by_cases c17 : t256 = true
    ·subst c17
     have H1 : (sacristylaw16_HelloHeads.j0 k a0 l1 t253 true l2_0 l2_1) = some r := by rw [if_pos rfl] at H; exact H
     clear H
     have H := H1
     clear H1
     have H' := Aside0.mk H
     clear H
     go_wp2_with (first | ((with_reducible refine gate_callee (f := 9) rfl ?_); refine goesL_ (some 20) rfl rfl Tryd.func9 (by kernel_rfl) rfl #[.slice A1 l1.length c1] rfl (by (try simp only [List.map_toArray, List.map_cons, List.map_nil]); first | done | rfl | (simp only [List.length_drop, List.length_take]; rfl)) ?_; (with_reducible refine (sacristylaw09_Great.calls k _ _ l1 false _ ?side1 ?side2 A8.out).mono ?_); (case side1 => repeat (first | exact (Kd.C_below HR1.out HB.out) | (with_reducible refine Kd.C_alloc ?_ _) | (with_reducible refine Kd.C_drewN ?_ _) | (with_reducible refine Kd.C_drew ?_))); (case side2 => exact HC1.out); rintro e w18 ⟨rfl, hb⟩; refine ⟨_, rfl, ?_⟩; have n0_ := Aside0.mk (blk_below (g := gb252) (o := .cells #[.slice A2_0 l2_0.length c2_0, .slice A2_1 l2_1.length c2_1] 25 (0, 0)) (by (with_reducible repeat (first | refine blk_drewN ?_ _ | refine blk_drew ?_ | refine blk_alloc ?_ _)); exact BK252.out) hb); have n1_ := Aside0.mk (below_step (by repeat (first | (with_reducible first | exact HB.out | apply below_alloc | apply pw_below_drewN | apply below_drew1 | refine below_set ?_ GE252.out) | exact HB.out)) hb); clear BK252; clear HB; have BK252 := n0_; have HB := n1_; clear n0_ n1_; (try clear hb); (try clear hb2); (try clear hk); (try clear hi); have hcz19_0 : w18.cell? ⟨gb252, 0, none⟩ = some (.slice A2_0 l2_0.length c2_0) := (blk_cell BK252.out 0).trans rfl; have hcz19_1 : w18.cell? ⟨gb252, 1, none⟩ = some (.slice A2_1 l2_1.length c2_1) := (blk_cell BK252.out 1).trans rfl; have hfz19_0 := blk_frozen BK252.out 0; have hfz19_1 := blk_frozen BK252.out 1) | (go_at_call 10; (with_reducible refine (sacristylaw05_GreatTexts.calls k _ _ l2_0 false _ ?side1 ?side2 A11.out).mono ?_); (case side1 => repeat (first | exact (Kd.C_below HR2_0.out HB.out) | (with_reducible refine Kd.C_alloc ?_ _) | (with_reducible refine Kd.C_drewN ?_ _) | (with_reducible refine Kd.C_drew ?_))); (case side2 => exact HC2_0.out); rintro e w20 ⟨rfl, hb⟩; have n0_ := Aside0.mk (blk_below (g := gb252) (o := .cells #[.slice A2_0 l2_0.length c2_0, .slice A2_1 l2_1.length c2_1] 25 (0, 0)) (by (with_reducible repeat (first | refine blk_drewN ?_ _ | refine blk_drew ?_ | refine blk_alloc ?_ _)); exact BK252.out) hb); have n1_ := Aside0.mk (below_step (by repeat (first | (with_reducible first | exact HB.out | apply below_alloc | apply pw_below_drewN | apply below_drew1 | refine below_set ?_ GE252.out) | exact HB.out)) hb); clear BK252; clear HB; have BK252 := n0_; have HB := n1_; clear n0_ n1_; (try clear hb); (try clear hb2); (try clear hk); (try clear hi); have hcz21_0 : w20.cell? ⟨gb252, 0, none⟩ = some (.slice A2_0 l2_0.length c2_0) := (blk_cell BK252.out 0).trans rfl; have hcz21_1 : w20.cell? ⟨gb252, 1, none⟩ = some (.slice A2_1 l2_1.length c2_1) := (blk_cell BK252.out 1).trans rfl; have hfz21_0 := blk_frozen BK252.out 0; have hfz21_1 := blk_frozen BK252.out 1) | (go_at_call 10; (with_reducible refine (sacristylaw05_GreatTexts.calls k _ _ l2_1 true _ ?side1 ?side2 A16.out).mono ?_); (case side1 => repeat (first | exact (Kd.C_below HR2_1.out HB.out) | (with_reducible refine Kd.C_alloc ?_ _) | (with_reducible refine Kd.C_drewN ?_ _) | (with_reducible refine Kd.C_drew ?_))); (case side2 => exact HC2_1.out); rintro e w22 ⟨rfl, hb⟩; have n0_ := Aside0.mk (blk_below (g := gb252) (o := .cells #[.slice A2_0 l2_0.length c2_0, .slice A2_1 l2_1.length c2_1] 25 (0, 0)) (by (with_reducible repeat (first | refine blk_drewN ?_ _ | refine blk_drew ?_ | refine blk_alloc ?_ _)); exact BK252.out) hb); have n1_ := Aside0.mk (below_step (by repeat (first | (with_reducible first | exact HB.out | apply below_alloc | apply pw_below_drewN | apply below_drew1 | refine below_set ?_ GE252.out) | exact HB.out)) hb); clear BK252; clear HB; have BK252 := n0_; have HB := n1_; clear n0_ n1_; (try clear hb); (try clear hb2); (try clear hk); (try clear hi)))
     go_meet
     case rel => exact ⟨_, (true), (by first | rfl | (simp; done) | (simp [*]; done)), H', ⟨by first | omega | exact Nat.le_refl _⟩, ⟨by (with_reducible repeat (first | refine blk_drewN ?_ _ | refine blk_drew ?_ | refine blk_alloc ?_ _)); exact BK252.out⟩, ⟨by repeat (first | (with_reducible first | exact HB.out | apply below_alloc | apply pw_below_drewN | apply below_drew1 | refine below_set ?_ GE252.out) | exact HB.out)⟩⟩
    ·replace c17 := Bool.eq_false_iff.mpr c17
     subst c17
     have H1 : (sacristylaw16_HelloHeads.j0 k a0 l1 t253 (decide ((a0.size : Int) > 1000)) l2_0 l2_1) = some r := by rw [if_neg (show ¬ (false = true) by decide)] at H; exact H
     clear H
     have H := H1
     clear H1
     have H' := Aside0.mk H
     clear H
     go_wp2_with (first | ((with_reducible refine gate_callee (f := 9) rfl ?_); refine goesL_ (some 20) rfl rfl Tryd.func9 (by kernel_rfl) rfl #[.slice A1 l1.length c1] rfl (by (try simp only [List.map_toArray, List.map_cons, List.map_nil]); first | done | rfl | (simp only [List.length_drop, List.length_take]; rfl)) ?_; (with_reducible refine (sacristylaw09_Great.calls k _ _ l1 false _ ?side1 ?side2 A8.out).mono ?_); (case side1 => repeat (first | exact (Kd.C_below HR1.out HB.out) | (with_reducible refine Kd.C_alloc ?_ _) | (with_reducible refine Kd.C_drewN ?_ _) | (with_reducible refine Kd.C_drew ?_))); (case side2 => exact HC1.out); rintro e w23 ⟨rfl, hb⟩; refine ⟨_, rfl, ?_⟩; have n0_ := Aside0.mk (blk_below (g := gb252) (o := .cells #[.slice A2_0 l2_0.length c2_0, .slice A2_1 l2_1.length c2_1] 25 (0, 0)) (by (with_reducible repeat (first | refine blk_drewN ?_ _ | refine blk_drew ?_ | refine blk_alloc ?_ _)); exact BK252.out) hb); have n1_ := Aside0.mk (below_step (by repeat (first | (with_reducible first | exact HB.out | apply below_alloc | apply pw_below_drewN | apply below_drew1 | refine below_set ?_ GE252.out) | exact HB.out)) hb); clear BK252; clear HB; have BK252 := n0_; have HB := n1_; clear n0_ n1_; (try clear hb); (try clear hb2); (try clear hk); (try clear hi); have hcz24_0 : w23.cell? ⟨gb252, 0, none⟩ = some (.slice A2_0 l2_0.length c2_0) := (blk_cell BK252.out 0).trans rfl; have hcz24_1 : w23.cell? ⟨gb252, 1, none⟩ = some (.slice A2_1 l2_1.length c2_1) := (blk_cell BK252.out 1).trans rfl; have hfz24_0 := blk_frozen BK252.out 0; have hfz24_1 := blk_frozen BK252.out 1) | (go_at_call 10; (with_reducible refine (sacristylaw05_GreatTexts.calls k _ _ l2_0 false _ ?side1 ?side2 A11.out).mono ?_); (case side1 => repeat (first | exact (Kd.C_below HR2_0.out HB.out) | (with_reducible refine Kd.C_alloc ?_ _) | (with_reducible refine Kd.C_drewN ?_ _) | (with_reducible refine Kd.C_drew ?_))); (case side2 => exact HC2_0.out); rintro e w25 ⟨rfl, hb⟩; have n0_ := Aside0.mk (blk_below (g := gb252) (o := .cells #[.slice A2_0 l2_0.length c2_0, .slice A2_1 l2_1.length c2_1] 25 (0, 0)) (by (with_reducible repeat (first | refine blk_drewN ?_ _ | refine blk_drew ?_ | refine blk_alloc ?_ _)); exact BK252.out) hb); have n1_ := Aside0.mk (below_step (by repeat (first | (with_reducible first | exact HB.out | apply below_alloc | apply pw_below_drewN | apply below_drew1 | refine below_set ?_ GE252.out) | exact HB.out)) hb); clear BK252; clear HB; have BK252 := n0_; have HB := n1_; clear n0_ n1_; (try clear hb); (try clear hb2); (try clear hk); (try clear hi); have hcz26_0 : w25.cell? ⟨gb252, 0, none⟩ = some (.slice A2_0 l2_0.length c2_0) := (blk_cell BK252.out 0).trans rfl; have hcz26_1 : w25.cell? ⟨gb252, 1, none⟩ = some (.slice A2_1 l2_1.length c2_1) := (blk_cell BK252.out 1).trans rfl; have hfz26_0 := blk_frozen BK252.out 0; have hfz26_1 := blk_frozen BK252.out 1) | (go_at_call 10; (with_reducible refine (sacristylaw05_GreatTexts.calls k _ _ l2_1 false _ ?side1 ?side2 A16.out).mono ?_); (case side1 => repeat (first | exact (Kd.C_below HR2_1.out HB.out) | (with_reducible refine Kd.C_alloc ?_ _) | (with_reducible refine Kd.C_drewN ?_ _) | (with_reducible refine Kd.C_drew ?_))); (case side2 => exact HC2_1.out); rintro e w27 ⟨rfl, hb⟩; have n0_ := Aside0.mk (blk_below (g := gb252) (o := .cells #[.slice A2_0 l2_0.length c2_0, .slice A2_1 l2_1.length c2_1] 25 (0, 0)) (by (with_reducible repeat (first | refine blk_drewN ?_ _ | refine blk_drew ?_ | refine blk_alloc ?_ _)); exact BK252.out) hb); have n1_ := Aside0.mk (below_step (by repeat (first | (with_reducible first | exact HB.out | apply below_alloc | apply pw_below_drewN | apply below_drew1 | refine below_set ?_ GE252.out) | exact HB.out)) hb); clear BK252; clear HB; have BK252 := n0_; have HB := n1_; clear n0_ n1_; (try clear hb); (try clear hb2); (try clear hk); (try clear hi)))
     go_meet
     case rel => exact ⟨_, (decide ((a0.size : Int) > 1000)), (by first | rfl | (simp; done) | (simp [*]; done)), H', ⟨by first | omega | exact Nat.le_refl _⟩, ⟨by (with_reducible repeat (first | refine blk_drewN ?_ _ | refine blk_drew ?_ | refine blk_alloc ?_ _)); exact BK252.out⟩, ⟨by repeat (first | (with_reducible first | exact HB.out | apply below_alloc | apply pw_below_drewN | apply below_drew1 | refine below_set ?_ GE252.out) | exact HB.out)⟩⟩
 case rest =>
  clear HC5
  try clear c1
  try clear c2
  try clear p2
  try clear c6
  try clear c8
  try clear c9
  try clear c12
  try clear c17
  try clear hcz14_0
  try clear hcz14_1
  try clear hcz19_0
  try clear hcz19_1
  try clear hcz21_0
  try clear hcz21_1
  try clear hcz24_0
  try clear hcz24_1
  try clear hcz26_0
  try clear hcz26_1
  try clear hfz14_0
  try clear hfz14_1
  try clear hfz19_0
  try clear hfz19_1
  try clear hfz21_0
  try clear hfz21_1
  try clear hfz24_0
  try clear hfz24_1
  try clear hfz26_0
  try clear hfz26_1
  obtain ⟨kq, x35_4, rfl, HA, HJ4, BK252, HB⟩ := hcut
  cases kq with
  | zero => exact absurd HA.out (by simp [sacristylaw16_HelloHeads.j0])
  | succ kj4 =>
   have H := HA.out
   clear HA
   simp only [sacristylaw16_HelloHeads.j0] at H
   by_cases c28 : x35_4 = true
   ·subst c28
    have H1 : (some t253) = some r := by rw [if_pos rfl] at H; exact H
    clear H
    have H := H1
    clear H1
    obtain rfl := Option.some.inj H
    go_wp2
    go_ret
    exact ⟨by first | rfl | (simp [errW_none, errW_some] <;> rfl) | (simp [*, errW_none, errW_some] <;> rfl), by repeat (first | (with_reducible first | exact HB.out | apply below_alloc | apply pw_below_drewN | apply below_drew1 | refine below_set ?_ GE252.out) | exact HB.out)⟩
   ·replace c28 := Bool.eq_false_iff.mpr c28
    subst c28
    have H1 : ((hello_Told.f kj4 a0 l1).bind fun bt257 => (if bt257.2 = true then ((sacristyref09_Put.f kj4 l1).bind fun bt261 => (sacristylaw16_HelloHeads.l0 kj4 a0 t253 bt257.1 bt261.1 bt261.2 (⟨#[]⟩ : ByteArray) 1 l2_0 l2_1)) else (sacristylaw16_HelloHeads.j2 kj4 t253 l2_0 l2_1))) = some r := by rw [if_neg (show ¬ (false = true) by decide)] at H; exact H
    clear H
    have H := H1
    clear H1
    replace H := Option.bind_eq_some_iff.mp H
    obtain ⟨⟨t257, t258⟩, A290, H⟩ := H
    replace H : (if t258 = true then ((sacristyref09_Put.f kj4 l1).bind fun bt261 => (sacristylaw16_HelloHeads.l0 kj4 a0 t253 t257 bt261.1 bt261.2 (⟨#[]⟩ : ByteArray) 1 l2_0 l2_1)) else (sacristylaw16_HelloHeads.j2 kj4 t253 l2_0 l2_1)) = some r := H
    have A29 := Aside0.mk A290
    clear A290
    have HC30 := Aside0.mk H
    clear H
    go_upto_if 43 with (first | ((with_reducible refine gate_callee (f := 13) rfl ?_); refine goesL_ (some 40) rfl rfl Tryd.func13 (by kernel_rfl) rfl #[.string a0, .slice A1 l1.length c1] rfl (by (try simp only [List.map_toArray, List.map_cons, List.map_nil]); first | done | rfl | (simp only [List.length_drop, List.length_take]; rfl)) ?_; (with_reducible refine (hello_Told.calls kj4 a0 _ _ l1 t257 t258 _ ?side1 ?side2 A29.out).mono ?_); (case side1 => repeat (first | exact (Kd.C_below HR1.out HB.out) | (with_reducible refine Kd.C_alloc ?_ _) | (with_reducible refine Kd.C_drewN ?_ _) | (with_reducible refine Kd.C_drew ?_))); (case side2 => exact HC1.out); rintro e w31 ⟨v259, rfl, ho0, hb⟩; refine ⟨_, rfl, ?_⟩; have n0_ := Aside0.mk (Kd.R_lower ho0 (below_size (by repeat (first | (with_reducible first | exact HB.out | apply below_alloc | apply pw_below_drewN | apply below_drew1 | refine below_set ?_ GE252.out) | exact HB.out)))); have n1_ := Aside0.mk (blk_below (g := gb252) (o := .cells #[.slice A2_0 l2_0.length c2_0, .slice A2_1 l2_1.length c2_1] 25 (0, 0)) (by (with_reducible repeat (first | refine blk_drewN ?_ _ | refine blk_drew ?_ | refine blk_alloc ?_ _)); exact BK252.out) hb); have n2_ := Aside0.mk (below_step (by repeat (first | (with_reducible first | exact HB.out | apply below_alloc | apply pw_below_drewN | apply below_drew1 | refine below_set ?_ GE252.out) | exact HB.out)) hb); clear BK252; clear HB; have HO260 := n0_; have BK252 := n1_; have HB := n2_; clear n0_ n1_ n2_; (try clear hb); (try clear hb2); (try clear hk); (try clear hi); (try clear ho0)))
    (try simp only [Act.put, zA, zB, zC])
    go_cut [] (fun wc => ∃ (kq : Nat), Aside0 (sacristylaw16_HelloHeads.j2 kq t253 l2_0 l2_1 = some r) ∧ Aside0 (kq ≤ kj4) ∧ Aside0 (wc.heap[gb252]? = some (.cells #[(.slice A2_0 l2_0.length c2_0), (.slice A2_1 l2_1.length c2_1)] 25 (0, 0))) ∧ Aside0 (Below w.heap.size w wc))
    case first =>
     have H := HC30.out
     clear HC30
     by_cases c32 : t258 = true
     ·subst c32
      have H1 : ((sacristyref09_Put.f kj4 l1).bind fun bt261 => (sacristylaw16_HelloHeads.l0 kj4 a0 t253 t257 bt261.1 bt261.2 (⟨#[]⟩ : ByteArray) 1 l2_0 l2_1)) = some r := by rw [if_pos rfl] at H; exact H
      clear H
      have H := H1
      clear H1
      replace H := Option.bind_eq_some_iff.mp H
      obtain ⟨⟨t261, t262⟩, A330, H⟩ := H
      replace H : (sacristylaw16_HelloHeads.l0 kj4 a0 t253 t257 t261 t262 (⟨#[]⟩ : ByteArray) 1 l2_0 l2_1) = some r := H
      have A33 := Aside0.mk A330
      clear A330
      have H' := Aside0.mk H
      clear H
      go_wp2_with (first | ((with_reducible refine gate_callee (f := 29) rfl ?_); refine goesL_ (some 46) rfl rfl Tryd.func29 (by kernel_rfl) rfl #[.slice A1 l1.length c1] rfl (by (try simp only [List.map_toArray, List.map_cons, List.map_nil]); first | done | rfl | (simp only [List.length_drop, List.length_take]; rfl)) ?_; (with_reducible refine (sacristyref09_Put.calls kj4 _ _ l1 t261 t262 _ ?side1 ?side2 A33.out).mono ?_); (case side1 => repeat (first | exact (Kd.C_below HR1.out HB.out) | (with_reducible refine Kd.C_alloc ?_ _) | (with_reducible refine Kd.C_drewN ?_ _) | (with_reducible refine Kd.C_drew ?_))); (case side2 => exact HC1.out); rintro e w34 ⟨rfl, hb⟩; refine ⟨_, rfl, ?_⟩; have n0_ := Aside0.mk (Kd.R_below (by (with_reducible repeat (first | apply Kd.R_alloc | apply Kd.R_drewN | apply Kd.R_drew)); exact HO260.out) hb); have n1_ := Aside0.mk (blk_below (g := gb252) (o := .cells #[.slice A2_0 l2_0.length c2_0, .slice A2_1 l2_1.length c2_1] 25 (0, 0)) (by (with_reducible repeat (first | refine blk_drewN ?_ _ | refine blk_drew ?_ | refine blk_alloc ?_ _)); exact BK252.out) hb); have n2_ := Aside0.mk (below_step (by repeat (first | (with_reducible first | exact HB.out | apply below_alloc | apply pw_below_drewN | apply below_drew1 | refine below_set ?_ GE252.out) | exact HB.out)) hb); clear HO260; clear BK252; clear HB; have HO260 := n0_; have BK252 := n1_; have HB := n2_; clear n0_ n1_ n2_; (try clear hb); (try clear hb2); (try clear hk); (try clear hi)))
      go_loopg [12, 13] kj4 (fun kq v12 v13 w' => ∃ (x12_2 : ByteArray) (x13_2 : Int), v12 = .string x12_2 ∧ v13 = .int .i64 x13_2 ∧ Aside0 (sacristylaw16_HelloHeads.l0 kq a0 t253 t257 t261 t262 x12_2 x13_2 l2_0 l2_1 = some r) ∧ Aside0 (kq ≤ kj4) ∧ Aside0 (Kd.R k49 49 w' w.heap.size (fun _ => True) v259 t257) ∧ Aside0 (w'.heap[gb252]? = some (.cells #[(.slice A2_0 l2_0.length c2_0), (.slice A2_1 l2_1.length c2_1)] 25 (0, 0))) ∧ Aside0 (Below w.heap.size w w'))
      case atStart => exact ⟨((⟨#[]⟩ : ByteArray)), (1), (by first | rfl | (simp; done) | (simp [*]; done)), (by first | rfl | (simp; done) | (simp [*]; done)), H', ⟨Nat.le_refl _⟩, ⟨by (with_reducible repeat (first | apply Kd.R_alloc | apply Kd.R_drewN | apply Kd.R_drew)); exact HO260.out⟩, ⟨by (with_reducible repeat (first | refine blk_drewN ?_ _ | refine blk_drew ?_ | refine blk_alloc ?_ _)); exact BK252.out⟩, ⟨by repeat (first | (with_reducible first | exact HB.out | apply below_alloc | apply pw_below_drewN | apply below_drew1 | refine below_set ?_ GE252.out) | exact HB.out)⟩⟩
      case round =>
       clear H'
       try clear c1
       try clear c2
       try clear p2
       try clear c3
       try clear c6
       try clear c8
       try clear c9
       try clear c12
       try clear c13
       try clear c17
       try clear c28
       try clear c29
       try clear c32
       try clear hcz14_0
       try clear hcz14_1
       try clear hcz19_0
       try clear hcz19_1
       try clear hcz21_0
       try clear hcz21_1
       try clear hcz24_0
       try clear hcz24_1
       try clear hcz26_0
       try clear hcz26_1
       try clear hfz14_0
       try clear hfz14_1
       try clear hfz19_0
       try clear hfz19_1
       try clear hfz21_0
       try clear hfz21_1
       try clear hfz24_0
       try clear hfz24_1
       try clear hfz26_0
       try clear hfz26_1
       try clear p2
       obtain ⟨x12_2, x13_2, rfl, rfl, HA, HK2, HO_8, BK252, HB⟩ := hrel
       cases gk with
       | zero => exact absurd HA.out (by simp [sacristylaw16_HelloHeads.l0])
       | succ k2 =>
        have H := HA.out
        clear HA
        simp only [sacristylaw16_HelloHeads.l0] at H
        by_cases c35 : x13_2 < (wrap64 ((t257.length : Int) - 1))
        ·rw [if_pos c35] at H
         have c35b0 : decide (x13_2 < (wrap64 ((t257.length : Int) - 1))) = true := decide_eq_true c35
         clear c35
         (first | rw [c35b0] | (simp only [i64_w, i32_w]; rw [c35b0]) | skip)
         by_cases c36 : 0 ≤ x13_2
         ·rw [if_pos c36] at H
          have c36b0 : decide (0 ≤ x13_2) = true := decide_eq_true c36
          clear c36
          by_cases c37 : x13_2 < (t257.length : Int)
          ·rw [if_pos c37] at H
           have c37b0 : decide (x13_2 < (t257.length : Int)) = true := decide_eq_true c37
           clear c37
           by_cases c38 : x12_2.size + ((rd_T49 t257 x13_2).f1).size ≤ 9223372036854775807
           ·rw [if_pos c38] at H
            have c38b0 := eq_true c38
            have c38b1 : decide (x12_2.size + ((rd_T49 t257 x13_2).f1).size ≤ 9223372036854775807) = true := decide_eq_true c38
            try have c38b2 : (9223372036854775807 < x12_2.size + ((rd_T49 t257 x13_2).f1).size) = False := eq_false (Nat.not_lt.2 c38)
            have H' := Aside0.mk H
            clear H
            obtain ⟨Ao39, co39, eo39⟩ := Kd.R_slice HO_8.out
            subst eo39
            have p263 : 0 ≤ (x13_2 : Int) := of_decide_eq_true (by first | (with_reducible assumption) | assumption)
            have q263 : x13_2 < (t257.length : Int) := of_decide_eq_true (by first | (with_reducible assumption) | assumption)
            obtain ⟨ad263, e263, hx263_0, hx263_1⟩ := at_T49 (Kd.R_reads' HO_8.out).2.2 x13_2 p263 q263
            cases e263
            replace p263 := eq_true p263
            replace q263 := eq_true q263
            go_wp2
            go_roundg k2
            case measure => have := HJ4.out; have := HK2.out; omega
            case rel => exact ⟨(x12_2 ++ ((rd_T49 t257 x13_2).f1)), (wrap64 (x13_2 + 1)), (by first | rfl | (simp; done) | (simp [*]; done)), (by first | rfl | (simp; done) | (simp [*]; done)), H', ⟨by have := HJ4.out; have := HK2.out; omega⟩, ⟨by (with_reducible repeat (first | apply Kd.R_alloc | apply Kd.R_drewN | apply Kd.R_drew)); exact HO_8.out⟩, ⟨by (with_reducible repeat (first | refine blk_drewN ?_ _ | refine blk_drew ?_ | refine blk_alloc ?_ _)); exact BK252.out⟩, ⟨by repeat (first | (with_reducible first | exact HB.out | apply below_alloc | apply pw_below_drewN | apply below_drew1 | refine below_set ?_ GE252.out) | exact HB.out)⟩⟩
           ·rw [if_neg c38] at H
            exact absurd H (by simp)
          ·rw [if_neg c37] at H
           exact absurd H (by simp)
         ·rw [if_neg c36] at H
          exact absurd H (by simp)
        ·rw [if_neg c35] at H
         have c35b0 : decide (x13_2 < (wrap64 ((t257.length : Int) - 1))) = false := decide_eq_false c35
         clear c35
         (first | rw [c35b0] | (simp only [i64_w, i32_w]; rw [c35b0]) | skip)
         by_cases c40 : t262 = true
         ·subst c40
          have H1 : (if x12_2.toList = t261.toList then (if 0 < (t257.length : Int) then (if 14 + a0.size ≤ 9223372036854775807 then (if ((⟨#[115, 97, 99, 114, 105, 115, 116, 121, 32, 104, 101, 97, 100, 32]⟩ : ByteArray) ++ a0).size + 1 ≤ 9223372036854775807 then (if ((rd_T49 t257 0).f1).toList = (((⟨#[115, 97, 99, 114, 105, 115, 116, 121, 32, 104, 101, 97, 100, 32]⟩ : ByteArray) ++ a0) ++ (⟨#[10]⟩ : ByteArray)).toList then (if 0 ≤ (wrap64 ((t257.length : Int) - 1)) then (if (wrap64 ((t257.length : Int) - 1)) < (t257.length : Int) then (if ((rd_T49 t257 (wrap64 ((t257.length : Int) - 1))).f0 = true) then (sacristylaw16_HelloHeads.j2 k2 t253 l2_0 l2_1) else (some false)) else (none)) else (none)) else (some false)) else (none)) else (none)) else (none)) else (some false)) = some r := by rw [if_pos rfl] at H; exact H
          clear H
          have H := H1
          clear H1
          by_cases c41 : x12_2.toList = t261.toList
          ·rw [if_pos c41] at H
           have c41b0 : (x12_2.toList == t261.toList) = true := beq_iff_eq.mpr c41
           have c41b1 : (x12_2.toList != t261.toList) = false := bne_eq_false_iff_eq.mpr c41
           clear c41
           by_cases c42 : 0 < (t257.length : Int)
           ·rw [if_pos c42] at H
            have c42b0 : decide (0 < (t257.length : Int)) = true := decide_eq_true c42
            have c42b1 : decide (0 < t257.length) = true := decide_eq_true (by omega)
            clear c42
            by_cases c43 : 14 + a0.size ≤ 9223372036854775807
            ·rw [if_pos c43] at H
             have c43b0 := eq_true c43
             have c43b1 : decide (14 + a0.size ≤ 9223372036854775807) = true := decide_eq_true c43
             try have c43b2 : (9223372036854775807 < 14 + a0.size) = False := eq_false (Nat.not_lt.2 c43)
             by_cases c44 : ((⟨#[115, 97, 99, 114, 105, 115, 116, 121, 32, 104, 101, 97, 100, 32]⟩ : ByteArray) ++ a0).size + 1 ≤ 9223372036854775807
             ·rw [if_pos c44] at H
              have c44b0 := eq_true c44
              have c44b1 : decide (((⟨#[115, 97, 99, 114, 105, 115, 116, 121, 32, 104, 101, 97, 100, 32]⟩ : ByteArray) ++ a0).size + 1 ≤ 9223372036854775807) = true := decide_eq_true c44
              try have c44b2 : (9223372036854775807 < ((⟨#[115, 97, 99, 114, 105, 115, 116, 121, 32, 104, 101, 97, 100, 32]⟩ : ByteArray) ++ a0).size + 1) = False := eq_false (Nat.not_lt.2 c44)
              try have c44b3 : (9223372036854775807 < 14 + a0.size + 1) = False := eq_false (Nat.not_lt.2 (by have e_ := c44; simp only [ByteArray.size_append] at e_; exact e_))
              by_cases c45 : ((rd_T49 t257 0).f1).toList = (((⟨#[115, 97, 99, 114, 105, 115, 116, 121, 32, 104, 101, 97, 100, 32]⟩ : ByteArray) ++ a0) ++ (⟨#[10]⟩ : ByteArray)).toList
              ·rw [if_pos c45] at H
               have c45b0 : (((rd_T49 t257 0).f1).toList == (((⟨#[115, 97, 99, 114, 105, 115, 116, 121, 32, 104, 101, 97, 100, 32]⟩ : ByteArray) ++ a0) ++ (⟨#[10]⟩ : ByteArray)).toList) = true := beq_iff_eq.mpr c45
               have c45b1 : (((rd_T49 t257 0).f1).toList != (((⟨#[115, 97, 99, 114, 105, 115, 116, 121, 32, 104, 101, 97, 100, 32]⟩ : ByteArray) ++ a0) ++ (⟨#[10]⟩ : ByteArray)).toList) = false := bne_eq_false_iff_eq.mpr c45
               clear c45
               obtain ⟨ji46, hji46⟩ : ∃ j_ : Int, (wrap64 ((t257.length : Int) - 1)) = j_ := ⟨_, rfl⟩
               replace H : (if 0 ≤ (ji46) then (if (ji46) < (t257.length : Int) then (if ((rd_T49 t257 (ji46)).f0 = true) then (sacristylaw16_HelloHeads.j2 k2 t253 l2_0 l2_1) else (some false)) else (none)) else (none)) = some r := by first | (rw [hji46] at H; exact H) | (simp only [hji46] at H ⊢; exact H)
               (try rw [hji46] at c35b0)
               have hji46w : (IntKind.i64.wrap ((t257.length : Int) - 1)) = ji46 := (i64_w _).trans hji46
               by_cases c47 : 0 ≤ (ji46)
               ·rw [if_pos c47] at H
                have c47b0 : decide (0 ≤ (ji46)) = true := decide_eq_true c47
                clear c47
                by_cases c48 : (ji46) < (t257.length : Int)
                ·rw [if_pos c48] at H
                 have c48b0 : decide ((ji46) < (t257.length : Int)) = true := decide_eq_true c48
                 clear c48
                 obtain ⟨bq49, hbq49⟩ : ∃ b_ : Bool, b_ = ((rd_T49 t257 (ji46)).f0) := ⟨_, rfl⟩
                 replace H : (if (bq49 = true) then (sacristylaw16_HelloHeads.j2 k2 t253 l2_0 l2_1) else (some false)) = some r := by rw [← hbq49] at H; exact H
                 have Nbq49 := Aside0.mk hbq49
                 clear hbq49
                 by_cases c50 : (bq49 = true)
                 ·subst c50
                  have H1 : (sacristylaw16_HelloHeads.j2 k2 t253 l2_0 l2_1) = some r := by rw [if_pos rfl] at H; exact H
                  clear H
                  have H := H1
                  clear H1
                  have H' := Aside0.mk H
                  clear H
                  obtain ⟨Ao51, co51, eo51⟩ := Kd.R_slice HO_8.out
                  subst eo51
                  have p264 : 0 ≤ (0 : Int) := (by omega)
                  have q264 : 0 < (t257.length : Int) := of_decide_eq_true (by first | (with_reducible assumption) | assumption)
                  obtain ⟨ad264, e264, hx264_0, hx264_1⟩ := at_T49 (Kd.R_reads' HO_8.out).2.2 0 p264 q264
                  (try rw [← Nbq49.out] at hx264_0)
                  cases e264
                  have qi264 : (0 < t257.length) = True := eq_true (by omega)
                  (try rw [show ((0 : Int)).toNat = 0 from rfl] at hx264_0)
                  (try rw [show 0 * 2 = 0 from rfl] at hx264_0)
                  (try rw [Addr.add_zero'] at hx264_0)
                  (try rw [show ((0 : Int)).toNat = 0 from rfl] at hx264_1)
                  (try rw [show 0 * 2 = 0 from rfl] at hx264_1)
                  (try rw [Addr.add_zero'] at hx264_1)
                  replace p264 := eq_true p264
                  replace q264 := eq_true q264
                  have p265 : 0 ≤ ((ji46) : Int) := of_decide_eq_true (by first | (with_reducible assumption) | assumption)
                  have q265 : (ji46) < (t257.length : Int) := of_decide_eq_true (by first | (with_reducible assumption) | assumption)
                  obtain ⟨ad265, e265, hx265_0, hx265_1⟩ := at_T49 (Kd.R_reads' HO_8.out).2.2 (ji46) p265 q265
                  (try rw [← Nbq49.out] at hx265_0)
                  obtain rfl : ad264 = ad265 := (by injection e265)
                  replace p265 := eq_true p265
                  replace q265 := eq_true q265
                  go_wp2
                  go_meet
                  case rel => exact ⟨_, H', ⟨by have := HJ4.out; have := HK2.out; first | omega | exact Nat.le_refl _⟩, ⟨by (with_reducible repeat (first | refine blk_drewN ?_ _ | refine blk_drew ?_ | refine blk_alloc ?_ _)); exact BK252.out⟩, ⟨by repeat (first | (with_reducible first | exact HB.out | apply below_alloc | apply pw_below_drewN | apply below_drew1 | refine below_set ?_ GE252.out) | exact HB.out)⟩⟩
                 ·replace c50 := Bool.eq_false_iff.mpr c50
                  subst c50
                  have H1 : (some false) = some r := by rw [if_neg (show ¬ (false = true) by decide)] at H; exact H
                  clear H
                  have H := H1
                  clear H1
                  obtain rfl := Option.some.inj H
                  obtain ⟨Ao52, co52, eo52⟩ := Kd.R_slice HO_8.out
                  subst eo52
                  have p264 : 0 ≤ (0 : Int) := (by omega)
                  have q264 : 0 < (t257.length : Int) := of_decide_eq_true (by first | (with_reducible assumption) | assumption)
                  obtain ⟨ad264, e264, hx264_0, hx264_1⟩ := at_T49 (Kd.R_reads' HO_8.out).2.2 0 p264 q264
                  (try rw [← Nbq49.out] at hx264_0)
                  cases e264
                  have qi264 : (0 < t257.length) = True := eq_true (by omega)
                  (try rw [show ((0 : Int)).toNat = 0 from rfl] at hx264_0)
                  (try rw [show 0 * 2 = 0 from rfl] at hx264_0)
                  (try rw [Addr.add_zero'] at hx264_0)
                  (try rw [show ((0 : Int)).toNat = 0 from rfl] at hx264_1)
                  (try rw [show 0 * 2 = 0 from rfl] at hx264_1)
                  (try rw [Addr.add_zero'] at hx264_1)
                  replace p264 := eq_true p264
                  replace q264 := eq_true q264
                  have p265 : 0 ≤ ((ji46) : Int) := of_decide_eq_true (by first | (with_reducible assumption) | assumption)
                  have q265 : (ji46) < (t257.length : Int) := of_decide_eq_true (by first | (with_reducible assumption) | assumption)
                  obtain ⟨ad265, e265, hx265_0, hx265_1⟩ := at_T49 (Kd.R_reads' HO_8.out).2.2 (ji46) p265 q265
                  (try rw [← Nbq49.out] at hx265_0)
                  obtain rfl : ad264 = ad265 := (by injection e265)
                  replace p265 := eq_true p265
                  replace q265 := eq_true q265
                  go_wp2
                  go_ret
                  exact ⟨by first | rfl | (simp [errW_none, errW_some] <;> rfl) | (simp only [← hji46]; first | rfl | (simp [errW_none, errW_some] <;> rfl)) | (simp [*, errW_none, errW_some] <;> rfl), by repeat (first | (with_reducible first | exact HB.out | apply below_alloc | apply pw_below_drewN | apply below_drew1 | refine below_set ?_ GE252.out) | exact HB.out)⟩
                ·rw [if_neg c48] at H
                 exact absurd H (by simp)
               ·rw [if_neg c47] at H
                exact absurd H (by simp)
              ·rw [if_neg c45] at H
               have c45b0 : (((rd_T49 t257 0).f1).toList == (((⟨#[115, 97, 99, 114, 105, 115, 116, 121, 32, 104, 101, 97, 100, 32]⟩ : ByteArray) ++ a0) ++ (⟨#[10]⟩ : ByteArray)).toList) = false := beq_eq_false_iff_ne.mpr c45
               have c45b1 : (((rd_T49 t257 0).f1).toList != (((⟨#[115, 97, 99, 114, 105, 115, 116, 121, 32, 104, 101, 97, 100, 32]⟩ : ByteArray) ++ a0) ++ (⟨#[10]⟩ : ByteArray)).toList) = true := bne_iff_ne.mpr c45
               obtain rfl := Option.some.inj H
               obtain ⟨Ao53, co53, eo53⟩ := Kd.R_slice HO_8.out
               subst eo53
               have p264 : 0 ≤ (0 : Int) := (by omega)
               have q264 : 0 < (t257.length : Int) := of_decide_eq_true (by first | (with_reducible assumption) | assumption)
               obtain ⟨ad264, e264, hx264_0, hx264_1⟩ := at_T49 (Kd.R_reads' HO_8.out).2.2 0 p264 q264
               cases e264
               have qi264 : (0 < t257.length) = True := eq_true (by omega)
               (try rw [show ((0 : Int)).toNat = 0 from rfl] at hx264_0)
               (try rw [show 0 * 2 = 0 from rfl] at hx264_0)
               (try rw [Addr.add_zero'] at hx264_0)
               (try rw [show ((0 : Int)).toNat = 0 from rfl] at hx264_1)
               (try rw [show 0 * 2 = 0 from rfl] at hx264_1)
               (try rw [Addr.add_zero'] at hx264_1)
               replace p264 := eq_true p264
               replace q264 := eq_true q264
               go_wp2
               go_ret
               exact ⟨by first | rfl | (simp [errW_none, errW_some] <;> rfl) | (simp [*, errW_none, errW_some] <;> rfl), by repeat (first | (with_reducible first | exact HB.out | apply below_alloc | apply pw_below_drewN | apply below_drew1 | refine below_set ?_ GE252.out) | exact HB.out)⟩
             ·rw [if_neg c44] at H
              exact absurd H (by simp)
            ·rw [if_neg c43] at H
             exact absurd H (by simp)
           ·rw [if_neg c42] at H
            exact absurd H (by simp)
          ·rw [if_neg c41] at H
           have c41b0 : (x12_2.toList == t261.toList) = false := beq_eq_false_iff_ne.mpr c41
           have c41b1 : (x12_2.toList != t261.toList) = true := bne_iff_ne.mpr c41
           obtain rfl := Option.some.inj H
           obtain ⟨Ao54, co54, eo54⟩ := Kd.R_slice HO_8.out
           subst eo54
           go_wp2
           go_ret
           exact ⟨by first | rfl | (simp [errW_none, errW_some] <;> rfl) | (simp [*, errW_none, errW_some] <;> rfl), by repeat (first | (with_reducible first | exact HB.out | apply below_alloc | apply pw_below_drewN | apply below_drew1 | refine below_set ?_ GE252.out) | exact HB.out)⟩
         ·replace c40 := Bool.eq_false_iff.mpr c40
          subst c40
          have H1 : (some false) = some r := by rw [if_neg (show ¬ (false = true) by decide)] at H; exact H
          clear H
          have H := H1
          clear H1
          obtain rfl := Option.some.inj H
          obtain ⟨Ao55, co55, eo55⟩ := Kd.R_slice HO_8.out
          subst eo55
          go_wp2
          go_ret
          exact ⟨by first | rfl | (simp [errW_none, errW_some] <;> rfl) | (simp [*, errW_none, errW_some] <;> rfl), by repeat (first | (with_reducible first | exact HB.out | apply below_alloc | apply pw_below_drewN | apply below_drew1 | refine below_set ?_ GE252.out) | exact HB.out)⟩
     ·replace c32 := Bool.eq_false_iff.mpr c32
      subst c32
      have H1 : (sacristylaw16_HelloHeads.j2 kj4 t253 l2_0 l2_1) = some r := by rw [if_neg (show ¬ (false = true) by decide)] at H; exact H
      clear H
      have H := H1
      clear H1
      have H' := Aside0.mk H
      clear H
      go_wp2
      go_meet
      case rel => exact ⟨_, H', ⟨by have := HJ4.out; first | omega | exact Nat.le_refl _⟩, ⟨by (with_reducible repeat (first | refine blk_drewN ?_ _ | refine blk_drew ?_ | refine blk_alloc ?_ _)); exact BK252.out⟩, ⟨by repeat (first | (with_reducible first | exact HB.out | apply below_alloc | apply pw_below_drewN | apply below_drew1 | refine below_set ?_ GE252.out) | exact HB.out)⟩⟩
    case rest =>
     clear HC30
     try clear c1
     try clear c2
     try clear p2
     try clear q2
     try clear hx2
     try clear qi2
     try clear c3
     try clear c4
     try clear q4
     try clear c5
     try clear c6
     try clear p6
     try clear c8
     try clear c9
     try clear c12
     try clear c13
     try clear c17
     try clear p26
     try clear q26
     try clear hx26
     try clear qi26
     try clear c28
     try clear c29
     try clear c32
     try clear c35
     try clear c35b0
     try clear c36
     try clear c36b0
     try clear c37
     try clear c37b0
     try clear c38
     try clear c38b0
     try clear c38b1
     try clear c38b2
     try clear c40
     try clear c41
     try clear c41b0
     try clear c41b1
     try clear c42
     try clear c42b0
     try clear c42b1
     try clear c43
     try clear c43b0
     try clear c43b1
     try clear c43b2
     try clear c44
     try clear c44b0
     try clear c44b1
     try clear c44b2
     try clear c45
     try clear c45b0
     try clear c45b1
     try clear c47
     try clear c47b0
     try clear c48
     try clear c48b0
     try clear q49
     try clear c50
     try clear hcz14_0
     try clear hcz14_1
     try clear hcz19_0
     try clear hcz19_1
     try clear hcz21_0
     try clear hcz21_1
     try clear hcz24_0
     try clear hcz24_1
     try clear hcz26_0
     try clear hcz26_1
     try clear hfz14_0
     try clear hfz14_1
     try clear hfz19_0
     try clear hfz19_1
     try clear hfz21_0
     try clear hfz21_1
     try clear hfz24_0
     try clear hfz24_1
     try clear hfz26_0
     try clear hfz26_1
     try clear hx263_0
     try clear hx263_1
     try clear hx264_0
     try clear hx264_1
     try clear hx265_0
     try clear hx265_1
     try clear p2
     try clear p263
     try clear p264
     try clear p265
     try clear q263
     try clear q264
     try clear q265
     obtain ⟨kq, HA, HJ29, BK252, HB⟩ := hcut
     cases kq with
     | zero => exact absurd HA.out (by simp [sacristylaw16_HelloHeads.j2])
     | succ kj29 =>
      have H := HA.out
      clear HA
      simp only [sacristylaw16_HelloHeads.j2] at H
      replace H := Option.bind_eq_some_iff.mp H
      obtain ⟨⟨t266, t269⟩, A560, H⟩ := H
      replace H : (if t269 = true then (sacristylaw16_HelloHeads.l1 kj29 t253 t266 0 l2_0 l2_1) else (if t253 = true then (some ((t266.length : Int) == 0)) else (some false))) = some r := H
      have A56 := Aside0.mk A560
      clear A560
      by_cases c57 : t269 = true
      ·subst c57
       have H1 : (sacristylaw16_HelloHeads.l1 kj29 t253 t266 0 l2_0 l2_1) = some r := by rw [if_pos rfl] at H; exact H
       clear H
       have H := H1
       clear H1
       have H' := Aside0.mk H
       clear H
       have hcz58_0 : wc.cell? ⟨gb252, 0, none⟩ = some (.slice A2_0 l2_0.length c2_0) := (blk_cell BK252.out 0).trans rfl
       have hcz58_1 : wc.cell? ⟨gb252, 1, none⟩ = some (.slice A2_1 l2_1.length c2_1) := (blk_cell BK252.out 1).trans rfl
       have hfz58_0 := blk_frozen BK252.out 0
       have hfz58_1 := blk_frozen BK252.out 1
       go_wp2_with (first | ((with_reducible refine gate_callee (f := 15) rfl ?_); refine goesL_ (some 92) rfl rfl Tryd.func15 (by kernel_rfl) rfl #[.agg #[.slice A2_0 l2_0.length c2_0, .slice A2_1 l2_1.length c2_1]] rfl (by (try simp only [List.map_toArray, List.map_cons, List.map_nil]); first | done | rfl | (simp only [List.length_drop, List.length_take]; rfl)) ?_; (with_reducible refine (hello_Ask.calls kj29 _ _ l2_0 _ _ l2_1 t266 true _ ?side1 ?side2 ?side3 ?side4 A56.out).mono ?_); (case side1 => repeat (first | exact (Kd.C_below HR2_0.out HB.out) | (with_reducible refine Kd.C_alloc ?_ _) | (with_reducible refine Kd.C_drewN ?_ _) | (with_reducible refine Kd.C_drew ?_))); (case side2 => exact HC2_0.out); (case side3 => repeat (first | exact (Kd.C_below HR2_1.out HB.out) | (with_reducible refine Kd.C_alloc ?_ _) | (with_reducible refine Kd.C_drewN ?_ _) | (with_reducible refine Kd.C_drew ?_))); (case side4 => exact HC2_1.out); rintro e w59 ⟨v267, rfl, ho0, hb⟩; refine ⟨_, rfl, ?_⟩; have n0_ := Aside0.mk (Kd.R_lower ho0 (below_size (by repeat (first | (with_reducible first | exact HB.out | apply below_alloc | apply pw_below_drewN | apply below_drew1 | refine below_set ?_ GE252.out) | exact HB.out)))); have n1_ := Aside0.mk (blk_below (g := gb252) (o := .cells #[.slice A2_0 l2_0.length c2_0, .slice A2_1 l2_1.length c2_1] 25 (0, 0)) (by (with_reducible repeat (first | refine blk_drewN ?_ _ | refine blk_drew ?_ | refine blk_alloc ?_ _)); exact BK252.out) hb); have n2_ := Aside0.mk (below_step (by repeat (first | (with_reducible first | exact HB.out | apply below_alloc | apply pw_below_drewN | apply below_drew1 | refine below_set ?_ GE252.out) | exact HB.out)) hb); clear BK252; clear HB; have HO268 := n0_; have BK252 := n1_; have HB := n2_; clear n0_ n1_ n2_; (try clear hb); (try clear hb2); (try clear hk); (try clear hi); (try clear ho0)))
       go_loopg [16] kj29 (fun kq v16 w' => ∃ (x16_3 : Int), v16 = .int .i64 x16_3 ∧ Aside0 (sacristylaw16_HelloHeads.l1 kq t253 t266 x16_3 l2_0 l2_1 = some r) ∧ Aside0 (kq ≤ kj29) ∧ Aside0 (Kd.R k49 49 w' w.heap.size (fun _ => True) v267 t266) ∧ Aside0 (w'.heap[gb252]? = some (.cells #[(.slice A2_0 l2_0.length c2_0), (.slice A2_1 l2_1.length c2_1)] 25 (0, 0))) ∧ Aside0 (Below w.heap.size w w'))
       case atStart => exact ⟨(0), (by first | rfl | (simp; done) | (simp [*]; done)), H', ⟨Nat.le_refl _⟩, ⟨by (with_reducible repeat (first | apply Kd.R_alloc | apply Kd.R_drewN | apply Kd.R_drew)); exact HO268.out⟩, ⟨by (with_reducible repeat (first | refine blk_drewN ?_ _ | refine blk_drew ?_ | refine blk_alloc ?_ _)); exact BK252.out⟩, ⟨by repeat (first | (with_reducible first | exact HB.out | apply below_alloc | apply pw_below_drewN | apply below_drew1 | refine below_set ?_ GE252.out) | exact HB.out)⟩⟩
       case round =>
        clear H'
        try clear c1
        try clear c2
        try clear p2
        try clear q2
        try clear hx2
        try clear qi2
        try clear c3
        try clear c4
        try clear q4
        try clear c5
        try clear c6
        try clear p6
        try clear c8
        try clear c9
        try clear c12
        try clear c13
        try clear c15
        try clear c17
        try clear p26
        try clear q26
        try clear hx26
        try clear qi26
        try clear c28
        try clear c29
        try clear c32
        try clear c35
        try clear c35b0
        try clear c36
        try clear c36b0
        try clear c37
        try clear c37b0
        try clear c38
        try clear c38b0
        try clear c38b1
        try clear c38b2
        try clear c40
        try clear c41
        try clear c41b0
        try clear c41b1
        try clear c42
        try clear c42b0
        try clear c42b1
        try clear c43
        try clear c43b0
        try clear c43b1
        try clear c43b2
        try clear c44
        try clear c44b0
        try clear c44b1
        try clear c44b2
        try clear c45
        try clear c45b0
        try clear c45b1
        try clear c47
        try clear c47b0
        try clear c48
        try clear c48b0
        try clear q49
        try clear c50
        try clear c57
        try clear hcz14_0
        try clear hcz14_1
        try clear hcz19_0
        try clear hcz19_1
        try clear hcz21_0
        try clear hcz21_1
        try clear hcz24_0
        try clear hcz24_1
        try clear hcz26_0
        try clear hcz26_1
        try clear hcz58_0
        try clear hcz58_1
        try clear hfz14_0
        try clear hfz14_1
        try clear hfz19_0
        try clear hfz19_1
        try clear hfz21_0
        try clear hfz21_1
        try clear hfz24_0
        try clear hfz24_1
        try clear hfz26_0
        try clear hfz26_1
        try clear hfz58_0
        try clear hfz58_1
        try clear hx263_0
        try clear hx263_1
        try clear hx264_0
        try clear hx264_1
        try clear hx265_0
        try clear hx265_1
        try clear p2
        try clear p26
        try clear p263
        try clear p264
        try clear p265
        try clear p6
        try clear q2
        try clear q26
        try clear q263
        try clear q264
        try clear q265
        try clear q4
        try clear q49
        obtain ⟨x16_3, rfl, HA, HK3, HO_14, BK252, HB⟩ := hrel
        cases gk with
        | zero => exact absurd HA.out (by simp [sacristylaw16_HelloHeads.l1])
        | succ k3 =>
         have H := HA.out
         clear HA
         simp only [sacristylaw16_HelloHeads.l1] at H
         by_cases c60 : x16_3 < (wrap64 ((t266.length : Int) - 2))
         ·rw [if_pos c60] at H
          have c60b0 : decide (x16_3 < (wrap64 ((t266.length : Int) - 2))) = true := decide_eq_true c60
          clear c60
          by_cases c61 : x16_3 < (l2_0.length : Int)
          ·rw [if_pos c61] at H
           have c61b0 : decide (x16_3 < (l2_0.length : Int)) = true := decide_eq_true c61
           clear c61
           by_cases c62 : 0 ≤ x16_3
           ·rw [if_pos c62] at H
            have c62b0 : decide (0 ≤ x16_3) = true := decide_eq_true c62
            clear c62
            by_cases c63 : x16_3 < (t266.length : Int)
            ·rw [if_pos c63] at H
             have c63b0 : decide (x16_3 < (t266.length : Int)) = true := decide_eq_true c63
             clear c63
             by_cases c64 : (((rd_T49 t266 x16_3).f1).size : Int) = 70
             ·rw [if_pos c64] at H
              have c64b0 : ((((rd_T49 t266 x16_3).f1).size : Int) == 70) = true := beq_iff_eq.mpr c64
              have c64b1 : ((((rd_T49 t266 x16_3).f1).size : Int) != 70) = false := bne_eq_false_iff_eq.mpr c64
              clear c64
              by_cases c65 : 0 ≤ 5
              ·rw [if_pos c65] at H
               have c65b0 := eq_true c65
               have c65b1 : decide (0 ≤ 5) = true := decide_eq_true c65
               clear c65
               by_cases c66 : 5 ≤ (((rd_T49 t266 x16_3).f1).size : Int)
               ·rw [if_pos c66] at H
                have c66b0 := eq_true c66
                have c66b1 : decide (5 ≤ (((rd_T49 t266 x16_3).f1).size : Int)) = true := decide_eq_true c66
                clear c66
                by_cases c67 : (((rd_T49 t266 x16_3).f1).extract 0 5).toList = ([119, 97, 110, 116, 32] : List UInt8)
                ·rw [if_pos c67] at H
                 have c67b0 : ((((rd_T49 t266 x16_3).f1).extract 0 5).toList == ([119, 97, 110, 116, 32] : List UInt8)) = true := beq_iff_eq.mpr c67
                 have c67b1 : ((((rd_T49 t266 x16_3).f1).extract 0 5).toList != ([119, 97, 110, 116, 32] : List UInt8)) = false := bne_eq_false_iff_eq.mpr c67
                 clear c67
                 have H' := Aside0.mk H
                 clear H
                 obtain ⟨Ao68, co68, eo68⟩ := Kd.R_slice HO_14.out
                 subst eo68
                 have hcz69_0 : wr.cell? ⟨gb252, 0, none⟩ = some (.slice A2_0 l2_0.length c2_0) := (blk_cell BK252.out 0).trans rfl
                 have hcz69_1 : wr.cell? ⟨gb252, 1, none⟩ = some (.slice A2_1 l2_1.length c2_1) := (blk_cell BK252.out 1).trans rfl
                 have hfz69_0 := blk_frozen BK252.out 0
                 have hfz69_1 := blk_frozen BK252.out 1
                 have p272 : 0 ≤ (x16_3 : Int) := of_decide_eq_true (by first | (with_reducible assumption) | assumption)
                 have q272 : x16_3 < (t266.length : Int) := of_decide_eq_true (by first | (with_reducible assumption) | assumption)
                 obtain ⟨ad272, e272, hx272_0, hx272_1⟩ := at_T49 (Kd.R_reads' HO_14.out).2.2 x16_3 p272 q272
                 cases e272
                 replace p272 := eq_true p272
                 replace q272 := eq_true q272
                 have p273 : 0 ≤ (x16_3 : Int) := of_decide_eq_true (by first | (with_reducible assumption) | assumption)
                 have q273 : x16_3 < (t266.length : Int) := of_decide_eq_true (by first | (with_reducible assumption) | assumption)
                 obtain ⟨ad273, e273, hx273_0, hx273_1⟩ := at_T49 (Kd.R_reads' HO_14.out).2.2 x16_3 p273 q273
                 obtain rfl : ad272 = ad273 := (by injection e273)
                 replace p273 := eq_true p273
                 replace q273 := eq_true q273
                 go_wp2
                 go_roundg k3
                 case measure => have := HJ4.out; have := HJ29.out; have := HK3.out; omega
                 case rel => exact ⟨(wrap64 (x16_3 + 1)), (by first | rfl | (simp; done) | (simp [*]; done)), H', ⟨by have := HJ4.out; have := HJ29.out; have := HK3.out; omega⟩, ⟨by (with_reducible repeat (first | apply Kd.R_alloc | apply Kd.R_drewN | apply Kd.R_drew)); exact HO_14.out⟩, ⟨by (with_reducible repeat (first | refine blk_drewN ?_ _ | refine blk_drew ?_ | refine blk_alloc ?_ _)); exact BK252.out⟩, ⟨by repeat (first | (with_reducible first | exact HB.out | apply below_alloc | apply pw_below_drewN | apply below_drew1 | refine below_set ?_ GE252.out) | exact HB.out)⟩⟩
                ·rw [if_neg c67] at H
                 have c67b0 : ((((rd_T49 t266 x16_3).f1).extract 0 5).toList == ([119, 97, 110, 116, 32] : List UInt8)) = false := beq_eq_false_iff_ne.mpr c67
                 have c67b1 : ((((rd_T49 t266 x16_3).f1).extract 0 5).toList != ([119, 97, 110, 116, 32] : List UInt8)) = true := bne_iff_ne.mpr c67
                 obtain rfl := Option.some.inj H
                 obtain ⟨Ao70, co70, eo70⟩ := Kd.R_slice HO_14.out
                 subst eo70
                 have hcz71_0 : wr.cell? ⟨gb252, 0, none⟩ = some (.slice A2_0 l2_0.length c2_0) := (blk_cell BK252.out 0).trans rfl
                 have hcz71_1 : wr.cell? ⟨gb252, 1, none⟩ = some (.slice A2_1 l2_1.length c2_1) := (blk_cell BK252.out 1).trans rfl
                 have hfz71_0 := blk_frozen BK252.out 0
                 have hfz71_1 := blk_frozen BK252.out 1
                 have p272 : 0 ≤ (x16_3 : Int) := of_decide_eq_true (by first | (with_reducible assumption) | assumption)
                 have q272 : x16_3 < (t266.length : Int) := of_decide_eq_true (by first | (with_reducible assumption) | assumption)
                 obtain ⟨ad272, e272, hx272_0, hx272_1⟩ := at_T49 (Kd.R_reads' HO_14.out).2.2 x16_3 p272 q272
                 cases e272
                 replace p272 := eq_true p272
                 replace q272 := eq_true q272
                 have p273 : 0 ≤ (x16_3 : Int) := of_decide_eq_true (by first | (with_reducible assumption) | assumption)
                 have q273 : x16_3 < (t266.length : Int) := of_decide_eq_true (by first | (with_reducible assumption) | assumption)
                 obtain ⟨ad273, e273, hx273_0, hx273_1⟩ := at_T49 (Kd.R_reads' HO_14.out).2.2 x16_3 p273 q273
                 obtain rfl : ad272 = ad273 := (by injection e273)
                 replace p273 := eq_true p273
                 replace q273 := eq_true q273
                 go_wp2
                 go_ret
                 exact ⟨by first | rfl | (simp [errW_none, errW_some] <;> rfl) | (simp [*, errW_none, errW_some] <;> rfl), by repeat (first | (with_reducible first | exact HB.out | apply below_alloc | apply pw_below_drewN | apply below_drew1 | refine below_set ?_ GE252.out) | exact HB.out)⟩
               ·rw [if_neg c66] at H
                exact absurd H (by simp)
              ·rw [if_neg c65] at H
               exact absurd H (by simp)
             ·rw [if_neg c64] at H
              have c64b0 : ((((rd_T49 t266 x16_3).f1).size : Int) == 70) = false := beq_eq_false_iff_ne.mpr c64
              have c64b1 : ((((rd_T49 t266 x16_3).f1).size : Int) != 70) = true := bne_iff_ne.mpr c64
              obtain rfl := Option.some.inj H
              obtain ⟨Ao72, co72, eo72⟩ := Kd.R_slice HO_14.out
              subst eo72
              have hcz73_0 : wr.cell? ⟨gb252, 0, none⟩ = some (.slice A2_0 l2_0.length c2_0) := (blk_cell BK252.out 0).trans rfl
              have hcz73_1 : wr.cell? ⟨gb252, 1, none⟩ = some (.slice A2_1 l2_1.length c2_1) := (blk_cell BK252.out 1).trans rfl
              have hfz73_0 := blk_frozen BK252.out 0
              have hfz73_1 := blk_frozen BK252.out 1
              have p272 : 0 ≤ (x16_3 : Int) := of_decide_eq_true (by first | (with_reducible assumption) | assumption)
              have q272 : x16_3 < (t266.length : Int) := of_decide_eq_true (by first | (with_reducible assumption) | assumption)
              obtain ⟨ad272, e272, hx272_0, hx272_1⟩ := at_T49 (Kd.R_reads' HO_14.out).2.2 x16_3 p272 q272
              cases e272
              replace p272 := eq_true p272
              replace q272 := eq_true q272
              go_wp2
              go_ret
              exact ⟨by first | rfl | (simp [errW_none, errW_some] <;> rfl) | (simp [*, errW_none, errW_some] <;> rfl), by repeat (first | (with_reducible first | exact HB.out | apply below_alloc | apply pw_below_drewN | apply below_drew1 | refine below_set ?_ GE252.out) | exact HB.out)⟩
            ·rw [if_neg c63] at H
             exact absurd H (by simp)
           ·rw [if_neg c62] at H
            exact absurd H (by simp)
          ·rw [if_neg c61] at H
           have c61b0 : decide (x16_3 < (l2_0.length : Int)) = false := decide_eq_false c61
           clear c61
           by_cases c74 : 0 ≤ x16_3
           ·rw [if_pos c74] at H
            have c74b0 : decide (0 ≤ x16_3) = true := decide_eq_true c74
            clear c74
            by_cases c75 : x16_3 < (t266.length : Int)
            ·rw [if_pos c75] at H
             have c75b0 : decide (x16_3 < (t266.length : Int)) = true := decide_eq_true c75
             clear c75
             by_cases c76 : (((rd_T49 t266 x16_3).f1).size : Int) = 70
             ·rw [if_pos c76] at H
              have c76b0 : ((((rd_T49 t266 x16_3).f1).size : Int) == 70) = true := beq_iff_eq.mpr c76
              have c76b1 : ((((rd_T49 t266 x16_3).f1).size : Int) != 70) = false := bne_eq_false_iff_eq.mpr c76
              clear c76
              by_cases c77 : 0 ≤ 5
              ·rw [if_pos c77] at H
               have c77b0 := eq_true c77
               have c77b1 : decide (0 ≤ 5) = true := decide_eq_true c77
               clear c77
               by_cases c78 : 5 ≤ (((rd_T49 t266 x16_3).f1).size : Int)
               ·rw [if_pos c78] at H
                have c78b0 := eq_true c78
                have c78b1 : decide (5 ≤ (((rd_T49 t266 x16_3).f1).size : Int)) = true := decide_eq_true c78
                clear c78
                by_cases c79 : (((rd_T49 t266 x16_3).f1).extract 0 5).toList = ([104, 97, 118, 101, 32] : List UInt8)
                ·rw [if_pos c79] at H
                 have c79b0 : ((((rd_T49 t266 x16_3).f1).extract 0 5).toList == ([104, 97, 118, 101, 32] : List UInt8)) = true := beq_iff_eq.mpr c79
                 have c79b1 : ((((rd_T49 t266 x16_3).f1).extract 0 5).toList != ([104, 97, 118, 101, 32] : List UInt8)) = false := bne_eq_false_iff_eq.mpr c79
                 clear c79
                 have H' := Aside0.mk H
                 clear H
                 obtain ⟨Ao80, co80, eo80⟩ := Kd.R_slice HO_14.out
                 subst eo80
                 have hcz81_0 : wr.cell? ⟨gb252, 0, none⟩ = some (.slice A2_0 l2_0.length c2_0) := (blk_cell BK252.out 0).trans rfl
                 have hcz81_1 : wr.cell? ⟨gb252, 1, none⟩ = some (.slice A2_1 l2_1.length c2_1) := (blk_cell BK252.out 1).trans rfl
                 have hfz81_0 := blk_frozen BK252.out 0
                 have hfz81_1 := blk_frozen BK252.out 1
                 have p274 : 0 ≤ (x16_3 : Int) := of_decide_eq_true (by first | (with_reducible assumption) | assumption)
                 have q274 : x16_3 < (t266.length : Int) := of_decide_eq_true (by first | (with_reducible assumption) | assumption)
                 obtain ⟨ad274, e274, hx274_0, hx274_1⟩ := at_T49 (Kd.R_reads' HO_14.out).2.2 x16_3 p274 q274
                 cases e274
                 replace p274 := eq_true p274
                 replace q274 := eq_true q274
                 have p275 : 0 ≤ (x16_3 : Int) := of_decide_eq_true (by first | (with_reducible assumption) | assumption)
                 have q275 : x16_3 < (t266.length : Int) := of_decide_eq_true (by first | (with_reducible assumption) | assumption)
                 obtain ⟨ad275, e275, hx275_0, hx275_1⟩ := at_T49 (Kd.R_reads' HO_14.out).2.2 x16_3 p275 q275
                 obtain rfl : ad274 = ad275 := (by injection e275)
                 replace p275 := eq_true p275
                 replace q275 := eq_true q275
                 go_wp2
                 go_roundg k3
                 case measure => have := HJ4.out; have := HJ29.out; have := HK3.out; omega
                 case rel => exact ⟨(wrap64 (x16_3 + 1)), (by first | rfl | (simp; done) | (simp [*]; done)), H', ⟨by have := HJ4.out; have := HJ29.out; have := HK3.out; omega⟩, ⟨by (with_reducible repeat (first | apply Kd.R_alloc | apply Kd.R_drewN | apply Kd.R_drew)); exact HO_14.out⟩, ⟨by (with_reducible repeat (first | refine blk_drewN ?_ _ | refine blk_drew ?_ | refine blk_alloc ?_ _)); exact BK252.out⟩, ⟨by repeat (first | (with_reducible first | exact HB.out | apply below_alloc | apply pw_below_drewN | apply below_drew1 | refine below_set ?_ GE252.out) | exact HB.out)⟩⟩
                ·rw [if_neg c79] at H
                 have c79b0 : ((((rd_T49 t266 x16_3).f1).extract 0 5).toList == ([104, 97, 118, 101, 32] : List UInt8)) = false := beq_eq_false_iff_ne.mpr c79
                 have c79b1 : ((((rd_T49 t266 x16_3).f1).extract 0 5).toList != ([104, 97, 118, 101, 32] : List UInt8)) = true := bne_iff_ne.mpr c79
                 obtain rfl := Option.some.inj H
                 obtain ⟨Ao82, co82, eo82⟩ := Kd.R_slice HO_14.out
                 subst eo82
                 have hcz83_0 : wr.cell? ⟨gb252, 0, none⟩ = some (.slice A2_0 l2_0.length c2_0) := (blk_cell BK252.out 0).trans rfl
                 have hcz83_1 : wr.cell? ⟨gb252, 1, none⟩ = some (.slice A2_1 l2_1.length c2_1) := (blk_cell BK252.out 1).trans rfl
                 have hfz83_0 := blk_frozen BK252.out 0
                 have hfz83_1 := blk_frozen BK252.out 1
                 have p274 : 0 ≤ (x16_3 : Int) := of_decide_eq_true (by first | (with_reducible assumption) | assumption)
                 have q274 : x16_3 < (t266.length : Int) := of_decide_eq_true (by first | (with_reducible assumption) | assumption)
                 obtain ⟨ad274, e274, hx274_0, hx274_1⟩ := at_T49 (Kd.R_reads' HO_14.out).2.2 x16_3 p274 q274
                 cases e274
                 replace p274 := eq_true p274
                 replace q274 := eq_true q274
                 have p275 : 0 ≤ (x16_3 : Int) := of_decide_eq_true (by first | (with_reducible assumption) | assumption)
                 have q275 : x16_3 < (t266.length : Int) := of_decide_eq_true (by first | (with_reducible assumption) | assumption)
                 obtain ⟨ad275, e275, hx275_0, hx275_1⟩ := at_T49 (Kd.R_reads' HO_14.out).2.2 x16_3 p275 q275
                 obtain rfl : ad274 = ad275 := (by injection e275)
                 replace p275 := eq_true p275
                 replace q275 := eq_true q275
                 go_wp2
                 go_ret
                 exact ⟨by first | rfl | (simp [errW_none, errW_some] <;> rfl) | (simp [*, errW_none, errW_some] <;> rfl), by repeat (first | (with_reducible first | exact HB.out | apply below_alloc | apply pw_below_drewN | apply below_drew1 | refine below_set ?_ GE252.out) | exact HB.out)⟩
               ·rw [if_neg c78] at H
                exact absurd H (by simp)
              ·rw [if_neg c77] at H
               exact absurd H (by simp)
             ·rw [if_neg c76] at H
              have c76b0 : ((((rd_T49 t266 x16_3).f1).size : Int) == 70) = false := beq_eq_false_iff_ne.mpr c76
              have c76b1 : ((((rd_T49 t266 x16_3).f1).size : Int) != 70) = true := bne_iff_ne.mpr c76
              obtain rfl := Option.some.inj H
              obtain ⟨Ao84, co84, eo84⟩ := Kd.R_slice HO_14.out
              subst eo84
              have hcz85_0 : wr.cell? ⟨gb252, 0, none⟩ = some (.slice A2_0 l2_0.length c2_0) := (blk_cell BK252.out 0).trans rfl
              have hcz85_1 : wr.cell? ⟨gb252, 1, none⟩ = some (.slice A2_1 l2_1.length c2_1) := (blk_cell BK252.out 1).trans rfl
              have hfz85_0 := blk_frozen BK252.out 0
              have hfz85_1 := blk_frozen BK252.out 1
              have p274 : 0 ≤ (x16_3 : Int) := of_decide_eq_true (by first | (with_reducible assumption) | assumption)
              have q274 : x16_3 < (t266.length : Int) := of_decide_eq_true (by first | (with_reducible assumption) | assumption)
              obtain ⟨ad274, e274, hx274_0, hx274_1⟩ := at_T49 (Kd.R_reads' HO_14.out).2.2 x16_3 p274 q274
              cases e274
              replace p274 := eq_true p274
              replace q274 := eq_true q274
              go_wp2
              go_ret
              exact ⟨by first | rfl | (simp [errW_none, errW_some] <;> rfl) | (simp [*, errW_none, errW_some] <;> rfl), by repeat (first | (with_reducible first | exact HB.out | apply below_alloc | apply pw_below_drewN | apply below_drew1 | refine below_set ?_ GE252.out) | exact HB.out)⟩
            ·rw [if_neg c75] at H
             exact absurd H (by simp)
           ·rw [if_neg c74] at H
            exact absurd H (by simp)
         ·rw [if_neg c60] at H
          have c60b0 : decide (x16_3 < (wrap64 ((t266.length : Int) - 2))) = false := decide_eq_false c60
          clear c60
          by_cases c86 : t253 = true
          ·subst c86
           have H1 : (if 0 ≤ (wrap64 ((t266.length : Int) - 2)) then (if (wrap64 ((t266.length : Int) - 2)) < (t266.length : Int) then (if ((rd_T49 t266 (wrap64 ((t266.length : Int) - 2))).f1).toList = ([100, 111, 110, 101, 10] : List UInt8) then (if 0 ≤ (wrap64 ((t266.length : Int) - 1)) then (if (wrap64 ((t266.length : Int) - 1)) < (t266.length : Int) then (some ((rd_T49 t266 (wrap64 ((t266.length : Int) - 1))).f0)) else (none)) else (none)) else (some false)) else (none)) else (none)) = some r := by rw [if_pos rfl] at H; exact H
           clear H
           have H := H1
           clear H1
           obtain ⟨ji87, hji87⟩ : ∃ j_ : Int, (wrap64 ((t266.length : Int) - 2)) = j_ := ⟨_, rfl⟩
           replace H : (if 0 ≤ (ji87) then (if (ji87) < (t266.length : Int) then (if ((rd_T49 t266 (ji87)).f1).toList = ([100, 111, 110, 101, 10] : List UInt8) then (if 0 ≤ (wrap64 ((t266.length : Int) - 1)) then (if (wrap64 ((t266.length : Int) - 1)) < (t266.length : Int) then (some ((rd_T49 t266 (wrap64 ((t266.length : Int) - 1))).f0)) else (none)) else (none)) else (some false)) else (none)) else (none)) = some r := by first | (rw [hji87] at H; exact H) | (simp only [hji87] at H ⊢; exact H)
           (try rw [hji87] at c60b0)
           have hji87w : (IntKind.i64.wrap ((t266.length : Int) - 2)) = ji87 := (i64_w _).trans hji87
           by_cases c88 : 0 ≤ (ji87)
           ·rw [if_pos c88] at H
            have c88b0 : decide (0 ≤ (ji87)) = true := decide_eq_true c88
            clear c88
            by_cases c89 : (ji87) < (t266.length : Int)
            ·rw [if_pos c89] at H
             have c89b0 : decide ((ji87) < (t266.length : Int)) = true := decide_eq_true c89
             clear c89
             by_cases c90 : ((rd_T49 t266 (ji87)).f1).toList = ([100, 111, 110, 101, 10] : List UInt8)
             ·rw [if_pos c90] at H
              have c90b0 : (((rd_T49 t266 (ji87)).f1).toList == ([100, 111, 110, 101, 10] : List UInt8)) = true := beq_iff_eq.mpr c90
              have c90b1 : (((rd_T49 t266 (ji87)).f1).toList != ([100, 111, 110, 101, 10] : List UInt8)) = false := bne_eq_false_iff_eq.mpr c90
              clear c90
              obtain ⟨ji91, hji91⟩ : ∃ j_ : Int, (wrap64 ((t266.length : Int) - 1)) = j_ := ⟨_, rfl⟩
              replace H : (if 0 ≤ (ji91) then (if (ji91) < (t266.length : Int) then (some ((rd_T49 t266 (ji91)).f0)) else (none)) else (none)) = some r := by first | (rw [hji91] at H; exact H) | (simp only [hji91] at H ⊢; exact H)
              have hji91w : (IntKind.i64.wrap ((t266.length : Int) - 1)) = ji91 := (i64_w _).trans hji91
              by_cases c92 : 0 ≤ (ji91)
              ·rw [if_pos c92] at H
               have c92b0 : decide (0 ≤ (ji91)) = true := decide_eq_true c92
               clear c92
               by_cases c93 : (ji91) < (t266.length : Int)
               ·rw [if_pos c93] at H
                have c93b0 : decide ((ji91) < (t266.length : Int)) = true := decide_eq_true c93
                clear c93
                obtain rfl := Option.some.inj H
                obtain ⟨Ao94, co94, eo94⟩ := Kd.R_slice HO_14.out
                subst eo94
                have p270 : 0 ≤ ((ji87) : Int) := of_decide_eq_true (by first | (with_reducible assumption) | assumption)
                have q270 : (ji87) < (t266.length : Int) := of_decide_eq_true (by first | (with_reducible assumption) | assumption)
                obtain ⟨ad270, e270, hx270_0, hx270_1⟩ := at_T49 (Kd.R_reads' HO_14.out).2.2 (ji87) p270 q270
                cases e270
                replace p270 := eq_true p270
                replace q270 := eq_true q270
                have p271 : 0 ≤ ((ji91) : Int) := of_decide_eq_true (by first | (with_reducible assumption) | assumption)
                have q271 : (ji91) < (t266.length : Int) := of_decide_eq_true (by first | (with_reducible assumption) | assumption)
                obtain ⟨ad271, e271, hx271_0, hx271_1⟩ := at_T49 (Kd.R_reads' HO_14.out).2.2 (ji91) p271 q271
                obtain rfl : ad270 = ad271 := (by injection e271)
                replace p271 := eq_true p271
                replace q271 := eq_true q271
                go_wp2
                go_ret
                exact ⟨by first | rfl | (simp [errW_none, errW_some] <;> rfl) | (simp only [← hji87, ← hji91]; first | rfl | (simp [errW_none, errW_some] <;> rfl)) | (simp [*, errW_none, errW_some] <;> rfl), by repeat (first | (with_reducible first | exact HB.out | apply below_alloc | apply pw_below_drewN | apply below_drew1 | refine below_set ?_ GE252.out) | exact HB.out)⟩
               ·rw [if_neg c93] at H
                exact absurd H (by simp)
              ·rw [if_neg c92] at H
               exact absurd H (by simp)
             ·rw [if_neg c90] at H
              have c90b0 : (((rd_T49 t266 (ji87)).f1).toList == ([100, 111, 110, 101, 10] : List UInt8)) = false := beq_eq_false_iff_ne.mpr c90
              have c90b1 : (((rd_T49 t266 (ji87)).f1).toList != ([100, 111, 110, 101, 10] : List UInt8)) = true := bne_iff_ne.mpr c90
              obtain rfl := Option.some.inj H
              obtain ⟨Ao95, co95, eo95⟩ := Kd.R_slice HO_14.out
              subst eo95
              have p270 : 0 ≤ ((ji87) : Int) := of_decide_eq_true (by first | (with_reducible assumption) | assumption)
              have q270 : (ji87) < (t266.length : Int) := of_decide_eq_true (by first | (with_reducible assumption) | assumption)
              obtain ⟨ad270, e270, hx270_0, hx270_1⟩ := at_T49 (Kd.R_reads' HO_14.out).2.2 (ji87) p270 q270
              cases e270
              replace p270 := eq_true p270
              replace q270 := eq_true q270
              go_wp2
              go_ret
              exact ⟨by first | rfl | (simp [errW_none, errW_some] <;> rfl) | (simp only [← hji87]; first | rfl | (simp [errW_none, errW_some] <;> rfl)) | (simp [*, errW_none, errW_some] <;> rfl), by repeat (first | (with_reducible first | exact HB.out | apply below_alloc | apply pw_below_drewN | apply below_drew1 | refine below_set ?_ GE252.out) | exact HB.out)⟩
            ·rw [if_neg c89] at H
             exact absurd H (by simp)
           ·rw [if_neg c88] at H
            exact absurd H (by simp)
          ·replace c86 := Bool.eq_false_iff.mpr c86
           subst c86
           have H1 : (some false) = some r := by rw [if_neg (show ¬ (false = true) by decide)] at H; exact H
           clear H
           have H := H1
           clear H1
           obtain rfl := Option.some.inj H
           obtain ⟨Ao96, co96, eo96⟩ := Kd.R_slice HO_14.out
           subst eo96
           go_wp2
           go_ret
           exact ⟨by first | rfl | (simp [errW_none, errW_some] <;> rfl) | (simp [*, errW_none, errW_some] <;> rfl), by repeat (first | (with_reducible first | exact HB.out | apply below_alloc | apply pw_below_drewN | apply below_drew1 | refine below_set ?_ GE252.out) | exact HB.out)⟩
      ·replace c57 := Bool.eq_false_iff.mpr c57
       subst c57
       have H1 : (if t253 = true then (some ((t266.length : Int) == 0)) else (some false)) = some r := by rw [if_neg (show ¬ (false = true) by decide)] at H; exact H
       clear H
       have H := H1
       clear H1
       by_cases c97 : t253 = true
       ·subst c97
        have H1 : (some ((t266.length : Int) == 0)) = some r := by rw [if_pos rfl] at H; exact H
        clear H
        have H := H1
        clear H1
        obtain rfl := Option.some.inj H
        have hcz98_0 : wc.cell? ⟨gb252, 0, none⟩ = some (.slice A2_0 l2_0.length c2_0) := (blk_cell BK252.out 0).trans rfl
        have hcz98_1 : wc.cell? ⟨gb252, 1, none⟩ = some (.slice A2_1 l2_1.length c2_1) := (blk_cell BK252.out 1).trans rfl
        have hfz98_0 := blk_frozen BK252.out 0
        have hfz98_1 := blk_frozen BK252.out 1
        go_wp2_with (first | ((with_reducible refine gate_callee (f := 15) rfl ?_); refine goesL_ (some 92) rfl rfl Tryd.func15 (by kernel_rfl) rfl #[.agg #[.slice A2_0 l2_0.length c2_0, .slice A2_1 l2_1.length c2_1]] rfl (by (try simp only [List.map_toArray, List.map_cons, List.map_nil]); first | done | rfl | (simp only [List.length_drop, List.length_take]; rfl)) ?_; (with_reducible refine (hello_Ask.calls kj29 _ _ l2_0 _ _ l2_1 t266 false _ ?side1 ?side2 ?side3 ?side4 A56.out).mono ?_); (case side1 => repeat (first | exact (Kd.C_below HR2_0.out HB.out) | (with_reducible refine Kd.C_alloc ?_ _) | (with_reducible refine Kd.C_drewN ?_ _) | (with_reducible refine Kd.C_drew ?_))); (case side2 => exact HC2_0.out); (case side3 => repeat (first | exact (Kd.C_below HR2_1.out HB.out) | (with_reducible refine Kd.C_alloc ?_ _) | (with_reducible refine Kd.C_drewN ?_ _) | (with_reducible refine Kd.C_drew ?_))); (case side4 => exact HC2_1.out); rintro e w99 ⟨v267, rfl, ho0, hb⟩; refine ⟨_, rfl, ?_⟩; have n0_ := Aside0.mk (Kd.R_lower ho0 (below_size (by repeat (first | (with_reducible first | exact HB.out | apply below_alloc | apply pw_below_drewN | apply below_drew1 | refine below_set ?_ GE252.out) | exact HB.out)))); have n1_ := Aside0.mk (blk_below (g := gb252) (o := .cells #[.slice A2_0 l2_0.length c2_0, .slice A2_1 l2_1.length c2_1] 25 (0, 0)) (by (with_reducible repeat (first | refine blk_drewN ?_ _ | refine blk_drew ?_ | refine blk_alloc ?_ _)); exact BK252.out) hb); have n2_ := Aside0.mk (below_step (by repeat (first | (with_reducible first | exact HB.out | apply below_alloc | apply pw_below_drewN | apply below_drew1 | refine below_set ?_ GE252.out) | exact HB.out)) hb); clear BK252; clear HB; have HO268 := n0_; have BK252 := n1_; have HB := n2_; clear n0_ n1_ n2_; (try clear hb); (try clear hb2); (try clear hk); (try clear hi); (try clear ho0); obtain ⟨Ao100, co100, eo100⟩ := Kd.R_slice HO268.out; subst eo100))
        go_ret
        exact ⟨by first | rfl | (simp [errW_none, errW_some] <;> rfl) | (simp [*, errW_none, errW_some] <;> rfl), by repeat (first | (with_reducible first | exact HB.out | apply below_alloc | apply pw_below_drewN | apply below_drew1 | refine below_set ?_ GE252.out) | exact HB.out)⟩
       ·replace c97 := Bool.eq_false_iff.mpr c97
        subst c97
        have H1 : (some false) = some r := by rw [if_neg (show ¬ (false = true) by decide)] at H; exact H
        clear H
        have H := H1
        clear H1
        obtain rfl := Option.some.inj H
        have hcz101_0 : wc.cell? ⟨gb252, 0, none⟩ = some (.slice A2_0 l2_0.length c2_0) := (blk_cell BK252.out 0).trans rfl
        have hcz101_1 : wc.cell? ⟨gb252, 1, none⟩ = some (.slice A2_1 l2_1.length c2_1) := (blk_cell BK252.out 1).trans rfl
        have hfz101_0 := blk_frozen BK252.out 0
        have hfz101_1 := blk_frozen BK252.out 1
        go_wp2_with (first | ((with_reducible refine gate_callee (f := 15) rfl ?_); refine goesL_ (some 92) rfl rfl Tryd.func15 (by kernel_rfl) rfl #[.agg #[.slice A2_0 l2_0.length c2_0, .slice A2_1 l2_1.length c2_1]] rfl (by (try simp only [List.map_toArray, List.map_cons, List.map_nil]); first | done | rfl | (simp only [List.length_drop, List.length_take]; rfl)) ?_; (with_reducible refine (hello_Ask.calls kj29 _ _ l2_0 _ _ l2_1 t266 false _ ?side1 ?side2 ?side3 ?side4 A56.out).mono ?_); (case side1 => repeat (first | exact (Kd.C_below HR2_0.out HB.out) | (with_reducible refine Kd.C_alloc ?_ _) | (with_reducible refine Kd.C_drewN ?_ _) | (with_reducible refine Kd.C_drew ?_))); (case side2 => exact HC2_0.out); (case side3 => repeat (first | exact (Kd.C_below HR2_1.out HB.out) | (with_reducible refine Kd.C_alloc ?_ _) | (with_reducible refine Kd.C_drewN ?_ _) | (with_reducible refine Kd.C_drew ?_))); (case side4 => exact HC2_1.out); rintro e w102 ⟨v267, rfl, ho0, hb⟩; refine ⟨_, rfl, ?_⟩; have n0_ := Aside0.mk (Kd.R_lower ho0 (below_size (by repeat (first | (with_reducible first | exact HB.out | apply below_alloc | apply pw_below_drewN | apply below_drew1 | refine below_set ?_ GE252.out) | exact HB.out)))); have n1_ := Aside0.mk (blk_below (g := gb252) (o := .cells #[.slice A2_0 l2_0.length c2_0, .slice A2_1 l2_1.length c2_1] 25 (0, 0)) (by (with_reducible repeat (first | refine blk_drewN ?_ _ | refine blk_drew ?_ | refine blk_alloc ?_ _)); exact BK252.out) hb); have n2_ := Aside0.mk (below_step (by repeat (first | (with_reducible first | exact HB.out | apply below_alloc | apply pw_below_drewN | apply below_drew1 | refine below_set ?_ GE252.out) | exact HB.out)) hb); clear BK252; clear HB; have HO268 := n0_; have BK252 := n1_; have HB := n2_; clear n0_ n1_ n2_; (try clear hb); (try clear hb2); (try clear hk); (try clear hi); (try clear ho0)))
        go_ret
        exact ⟨by first | rfl | (simp [errW_none, errW_some] <;> rfl) | (simp [*, errW_none, errW_some] <;> rfl), by repeat (first | (with_reducible first | exact HB.out | apply below_alloc | apply pw_below_drewN | apply below_drew1 | refine below_set ?_ GE252.out) | exact HB.out)⟩
end Go.Proofs.YtmmionafcmnfoaaDoor.Print
