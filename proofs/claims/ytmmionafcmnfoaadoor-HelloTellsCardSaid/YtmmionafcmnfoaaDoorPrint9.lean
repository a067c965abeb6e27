/- Functions of the program as plain functions, and proofs that the program's calls tell what these tell. Written by a program. -/
import Derived.Test.YtmmionafcmnfoaaDoorPrint0
import Derived.Test.YtmmionafcmnfoaaDoorPrint6
import Derived.Test.YtmmionafcmnfoaaDoorPrint7
import Derived.Test.YtmmionafcmnfoaaDoorPrint8
namespace Go.Proofs.YtmmionafcmnfoaaDoor.Print
open Go.RowKit Go.Proofs.YtmmionafcmnfoaaDoorW.PrintWords Go.Proofs.YtmmionafcmnfoaaDoorW.PrintLast Go.Proofs.YtmmionafcmnfoaaDoorW.PrintMore Go.Proofs.YtmmionafcmnfoaaDoor.Conv
attribute [local go_sem] max2_int min2_int max_two min_two max_three min_three max_four min_four
set_option linter.unusedVariables false
set_option linter.unusedSimpArgs false
def hello_Asked.l0 : Nat -> List (S49) -> List ByteArray -> Int -> Int -> List ByteArray -> List ByteArray -> Option (List ByteArray × List ByteArray × Bool)
 | 0, _, _, _, _, _, _ => none
 | k + 1, x0, x13, x14, x15, x193000, x193001 => if x15 < x14 then (if 0 <= x15 then (if x15 < (x13.length : Int) then ((strings_Cut.f (rdOf ByteArray.empty x13 x15) (⟨#[32]⟩ : ByteArray)).bind fun bt197 => (if bt197.1.toList = ([119, 97, 110, 116] : List UInt8) then (if x193000.length < 8796093022208 then (hello_Asked.l0 k x0 x13 x14 (wrap64 (x15 + 1)) (x193000 ++ [bt197.2.1]) x193001) else (none)) else (if bt197.1.toList = ([104, 97, 118, 101] : List UInt8) then (if x193001.length < 8796093022208 then (hello_Asked.l0 k x0 x13 x14 (wrap64 (x15 + 1)) x193000 (x193001 ++ [bt197.2.1])) else (none)) else (hello_Asked.l0 k x0 x13 x14 (wrap64 (x15 + 1)) x193000 x193001)))) else (none)) else (none)) else ((hello_Ask.f k x193000 x193001).bind fun bt206 => ((hello_again.f k bt206.1 bt206.2 x0).bind fun t210 => (if t210 = true then (some (x193000, x193001, true)) else (some (([] : List ByteArray), ([] : List ByteArray), false)))))
def hello_Asked.f (k : Nat) (l0 : List (S49)) : Option (List ByteArray × List ByteArray × Bool) := (hello_texts.f k l0).bind fun t193 => (hello_Asked.l0 k l0 t193 (t193.length : Int) 0 ([] : List ByteArray) ([] : List ByteArray))
set_option maxHeartbeats 8000000 in
set_option maxRecDepth 100000 in
theorem hello_Asked.calls (k : Nat) (A0 : Option Addr) (c0 : Nat) (l0 : List (S49)) (r1 : List ByteArray) (r2 : List ByteArray) (r3 : Bool) (w : World) (hr0 : Kd.C k49 w A0 l0.length l0) (hc0 : l0.length <= c0) (h : hello_Asked.f k l0 = some (r1, r2, r3)) :
  Calls Tryd.prog 22 #[.slice A0 l0.length c0] w fun e w' => ∃ v0_ v1_ : Value, e = .returned (.tuple #[.agg #[v0_, v1_], .bool r3]) /\ Kd.R Kd.string 9 w' w.heap.size (fun k_ => some k_ ≠ (v1_ : Value).ownBlock) v0_ r1 /\ Kd.R Kd.string 9 w' w.heap.size (fun k_ => some k_ ≠ (v0_ : Value).ownBlock) v1_ r2 /\ Below w.heap.size w w' := by
 have hu25 := Tryd.underlying25
 have HR0 := Asd.mk hr0
 have HC0 := Asd.mk hc0
 clear hr0 hc0
 have HB := Asd.mk (Below.refl w.heap.size w)
 have H : ((hello_texts.f k l0).bind fun t193 => (hello_Asked.l0 k l0 t193 (t193.length : Int) 0 ([] : List ByteArray) ([] : List ByteArray))) = some (r1, r2, r3) := h
 clear h
 replace H := Option.bind_eq_some_iff.mp H
 obtain ⟨t193, A20, H⟩ := H
 replace H : (hello_Asked.l0 k l0 t193 (t193.length : Int) 0 ([] : List ByteArray) ([] : List ByteArray)) = some (r1, r2, r3) := H
 have A2 := Asd.mk A20
 clear A20
 have H' := Asd.mk H
 clear H
 go_enter Tryd.func22, Tryd.ntmps22
 go_wp2_with (first | ((with_reducible refine gate_dst (N := 2) rfl ?_); refine box_event ?hg (N := 2) ?hd (cs := #[.slice none 0 0, .slice none 0 0]) (t := 25) ?hr ?_; (case hd => rfl); (case hg => rfl); (case hr => first | (go_simp; done) | (go_simp; rfl)); intro gb191 hg w3 hbox hb; have n0_ := Asd.mk (below_step (by repeat (first | (with_reducible first | exact HB.out | apply bal | apply pbN | apply bd1) | exact HB.out)) hb); have n1_ := Asd.mk (hbox); have n2_ := Asd.mk ((by rw [hg]; exact (below_size (by repeat (first | (with_reducible first | exact HB.out | apply bal | apply pbN | apply bd1) | exact HB.out))) : w.heap.size <= gb191)); have n3_ := Asd.mk ((by rw [hg]; exact (below_size (by repeat (first | (with_reducible first | exact HB.out | apply bal | apply pbN | apply bd1) | exact HB.out))) : w.heap.size <= gb191)); clear HB; have HB := n0_; have BK191 := n1_; have GW191 := n2_; have GE191 := n3_; clear n0_ n1_ n2_ n3_; clear hb hbox hg) | ((with_reducible refine gate_dst (N := 4) rfl ?_); refine box_event ?hg (N := 4) ?hd (cs := #[.slice none 0 0, .slice none 0 0]) (t := 25) ?hr ?_; (case hd => rfl); (case hg => rfl); (case hr => first | (go_simp; done) | (go_simp; rfl)); intro gb192 hg w4 hbox hb; have n0_ := Asd.mk (blk_below (g := gb191) (o := .cells #[.slice none 0 0, .slice none 0 0] 25 (0, 0)) (by (with_reducible repeat (first | refine blk_drewN ?_ _ | refine blk_drew ?_ | refine blk_alloc ?_ _)); exact BK191.out) hb); have n1_ := Asd.mk (below_step (by repeat (first | (with_reducible first | exact HB.out | apply bal | apply pbN | apply bd1 | refine below_set ?_ GE191.out) | exact HB.out)) hb); have n2_ := Asd.mk (hbox); have n3_ := Asd.mk ((by rw [hg]; exact (below_size (by repeat (first | (with_reducible first | exact HB.out | apply bal | apply pbN | apply bd1 | refine below_set ?_ GE191.out) | exact HB.out))) : w.heap.size <= gb192)); have n4_ := Asd.mk ((by rw [hg]; exact (below_size (by repeat (first | (with_reducible first | exact HB.out | apply bal | apply pbN | apply bd1 | refine below_set ?_ GE191.out) | exact HB.out))) : w.heap.size <= gb192)); have n5_ := Asd.mk ((by rw [hg]; exact Nat.ne_of_lt (blk_lt (g := gb191) (o := .cells #[.slice none 0 0, .slice none 0 0] 25 (0, 0)) (by (with_reducible repeat (first | refine blk_drewN ?_ _ | refine blk_drew ?_ | refine blk_alloc ?_ _)); exact BK191.out)) : gb191 ≠ gb192)); have n6_ := Asd.mk ((by rw [hg]; exact Nat.ne_of_gt (blk_lt (g := gb191) (o := .cells #[.slice none 0 0, .slice none 0 0] 25 (0, 0)) (by (with_reducible repeat (first | refine blk_drewN ?_ _ | refine blk_drew ?_ | refine blk_alloc ?_ _)); exact BK191.out)) : gb192 ≠ gb191)); clear BK191; clear HB; have BK191 := n0_; have HB := n1_; have BK192 := n2_; have GW192 := n3_; have GE192 := n4_; have NB191_192 := n5_; have NB192_191 := n6_; clear n0_ n1_ n2_ n3_ n4_ n5_ n6_; clear hb hbox hg) | ((with_reducible refine gate_callee (f := 46) rfl ?_); refine goesL_ (some 13) rfl rfl Tryd.func46 (by kernel_rfl) rfl #[.slice A0 l0.length c0] rfl (by (try simp only [List.map_toArray, List.map_cons, List.map_nil]); first | done | rfl | (simp only [List.length_drop, List.length_take]; rfl)) ?_; (with_reducible refine (hello_texts.calls k _ _ l0 t193 _ ?side1 ?side2 A2.out).mono ?_); (case side1 => repeat (first | exact (Kd.C_below HR0.out HB.out) | (with_reducible refine Kd.C_alloc ?_ _) | (with_reducible refine Kd.C_drewN ?_ _) | (with_reducible refine Kd.C_drew ?_))); (case side2 => exact HC0.out); rintro e w5 ⟨v194, rfl, ho0, hb⟩; refine ⟨_, rfl, ?_⟩; have n0_ := Asd.mk (Kd.R_lower ho0 (below_size (by repeat (first | (with_reducible first | exact HB.out | apply bal | apply pbN | apply bd1 | refine below_set ?_ GE191.out | refine below_set ?_ GE192.out) | exact HB.out)))); have n1_ := Asd.mk (blk_below (g := gb191) (o := .cells #[.slice none 0 0, .slice none 0 0] 25 (0, 0)) (by (with_reducible repeat (first | refine blk_drewN ?_ _ | refine blk_drew ?_ | refine blk_alloc ?_ _)); exact BK191.out) hb); have n2_ := Asd.mk (blk_below (g := gb192) (o := .cells #[.slice none 0 0, .slice none 0 0] 25 (0, 0)) (by (with_reducible repeat (first | refine blk_drewN ?_ _ | refine blk_drew ?_ | refine blk_alloc ?_ _)); exact BK192.out) hb); have n3_ := Asd.mk (below_step (by repeat (first | (with_reducible first | exact HB.out | apply bal | apply pbN | apply bd1 | refine below_set ?_ GE191.out | refine below_set ?_ GE192.out) | exact HB.out)) hb); clear BK191; clear BK192; clear HB; have HO195 := n0_; have BK191 := n1_; have BK192 := n2_; have HB := n3_; clear n0_ n1_ n2_ n3_; (try clear hb); (try clear hb2); (try clear hk); (try clear hi); (try clear ho0); obtain ⟨Ao6, co6, eo6⟩ := Kd.R_slice HO195.out; subst eo6))
 go_loopg [15] k (fun kq v15 w' => ∃ (x15_1 : Int) (x193000_1 : List ByteArray) (x193001_1 : List ByteArray) (u193000 : Value) (u193001 : Value), v15 = .int .i64 x15_1 /\ Asd (hello_Asked.l0 kq l0 t193 (t193.length : Int) x15_1 x193000_1 x193001_1 = some (r1, r2, r3)) /\ Asd (kq <= k) /\ Asd (Kd.R Kd.string 9 w' w.heap.size (fun k_ => some k_ ≠ (u193000 : Value).ownBlock /\ some k_ ≠ (u193001 : Value).ownBlock) (.slice Ao6 t193.length co6) t193) /\ Asd (Kd.R Kd.string 9 w' w.heap.size (fun k_ => some k_ ≠ ((.slice Ao6 t193.length co6) : Value).ownBlock /\ some k_ ≠ (u193001 : Value).ownBlock) u193000 x193000_1) /\ Asd (Kd.R Kd.string 9 w' w.heap.size (fun k_ => some k_ ≠ ((.slice Ao6 t193.length co6) : Value).ownBlock /\ some k_ ≠ (u193000 : Value).ownBlock) u193001 x193001_1) /\ Asd (w'.heap[gb191]? = some (.cells #[(.slice none 0 0), (.slice none 0 0)] 25 (0, 0))) /\ Asd (w'.heap[gb192]? = some (.cells #[u193000, u193001] 25 (0, 0))) /\ Asd (Below w.heap.size w w'))
 case atStart => exact ⟨(0), (([] : List ByteArray)), (([] : List ByteArray)), (.slice none 0 0), (.slice none 0 0), (by first | rfl | (simp; done) | (simp [*]; done)), H', ⟨Nat.le_refl _⟩, ⟨by (with_reducible repeat (first | apply Kd.R_alloc | apply Kd.R_drewN | apply Kd.R_drew)); exact Kd.R_mono HO195.out (fun _ hk => ⟨(by simp [Value.ownBlock]), (by simp [Value.ownBlock])⟩)⟩, ⟨by first | exact Kd.R_nil _ _ _ _ _ | exact Kd.N_nil _ _ _ _ _ | exact Kd.V_nil _ _ _ _ _ | exact Kd.Q_nil _ _ _ _ _ | exact Kd.S_nil _ _ _ _ _⟩, ⟨by first | exact Kd.R_nil _ _ _ _ _ | exact Kd.N_nil _ _ _ _ _ | exact Kd.V_nil _ _ _ _ _ | exact Kd.Q_nil _ _ _ _ _ | exact Kd.S_nil _ _ _ _ _⟩, ⟨by (with_reducible repeat (first | refine blk_drewN ?_ _ | refine blk_drew ?_ | refine blk_alloc ?_ _)); exact BK191.out⟩, ⟨by (with_reducible repeat (first | refine blk_drewN ?_ _ | refine blk_drew ?_ | refine blk_alloc ?_ _)); exact BK192.out⟩, ⟨by repeat (first | (with_reducible first | exact HB.out | apply bal | apply pbN | apply bd1 | refine below_set ?_ GE191.out | refine below_set ?_ GE192.out) | exact HB.out)⟩⟩
 case round =>
  clear H'
  try clear c2
  try clear p2
  try clear c4
  obtain ⟨x15_1, x193000_1, x193001_1, u193000, u193001, rfl, HA, HK1, HO_13, HO_193000, HO_193001, BK191, BK192, HB⟩ := hrel
  cases gk with
  | zero => exact absurd HA.out (by simp [hello_Asked.l0])
  | succ k1 =>
   have H := HA.out
   clear HA
   simp only [hello_Asked.l0] at H
   by_cases c7 : x15_1 < (t193.length : Int)
   ·rw [if_pos c7] at H
    have c7b0 : decide (x15_1 < (t193.length : Int)) = true := decide_eq_true c7
    clear c7
    by_cases c8 : 0 <= x15_1
    ·rw [if_pos c8] at H
     have c8b0 : decide (0 <= x15_1) = true := decide_eq_true c8
     clear c8
     by_cases c9 : x15_1 < (t193.length : Int)
     ·rw [if_pos c9] at H
      have c9b0 : decide (x15_1 < (t193.length : Int)) = true := decide_eq_true c9
      clear c9
      replace H := Option.bind_eq_some_iff.mp H
      obtain ⟨⟨t197, t198, t199⟩, A100, H⟩ := H
      replace H : (if t197.toList = ([119, 97, 110, 116] : List UInt8) then (if x193000_1.length < 8796093022208 then (hello_Asked.l0 k1 l0 t193 (t193.length : Int) (wrap64 (x15_1 + 1)) (x193000_1 ++ [t198]) x193001_1) else (none)) else (if t197.toList = ([104, 97, 118, 101] : List UInt8) then (if x193001_1.length < 8796093022208 then (hello_Asked.l0 k1 l0 t193 (t193.length : Int) (wrap64 (x15_1 + 1)) x193000_1 (x193001_1 ++ [t198])) else (none)) else (hello_Asked.l0 k1 l0 t193 (t193.length : Int) (wrap64 (x15_1 + 1)) x193000_1 x193001_1))) = some (r1, r2, r3) := H
      have A10 := Asd.mk A100
      clear A100
      by_cases c11 : t197.toList = ([119, 97, 110, 116] : List UInt8)
      ·rw [if_pos c11] at H
       have c11b0 : (t197.toList == ([119, 97, 110, 116] : List UInt8)) = true := beq_iff_eq.mpr c11
       have c11b1 : (t197.toList != ([119, 97, 110, 116] : List UInt8)) = false := bne_eq_false_iff_eq.mpr c11
       clear c11
       by_cases c12 : x193000_1.length < 8796093022208
       ·rw [if_pos c12] at H
        have LMc12 := Asd.mk c12
        clear c12
        obtain ⟨y200, hy200⟩ : ∃ y_ : List ByteArray, y_ = (x193000_1 ++ [t198]) := ⟨_, rfl⟩
        replace H : (hello_Asked.l0 k1 l0 t193 (t193.length : Int) (wrap64 (x15_1 + 1)) y200 x193001_1) = some (r1, r2, r3) := by first | (rw [hy200]; with_reducible exact H) | (have H2_ := (Option.bind_some _ _).symm.trans H; rw [hy200]; with_reducible exact H2_) | (have H2_ := (Option.bind_some _ _).symm.trans H; with_reducible exact H2_) | with_reducible exact H | (rw [hy200]; exact H) | exact H
        have Ny200 := Asd.mk hy200
        clear hy200
        have H' := Asd.mk H
        clear H
        have p196 : 0 <= (x15_1 : Int) := of_decide_eq_true (by first | (with_reducible assumption) | assumption)
        have q196 : x15_1 < (t193.length : Int) := of_decide_eq_true (by first | (with_reducible assumption) | assumption)
        obtain ⟨ad196, e196, hx196_0⟩ := Kd.at_string (Kd.R_reads' HO_13.out).2.2 x15_1 p196 q196
        cases e196
        replace p196 := eq_true p196
        replace q196 := eq_true q196
        go_wp2_with (first | ((with_reducible refine gate_callee (f := 48) rfl ?_); refine goesL_ (some 21) rfl rfl Tryd.func48 (by kernel_rfl) rfl #[.string (rdOf ByteArray.empty t193 x15_1), .string (⟨#[32]⟩ : ByteArray)] rfl (by (try simp only [List.map_toArray, List.map_cons, List.map_nil]); first | done | rfl | (simp only [List.length_drop, List.length_take]; rfl)) ?_; (with_reducible refine (strings_Cut.calls (rdOf ByteArray.empty t193 x15_1) (⟨#[32]⟩ : ByteArray) t197 t198 t199 _ A10.out).mono ?_); rintro e w' ⟨rfl, ⟨nd, rfl⟩⟩; refine ⟨_, rfl, ?_⟩; (try (rw [drewN_self wr]; generalize hq_ : World.drewN wr _ = wr; have n0_ : Asd (Kd.R Kd.string 9 wr w.heap.size (fun k_ => some k_ ≠ (u193000 : Value).ownBlock /\ some k_ ≠ (u193001 : Value).ownBlock) (.slice (some ad196) t193.length co6) t193) := ⟨by rw [<- hq_]; exact (by (with_reducible repeat (first | apply Kd.R_alloc | apply Kd.R_drewN | apply Kd.R_drew)); exact HO_13.out)⟩; have n1_ : Asd (Kd.R Kd.string 9 wr w.heap.size (fun k_ => some k_ ≠ (.slice (some ad196) t193.length co6 : Value).ownBlock /\ some k_ ≠ (u193001 : Value).ownBlock) u193000 x193000_1) := ⟨by rw [<- hq_]; exact (by (with_reducible repeat (first | apply Kd.R_alloc | apply Kd.R_drewN | apply Kd.R_drew)); exact HO_193000.out)⟩; have n2_ : Asd (Kd.R Kd.string 9 wr w.heap.size (fun k_ => some k_ ≠ (.slice (some ad196) t193.length co6 : Value).ownBlock /\ some k_ ≠ (u193000 : Value).ownBlock) u193001 x193001_1) := ⟨by rw [<- hq_]; exact (by (with_reducible repeat (first | apply Kd.R_alloc | apply Kd.R_drewN | apply Kd.R_drew)); exact HO_193001.out)⟩; have n3_ : Asd (wr.heap[gb191]? = some (.cells #[.slice none 0 0, .slice none 0 0] 25 (0, 0))) := ⟨by rw [<- hq_]; exact (by (with_reducible repeat (first | refine blk_drewN ?_ _ | refine blk_drew ?_ | refine blk_alloc ?_ _)); exact BK191.out)⟩; have n4_ : Asd (wr.heap[gb192]? = some (.cells #[u193000, u193001] 25 (0, 0))) := ⟨by rw [<- hq_]; exact (by (with_reducible repeat (first | refine blk_drewN ?_ _ | refine blk_drew ?_ | refine blk_alloc ?_ _)); exact BK192.out)⟩; have n5_ : Asd (Below w.heap.size w wr) := ⟨by rw [<- hq_]; exact (by repeat (first | (with_reducible first | exact HB.out | apply bal | apply pbN | apply bd1 | refine below_set ?_ GE191.out | refine below_set ?_ GE192.out) | exact HB.out))⟩; clear HO_13 HO_193000 HO_193001 BK191 BK192 HB hq_; have HO_13 := n0_; have HO_193000 := n1_; have HO_193001 := n2_; have BK191 := n3_; have BK192 := n4_; have HB := n5_; clear n0_ n1_ n2_ n3_ n4_ n5_)); have hnb13 := NB192_191.out; have hnc13 := NB191_192.out; have hcz14_0 : wr.cell? ⟨gb192, 0, none⟩ = some (u193000) := (blk_cell BK192.out 0).trans rfl; have hcz14_1 : wr.cell? ⟨gb192, 1, none⟩ = some (u193001) := (blk_cell BK192.out 1).trans rfl; have hfz14_0 := blk_frozen BK192.out 0; have hfz14_1 := blk_frozen BK192.out 1) | ((with_reducible refine gate_builtin (b := .append) (xs := #[.tmp 29, .tmp 31]) rfl ?_); at_builtin; refine Kd.R_append Kd.string (w0 := w) w.heap.size rfl (.tmp 29) (.tmp 31) 23 9 (.string ⟨#[]⟩) 16 rfl Tryd.underlying23 info9 rfl (by decide) (by omega) u193000 x193000_1 t198 [.string t198] (fun k_ => some k_ ≠ (.slice (some ad196) t193.length co6 : Value).ownBlock /\ some k_ ≠ (u193001 : Value).ownBlock) (fun _ => False) rfl rfl ?aP (fun _ hk => hk.elim) ?aF ?aO ?aB ?aS ?aL ?_; (case aP => exact rfl); (case aB => exact (by repeat (first | (with_reducible first | exact HB.out | apply bal | apply pbN | apply bd1 | refine below_set ?_ GE191.out | refine below_set ?_ GE192.out) | exact HB.out))); (case aF => exact (fun k_ hk => ⟨Kd.fresh' (Kd.R_lt (by (with_reducible repeat (first | apply Kd.R_alloc | apply Kd.R_drewN | apply Kd.R_drew)); exact HO_13.out)) k_ hk, Kd.fresh' (Kd.R_lt (by (with_reducible repeat (first | apply Kd.R_alloc | apply Kd.R_drewN | apply Kd.R_drew)); exact HO_193001.out)) k_ hk⟩)); (case aO => exact (by (with_reducible repeat (first | apply Kd.R_alloc | apply Kd.R_drewN | apply Kd.R_drew)); exact HO_193000.out)); (case aS => exact (below_size (by repeat (first | (with_reducible first | exact HB.out | apply bal | apply pbN | apply bd1 | refine below_set ?_ GE191.out | refine below_set ?_ GE192.out) | exact HB.out)))); (case aL => have := LMc12.out; omega); intro v201 w15 ho hb hg hat; rw [<- Ny200.out] at ho; have n0_ := Asd.mk (Kd.R_after (ok := (fun k_ => some k_ ≠ (u193001 : Value).ownBlock)) (by (with_reducible repeat (first | apply Kd.R_alloc | apply Kd.R_drewN | apply Kd.R_drew)); exact Kd.R_mono HO_13.out (fun _ hk => ⟨hk.2, hk.1⟩)) hg hat); have n1_ := Asd.mk (Kd.R_after (ok := (fun k_ => some k_ ≠ (.slice (some ad196) t193.length co6 : Value).ownBlock)) (by (with_reducible repeat (first | apply Kd.R_alloc | apply Kd.R_drewN | apply Kd.R_drew)); exact HO_193001.out) hg hat); have n2_ := Asd.mk (blk_grown (g := gb191) (o := .cells #[.slice none 0 0, .slice none 0 0] 25 (0, 0)) (by (with_reducible repeat (first | refine blk_drewN ?_ _ | refine blk_drew ?_ | refine blk_alloc ?_ _)); exact BK191.out) hg (Kd.R_ne HO_193000.out BK191.out (by decide))); have n3_ := Asd.mk (blk_grown (g := gb192) (o := .cells #[u193000, u193001] 25 (0, 0)) (by (with_reducible repeat (first | refine blk_drewN ?_ _ | refine blk_drew ?_ | refine blk_alloc ?_ _)); exact BK192.out) hg (Kd.R_ne HO_193000.out BK192.out (by decide))); have n4_ := Asd.mk (hb); have n5_ := Asd.mk (ho); clear HO_13; clear HO_193001; clear BK191; clear BK192; clear HB; clear HO_193000; have HO_13 := n0_; have HO_193001 := n1_; have BK191 := n2_; have BK192 := n3_; have HB := n4_; have HO202 := n5_; clear n0_ n1_ n2_ n3_ n4_ n5_; clear ho hb hg hat; obtain ⟨Ao16, co16, eo16⟩ := Kd.R_slice HO202.out; subst eo16; have hcz17_0 : w15.cell? ⟨gb192, 0, none⟩ = some (u193000) := (blk_cell BK192.out 0).trans rfl; have hcz17_1 : w15.cell? ⟨gb192, 1, none⟩ = some (u193001) := (blk_cell BK192.out 1).trans rfl; have hfz17_0 := blk_frozen BK192.out 0; have hfz17_1 := blk_frozen BK192.out 1))
        go_roundg k1
        case measure => have := HK1.out; omega
        case rel => exact ⟨(wrap64 (x15_1 + 1)), (y200), (x193001_1), (.slice Ao16 y200.length co16), (u193001), (by first | rfl | (simp; done) | (simp [*]; done)), H', ⟨by have := HK1.out; omega⟩, ⟨by (with_reducible repeat (first | apply Kd.R_alloc | apply Kd.R_drewN | apply Kd.R_drew)); exact Kd.R_mono (Kd.R_far (p := ⟨gb192, 0, none⟩) (Kd.R_types HO_13.out BK192.out (by decide)) (fun _ hk => hk.2) (.slice Ao16 y200.length co16)) (fun _ hk => ⟨hk.1.2, hk.1.1⟩)⟩, ⟨by (with_reducible repeat (first | apply Kd.R_alloc | apply Kd.R_drewN | apply Kd.R_drew)); exact Kd.R_mono (Kd.R_far (p := ⟨gb192, 0, none⟩) (Kd.R_types HO202.out BK192.out (by decide)) (fun _ hk => hk.2) (.slice Ao16 y200.length co16)) (fun _ hk => ⟨hk.1.1, hk.1.2⟩)⟩, ⟨by (with_reducible repeat (first | apply Kd.R_alloc | apply Kd.R_drewN | apply Kd.R_drew)); exact Kd.R_mono (Kd.R_far (p := ⟨gb192, 0, none⟩) (Kd.R_types HO_193001.out BK192.out (by decide)) (fun _ hk => hk.2) (.slice Ao16 y200.length co16)) (fun _ hk => ⟨hk.1.1, hk.1.2⟩)⟩, ⟨by (with_reducible repeat (first | refine blk_drewN ?_ _ | refine blk_drew ?_ | refine blk_alloc ?_ _)); refine blk_far ?_ NB191_192.out _; (with_reducible repeat (first | refine blk_drewN ?_ _ | refine blk_drew ?_ | refine blk_alloc ?_ _)); exact BK191.out⟩, ⟨by (with_reducible repeat (first | refine blk_drewN ?_ _ | refine blk_drew ?_ | refine blk_alloc ?_ _)); refine blk_put (cs := #[u193000, u193001]) ?_ 0 _ rfl; (with_reducible repeat (first | refine blk_drewN ?_ _ | refine blk_drew ?_ | refine blk_alloc ?_ _)); exact BK192.out⟩, ⟨by repeat (first | (with_reducible first | exact HB.out | apply bal | apply pbN | apply bd1 | refine below_set ?_ GE191.out | refine below_set ?_ GE192.out) | exact HB.out)⟩⟩
       ·rw [if_neg c12] at H
        exact absurd H (by simp)
      ·rw [if_neg c11] at H
       have c11b0 : (t197.toList == ([119, 97, 110, 116] : List UInt8)) = false := beq_eq_false_iff_ne.mpr c11
       have c11b1 : (t197.toList != ([119, 97, 110, 116] : List UInt8)) = true := bne_iff_ne.mpr c11
       by_cases c18 : t197.toList = ([104, 97, 118, 101] : List UInt8)
       ·rw [if_pos c18] at H
        have c18b0 : (t197.toList == ([104, 97, 118, 101] : List UInt8)) = true := beq_iff_eq.mpr c18
        have c18b1 : (t197.toList != ([104, 97, 118, 101] : List UInt8)) = false := bne_eq_false_iff_eq.mpr c18
        clear c18
        by_cases c19 : x193001_1.length < 8796093022208
        ·rw [if_pos c19] at H
         have LMc19 := Asd.mk c19
         clear c19
         obtain ⟨y203, hy203⟩ : ∃ y_ : List ByteArray, y_ = (x193001_1 ++ [t198]) := ⟨_, rfl⟩
         replace H : (hello_Asked.l0 k1 l0 t193 (t193.length : Int) (wrap64 (x15_1 + 1)) x193000_1 y203) = some (r1, r2, r3) := by first | (rw [hy203]; with_reducible exact H) | (have H2_ := (Option.bind_some _ _).symm.trans H; rw [hy203]; with_reducible exact H2_) | (have H2_ := (Option.bind_some _ _).symm.trans H; with_reducible exact H2_) | with_reducible exact H | (rw [hy203]; exact H) | exact H
         have Ny203 := Asd.mk hy203
         clear hy203
         have H' := Asd.mk H
         clear H
         have p196 : 0 <= (x15_1 : Int) := of_decide_eq_true (by first | (with_reducible assumption) | assumption)
         have q196 : x15_1 < (t193.length : Int) := of_decide_eq_true (by first | (with_reducible assumption) | assumption)
         obtain ⟨ad196, e196, hx196_0⟩ := Kd.at_string (Kd.R_reads' HO_13.out).2.2 x15_1 p196 q196
         cases e196
         replace p196 := eq_true p196
         replace q196 := eq_true q196
         go_wp2_with (first | ((with_reducible refine gate_callee (f := 48) rfl ?_); refine goesL_ (some 21) rfl rfl Tryd.func48 (by kernel_rfl) rfl #[.string (rdOf ByteArray.empty t193 x15_1), .string (⟨#[32]⟩ : ByteArray)] rfl (by (try simp only [List.map_toArray, List.map_cons, List.map_nil]); first | done | rfl | (simp only [List.length_drop, List.length_take]; rfl)) ?_; (with_reducible refine (strings_Cut.calls (rdOf ByteArray.empty t193 x15_1) (⟨#[32]⟩ : ByteArray) t197 t198 t199 _ A10.out).mono ?_); rintro e w' ⟨rfl, ⟨nd, rfl⟩⟩; refine ⟨_, rfl, ?_⟩; (try (rw [drewN_self wr]; generalize hq_ : World.drewN wr _ = wr; have n0_ : Asd (Kd.R Kd.string 9 wr w.heap.size (fun k_ => some k_ ≠ (u193000 : Value).ownBlock /\ some k_ ≠ (u193001 : Value).ownBlock) (.slice (some ad196) t193.length co6) t193) := ⟨by rw [<- hq_]; exact (by (with_reducible repeat (first | apply Kd.R_alloc | apply Kd.R_drewN | apply Kd.R_drew)); exact HO_13.out)⟩; have n1_ : Asd (Kd.R Kd.string 9 wr w.heap.size (fun k_ => some k_ ≠ (.slice (some ad196) t193.length co6 : Value).ownBlock /\ some k_ ≠ (u193001 : Value).ownBlock) u193000 x193000_1) := ⟨by rw [<- hq_]; exact (by (with_reducible repeat (first | apply Kd.R_alloc | apply Kd.R_drewN | apply Kd.R_drew)); exact HO_193000.out)⟩; have n2_ : Asd (Kd.R Kd.string 9 wr w.heap.size (fun k_ => some k_ ≠ (.slice (some ad196) t193.length co6 : Value).ownBlock /\ some k_ ≠ (u193000 : Value).ownBlock) u193001 x193001_1) := ⟨by rw [<- hq_]; exact (by (with_reducible repeat (first | apply Kd.R_alloc | apply Kd.R_drewN | apply Kd.R_drew)); exact HO_193001.out)⟩; have n3_ : Asd (wr.heap[gb191]? = some (.cells #[.slice none 0 0, .slice none 0 0] 25 (0, 0))) := ⟨by rw [<- hq_]; exact (by (with_reducible repeat (first | refine blk_drewN ?_ _ | refine blk_drew ?_ | refine blk_alloc ?_ _)); exact BK191.out)⟩; have n4_ : Asd (wr.heap[gb192]? = some (.cells #[u193000, u193001] 25 (0, 0))) := ⟨by rw [<- hq_]; exact (by (with_reducible repeat (first | refine blk_drewN ?_ _ | refine blk_drew ?_ | refine blk_alloc ?_ _)); exact BK192.out)⟩; have n5_ : Asd (Below w.heap.size w wr) := ⟨by rw [<- hq_]; exact (by repeat (first | (with_reducible first | exact HB.out | apply bal | apply pbN | apply bd1 | refine below_set ?_ GE191.out | refine below_set ?_ GE192.out) | exact HB.out))⟩; clear HO_13 HO_193000 HO_193001 BK191 BK192 HB hq_; have HO_13 := n0_; have HO_193000 := n1_; have HO_193001 := n2_; have BK191 := n3_; have BK192 := n4_; have HB := n5_; clear n0_ n1_ n2_ n3_ n4_ n5_)); have hnb20 := NB192_191.out; have hnc20 := NB191_192.out; have hcz21_0 : wr.cell? ⟨gb192, 0, none⟩ = some (u193000) := (blk_cell BK192.out 0).trans rfl; have hcz21_1 : wr.cell? ⟨gb192, 1, none⟩ = some (u193001) := (blk_cell BK192.out 1).trans rfl; have hfz21_0 := blk_frozen BK192.out 0; have hfz21_1 := blk_frozen BK192.out 1) | ((with_reducible refine gate_builtin (b := .append) (xs := #[.tmp 37, .tmp 39]) rfl ?_); at_builtin; refine Kd.R_append Kd.string (w0 := w) w.heap.size rfl (.tmp 37) (.tmp 39) 23 9 (.string ⟨#[]⟩) 16 rfl Tryd.underlying23 info9 rfl (by decide) (by omega) u193001 x193001_1 t198 [.string t198] (fun k_ => some k_ ≠ (.slice (some ad196) t193.length co6 : Value).ownBlock /\ some k_ ≠ (u193000 : Value).ownBlock) (fun _ => False) rfl rfl ?aP (fun _ hk => hk.elim) ?aF ?aO ?aB ?aS ?aL ?_; (case aP => exact rfl); (case aB => exact (by repeat (first | (with_reducible first | exact HB.out | apply bal | apply pbN | apply bd1 | refine below_set ?_ GE191.out | refine below_set ?_ GE192.out) | exact HB.out))); (case aF => exact (fun k_ hk => ⟨Kd.fresh' (Kd.R_lt (by (with_reducible repeat (first | apply Kd.R_alloc | apply Kd.R_drewN | apply Kd.R_drew)); exact HO_13.out)) k_ hk, Kd.fresh' (Kd.R_lt (by (with_reducible repeat (first | apply Kd.R_alloc | apply Kd.R_drewN | apply Kd.R_drew)); exact HO_193000.out)) k_ hk⟩)); (case aO => exact (by (with_reducible repeat (first | apply Kd.R_alloc | apply Kd.R_drewN | apply Kd.R_drew)); exact HO_193001.out)); (case aS => exact (below_size (by repeat (first | (with_reducible first | exact HB.out | apply bal | apply pbN | apply bd1 | refine below_set ?_ GE191.out | refine below_set ?_ GE192.out) | exact HB.out)))); (case aL => have := LMc19.out; omega); intro v204 w22 ho hb hg hat; rw [<- Ny203.out] at ho; have n0_ := Asd.mk (Kd.R_after (ok := (fun k_ => some k_ ≠ (u193000 : Value).ownBlock)) (by (with_reducible repeat (first | apply Kd.R_alloc | apply Kd.R_drewN | apply Kd.R_drew)); exact HO_13.out) hg hat); have n1_ := Asd.mk (Kd.R_after (ok := (fun k_ => some k_ ≠ (.slice (some ad196) t193.length co6 : Value).ownBlock)) (by (with_reducible repeat (first | apply Kd.R_alloc | apply Kd.R_drewN | apply Kd.R_drew)); exact HO_193000.out) hg hat); have n2_ := Asd.mk (blk_grown (g := gb191) (o := .cells #[.slice none 0 0, .slice none 0 0] 25 (0, 0)) (by (with_reducible repeat (first | refine blk_drewN ?_ _ | refine blk_drew ?_ | refine blk_alloc ?_ _)); exact BK191.out) hg (Kd.R_ne HO_193001.out BK191.out (by decide))); have n3_ := Asd.mk (blk_grown (g := gb192) (o := .cells #[u193000, u193001] 25 (0, 0)) (by (with_reducible repeat (first | refine blk_drewN ?_ _ | refine blk_drew ?_ | refine blk_alloc ?_ _)); exact BK192.out) hg (Kd.R_ne HO_193001.out BK192.out (by decide))); have n4_ := Asd.mk (hb); have n5_ := Asd.mk (ho); clear HO_13; clear HO_193000; clear BK191; clear BK192; clear HB; clear HO_193001; have HO_13 := n0_; have HO_193000 := n1_; have BK191 := n2_; have BK192 := n3_; have HB := n4_; have HO205 := n5_; clear n0_ n1_ n2_ n3_ n4_ n5_; clear ho hb hg hat; obtain ⟨Ao23, co23, eo23⟩ := Kd.R_slice HO205.out; subst eo23; have hcz24_0 : w22.cell? ⟨gb192, 0, none⟩ = some (u193000) := (blk_cell BK192.out 0).trans rfl; have hcz24_1 : w22.cell? ⟨gb192, 1, none⟩ = some (u193001) := (blk_cell BK192.out 1).trans rfl; have hfz24_0 := blk_frozen BK192.out 0; have hfz24_1 := blk_frozen BK192.out 1))
         go_roundg k1
         case measure => have := HK1.out; omega
         case rel => exact ⟨(wrap64 (x15_1 + 1)), (x193000_1), (y203), (u193000), (.slice Ao23 y203.length co23), (by first | rfl | (simp; done) | (simp [*]; done)), H', ⟨by have := HK1.out; omega⟩, ⟨by (with_reducible repeat (first | apply Kd.R_alloc | apply Kd.R_drewN | apply Kd.R_drew)); exact Kd.R_mono (Kd.R_far (p := ⟨gb192, 1, none⟩) (Kd.R_types HO_13.out BK192.out (by decide)) (fun _ hk => hk.2) (.slice Ao23 y203.length co23)) (fun _ hk => ⟨hk.1.1, hk.1.2⟩)⟩, ⟨by (with_reducible repeat (first | apply Kd.R_alloc | apply Kd.R_drewN | apply Kd.R_drew)); exact Kd.R_mono (Kd.R_far (p := ⟨gb192, 1, none⟩) (Kd.R_types HO_193000.out BK192.out (by decide)) (fun _ hk => hk.2) (.slice Ao23 y203.length co23)) (fun _ hk => ⟨hk.1.1, hk.1.2⟩)⟩, ⟨by (with_reducible repeat (first | apply Kd.R_alloc | apply Kd.R_drewN | apply Kd.R_drew)); exact Kd.R_mono (Kd.R_far (p := ⟨gb192, 1, none⟩) (Kd.R_types HO205.out BK192.out (by decide)) (fun _ hk => hk.2) (.slice Ao23 y203.length co23)) (fun _ hk => ⟨hk.1.1, hk.1.2⟩)⟩, ⟨by (with_reducible repeat (first | refine blk_drewN ?_ _ | refine blk_drew ?_ | refine blk_alloc ?_ _)); refine blk_far ?_ NB191_192.out _; (with_reducible repeat (first | refine blk_drewN ?_ _ | refine blk_drew ?_ | refine blk_alloc ?_ _)); exact BK191.out⟩, ⟨by (with_reducible repeat (first | refine blk_drewN ?_ _ | refine blk_drew ?_ | refine blk_alloc ?_ _)); refine blk_put (cs := #[u193000, u193001]) ?_ 1 _ rfl; (with_reducible repeat (first | refine blk_drewN ?_ _ | refine blk_drew ?_ | refine blk_alloc ?_ _)); exact BK192.out⟩, ⟨by repeat (first | (with_reducible first | exact HB.out | apply bal | apply pbN | apply bd1 | refine below_set ?_ GE191.out | refine below_set ?_ GE192.out) | exact HB.out)⟩⟩
        ·rw [if_neg c19] at H
         exact absurd H (by simp)
       ·rw [if_neg c18] at H
        have c18b0 : (t197.toList == ([104, 97, 118, 101] : List UInt8)) = false := beq_eq_false_iff_ne.mpr c18
        have c18b1 : (t197.toList != ([104, 97, 118, 101] : List UInt8)) = true := bne_iff_ne.mpr c18
        have H' := Asd.mk H
        clear H
        have p196 : 0 <= (x15_1 : Int) := of_decide_eq_true (by first | (with_reducible assumption) | assumption)
        have q196 : x15_1 < (t193.length : Int) := of_decide_eq_true (by first | (with_reducible assumption) | assumption)
        obtain ⟨ad196, e196, hx196_0⟩ := Kd.at_string (Kd.R_reads' HO_13.out).2.2 x15_1 p196 q196
        cases e196
        replace p196 := eq_true p196
        replace q196 := eq_true q196
        go_wp2_with (first | ((with_reducible refine gate_callee (f := 48) rfl ?_); refine goesL_ (some 21) rfl rfl Tryd.func48 (by kernel_rfl) rfl #[.string (rdOf ByteArray.empty t193 x15_1), .string (⟨#[32]⟩ : ByteArray)] rfl (by (try simp only [List.map_toArray, List.map_cons, List.map_nil]); first | done | rfl | (simp only [List.length_drop, List.length_take]; rfl)) ?_; (with_reducible refine (strings_Cut.calls (rdOf ByteArray.empty t193 x15_1) (⟨#[32]⟩ : ByteArray) t197 t198 t199 _ A10.out).mono ?_); rintro e w' ⟨rfl, ⟨nd, rfl⟩⟩; refine ⟨_, rfl, ?_⟩))
        go_roundg k1
        case measure => have := HK1.out; omega
        case rel => exact ⟨(wrap64 (x15_1 + 1)), (x193000_1), (x193001_1), (u193000), (u193001), (by first | rfl | (simp; done) | (simp [*]; done)), H', ⟨by have := HK1.out; omega⟩, ⟨by (with_reducible repeat (first | apply Kd.R_alloc | apply Kd.R_drewN | apply Kd.R_drew)); exact HO_13.out⟩, ⟨by (with_reducible repeat (first | apply Kd.R_alloc | apply Kd.R_drewN | apply Kd.R_drew)); exact HO_193000.out⟩, ⟨by (with_reducible repeat (first | apply Kd.R_alloc | apply Kd.R_drewN | apply Kd.R_drew)); exact HO_193001.out⟩, ⟨by (with_reducible repeat (first | refine blk_drewN ?_ _ | refine blk_drew ?_ | refine blk_alloc ?_ _)); exact BK191.out⟩, ⟨by (with_reducible repeat (first | refine blk_drewN ?_ _ | refine blk_drew ?_ | refine blk_alloc ?_ _)); exact BK192.out⟩, ⟨by repeat (first | (with_reducible first | exact HB.out | apply bal | apply pbN | apply bd1 | refine below_set ?_ GE191.out | refine below_set ?_ GE192.out) | exact HB.out)⟩⟩
     ·rw [if_neg c9] at H
      exact absurd H (by simp)
    ·rw [if_neg c8] at H
     exact absurd H (by simp)
   ·rw [if_neg c7] at H
    have c7b0 : decide (x15_1 < (t193.length : Int)) = false := decide_eq_false c7
    clear c7
    replace H := Option.bind_eq_some_iff.mp H
    obtain ⟨⟨t206, t209⟩, A250, H⟩ := H
    replace H : ((hello_again.f k1 t206 t209 l0).bind fun t210 => (if t210 = true then (some (x193000_1, x193001_1, true)) else (some (([] : List ByteArray), ([] : List ByteArray), false)))) = some (r1, r2, r3) := H
    have A25 := Asd.mk A250
    clear A250
    replace H := Option.bind_eq_some_iff.mp H
    obtain ⟨t210, A260, H⟩ := H
    replace H : (if t210 = true then (some (x193000_1, x193001_1, true)) else (some (([] : List ByteArray), ([] : List ByteArray), false))) = some (r1, r2, r3) := H
    have A26 := Asd.mk A260
    clear A260
    by_cases c27 : t210 = true
    ·subst c27
     have H1 : (some (x193000_1, x193001_1, true)) = some (r1, r2, r3) := by rw [if_pos rfl] at H; exact H
     clear H
     have H := H1
     clear H1
     simp only [Option.some.injEq, Prod.mk.injEq] at H
     obtain ⟨rfl, rfl, rfl⟩ := H
     have hnb28 := NB192_191.out
     have hnc28 := NB191_192.out
     have hcz29_0 : wr.cell? ⟨gb192, 0, none⟩ = some (u193000) := (blk_cell BK192.out 0).trans rfl
     have hcz29_1 : wr.cell? ⟨gb192, 1, none⟩ = some (u193001) := (blk_cell BK192.out 1).trans rfl
     have hfz29_0 := blk_frozen BK192.out 0
     have hfz29_1 := blk_frozen BK192.out 1
     obtain ⟨Ao30, co30, eo30⟩ := Kd.R_slice HO_193000.out
     subst eo30
     obtain ⟨Ao31, co31, eo31⟩ := Kd.R_slice HO_193001.out
     subst eo31
     go_wp2_with (first | ((with_reducible refine gate_callee (f := 15) rfl ?_); refine goesL_ (some 45) rfl rfl Tryd.func15 (by kernel_rfl) rfl #[.agg #[.slice Ao30 x193000_1.length co30, .slice Ao31 x193001_1.length co31]] rfl (by (try simp only [List.map_toArray, List.map_cons, List.map_nil]); first | done | rfl | (simp only [List.length_drop, List.length_take]; rfl)) ?_; (with_reducible refine (hello_Ask.calls k1 _ _ x193000_1 _ _ x193001_1 t206 t209 _ ?side1 ?side2 ?side3 ?side4 A25.out).mono ?_); (case side1 => repeat (first | exact (Kd.R_reads' HO_193000.out).2.2 | (with_reducible refine Kd.C_alloc ?_ _) | (with_reducible refine Kd.C_drewN ?_ _) | (with_reducible refine Kd.C_drew ?_))); (case side2 => exact (Kd.R_reads' HO_193000.out).2.1); (case side3 => repeat (first | exact (Kd.R_reads' HO_193001.out).2.2 | (with_reducible refine Kd.C_alloc ?_ _) | (with_reducible refine Kd.C_drewN ?_ _) | (with_reducible refine Kd.C_drew ?_))); (case side4 => exact (Kd.R_reads' HO_193001.out).2.1); rintro e w32 ⟨v207, rfl, ho0, hb⟩; refine ⟨_, rfl, ?_⟩; have n0_ := Asd.mk (Kd.R_below (by (with_reducible repeat (first | apply Kd.R_alloc | apply Kd.R_drewN | apply Kd.R_drew)); exact HO_13.out) hb); have n1_ := Asd.mk (Kd.R_below (by (with_reducible repeat (first | apply Kd.R_alloc | apply Kd.R_drewN | apply Kd.R_drew)); exact HO_193000.out) hb); have n2_ := Asd.mk (Kd.R_below (by (with_reducible repeat (first | apply Kd.R_alloc | apply Kd.R_drewN | apply Kd.R_drew)); exact HO_193001.out) hb); have n3_ := Asd.mk (Kd.R_lower ho0 (below_size (by repeat (first | (with_reducible first | exact HB.out | apply bal | apply pbN | apply bd1 | refine below_set ?_ GE191.out | refine below_set ?_ GE192.out) | exact HB.out)))); have n4_ := Asd.mk (blk_below (g := gb191) (o := .cells #[.slice none 0 0, .slice none 0 0] 25 (0, 0)) (by (with_reducible repeat (first | refine blk_drewN ?_ _ | refine blk_drew ?_ | refine blk_alloc ?_ _)); exact BK191.out) hb); have n5_ := Asd.mk (blk_below (g := gb192) (o := .cells #[.slice Ao30 x193000_1.length co30, .slice Ao31 x193001_1.length co31] 25 (0, 0)) (by (with_reducible repeat (first | refine blk_drewN ?_ _ | refine blk_drew ?_ | refine blk_alloc ?_ _)); exact BK192.out) hb); have n6_ := Asd.mk (below_step (by repeat (first | (with_reducible first | exact HB.out | apply bal | apply pbN | apply bd1 | refine below_set ?_ GE191.out | refine below_set ?_ GE192.out) | exact HB.out)) hb); clear HO_13; clear HO_193000; clear HO_193001; clear BK191; clear BK192; clear HB; have HO_13 := n0_; have HO_193000 := n1_; have HO_193001 := n2_; have HO208 := n3_; have BK191 := n4_; have BK192 := n5_; have HB := n6_; clear n0_ n1_ n2_ n3_ n4_ n5_ n6_; (try clear hb); (try clear hb2); (try clear hk); (try clear hi); (try clear ho0); obtain ⟨Ao33, co33, eo33⟩ := Kd.R_slice HO208.out; subst eo33) | ((with_reducible refine gate_callee (f := 49) rfl ?_); refine goesL_ (some 51) rfl rfl Tryd.func49 (by kernel_rfl) rfl #[.slice Ao33 t206.length co33, .bool t209, .slice A0 l0.length c0] rfl (by (try simp only [List.map_toArray, List.map_cons, List.map_nil]); first | done | rfl | (simp only [List.length_drop, List.length_take]; rfl)) ?_; (with_reducible refine (hello_again.calls k1 _ _ t206 t209 _ _ l0 true _ ?side1 ?side2 ?side3 ?side4 A26.out).mono ?_); (case side1 => repeat (first | exact (Kd.R_reads' HO208.out).2.2 | (with_reducible refine Kd.C_alloc ?_ _) | (with_reducible refine Kd.C_drewN ?_ _) | (with_reducible refine Kd.C_drew ?_))); (case side2 => exact (Kd.R_reads' HO208.out).2.1); (case side3 => repeat (first | exact (Kd.C_below HR0.out HB.out) | (with_reducible refine Kd.C_alloc ?_ _) | (with_reducible refine Kd.C_drewN ?_ _) | (with_reducible refine Kd.C_drew ?_))); (case side4 => exact HC0.out); rintro e w' ⟨rfl, ⟨nd, rfl⟩⟩; refine ⟨_, rfl, ?_⟩; (try (rw [drewN_self w32]; generalize hq_ : World.drewN w32 _ = w32; have n0_ : Asd (Kd.R k49 49 w32 w.heap.size (fun _ => True) (.slice Ao33 t206.length co33) t206) := ⟨by rw [<- hq_]; exact (by (with_reducible repeat (first | apply Kd.R_alloc | apply Kd.R_drewN | apply Kd.R_drew)); exact HO208.out)⟩; have n1_ : Asd (Kd.R Kd.string 9 w32 w.heap.size (fun k_ => some k_ ≠ (.slice Ao30 x193000_1.length co30 : Value).ownBlock /\ some k_ ≠ (.slice Ao31 x193001_1.length co31 : Value).ownBlock) (.slice Ao6 t193.length co6) t193) := ⟨by rw [<- hq_]; exact (by (with_reducible repeat (first | apply Kd.R_alloc | apply Kd.R_drewN | apply Kd.R_drew)); exact HO_13.out)⟩; have n2_ : Asd (Kd.R Kd.string 9 w32 w.heap.size (fun k_ => some k_ ≠ (.slice Ao6 t193.length co6 : Value).ownBlock /\ some k_ ≠ (.slice Ao31 x193001_1.length co31 : Value).ownBlock) (.slice Ao30 x193000_1.length co30) x193000_1) := ⟨by rw [<- hq_]; exact (by (with_reducible repeat (first | apply Kd.R_alloc | apply Kd.R_drewN | apply Kd.R_drew)); exact HO_193000.out)⟩; have n3_ : Asd (Kd.R Kd.string 9 w32 w.heap.size (fun k_ => some k_ ≠ (.slice Ao6 t193.length co6 : Value).ownBlock /\ some k_ ≠ (.slice Ao30 x193000_1.length co30 : Value).ownBlock) (.slice Ao31 x193001_1.length co31) x193001_1) := ⟨by rw [<- hq_]; exact (by (with_reducible repeat (first | apply Kd.R_alloc | apply Kd.R_drewN | apply Kd.R_drew)); exact HO_193001.out)⟩; have n4_ : Asd (w32.heap[gb191]? = some (.cells #[.slice none 0 0, .slice none 0 0] 25 (0, 0))) := ⟨by rw [<- hq_]; exact (by (with_reducible repeat (first | refine blk_drewN ?_ _ | refine blk_drew ?_ | refine blk_alloc ?_ _)); exact BK191.out)⟩; have n5_ : Asd (w32.heap[gb192]? = some (.cells #[.slice Ao30 x193000_1.length co30, .slice Ao31 x193001_1.length co31] 25 (0, 0))) := ⟨by rw [<- hq_]; exact (by (with_reducible repeat (first | refine blk_drewN ?_ _ | refine blk_drew ?_ | refine blk_alloc ?_ _)); exact BK192.out)⟩; have n6_ : Asd (Below w.heap.size w w32) := ⟨by rw [<- hq_]; exact (by repeat (first | (with_reducible first | exact HB.out | apply bal | apply pbN | apply bd1 | refine below_set ?_ GE191.out | refine below_set ?_ GE192.out) | exact HB.out))⟩; clear HO208 HO_13 HO_193000 HO_193001 BK191 BK192 HB hq_; have HO208 := n0_; have HO_13 := n1_; have HO_193000 := n2_; have HO_193001 := n3_; have BK191 := n4_; have BK192 := n5_; have HB := n6_; clear n0_ n1_ n2_ n3_ n4_ n5_ n6_)); have hcz34_0 : w32.cell? ⟨gb192, 0, none⟩ = some (.slice Ao30 x193000_1.length co30) := (blk_cell BK192.out 0).trans rfl; have hcz34_1 : w32.cell? ⟨gb192, 1, none⟩ = some (.slice Ao31 x193001_1.length co31) := (blk_cell BK192.out 1).trans rfl; have hfz34_0 := blk_frozen BK192.out 0; have hfz34_1 := blk_frozen BK192.out 1; have hcz35_0 : w32.cell? ⟨gb191, 0, none⟩ = some (.slice none 0 0) := (blk_cell BK191.out 0).trans rfl; have hcz35_1 : w32.cell? ⟨gb191, 1, none⟩ = some (.slice none 0 0) := (blk_cell BK191.out 1).trans rfl; have hfz35_0 := blk_frozen BK191.out 0; have hfz35_1 := blk_frozen BK191.out 1))
     refine bodyPost_ret (results_ct rfl _ _ gb191 25 #[.slice Ao30 x193000_1.length co30, .slice Ao31 x193001_1.length co31] (0, 0) _ rfl (by (with_reducible repeat (first | refine blk_drewN ?_ _ | refine blk_drew ?_ | refine blk_alloc ?_ _)); refine blk_put (cs := #[.slice Ao30 x193000_1.length co30, .slice none 0 0]) ?_ 1 _ rfl; (with_reducible repeat (first | refine blk_drewN ?_ _ | refine blk_drew ?_ | refine blk_alloc ?_ _)); refine blk_put (cs := #[.slice none 0 0, .slice none 0 0]) ?_ 0 _ rfl; (with_reducible repeat (first | refine blk_drewN ?_ _ | refine blk_drew ?_ | refine blk_alloc ?_ _)); exact BK191.out) Tryd.underlying25 rfl (by kernel_rfl)) rfl ?_
     exact ⟨_, _, by first | rfl | (simp [errW_none, errW_some] <;> rfl) | (simp [*, errW_none, errW_some] <;> rfl), by (with_reducible repeat (first | apply Kd.R_alloc | apply Kd.R_drewN | apply Kd.R_drew)); exact Kd.R_mono (Kd.R_far (p := ⟨gb191, 1, none⟩) (Kd.R_far (p := ⟨gb191, 0, none⟩) (Kd.R_types HO_193000.out BK191.out (by decide)) (fun _ hk => hk.2) (.slice Ao30 x193000_1.length co30)) (fun _ hk => hk.2) (.slice Ao31 x193001_1.length co31)) (fun _ hk => by first | exact hk.1.2 | exact hk.1.1 | exact hk.1.2 | exact hk.1.1.1 | exact hk.1.1.2 | exact hk.1.2.1 | exact hk.1.2.2 | exact hk.2), by (with_reducible repeat (first | apply Kd.R_alloc | apply Kd.R_drewN | apply Kd.R_drew)); exact Kd.R_mono (Kd.R_far (p := ⟨gb191, 1, none⟩) (Kd.R_far (p := ⟨gb191, 0, none⟩) (Kd.R_types HO_193001.out BK191.out (by decide)) (fun _ hk => hk.2) (.slice Ao30 x193000_1.length co30)) (fun _ hk => hk.2) (.slice Ao31 x193001_1.length co31)) (fun _ hk => by first | exact hk.1.2 | exact hk.1.1 | exact hk.1.2 | exact hk.1.1.1 | exact hk.1.1.2 | exact hk.1.2.1 | exact hk.1.2.2 | exact hk.2), by repeat (first | (with_reducible first | exact HB.out | apply bal | apply pbN | apply bd1 | refine below_set ?_ GE191.out | refine below_set ?_ GE192.out) | exact HB.out)⟩
    ·replace c27 := Bool.eq_false_iff.mpr c27
     subst c27
     have H1 : (some (([] : List ByteArray), ([] : List ByteArray), false)) = some (r1, r2, r3) := by rw [if_neg (show ¬ (false = true) by decide)] at H; exact H
     clear H
     have H := H1
     clear H1
     simp only [Option.some.injEq, Prod.mk.injEq] at H
     obtain ⟨rfl, rfl, rfl⟩ := H
     have hnb36 := NB192_191.out
     have hnc36 := NB191_192.out
     have hcz37_0 : wr.cell? ⟨gb192, 0, none⟩ = some (u193000) := (blk_cell BK192.out 0).trans rfl
     have hcz37_1 : wr.cell? ⟨gb192, 1, none⟩ = some (u193001) := (blk_cell BK192.out 1).trans rfl
     have hfz37_0 := blk_frozen BK192.out 0
     have hfz37_1 := blk_frozen BK192.out 1
     obtain ⟨Ao38, co38, eo38⟩ := Kd.R_slice HO_193000.out
     subst eo38
     obtain ⟨Ao39, co39, eo39⟩ := Kd.R_slice HO_193001.out
     subst eo39
     go_wp2_with (first | ((with_reducible refine gate_callee (f := 15) rfl ?_); refine goesL_ (some 45) rfl rfl Tryd.func15 (by kernel_rfl) rfl #[.agg #[.slice Ao38 x193000_1.length co38, .slice Ao39 x193001_1.length co39]] rfl (by (try simp only [List.map_toArray, List.map_cons, List.map_nil]); first | done | rfl | (simp only [List.length_drop, List.length_take]; rfl)) ?_; (with_reducible refine (hello_Ask.calls k1 _ _ x193000_1 _ _ x193001_1 t206 t209 _ ?side1 ?side2 ?side3 ?side4 A25.out).mono ?_); (case side1 => repeat (first | exact (Kd.R_reads' HO_193000.out).2.2 | (with_reducible refine Kd.C_alloc ?_ _) | (with_reducible refine Kd.C_drewN ?_ _) | (with_reducible refine Kd.C_drew ?_))); (case side2 => exact (Kd.R_reads' HO_193000.out).2.1); (case side3 => repeat (first | exact (Kd.R_reads' HO_193001.out).2.2 | (with_reducible refine Kd.C_alloc ?_ _) | (with_reducible refine Kd.C_drewN ?_ _) | (with_reducible refine Kd.C_drew ?_))); (case side4 => exact (Kd.R_reads' HO_193001.out).2.1); rintro e w40 ⟨v207, rfl, ho0, hb⟩; refine ⟨_, rfl, ?_⟩; have n0_ := Asd.mk (Kd.R_below (by (with_reducible repeat (first | apply Kd.R_alloc | apply Kd.R_drewN | apply Kd.R_drew)); exact HO_13.out) hb); have n1_ := Asd.mk (Kd.R_below (by (with_reducible repeat (first | apply Kd.R_alloc | apply Kd.R_drewN | apply Kd.R_drew)); exact HO_193000.out) hb); have n2_ := Asd.mk (Kd.R_below (by (with_reducible repeat (first | apply Kd.R_alloc | apply Kd.R_drewN | apply Kd.R_drew)); exact HO_193001.out) hb); have n3_ := Asd.mk (Kd.R_lower ho0 (below_size (by repeat (first | (with_reducible first | exact HB.out | apply bal | apply pbN | apply bd1 | refine below_set ?_ GE191.out | refine below_set ?_ GE192.out) | exact HB.out)))); have n4_ := Asd.mk (blk_below (g := gb191) (o := .cells #[.slice none 0 0, .slice none 0 0] 25 (0, 0)) (by (with_reducible repeat (first | refine blk_drewN ?_ _ | refine blk_drew ?_ | refine blk_alloc ?_ _)); exact BK191.out) hb); have n5_ := Asd.mk (blk_below (g := gb192) (o := .cells #[.slice Ao38 x193000_1.length co38, .slice Ao39 x193001_1.length co39] 25 (0, 0)) (by (with_reducible repeat (first | refine blk_drewN ?_ _ | refine blk_drew ?_ | refine blk_alloc ?_ _)); exact BK192.out) hb); have n6_ := Asd.mk (below_step (by repeat (first | (with_reducible first | exact HB.out | apply bal | apply pbN | apply bd1 | refine below_set ?_ GE191.out | refine below_set ?_ GE192.out) | exact HB.out)) hb); clear HO_13; clear HO_193000; clear HO_193001; clear BK191; clear BK192; clear HB; have HO_13 := n0_; have HO_193000 := n1_; have HO_193001 := n2_; have HO208 := n3_; have BK191 := n4_; have BK192 := n5_; have HB := n6_; clear n0_ n1_ n2_ n3_ n4_ n5_ n6_; (try clear hb); (try clear hb2); (try clear hk); (try clear hi); (try clear ho0); obtain ⟨Ao41, co41, eo41⟩ := Kd.R_slice HO208.out; subst eo41) | ((with_reducible refine gate_callee (f := 49) rfl ?_); refine goesL_ (some 51) rfl rfl Tryd.func49 (by kernel_rfl) rfl #[.slice Ao41 t206.length co41, .bool t209, .slice A0 l0.length c0] rfl (by (try simp only [List.map_toArray, List.map_cons, List.map_nil]); first | done | rfl | (simp only [List.length_drop, List.length_take]; rfl)) ?_; (with_reducible refine (hello_again.calls k1 _ _ t206 t209 _ _ l0 false _ ?side1 ?side2 ?side3 ?side4 A26.out).mono ?_); (case side1 => repeat (first | exact (Kd.R_reads' HO208.out).2.2 | (with_reducible refine Kd.C_alloc ?_ _) | (with_reducible refine Kd.C_drewN ?_ _) | (with_reducible refine Kd.C_drew ?_))); (case side2 => exact (Kd.R_reads' HO208.out).2.1); (case side3 => repeat (first | exact (Kd.C_below HR0.out HB.out) | (with_reducible refine Kd.C_alloc ?_ _) | (with_reducible refine Kd.C_drewN ?_ _) | (with_reducible refine Kd.C_drew ?_))); (case side4 => exact HC0.out); rintro e w' ⟨rfl, ⟨nd, rfl⟩⟩; refine ⟨_, rfl, ?_⟩; (try (rw [drewN_self w40]; generalize hq_ : World.drewN w40 _ = w40; have n0_ : Asd (Kd.R k49 49 w40 w.heap.size (fun _ => True) (.slice Ao41 t206.length co41) t206) := ⟨by rw [<- hq_]; exact (by (with_reducible repeat (first | apply Kd.R_alloc | apply Kd.R_drewN | apply Kd.R_drew)); exact HO208.out)⟩; have n1_ : Asd (Kd.R Kd.string 9 w40 w.heap.size (fun k_ => some k_ ≠ (.slice Ao38 x193000_1.length co38 : Value).ownBlock /\ some k_ ≠ (.slice Ao39 x193001_1.length co39 : Value).ownBlock) (.slice Ao6 t193.length co6) t193) := ⟨by rw [<- hq_]; exact (by (with_reducible repeat (first | apply Kd.R_alloc | apply Kd.R_drewN | apply Kd.R_drew)); exact HO_13.out)⟩; have n2_ : Asd (Kd.R Kd.string 9 w40 w.heap.size (fun k_ => some k_ ≠ (.slice Ao6 t193.length co6 : Value).ownBlock /\ some k_ ≠ (.slice Ao39 x193001_1.length co39 : Value).ownBlock) (.slice Ao38 x193000_1.length co38) x193000_1) := ⟨by rw [<- hq_]; exact (by (with_reducible repeat (first | apply Kd.R_alloc | apply Kd.R_drewN | apply Kd.R_drew)); exact HO_193000.out)⟩; have n3_ : Asd (Kd.R Kd.string 9 w40 w.heap.size (fun k_ => some k_ ≠ (.slice Ao6 t193.length co6 : Value).ownBlock /\ some k_ ≠ (.slice Ao38 x193000_1.length co38 : Value).ownBlock) (.slice Ao39 x193001_1.length co39) x193001_1) := ⟨by rw [<- hq_]; exact (by (with_reducible repeat (first | apply Kd.R_alloc | apply Kd.R_drewN | apply Kd.R_drew)); exact HO_193001.out)⟩; have n4_ : Asd (w40.heap[gb191]? = some (.cells #[.slice none 0 0, .slice none 0 0] 25 (0, 0))) := ⟨by rw [<- hq_]; exact (by (with_reducible repeat (first | refine blk_drewN ?_ _ | refine blk_drew ?_ | refine blk_alloc ?_ _)); exact BK191.out)⟩; have n5_ : Asd (w40.heap[gb192]? = some (.cells #[.slice Ao38 x193000_1.length co38, .slice Ao39 x193001_1.length co39] 25 (0, 0))) := ⟨by rw [<- hq_]; exact (by (with_reducible repeat (first | refine blk_drewN ?_ _ | refine blk_drew ?_ | refine blk_alloc ?_ _)); exact BK192.out)⟩; have n6_ : Asd (Below w.heap.size w w40) := ⟨by rw [<- hq_]; exact (by repeat (first | (with_reducible first | exact HB.out | apply bal | apply pbN | apply bd1 | refine below_set ?_ GE191.out | refine below_set ?_ GE192.out) | exact HB.out))⟩; clear HO208 HO_13 HO_193000 HO_193001 BK191 BK192 HB hq_; have HO208 := n0_; have HO_13 := n1_; have HO_193000 := n2_; have HO_193001 := n3_; have BK191 := n4_; have BK192 := n5_; have HB := n6_; clear n0_ n1_ n2_ n3_ n4_ n5_ n6_)); have hcz42_0 : w40.cell? ⟨gb191, 0, none⟩ = some (.slice none 0 0) := (blk_cell BK191.out 0).trans rfl; have hcz42_1 : w40.cell? ⟨gb191, 1, none⟩ = some (.slice none 0 0) := (blk_cell BK191.out 1).trans rfl; have hfz42_0 := blk_frozen BK191.out 0; have hfz42_1 := blk_frozen BK191.out 1))
     refine bodyPost_ret (results_ct rfl _ _ gb191 25 #[.slice none 0 0, .slice none 0 0] (0, 0) _ rfl (by (with_reducible repeat (first | refine blk_drewN ?_ _ | refine blk_drew ?_ | refine blk_alloc ?_ _)); refine blk_put (cs := #[.slice none 0 0, .slice none 0 0]) ?_ 1 _ rfl; (with_reducible repeat (first | refine blk_drewN ?_ _ | refine blk_drew ?_ | refine blk_alloc ?_ _)); refine blk_put (cs := #[.slice none 0 0, .slice none 0 0]) ?_ 0 _ rfl; (with_reducible repeat (first | refine blk_drewN ?_ _ | refine blk_drew ?_ | refine blk_alloc ?_ _)); exact BK191.out) Tryd.underlying25 rfl (by kernel_rfl)) rfl ?_
     exact ⟨_, _, by first | rfl | (simp [errW_none, errW_some] <;> rfl) | (simp [*, errW_none, errW_some] <;> rfl), by first | exact Kd.R_nil _ _ _ _ _ | exact Kd.N_nil _ _ _ _ _ | exact Kd.V_nil _ _ _ _ _ | exact Kd.Q_nil _ _ _ _ _ | exact Kd.S_nil _ _ _ _ _, by first | exact Kd.R_nil _ _ _ _ _ | exact Kd.N_nil _ _ _ _ _ | exact Kd.V_nil _ _ _ _ _ | exact Kd.Q_nil _ _ _ _ _ | exact Kd.S_nil _ _ _ _ _, by repeat (first | (with_reducible first | exact HB.out | apply bal | apply pbN | apply bd1 | refine below_set ?_ GE191.out | refine below_set ?_ GE192.out) | exact HB.out)⟩
def hello_plain.f (a0 : ByteArray) : Option (ByteArray) := if a0.toList = ([45] : List UInt8) then (some (⟨#[]⟩ : ByteArray)) else (some a0)
set_option maxHeartbeats 8000000 in
set_option maxRecDepth 100000 in
theorem hello_plain.calls (a0 : ByteArray) (r : ByteArray) (w : World) (h : hello_plain.f a0 = some r) :
  Calls Tryd.prog 51 #[.string a0] w fun e w' => e = .returned (.string r) /\ Drawn0 w w' := by
 have H : (if a0.toList = ([45] : List UInt8) then (some (⟨#[]⟩ : ByteArray)) else (some a0)) = some r := h
 clear h
 by_cases c2 : a0.toList = ([45] : List UInt8)
 ·rw [if_pos c2] at H
  have c2b0 : (a0.toList == ([45] : List UInt8)) = true := beq_iff_eq.mpr c2
  have c2b1 : (a0.toList != ([45] : List UInt8)) = false := bne_eq_false_iff_eq.mpr c2
  clear c2
  obtain rfl := Option.some.inj H
  go_enter Tryd.func51, Tryd.ntmps51
  go_wp2
  go_ret
  exact ⟨by first | rfl | (simp; done) | (simp [*]; done), by repeat (first | exact Drawn0.refl _ | apply Drawn0.step)⟩
 ·rw [if_neg c2] at H
  have c2b0 : (a0.toList == ([45] : List UInt8)) = false := beq_eq_false_iff_ne.mpr c2
  have c2b1 : (a0.toList != ([45] : List UInt8)) = true := bne_iff_ne.mpr c2
  obtain rfl := Option.some.inj H
  go_enter Tryd.func51, Tryd.ntmps51
  go_wp2
  go_ret
  exact ⟨by first | rfl | (simp; done) | (simp [*]; done), by repeat (first | exact Drawn0.refl _ | apply Drawn0.step)⟩
def hello_Pushed.l0 : Nat -> List (S49) -> List (S65) -> List ByteArray -> Int -> Int -> Option ((List (S65)) × Bool)
 | 0, _, _, _, _, _ => none
 | k + 1, x0, x4, x16, x17, x18 => if x18 < x17 then (if 0 <= x18 then (if x18 < (x16.length : Int) then ((strings_Cut.f (rdOf ByteArray.empty x16 x18) (⟨#[32]⟩ : ByteArray)).bind fun bt215 => ((strings_Cut.f bt215.2.1 (⟨#[32]⟩ : ByteArray)).bind fun bt218 => ((hello_plain.f bt215.1).bind fun t221 => ((hello_plain.f bt218.1).bind fun t222 => (if x4.length < 2932031007402 then (hello_Pushed.l0 k x0 (x4 ++ [(⟨bt218.2.1, t221, t222⟩ : S65)]) x16 x17 (wrap64 (x18 + 1))) else (none)))))) else (none)) else (none)) else ((hello_Push.f k x4).bind fun bt226 => ((hello_again.f k bt226.1 bt226.2 x0).bind fun t230 => (if t230 = true then (some (x4, true)) else (some (([] : List (S65)), false)))))
def hello_Pushed.f (k : Nat) (l0 : List (S49)) : Option ((List (S65)) × Bool) := (hello_texts.f k l0).bind fun t211 => (hello_Pushed.l0 k l0 ([] : List (S65)) t211 (t211.length : Int) 0)
set_option maxHeartbeats 8000000 in
set_option maxRecDepth 100000 in
theorem hello_Pushed.calls (k : Nat) (A0 : Option Addr) (c0 : Nat) (l0 : List (S49)) (r1 : List (S65)) (r2 : Bool) (w : World) (hr0 : Kd.C k49 w A0 l0.length l0) (hc0 : l0.length <= c0) (h : hello_Pushed.f k l0 = some (r1, r2)) :
  Calls Tryd.prog 24 #[.slice A0 l0.length c0] w fun e w' => ∃ v0_ : Value, e = .returned (.tuple #[v0_, .bool r2]) /\ Kd.R k65 65 w' w.heap.size (fun _ => True) v0_ r1 /\ Below w.heap.size w w' := by
 have hu65 := Tryd.underlying65
 have HR0 := Asd.mk hr0
 have HC0 := Asd.mk hc0
 clear hr0 hc0
 have HB := Asd.mk (Below.refl w.heap.size w)
 have H : ((hello_texts.f k l0).bind fun t211 => (hello_Pushed.l0 k l0 ([] : List (S65)) t211 (t211.length : Int) 0)) = some (r1, r2) := h
 clear h
 replace H := Option.bind_eq_some_iff.mp H
 obtain ⟨t211, A20, H⟩ := H
 replace H : (hello_Pushed.l0 k l0 ([] : List (S65)) t211 (t211.length : Int) 0) = some (r1, r2) := H
 have A2 := Asd.mk A20
 clear A20
 have H' := Asd.mk H
 clear H
 go_enter Tryd.func24, Tryd.ntmps24
 go_wp2_with (first | ((with_reducible refine gate_callee (f := 46) rfl ?_); refine goesL_ (some 16) rfl rfl Tryd.func46 (by kernel_rfl) rfl #[.slice A0 l0.length c0] rfl (by (try simp only [List.map_toArray, List.map_cons, List.map_nil]); first | done | rfl | (simp only [List.length_drop, List.length_take]; rfl)) ?_; (with_reducible refine (hello_texts.calls k _ _ l0 t211 _ ?side1 ?side2 A2.out).mono ?_); (case side1 => repeat (first | exact HR0.out | (with_reducible refine Kd.C_alloc ?_ _) | (with_reducible refine Kd.C_drewN ?_ _) | (with_reducible refine Kd.C_drew ?_))); (case side2 => exact HC0.out); rintro e w3 ⟨v212, rfl, ho0, hb⟩; refine ⟨_, rfl, ?_⟩; have n0_ := Asd.mk (Kd.R_lower ho0 (below_size (by repeat (first | (with_reducible first | exact HB.out | apply bal | apply pbN | apply bd1) | exact HB.out)))); have n1_ := Asd.mk (below_step (by repeat (first | (with_reducible first | exact HB.out | apply bal | apply pbN | apply bd1) | exact HB.out)) hb); clear HB; have HO213 := n0_; have HB := n1_; clear n0_ n1_; (try clear hb); (try clear hb2); (try clear hk); (try clear hi); (try clear ho0); obtain ⟨Ao4, co4, eo4⟩ := Kd.R_slice HO213.out; subst eo4))
 go_loopg [4, 18] k (fun kq v4 v18 w' => ∃ (x4_1 : List (S65)) (x18_1 : Int), v18 = .int .i64 x18_1 /\ Asd (hello_Pushed.l0 kq l0 x4_1 t211 (t211.length : Int) x18_1 = some (r1, r2)) /\ Asd (kq <= k) /\ Asd (Kd.R k65 65 w' w.heap.size (fun _ => True) v4 x4_1) /\ Asd (Kd.R Kd.string 9 w' w.heap.size (fun _ => True) (.slice Ao4 t211.length co4) t211) /\ Asd (Below w.heap.size w w'))
 case atStart => exact ⟨(([] : List (S65))), (0), (by first | rfl | (simp; done) | (simp [*]; done)), H', ⟨Nat.le_refl _⟩, ⟨by first | exact Kd.R_nil _ _ _ _ _ | exact Kd.N_nil _ _ _ _ _ | exact Kd.V_nil _ _ _ _ _ | exact Kd.Q_nil _ _ _ _ _ | exact Kd.S_nil _ _ _ _ _⟩, ⟨by (with_reducible repeat (first | apply Kd.R_alloc | apply Kd.R_drewN | apply Kd.R_drew)); exact HO213.out⟩, ⟨by repeat (first | (with_reducible first | exact HB.out | apply bal | apply pbN | apply bd1) | exact HB.out)⟩⟩
 case round =>
  clear H'
  try clear c2
  try clear p2
  try clear c4
  obtain ⟨x4_1, x18_1, rfl, HA, HK1, HO_4, HO_16, HB⟩ := hrel
  cases gk with
  | zero => exact absurd HA.out (by simp [hello_Pushed.l0])
  | succ k1 =>
   have H := HA.out
   clear HA
   simp only [hello_Pushed.l0] at H
   by_cases c5 : x18_1 < (t211.length : Int)
   ·rw [if_pos c5] at H
    have c5b0 : decide (x18_1 < (t211.length : Int)) = true := decide_eq_true c5
    clear c5
    by_cases c6 : 0 <= x18_1
    ·rw [if_pos c6] at H
     have c6b0 : decide (0 <= x18_1) = true := decide_eq_true c6
     clear c6
     by_cases c7 : x18_1 < (t211.length : Int)
     ·rw [if_pos c7] at H
      have c7b0 : decide (x18_1 < (t211.length : Int)) = true := decide_eq_true c7
      clear c7
      replace H := Option.bind_eq_some_iff.mp H
      obtain ⟨⟨t215, t216, t217⟩, A80, H⟩ := H
      replace H : ((strings_Cut.f t216 (⟨#[32]⟩ : ByteArray)).bind fun bt218 => ((hello_plain.f t215).bind fun t221 => ((hello_plain.f bt218.1).bind fun t222 => (if x4_1.length < 2932031007402 then (hello_Pushed.l0 k1 l0 (x4_1 ++ [(⟨bt218.2.1, t221, t222⟩ : S65)]) t211 (t211.length : Int) (wrap64 (x18_1 + 1))) else (none))))) = some (r1, r2) := H
      have A8 := Asd.mk A80
      clear A80
      replace H := Option.bind_eq_some_iff.mp H
      obtain ⟨⟨t218, t219, t220⟩, A90, H⟩ := H
      replace H : ((hello_plain.f t215).bind fun t221 => ((hello_plain.f t218).bind fun t222 => (if x4_1.length < 2932031007402 then (hello_Pushed.l0 k1 l0 (x4_1 ++ [(⟨t219, t221, t222⟩ : S65)]) t211 (t211.length : Int) (wrap64 (x18_1 + 1))) else (none)))) = some (r1, r2) := H
      have A9 := Asd.mk A90
      clear A90
      replace H := Option.bind_eq_some_iff.mp H
      obtain ⟨t221, A100, H⟩ := H
      replace H : ((hello_plain.f t218).bind fun t222 => (if x4_1.length < 2932031007402 then (hello_Pushed.l0 k1 l0 (x4_1 ++ [(⟨t219, t221, t222⟩ : S65)]) t211 (t211.length : Int) (wrap64 (x18_1 + 1))) else (none))) = some (r1, r2) := H
      have A10 := Asd.mk A100
      clear A100
      replace H := Option.bind_eq_some_iff.mp H
      obtain ⟨t222, A110, H⟩ := H
      replace H : (if x4_1.length < 2932031007402 then (hello_Pushed.l0 k1 l0 (x4_1 ++ [(⟨t219, t221, t222⟩ : S65)]) t211 (t211.length : Int) (wrap64 (x18_1 + 1))) else (none)) = some (r1, r2) := H
      have A11 := Asd.mk A110
      clear A110
      by_cases c12 : x4_1.length < 2932031007402
      ·rw [if_pos c12] at H
       have LMc12 := Asd.mk c12
       clear c12
       obtain ⟨y223, hy223⟩ : ∃ y_ : List (S65), y_ = (x4_1 ++ [(⟨t219, t221, t222⟩ : S65)]) := ⟨_, rfl⟩
       replace H : (hello_Pushed.l0 k1 l0 y223 t211 (t211.length : Int) (wrap64 (x18_1 + 1))) = some (r1, r2) := by first | (rw [hy223]; with_reducible exact H) | (have H2_ := (Option.bind_some _ _).symm.trans H; rw [hy223]; with_reducible exact H2_) | (have H2_ := (Option.bind_some _ _).symm.trans H; with_reducible exact H2_) | with_reducible exact H | (rw [hy223]; exact H) | exact H
       have Ny223 := Asd.mk hy223
       clear hy223
       have H' := Asd.mk H
       clear H
       have p214 : 0 <= (x18_1 : Int) := of_decide_eq_true (by first | (with_reducible assumption) | assumption)
       have q214 : x18_1 < (t211.length : Int) := of_decide_eq_true (by first | (with_reducible assumption) | assumption)
       obtain ⟨ad214, e214, hx214_0⟩ := Kd.at_string (Kd.R_reads' HO_16.out).2.2 x18_1 p214 q214
       cases e214
       replace p214 := eq_true p214
       replace q214 := eq_true q214
       go_wp2_with (first | ((with_reducible refine gate_callee (f := 48) rfl ?_); refine goesL_ (some 24) rfl rfl Tryd.func48 (by kernel_rfl) rfl #[.string (rdOf ByteArray.empty t211 x18_1), .string (⟨#[32]⟩ : ByteArray)] rfl (by (try simp only [List.map_toArray, List.map_cons, List.map_nil]); first | done | rfl | (simp only [List.length_drop, List.length_take]; rfl)) ?_; (with_reducible refine (strings_Cut.calls (rdOf ByteArray.empty t211 x18_1) (⟨#[32]⟩ : ByteArray) t215 t216 t217 _ A8.out).mono ?_); rintro e w' ⟨rfl, ⟨nd, rfl⟩⟩; refine ⟨_, rfl, ?_⟩) | ((with_reducible refine gate_callee (f := 48) rfl ?_); refine goesL_ (some 30) rfl rfl Tryd.func48 (by kernel_rfl) rfl #[.string t216, .string (⟨#[32]⟩ : ByteArray)] rfl (by (try simp only [List.map_toArray, List.map_cons, List.map_nil]); first | done | rfl | (simp only [List.length_drop, List.length_take]; rfl)) ?_; (with_reducible refine (strings_Cut.calls t216 (⟨#[32]⟩ : ByteArray) t218 t219 t220 _ A9.out).mono ?_); rintro e w' ⟨rfl, ⟨nd, rfl⟩⟩; refine ⟨_, rfl, ?_⟩) | ((with_reducible refine gate_callee (f := 51) rfl ?_); refine goesL_ (some 37) rfl rfl Tryd.func51 (by kernel_rfl) rfl #[.string t215] rfl (by (try simp only [List.map_toArray, List.map_cons, List.map_nil]); first | done | rfl | (simp only [List.length_drop, List.length_take]; rfl)) ?_; (with_reducible refine (hello_plain.calls t215 t221 _ A10.out).mono ?_); rintro e w' ⟨rfl, ⟨nd, rfl⟩⟩; refine ⟨_, rfl, ?_⟩) | ((with_reducible refine gate_callee (f := 51) rfl ?_); refine goesL_ (some 39) rfl rfl Tryd.func51 (by kernel_rfl) rfl #[.string t218] rfl (by (try simp only [List.map_toArray, List.map_cons, List.map_nil]); first | done | rfl | (simp only [List.length_drop, List.length_take]; rfl)) ?_; (with_reducible refine (hello_plain.calls t218 t222 _ A11.out).mono ?_); rintro e w' ⟨rfl, ⟨nd, rfl⟩⟩; refine ⟨_, rfl, ?_⟩) | ((with_reducible refine gate_builtin (b := .append) (xs := #[.tmp 34, .tmp 41]) rfl ?_); at_builtin; refine Kd.R_append k65 (w0 := w) w.heap.size rfl (.tmp 34) (.tmp 41) 26 65 (.agg #[(.string ⟨#[]⟩), (.string ⟨#[]⟩), (.string ⟨#[]⟩)]) 48 rfl Tryd.underlying26 info65 rfl (by decide) (by omega) u4 x4_1 (⟨t219, t221, t222⟩ : S65) [.string t219, .string t221, .string t222] (fun _ => True) (fun _ => False) rfl rfl ?aP (fun _ hk => hk.elim) ?aF ?aO ?aB ?aS ?aL ?_; (case aP => exact k65_mkM _ _ _ (⟨t219, t221, t222⟩ : S65)); (case aB => exact (by repeat (first | (with_reducible first | exact HB.out | apply bal | apply pbN | apply bd1) | exact HB.out))); (case aF => exact (fun _ _ => trivial)); (case aO => exact (by (with_reducible repeat (first | apply Kd.R_alloc | apply Kd.R_drewN | apply Kd.R_drew)); exact HO_4.out)); (case aS => exact (below_size (by repeat (first | (with_reducible first | exact HB.out | apply bal | apply pbN | apply bd1) | exact HB.out)))); (case aL => have := LMc12.out; omega); intro v224 w13 ho hb hg hat; rw [<- Ny223.out] at ho; have n0_ := Asd.mk (Kd.R_over' (by (with_reducible repeat (first | apply Kd.R_alloc | apply Kd.R_drewN | apply Kd.R_drew)); exact HO_16.out) (Kd.R_typed (by (with_reducible repeat (first | apply Kd.R_alloc | apply Kd.R_drewN | apply Kd.R_drew)); exact HO_4.out)) (by decide) hg); have n1_ := Asd.mk (hb); have n2_ := Asd.mk (ho); clear HO_16; clear HB; clear HO_4; have HO_16 := n0_; have HB := n1_; have HO225 := n2_; clear n0_ n1_ n2_; clear ho hb hg hat))
       go_roundg k1
       case measure => have := HK1.out; omega
       case rel => exact ⟨(y223), (wrap64 (x18_1 + 1)), (by first | rfl | (simp; done) | (simp [*]; done)), H', ⟨by have := HK1.out; omega⟩, ⟨by (with_reducible repeat (first | apply Kd.R_alloc | apply Kd.R_drewN | apply Kd.R_drew)); exact HO225.out⟩, ⟨by (with_reducible repeat (first | apply Kd.R_alloc | apply Kd.R_drewN | apply Kd.R_drew)); exact HO_16.out⟩, ⟨by repeat (first | (with_reducible first | exact HB.out | apply bal | apply pbN | apply bd1) | exact HB.out)⟩⟩
      ·rw [if_neg c12] at H
       exact absurd H (by simp)
     ·rw [if_neg c7] at H
      exact absurd H (by simp)
    ·rw [if_neg c6] at H
     exact absurd H (by simp)
   ·rw [if_neg c5] at H
    have c5b0 : decide (x18_1 < (t211.length : Int)) = false := decide_eq_false c5
    clear c5
    replace H := Option.bind_eq_some_iff.mp H
    obtain ⟨⟨t226, t227⟩, A140, H⟩ := H
    replace H : ((hello_again.f k1 t226 t227 l0).bind fun t230 => (if t230 = true then (some (x4_1, true)) else (some (([] : List (S65)), false)))) = some (r1, r2) := H
    have A14 := Asd.mk A140
    clear A140
    replace H := Option.bind_eq_some_iff.mp H
    obtain ⟨t230, A150, H⟩ := H
    replace H : (if t230 = true then (some (x4_1, true)) else (some (([] : List (S65)), false))) = some (r1, r2) := H
    have A15 := Asd.mk A150
    clear A150
    by_cases c16 : t230 = true
    ·subst c16
     have H1 : (some (x4_1, true)) = some (r1, r2) := by rw [if_pos rfl] at H; exact H
     clear H
     have H := H1
     clear H1
     simp only [Option.some.injEq, Prod.mk.injEq] at H
     obtain ⟨rfl, rfl⟩ := H
     obtain ⟨Ao17, co17, eo17⟩ := Kd.R_slice HO_4.out
     subst eo17
     go_wp2_with (first | ((with_reducible refine gate_callee (f := 17) rfl ?_); refine goesL_ (some 46) rfl rfl Tryd.func17 (by kernel_rfl) rfl #[.slice Ao17 x4_1.length co17] rfl (by (try simp only [List.map_toArray, List.map_cons, List.map_nil]); first | done | rfl | (simp only [List.length_drop, List.length_take]; rfl)) ?_; (with_reducible refine (hello_Push.calls k1 _ _ x4_1 t226 t227 _ ?side1 ?side2 A14.out).mono ?_); (case side1 => repeat (first | exact (Kd.R_reads' HO_4.out).2.2 | (with_reducible refine Kd.C_alloc ?_ _) | (with_reducible refine Kd.C_drewN ?_ _) | (with_reducible refine Kd.C_drew ?_))); (case side2 => exact (Kd.R_reads' HO_4.out).2.1); rintro e w18 ⟨v228, rfl, ho0, hb⟩; refine ⟨_, rfl, ?_⟩; have n0_ := Asd.mk (Kd.R_below (by (with_reducible repeat (first | apply Kd.R_alloc | apply Kd.R_drewN | apply Kd.R_drew)); exact HO_4.out) hb); have n1_ := Asd.mk (Kd.R_below (by (with_reducible repeat (first | apply Kd.R_alloc | apply Kd.R_drewN | apply Kd.R_drew)); exact HO_16.out) hb); have n2_ := Asd.mk (Kd.R_lower ho0 (below_size (by repeat (first | (with_reducible first | exact HB.out | apply bal | apply pbN | apply bd1) | exact HB.out)))); have n3_ := Asd.mk (below_step (by repeat (first | (with_reducible first | exact HB.out | apply bal | apply pbN | apply bd1) | exact HB.out)) hb); clear HO_4; clear HO_16; clear HB; have HO_4 := n0_; have HO_16 := n1_; have HO229 := n2_; have HB := n3_; clear n0_ n1_ n2_ n3_; (try clear hb); (try clear hb2); (try clear hk); (try clear hi); (try clear ho0); obtain ⟨Ao19, co19, eo19⟩ := Kd.R_slice HO229.out; subst eo19) | ((with_reducible refine gate_callee (f := 49) rfl ?_); refine goesL_ (some 52) rfl rfl Tryd.func49 (by kernel_rfl) rfl #[.slice Ao19 t226.length co19, .bool t227, .slice A0 l0.length c0] rfl (by (try simp only [List.map_toArray, List.map_cons, List.map_nil]); first | done | rfl | (simp only [List.length_drop, List.length_take]; rfl)) ?_; (with_reducible refine (hello_again.calls k1 _ _ t226 t227 _ _ l0 true _ ?side1 ?side2 ?side3 ?side4 A15.out).mono ?_); (case side1 => repeat (first | exact (Kd.R_reads' HO229.out).2.2 | (with_reducible refine Kd.C_alloc ?_ _) | (with_reducible refine Kd.C_drewN ?_ _) | (with_reducible refine Kd.C_drew ?_))); (case side2 => exact (Kd.R_reads' HO229.out).2.1); (case side3 => repeat (first | exact (Kd.C_below HR0.out HB.out) | (with_reducible refine Kd.C_alloc ?_ _) | (with_reducible refine Kd.C_drewN ?_ _) | (with_reducible refine Kd.C_drew ?_))); (case side4 => exact HC0.out); rintro e w' ⟨rfl, ⟨nd, rfl⟩⟩; refine ⟨_, rfl, ?_⟩))
     go_ret2
     exact ⟨_, by first | rfl | (simp [errW_none, errW_some] <;> rfl) | (simp [*, errW_none, errW_some] <;> rfl), by (with_reducible repeat (first | apply Kd.R_alloc | apply Kd.R_drewN | apply Kd.R_drew)); exact HO_4.out, by repeat (first | (with_reducible first | exact HB.out | apply bal | apply pbN | apply bd1) | exact HB.out)⟩
    ·replace c16 := Bool.eq_false_iff.mpr c16
     subst c16
     have H1 : (some (([] : List (S65)), false)) = some (r1, r2) := by rw [if_neg (show ¬ (false = true) by decide)] at H; exact H
     clear H
     have H := H1
     clear H1
     simp only [Option.some.injEq, Prod.mk.injEq] at H
     obtain ⟨rfl, rfl⟩ := H
     obtain ⟨Ao20, co20, eo20⟩ := Kd.R_slice HO_4.out
     subst eo20
     go_wp2_with (first | ((with_reducible refine gate_callee (f := 17) rfl ?_); refine goesL_ (some 46) rfl rfl Tryd.func17 (by kernel_rfl) rfl #[.slice Ao20 x4_1.length co20] rfl (by (try simp only [List.map_toArray, List.map_cons, List.map_nil]); first | done | rfl | (simp only [List.length_drop, List.length_take]; rfl)) ?_; (with_reducible refine (hello_Push.calls k1 _ _ x4_1 t226 t227 _ ?side1 ?side2 A14.out).mono ?_); (case side1 => repeat (first | exact (Kd.R_reads' HO_4.out).2.2 | (with_reducible refine Kd.C_alloc ?_ _) | (with_reducible refine Kd.C_drewN ?_ _) | (with_reducible refine Kd.C_drew ?_))); (case side2 => exact (Kd.R_reads' HO_4.out).2.1); rintro e w21 ⟨v228, rfl, ho0, hb⟩; refine ⟨_, rfl, ?_⟩; have n0_ := Asd.mk (Kd.R_below (by (with_reducible repeat (first | apply Kd.R_alloc | apply Kd.R_drewN | apply Kd.R_drew)); exact HO_4.out) hb); have n1_ := Asd.mk (Kd.R_below (by (with_reducible repeat (first | apply Kd.R_alloc | apply Kd.R_drewN | apply Kd.R_drew)); exact HO_16.out) hb); have n2_ := Asd.mk (Kd.R_lower ho0 (below_size (by repeat (first | (with_reducible first | exact HB.out | apply bal | apply pbN | apply bd1) | exact HB.out)))); have n3_ := Asd.mk (below_step (by repeat (first | (with_reducible first | exact HB.out | apply bal | apply pbN | apply bd1) | exact HB.out)) hb); clear HO_4; clear HO_16; clear HB; have HO_4 := n0_; have HO_16 := n1_; have HO229 := n2_; have HB := n3_; clear n0_ n1_ n2_ n3_; (try clear hb); (try clear hb2); (try clear hk); (try clear hi); (try clear ho0); obtain ⟨Ao22, co22, eo22⟩ := Kd.R_slice HO229.out; subst eo22) | ((with_reducible refine gate_callee (f := 49) rfl ?_); refine goesL_ (some 52) rfl rfl Tryd.func49 (by kernel_rfl) rfl #[.slice Ao22 t226.length co22, .bool t227, .slice A0 l0.length c0] rfl (by (try simp only [List.map_toArray, List.map_cons, List.map_nil]); first | done | rfl | (simp only [List.length_drop, List.length_take]; rfl)) ?_; (with_reducible refine (hello_again.calls k1 _ _ t226 t227 _ _ l0 false _ ?side1 ?side2 ?side3 ?side4 A15.out).mono ?_); (case side1 => repeat (first | exact (Kd.R_reads' HO229.out).2.2 | (with_reducible refine Kd.C_alloc ?_ _) | (with_reducible refine Kd.C_drewN ?_ _) | (with_reducible refine Kd.C_drew ?_))); (case side2 => exact (Kd.R_reads' HO229.out).2.1); (case side3 => repeat (first | exact (Kd.C_below HR0.out HB.out) | (with_reducible refine Kd.C_alloc ?_ _) | (with_reducible refine Kd.C_drewN ?_ _) | (with_reducible refine Kd.C_drew ?_))); (case side4 => exact HC0.out); rintro e w' ⟨rfl, ⟨nd, rfl⟩⟩; refine ⟨_, rfl, ?_⟩))
     go_ret2
     exact ⟨_, by first | rfl | (simp [errW_none, errW_some] <;> rfl) | (simp [*, errW_none, errW_some] <;> rfl), by first | exact Kd.R_nil _ _ _ _ _ | exact Kd.N_nil _ _ _ _ _ | exact Kd.V_nil _ _ _ _ _ | exact Kd.Q_nil _ _ _ _ _ | exact Kd.S_nil _ _ _ _ _, by repeat (first | (with_reducible first | exact HB.out | apply bal | apply pbN | apply bd1) | exact HB.out)⟩
def q2_three.f (a0 : Int) (a1 : Int) (a2 : Int) : Option (Int) := some (Go.bits .xor .u32 (Go.bits .xor .u32 a0 a1) a2)
set_option maxHeartbeats 8000000 in
set_option maxRecDepth 100000 in
theorem q2_three.calls (a0 : Int) (a1 : Int) (a2 : Int) (r : Int) (w : World) (h : q2_three.f a0 a1 a2 = some r) :
  Calls Tryd.prog 82 #[.int .u32 a0, .int .u32 a1, .int .u32 a2] w fun e w' => e = .returned (.int .u32 r) /\ Drawn0 w w' := by
 have H : (some (Go.bits .xor .u32 (Go.bits .xor .u32 a0 a1) a2)) = some r := h
 clear h
 obtain rfl := Option.some.inj H
 go_enter Tryd.func82, Tryd.ntmps82
 go_wp2
 go_ret
 exact ⟨by first | rfl | (simp; done) | (simp [*]; done), by repeat (first | exact Drawn0.refl _ | apply Drawn0.step)⟩
def q2_turn.f (a0 : Int) (a1 : Int) : Option (Int) := if 0 <= a1 then (if 0 <= (wrap64 (32 - a1)) then (some (((shr .u32 a0 a1) + (shl .u32 a0 (wrap64 (32 - a1)))) % 4294967296)) else (none)) else (none)
set_option maxHeartbeats 8000000 in
set_option maxRecDepth 100000 in
theorem q2_turn.calls (a0 : Int) (a1 : Int) (r : Int) (w : World) (h : q2_turn.f a0 a1 = some r) :
  Calls Tryd.prog 83 #[.int .u32 a0, .int .i64 a1] w fun e w' => e = .returned (.int .u32 r) /\ Drawn0 w w' := by
 have H : (if 0 <= a1 then (if 0 <= (wrap64 (32 - a1)) then (some (((shr .u32 a0 a1) + (shl .u32 a0 (wrap64 (32 - a1)))) % 4294967296)) else (none)) else (none)) = some r := h
 clear h
 by_cases c3 : 0 <= a1
 ·rw [if_pos c3] at H
  have c3b0 := eq_true c3
  have c3b1 : decide (0 <= a1) = true := decide_eq_true c3
  clear c3
  obtain ⟨ji4, hji4⟩ : ∃ j_ : Int, (shr .u32 a0 a1) = j_ := ⟨_, rfl⟩
  replace H : (if 0 <= (wrap64 (32 - a1)) then (some (((ji4) + (shl .u32 a0 (wrap64 (32 - a1)))) % 4294967296)) else (none)) = some r := by first | (rw [hji4] at H; exact H) | (simp only [hji4] at H ⊢; exact H)
  have hji4_ : (a0 / 2 ^ min a1.toNat 32) = ji4 := hji4
  have hji4z : a1 <= 32 -> (a0 / 2 ^ a1.toNat) = ji4 := shr_small hji4
  obtain ⟨ji5, hji5⟩ : ∃ j_ : Int, (wrap64 (32 - a1)) = j_ := ⟨_, rfl⟩
  replace H : (if 0 <= (ji5) then (some (((ji4) + (shl .u32 a0 (ji5))) % 4294967296)) else (none)) = some r := by first | (rw [hji5] at H; exact H) | (simp only [hji5] at H ⊢; exact H)
  have hji5w : (IntKind.i64.wrap (32 - a1)) = ji5 := (i64_w _).trans hji5
  by_cases c6 : 0 <= (ji5)
  ·rw [if_pos c6] at H
   have c6b0 := eq_true c6
   have c6b1 : decide (0 <= (ji5)) = true := decide_eq_true c6
   clear c6
   obtain ⟨ji7, hji7⟩ : ∃ j_ : Int, (shl .u32 a0 (ji5)) = j_ := ⟨_, rfl⟩
   replace H : (some (((ji4) + (ji7)) % 4294967296)) = some r := by first | (rw [hji7] at H; exact H) | (simp only [hji7] at H ⊢; exact H)
   have hji7_ : (IntKind.u32.wrap (a0 * 2 ^ min (ji5).toNat 32)) = ji7 := hji7
   have hji7z : (ji5) <= 32 -> (IntKind.u32.wrap (a0 * 2 ^ (ji5).toNat)) = ji7 := shl_small hji7
   obtain rfl := Option.some.inj H
   go_enter Tryd.func83, Tryd.ntmps83
   go_wp2
   repeat (go_quiet (fail); try go_wp2)
   go_ret
   exact ⟨by first | rfl | (simp; done) | (simp only [<- hji4, <- hji5, <- hji7] <;> (first | rfl | simp)) | (simp [*]; done), by repeat (first | exact Drawn0.refl _ | apply Drawn0.step)⟩
  ·rw [if_neg c6] at H
   exact absurd H (by simp)
 ·rw [if_neg c3] at H
  exact absurd H (by simp)
def q2_digit.f (a0 : Int) : Option (Int) := if a0 < 10 then (some ((48 + a0) % 256)) else (some ((((97 + a0) % 256) - 10) % 256))
set_option maxHeartbeats 8000000 in
set_option maxRecDepth 100000 in
theorem q2_digit.calls (a0 : Int) (r : Int) (w : World) (h : q2_digit.f a0 = some r) :
  Calls Tryd.prog 55 #[.int .u8 a0] w fun e w' => e = .returned (.int .u8 r) /\ Drawn0 w w' := by
 have H : (if a0 < 10 then (some ((48 + a0) % 256)) else (some ((((97 + a0) % 256) - 10) % 256))) = some r := h
 clear h
 by_cases c2 : a0 < 10
 ·rw [if_pos c2] at H
  have c2b0 : decide (a0 < 10) = true := decide_eq_true c2
  clear c2
  obtain rfl := Option.some.inj H
  go_enter Tryd.func55, Tryd.ntmps55
  go_wp2
  go_ret
  exact ⟨by first | rfl | (simp; done) | (simp [*]; done), by repeat (first | exact Drawn0.refl _ | apply Drawn0.step)⟩
 ·rw [if_neg c2] at H
  have c2b0 : decide (a0 < 10) = false := decide_eq_false c2
  clear c2
  obtain rfl := Option.some.inj H
  go_enter Tryd.func55, Tryd.ntmps55
  go_wp2
  go_ret
  exact ⟨by first | rfl | (simp; done) | (simp [*]; done), by repeat (first | exact Drawn0.refl _ | apply Drawn0.step)⟩
def w9_Great.l0 : Nat -> List (S63) -> Int -> Int -> Option (Bool)
 | 0, _, _, _ => none
 | k + 1, x0, x3, x4 => if x4 < (x0.length : Int) then (if x3 < 20000 then (if 0 <= x4 then (w9_Great.l0 k x0 (wrap64 ((wrap64 (x3 + (mn (((rd_T63 x0 x4).f0).size : Int) 20000))) + (mn (((rd_T63 x0 x4).f1).size : Int) 20000))) (wrap64 (x4 + 1))) else (none)) else (if x3 >= 20000 then (some true) else (some (decide ((x0.length : Int) > 100))))) else (if x3 >= 20000 then (some true) else (some (decide ((x0.length : Int) > 100))))
def w9_Great.f (k : Nat) (l0 : List (S63)) : Option (Bool) := w9_Great.l0 k l0 (l0.length : Int) 0
set_option maxHeartbeats 8000000 in
set_option maxRecDepth 100000 in
theorem w9_Great.calls (k : Nat) (A0 : Option Addr) (c0 : Nat) (l0 : List (S63)) (r : Bool) (w : World) (hr0 : Kd.C k63 w A0 l0.length l0) (hc0 : l0.length <= c0) (h : w9_Great.f k l0 = some r) :
  Calls Tryd.prog 9 #[.slice A0 l0.length c0] w fun e w' => e = .returned (.bool r) /\ Below w.heap.size w w' := by
 have HR0 := Asd.mk hr0
 have HC0 := Asd.mk hc0
 clear hr0 hc0
 have HB := Asd.mk (Below.refl w.heap.size w)
 have H : (w9_Great.l0 k l0 (l0.length : Int) 0) = some r := h
 clear h
 have H' := Asd.mk H
 clear H
 go_enter Tryd.func9, Tryd.ntmps9
 go_wp2
 repeat (go_quiet (fail); try go_wp2)
 go_loopg [3, 4] k (fun kq v3 v4 w' => ∃ (x3_1 : Int) (x4_1 : Int), v3 = .int .i64 x3_1 /\ v4 = .int .i64 x4_1 /\ Asd (w9_Great.l0 kq l0 x3_1 x4_1 = some r) /\ Asd (kq <= k) /\ Asd (Below w.heap.size w w'))
 case atStart => exact ⟨((l0.length : Int)), (0), (by first | rfl | (simp; done) | (simp [*]; done)), (by first | rfl | (simp; done) | (simp [*]; done)), H', ⟨Nat.le_refl _⟩, ⟨by repeat (first | (with_reducible first | exact HB.out | apply bal | apply pbN | apply bd1) | exact HB.out)⟩⟩
 case round =>
  clear H'
  obtain ⟨x3_1, x4_1, rfl, rfl, HA, HK1, HB⟩ := hrel
  cases gk with
  | zero => exact absurd HA.out (by simp [w9_Great.l0])
  | succ k1 =>
   have H := HA.out
   clear HA
   simp only [w9_Great.l0] at H
   by_cases c2 : x4_1 < (l0.length : Int)
   ·rw [if_pos c2] at H
    have c2b0 : decide (x4_1 < (l0.length : Int)) = true := decide_eq_true c2
    clear c2
    by_cases c3 : x3_1 < 20000
    ·rw [if_pos c3] at H
     have c3b0 : decide (x3_1 < 20000) = true := decide_eq_true c3
     clear c3
     by_cases c4 : 0 <= x4_1
     ·rw [if_pos c4] at H
      have c4b0 : decide (0 <= x4_1) = true := decide_eq_true c4
      clear c4
      obtain ⟨ji5, hji5⟩ : ∃ j_ : Int, (mn (((rd_T63 l0 x4_1).f0).size : Int) 20000) = j_ := ⟨_, rfl⟩
      replace H : (w9_Great.l0 k1 l0 (wrap64 ((wrap64 (x3_1 + (ji5))) + (mn (((rd_T63 l0 x4_1).f1).size : Int) 20000))) (wrap64 (x4_1 + 1))) = some r := by first | (rw [hji5] at H; exact H) | (simp only [hji5] at H ⊢; exact H)
      have hji5_ : (if 20000 < (((rd_T63 l0 x4_1).f0).size : Int) then 20000 else (((rd_T63 l0 x4_1).f0).size : Int)) = ji5 := hji5
      obtain ⟨ji6, hji6⟩ : ∃ j_ : Int, (mn (((rd_T63 l0 x4_1).f1).size : Int) 20000) = j_ := ⟨_, rfl⟩
      replace H : (w9_Great.l0 k1 l0 (wrap64 ((wrap64 (x3_1 + (ji5))) + (ji6))) (wrap64 (x4_1 + 1))) = some r := by first | (rw [hji6] at H; exact H) | (simp only [hji6] at H ⊢; exact H)
      have hji6_ : (if 20000 < (((rd_T63 l0 x4_1).f1).size : Int) then 20000 else (((rd_T63 l0 x4_1).f1).size : Int)) = ji6 := hji6
      have H' := Asd.mk H
      clear H
      have p231 : 0 <= (x4_1 : Int) := of_decide_eq_true (by first | (with_reducible assumption) | assumption)
      have q231 : x4_1 < (l0.length : Int) := of_decide_eq_true (by first | (with_reducible assumption) | assumption)
      obtain ⟨ad231, e231, hx231_0, hx231_1⟩ := at_T63 HR0.out x4_1 p231 q231
      cases e231
      replace hx231_0 := (HB.out.cell (World.block_lt_of_cell? w _ hx231_0)).trans hx231_0
      replace hx231_1 := (HB.out.cell (World.block_lt_of_cell? w _ hx231_1)).trans hx231_1
      replace p231 := eq_true p231
      replace q231 := eq_true q231
      have p232 : 0 <= (x4_1 : Int) := of_decide_eq_true (by first | (with_reducible assumption) | assumption)
      have q232 : x4_1 < (l0.length : Int) := of_decide_eq_true (by first | (with_reducible assumption) | assumption)
      obtain ⟨ad232, e232, hx232_0, hx232_1⟩ := at_T63 HR0.out x4_1 p232 q232
      obtain rfl : ad231 = ad232 := (by injection e232)
      replace hx232_0 := (HB.out.cell (World.block_lt_of_cell? w _ hx232_0)).trans hx232_0
      replace hx232_1 := (HB.out.cell (World.block_lt_of_cell? w _ hx232_1)).trans hx232_1
      replace p232 := eq_true p232
      replace q232 := eq_true q232
      go_wp2
      repeat (go_quiet (fail); try go_wp2)
      go_roundg k1
      case measure => have := HK1.out; omega
      case rel => exact ⟨(wrap64 ((wrap64 (x3_1 + (ji5))) + (ji6))), (wrap64 (x4_1 + 1)), (by first | rfl | (simp; done) | (simp only [<- hji5, <- hji6] <;> (first | rfl | simp)) | (simp [*]; done)), (by first | rfl | (simp; done) | (simp [*]; done)), H', ⟨by have := HK1.out; omega⟩, ⟨by repeat (first | (with_reducible first | exact HB.out | apply bal | apply pbN | apply bd1) | exact HB.out)⟩⟩
     ·rw [if_neg c4] at H
      exact absurd H (by simp)
    ·rw [if_neg c3] at H
     have c3b0 : decide (x3_1 < 20000) = false := decide_eq_false c3
     clear c3
     by_cases c7 : x3_1 >= 20000
     ·rw [if_pos c7] at H
      have c7b0 : decide (20000 <= x3_1) = true := decide_eq_true c7
      clear c7
      obtain rfl := Option.some.inj H
      go_wp2
      repeat (go_quiet (fail); try go_wp2)
      go_ret
      exact ⟨by first | rfl | (simp [errW_none, errW_some] <;> rfl) | (simp [*, errW_none, errW_some] <;> rfl), by repeat (first | (with_reducible first | exact HB.out | apply bal | apply pbN | apply bd1) | exact HB.out)⟩
     ·rw [if_neg c7] at H
      have c7b0 : decide (20000 <= x3_1) = false := decide_eq_false c7
      clear c7
      obtain rfl := Option.some.inj H
      go_wp2
      repeat (go_quiet (fail); try go_wp2)
      go_ret
      exact ⟨by first | rfl | (simp [errW_none, errW_some] <;> rfl) | (simp [*, errW_none, errW_some] <;> rfl), by repeat (first | (with_reducible first | exact HB.out | apply bal | apply pbN | apply bd1) | exact HB.out)⟩
   ·rw [if_neg c2] at H
    have c2b0 : decide (x4_1 < (l0.length : Int)) = false := decide_eq_false c2
    clear c2
    by_cases c8 : x3_1 >= 20000
    ·rw [if_pos c8] at H
     have c8b0 : decide (20000 <= x3_1) = true := decide_eq_true c8
     clear c8
     obtain rfl := Option.some.inj H
     go_wp2
     repeat (go_quiet (fail); try go_wp2)
     go_ret
     exact ⟨by first | rfl | (simp [errW_none, errW_some] <;> rfl) | (simp [*, errW_none, errW_some] <;> rfl), by repeat (first | (with_reducible first | exact HB.out | apply bal | apply pbN | apply bd1) | exact HB.out)⟩
    ·rw [if_neg c8] at H
     have c8b0 : decide (20000 <= x3_1) = false := decide_eq_false c8
     clear c8
     obtain rfl := Option.some.inj H
     go_wp2
     repeat (go_quiet (fail); try go_wp2)
     go_ret
     exact ⟨by first | rfl | (simp [errW_none, errW_some] <;> rfl) | (simp [*, errW_none, errW_some] <;> rfl), by repeat (first | (with_reducible first | exact HB.out | apply bal | apply pbN | apply bd1) | exact HB.out)⟩
def w5_GreatTexts.l0 : Nat -> List ByteArray -> Int -> Int -> Option (Bool)
 | 0, _, _, _ => none
 | k + 1, x0, x3, x4 => if x4 < (x0.length : Int) then (if x3 < 9000 then (if 0 <= x4 then (w5_GreatTexts.l0 k x0 (wrap64 (x3 + (mn ((rdOf ByteArray.empty x0 x4).size : Int) 9000))) (wrap64 (x4 + 1))) else (none)) else (if x3 >= 9000 then (some true) else (some (decide ((x0.length : Int) > 200))))) else (if x3 >= 9000 then (some true) else (some (decide ((x0.length : Int) > 200))))
def w5_GreatTexts.f (k : Nat) (l0 : List ByteArray) : Option (Bool) := w5_GreatTexts.l0 k l0 (l0.length : Int) 0
set_option maxHeartbeats 8000000 in
set_option maxRecDepth 100000 in
theorem w5_GreatTexts.calls (k : Nat) (A0 : Option Addr) (c0 : Nat) (l0 : List ByteArray) (r : Bool) (w : World) (hr0 : Kd.C Kd.string w A0 l0.length l0) (hc0 : l0.length <= c0) (h : w5_GreatTexts.f k l0 = some r) :
  Calls Tryd.prog 10 #[.slice A0 l0.length c0] w fun e w' => e = .returned (.bool r) /\ Below w.heap.size w w' := by
 have HR0 := Asd.mk hr0
 have HC0 := Asd.mk hc0
 clear hr0 hc0
 have HB := Asd.mk (Below.refl w.heap.size w)
 have H : (w5_GreatTexts.l0 k l0 (l0.length : Int) 0) = some r := h
 clear h
 have H' := Asd.mk H
 clear H
 go_enter Tryd.func10, Tryd.ntmps10
 go_wp2
 go_loopg [3, 4] k (fun kq v3 v4 w' => ∃ (x3_1 : Int) (x4_1 : Int), v3 = .int .i64 x3_1 /\ v4 = .int .i64 x4_1 /\ Asd (w5_GreatTexts.l0 kq l0 x3_1 x4_1 = some r) /\ Asd (kq <= k) /\ Asd (Below w.heap.size w w'))
 case atStart => exact ⟨((l0.length : Int)), (0), (by first | rfl | (simp; done) | (simp [*]; done)), (by first | rfl | (simp; done) | (simp [*]; done)), H', ⟨Nat.le_refl _⟩, ⟨by repeat (first | (with_reducible first | exact HB.out | apply bal | apply pbN | apply bd1) | exact HB.out)⟩⟩
 case round =>
  clear H'
  try clear c1
  obtain ⟨x3_1, x4_1, rfl, rfl, HA, HK1, HB⟩ := hrel
  cases gk with
  | zero => exact absurd HA.out (by simp [w5_GreatTexts.l0])
  | succ k1 =>
   have H := HA.out
   clear HA
   simp only [w5_GreatTexts.l0] at H
   by_cases c2 : x4_1 < (l0.length : Int)
   ·rw [if_pos c2] at H
    have c2b0 : decide (x4_1 < (l0.length : Int)) = true := decide_eq_true c2
    clear c2
    by_cases c3 : x3_1 < 9000
    ·rw [if_pos c3] at H
     have c3b0 : decide (x3_1 < 9000) = true := decide_eq_true c3
     clear c3
     by_cases c4 : 0 <= x4_1
     ·rw [if_pos c4] at H
      have c4b0 : decide (0 <= x4_1) = true := decide_eq_true c4
      clear c4
      obtain ⟨ji5, hji5⟩ : ∃ j_ : Int, (mn ((rdOf ByteArray.empty l0 x4_1).size : Int) 9000) = j_ := ⟨_, rfl⟩
      replace H : (w5_GreatTexts.l0 k1 l0 (wrap64 (x3_1 + (ji5))) (wrap64 (x4_1 + 1))) = some r := by first | (rw [hji5] at H; exact H) | (simp only [hji5] at H ⊢; exact H)
      have hji5_ : (if 9000 < ((rdOf ByteArray.empty l0 x4_1).size : Int) then 9000 else ((rdOf ByteArray.empty l0 x4_1).size : Int)) = ji5 := hji5
      have H' := Asd.mk H
      clear H
      have p233 : 0 <= (x4_1 : Int) := of_decide_eq_true (by first | (with_reducible assumption) | assumption)
      have q233 : x4_1 < (l0.length : Int) := of_decide_eq_true (by first | (with_reducible assumption) | assumption)
      obtain ⟨ad233, e233, hx233_0⟩ := Kd.at_string HR0.out x4_1 p233 q233
      cases e233
      replace hx233_0 := (HB.out.cell (World.block_lt_of_cell? w _ hx233_0)).trans hx233_0
      replace p233 := eq_true p233
      replace q233 := eq_true q233
      go_wp2
      go_roundg k1
      case measure => have := HK1.out; omega
      case rel => exact ⟨(wrap64 (x3_1 + (ji5))), (wrap64 (x4_1 + 1)), (by first | rfl | (simp; done) | (simp only [<- hji5] <;> (first | rfl | simp)) | (simp [*]; done)), (by first | rfl | (simp; done) | (simp [*]; done)), H', ⟨by have := HK1.out; omega⟩, ⟨by repeat (first | (with_reducible first | exact HB.out | apply bal | apply pbN | apply bd1) | exact HB.out)⟩⟩
     ·rw [if_neg c4] at H
      exact absurd H (by simp)
    ·rw [if_neg c3] at H
     have c3b0 : decide (x3_1 < 9000) = false := decide_eq_false c3
     clear c3
     by_cases c6 : x3_1 >= 9000
     ·rw [if_pos c6] at H
      have c6b0 : decide (9000 <= x3_1) = true := decide_eq_true c6
      clear c6
      obtain rfl := Option.some.inj H
      go_wp2
      go_ret
      exact ⟨by first | rfl | (simp [errW_none, errW_some] <;> rfl) | (simp [*, errW_none, errW_some] <;> rfl), by repeat (first | (with_reducible first | exact HB.out | apply bal | apply pbN | apply bd1) | exact HB.out)⟩
     ·rw [if_neg c6] at H
      have c6b0 : decide (9000 <= x3_1) = false := decide_eq_false c6
      clear c6
      obtain rfl := Option.some.inj H
      go_wp2
      go_ret
      exact ⟨by first | rfl | (simp [errW_none, errW_some] <;> rfl) | (simp [*, errW_none, errW_some] <;> rfl), by repeat (first | (with_reducible first | exact HB.out | apply bal | apply pbN | apply bd1) | exact HB.out)⟩
   ·rw [if_neg c2] at H
    have c2b0 : decide (x4_1 < (l0.length : Int)) = false := decide_eq_false c2
    clear c2
    by_cases c7 : x3_1 >= 9000
    ·rw [if_pos c7] at H
     have c7b0 : decide (9000 <= x3_1) = true := decide_eq_true c7
     clear c7
     obtain rfl := Option.some.inj H
     go_wp2
     go_ret
     exact ⟨by first | rfl | (simp [errW_none, errW_some] <;> rfl) | (simp [*, errW_none, errW_some] <;> rfl), by repeat (first | (with_reducible first | exact HB.out | apply bal | apply pbN | apply bd1) | exact HB.out)⟩
    ·rw [if_neg c7] at H
     have c7b0 : decide (9000 <= x3_1) = false := decide_eq_false c7
     clear c7
     obtain rfl := Option.some.inj H
     go_wp2
     go_ret
     exact ⟨by first | rfl | (simp [errW_none, errW_some] <;> rfl) | (simp [*, errW_none, errW_some] <;> rfl), by repeat (first | (with_reducible first | exact HB.out | apply bal | apply pbN | apply bd1) | exact HB.out)⟩
end Go.Proofs.YtmmionafcmnfoaaDoor.Print
