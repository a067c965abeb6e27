/- Functions of the program as plain functions, and proofs that the program's calls tell what these tell. Written by a program. -/
import Derived.Test.YtemkgdpfkbpnpaaGreatDoorPrint0
import Derived.Test.YtemkgdpfkbpnpaaGreatDoorPrint3
import Derived.Test.YtemkgdpfkbpnpaaGreatDoorPrint5
namespace Go.Proofs.YtemkgdpfkbpnpaaGreatDoor.Print
open Go.RowKit Go.Proofs.YtemkgdpfkbpnpaaGreatDoorW.PrintWords Go.Proofs.YtemkgdpfkbpnpaaGreatDoorW.PrintLast Go.Proofs.YtemkgdpfkbpnpaaGreatDoorW.PrintMore Go.Proofs.YtemkgdpfkbpnpaaGreatDoor.Conv
attribute [local go_sem] max2_int min2_int max_two min_two max_three min_three max_four min_four
set_option linter.unusedVariables false
set_option linter.unusedSimpArgs false
def num_Text.f (a0 : Int) : Option (ByteArray) := if a0 < 0 then (some (⟨#[]⟩ : ByteArray)) else ((strconv_Itoa.f a0).bind fun t146 => (some t146))
set_option maxHeartbeats 8000000 in
set_option maxRecDepth 100000 in
theorem num_Text.calls (a0 : Int) (r : ByteArray) (w : World) (h : num_Text.f a0 = some r) :
  Calls Tryz.prog 44 #[.int .i64 a0] w fun e w' => e = .returned (.string r) /\ Drawn0 w w' := by
 have H : (if a0 < 0 then (some (⟨#[]⟩ : ByteArray)) else ((strconv_Itoa.f a0).bind fun t146 => (some t146))) = some r := h
 clear h
 by_cases c2 : a0 < 0
 ·rw [if_pos c2] at H
  have c2b0 : decide (a0 < 0) = true := decide_eq_true c2
  clear c2
  obtain rfl := Option.some.inj H
  go_enter Tryz.func44, Tryz.ntmps44
  go_wp2
  go_ret
  exact ⟨by first | rfl | (simp; done) | (simp [*]; done), by repeat (first | exact Drawn0.refl _ | apply Drawn0.step)⟩
 ·rw [if_neg c2] at H
  have c2b0 : decide (a0 < 0) = false := decide_eq_false c2
  clear c2
  replace H := Option.bind_eq_some_iff.mp H
  obtain ⟨t146, A30, H⟩ := H
  replace H : (some t146) = some r := H
  have A3 := Asd.mk A30
  clear A30
  obtain rfl := Option.some.inj H
  go_enter Tryz.func44, Tryz.ntmps44
  go_wp2_with (first | ((with_reducible refine gate_callee (f := 68) rfl ?_); refine goesL_ (some 6) rfl rfl Tryz.func68 (by kernel_rfl) rfl #[.int .i64 a0] rfl (by (try simp only [List.map_toArray, List.map_cons, List.map_nil]); first | done | rfl | (simp only [List.length_drop, List.length_take]; rfl)) ?_; (with_reducible refine (strconv_Itoa.calls a0 t146 _ A3.out).mono ?_); rintro e w' ⟨rfl, ⟨nd, rfl⟩⟩; refine ⟨_, rfl, ?_⟩))
  go_ret
  exact ⟨by first | rfl | (simp; done) | (simp [*]; done), by repeat (first | exact Drawn0.refl _ | apply Drawn0.step)⟩
def bytes_Clone.f (l0 : List Int) : Option (List Int) := if l0.length < 140737488355328 then some l0 else none
set_option maxHeartbeats 8000000 in
set_option maxRecDepth 100000 in
theorem bytes_Clone.calls (A0 : Option Addr) (c0 : Nat) (l0 : List Int) (r : List Int) (w : World) (hr0 : Kd.C (Kd.int .u8) w A0 l0.length l0) (hc0 : l0.length <= c0) (h : bytes_Clone.f l0 = some r) :
  Calls Tryz.prog 28 #[.slice A0 l0.length c0] w fun e w' => ∃ v0_ : Value, e = .returned (v0_) /\ Kd.R (Kd.int .u8) 5 w' w.heap.size (fun _ => True) v0_ r /\ Below w.heap.size w w' := by
 unfold bytes_Clone.f at h
 split at h
 case isFalse => cases h
 case isTrue hlim =>
 obtain rfl := Option.some.inj h
 have HR0 := Asd.mk hr0
 have HL := Asd.mk hlim
 have HCc := Asd.mk hc0
 have hnil := fun (W : World) (a : Option Addr) (n c : Nat) => Lib.run_eql_slice_nil (P := Tryz.prog) W 22 5 a n c 0 0 Tryz.underlying22
 rcases A0 with _ | ad
 ·have h0 : l0 = [] := by
   rcases Nat.eq_zero_or_pos l0.length with h0 | h0
   ·exact List.eq_nil_of_length_eq_zero h0
   ·obtain ⟨ad, h', _⟩ := hr0.2.2 h0
    cases h'
  subst h0
  clear h hlim hr0 hc0
  go_enter Tryz.func28, Tryz.ntmps28
  go_wp2
  go_ret
  exact ⟨_, rfl, Kd.R_nil _ _ _ _ _, Below.refl _ _⟩
 ·clear h hlim hr0 hc0
  have HB := Asd.mk (Below.refl w.heap.size w)
  go_enter Tryz.func28, Tryz.ntmps28
  go_wp2_with (first | ((with_reducible refine gate_dst (N := 5) rfl ?_); refine Kd.R_lit (Kd.int .u8) _ 5 ?hg (N := 5) ?hd (xs := ([] : List Int)) (inner := []) (ok := fun _ => True) (okp := fun _ => True) ?hr ?hp (fun _ hk => hk) trivial (Below.refl _ _) (Nat.le_refl _) (by simp) ?_; (case hd => rfl); (case hg => rfl); (case hr => first | (go_simp; done) | (go_simp; rfl)); (case hp => exact (Reps.none _ _)); intro v1 w1 ho1 hb hg_ hnew_; clear hg_ hnew_; have HO1 := Asd.mk ho1; have HB1 := Asd.mk hb; clear ho1 hb) | ((with_reducible refine gate_builtin (b := .append) (xs := #[.tmp 5, .tmp 6]) rfl ?_); at_builtin; refine Kd.R_append_row (Value.int .u8) 0 (w0 := w) w.heap.size rfl (.tmp 5) (.tmp 6) 22 5 (.int .u8 0) 1 rfl Tryz.underlying22 info5 rfl (by decide) v1 [] l0 (some ad) l0.length c0 (fun _ => True) rfl rfl (fun _ _ => trivial) HO1.out ?aR HB1.out ?aS ?aL ?_; (case aR => exact Kd.C_below HR0.out HB1.out); (case aS => exact HB1.out.size); (case aL => have := HL.out; simp; omega); intro v2 w2 ho2 hb hg hat; have HO2 := Asd.mk ho2; have HB2 := Asd.mk hb; clear hb hg hat ho2))
  go_ret
  exact ⟨_, rfl, HO2.out, HB2.out⟩
def bytes_IndexByte.f (l0 : List Int) (a1 : Int) : Option (Int) := if 0 < l0.length then some (Lib.indexByte (Lib.bytesOf l0) a1.toNat.toUInt8) else none
theorem bytes_IndexByte.calls (A0 : Option Addr) (c0 : Nat) (l0 : List Int) (a1 : Int) (r : Int) (w : World) (hr0 : Kd.C (Kd.int .u8) w A0 l0.length l0) (hc0 : l0.length <= c0) (h : bytes_IndexByte.f l0 a1 = some r) :
  Calls Tryz.prog 85 #[.slice A0 l0.length c0, .int .u8 a1] w fun e w' => e = .returned (.int .i64 r) /\ Drawn0 w w' := by
 unfold bytes_IndexByte.f at h
 split at h
 case isFalse => cases h
 case isTrue hlen =>
 obtain rfl := Option.some.inj h
 have hrd := Kd.reads_of_C (enc := Value.int .u8) (d := (0 : Int)) (h1 := fun _ => rfl) hr0
 obtain ⟨ad, rfl, hc⟩ := hrd.2.2 hlen
 refine (Go.Proofs.Tryz.bytes_IndexByte_at ad l0.length c0 l0 a1 w rfl (fun i hi => hc i hi)).mono ?_
 rintro e w' ⟨rfl, rfl⟩
 exact ⟨rfl, Drawn0.refl _⟩
def line_length.l0 : Nat -> Int -> List Int -> Int -> Int -> Option (Int)
 | 0, _, _, _, _ => none
 | k + 1, x3, x8, x9, x10 => if x10 < x9 then (if 0 <= x10 then (if x10 < (x8.length : Int) then ((lit_bytes.f ([48, 49, 50, 51, 52, 53, 54, 55, 56, 57, 97, 98, 99, 100, 101, 102] : List Int)).bind fun t149 => ((bytes_IndexByte.f t149 (rd x8 x10)).bind fun t152 => (if t152 < 0 then (some (-1)) else (line_length.l0 k (Go.bits .or .i64 (wrap64 (x3 * 16)) t152) x8 x9 (wrap64 (x10 + 1)))))) else (none)) else (none)) else (some x3)
def line_length.f (k : Nat) (l0 : List Int) : Option (Int) := if 4 <= (l0.length : Int) then (line_length.l0 k 0 (l0.take 4) ((l0.take 4).length : Int) 0) else (none)
theorem line_length.mono_l : ∀ k, (∀ y0 y1 y2 y3, LeO (line_length.l0 k y0 y1 y2 y3) (line_length.l0 (k + 1) y0 y1 y2 y3))
 | 0 => fun _ _ _ _ r h => by simp [line_length.l0] at h
 | k + 1 => by
  have ih0 := line_length.mono_l k
  ·intro y0 y1 y2 y3
   unfold line_length.l0
   repeat' first
   | (with_reducible exact ih0 _ _ _ _)
   | (with_reducible exact LeO.refl _)
   | (with_reducible exact LeO.none _)
   | (with_reducible refine LeO.ite ?_ ?_)
   | (with_reducible refine LeO.bind ?_ (fun _ => ?_))
   | exact ih0 _ _ _ _
   | exact LeO.none _
   | refine LeO.ite ?_ ?_
   | refine LeO.bind ?_ (fun _ => ?_)
theorem line_length.mono : ∀ a0 k, LeO (line_length.f k a0) (line_length.f (k + 1) a0) := by
 intro a0 k
 have ih0 := line_length.mono_l k
 unfold line_length.f
 repeat' first
   | (with_reducible exact ih0 _ _ _ _)
   | (with_reducible exact LeO.refl _)
   | (with_reducible exact LeO.none _)
   | (with_reducible refine LeO.ite ?_ ?_)
   | (with_reducible refine LeO.bind ?_ (fun _ => ?_))
   | exact ih0 _ _ _ _
   | exact LeO.none _
   | refine LeO.ite ?_ ?_
   | refine LeO.bind ?_ (fun _ => ?_)
set_option maxHeartbeats 8000000 in
set_option maxRecDepth 100000 in
theorem line_length.calls (k : Nat) (A0 : Option Addr) (c0 : Nat) (l0 : List Int) (r : Int) (w : World) (hr0 : Kd.C (Kd.int .u8) w A0 l0.length l0) (hc0 : l0.length <= c0) (h : line_length.f k l0 = some r) :
  Calls Tryz.prog 71 #[.slice A0 l0.length c0] w fun e w' => e = .returned (.int .i64 r) /\ Below w.heap.size w w' := by
 have HR0 := Asd.mk hr0
 have HC0 := Asd.mk hc0
 clear hr0 hc0
 have HB := Asd.mk (Below.refl w.heap.size w)
 have H : (if 4 <= (l0.length : Int) then (line_length.l0 k 0 (l0.take 4) ((l0.take 4).length : Int) 0) else (none)) = some r := h
 clear h
 by_cases c2 : 4 <= (l0.length : Int)
 ·rw [if_pos c2] at H
  have c2b0 := eq_true c2
  have c2b1 : decide (4 <= (l0.length : Int)) = true := decide_eq_true c2
  clear c2
  have H' := Asd.mk H
  clear H
  obtain ⟨i03, hi03, _, hsz3, _⟩ := info_parts info5
  obtain ⟨hcut3, hA3, hC3⟩ := print_take_of (P := Tryz.prog) (Value.int .u8) 0 22 5 .i64 Tryz.underlying22 hi03 hsz3 A0 c0 l0 4 (by omega) (of_decide_eq_true (by first | (with_reducible assumption) | assumption)) HC0.out
  have HR147 := Asd.mk (Kd.C_of_reads (h1 := fun _ => rfl) (hA3 _ (Kd.reads_of_C HR0.out)))
  have HC147 := Asd.mk hC3
  clear hA3 hC3 hi03 hsz3
  go_enter Tryz.func71, Tryz.ntmps71
  go_wp2
  go_loopg [3, 10] k (fun kq v3 v10 w' => ∃ (x3_1 : Int) (x10_1 : Int), v3 = .int .i64 x3_1 /\ v10 = .int .i64 x10_1 /\ Asd (line_length.l0 kq x3_1 (l0.take 4) ((l0.take 4).length : Int) x10_1 = some r) /\ Asd (kq <= k) /\ Asd (Below w.heap.size w w'))
  case atStart => exact ⟨(0), (0), (by first | rfl | (simp; done) | (simp [*]; done)), (by first | rfl | (simp; done) | (simp [*]; done)), H', ⟨Nat.le_refl _⟩, ⟨by repeat (first | (with_reducible first | exact HB.out | apply bal | apply pbN | apply bd1) | exact HB.out)⟩⟩
  case round =>
   clear H'
   try clear c2
   try clear c2b0
   try clear c2b1
   try clear p2
   obtain ⟨x3_1, x10_1, rfl, rfl, HA, HK1, HB⟩ := hrel
   cases gk with
   | zero => exact absurd HA.out (by simp [line_length.l0])
   | succ k1 =>
    have H := HA.out
    clear HA
    simp only [line_length.l0] at H
    by_cases c4 : x10_1 < ((l0.take 4).length : Int)
    ·rw [if_pos c4] at H
     have c4b0 : decide (x10_1 < ((l0.take 4).length : Int)) = true := decide_eq_true c4
     (try (have c4b1 : decide (x10_1 < ((min 4 l0.length : Nat) : Int)) = true := by simpa only [List.length_take] using (decide_eq_true c4 : decide (x10_1 < ((l0.take 4).length : Int)) = true)))
     clear c4
     by_cases c5 : 0 <= x10_1
     ·rw [if_pos c5] at H
      have c5b0 : decide (0 <= x10_1) = true := decide_eq_true c5
      clear c5
      by_cases c6 : x10_1 < ((l0.take 4).length : Int)
      ·rw [if_pos c6] at H
       have c6b0 : decide (x10_1 < ((l0.take 4).length : Int)) = true := decide_eq_true c6
       (try (have c6b1 : decide (x10_1 < ((min 4 l0.length : Nat) : Int)) = true := by simpa only [List.length_take] using (decide_eq_true c6 : decide (x10_1 < ((l0.take 4).length : Int)) = true)))
       clear c6
       replace H := Option.bind_eq_some_iff.mp H
       obtain ⟨t149, A70, H⟩ := H
       replace H : ((bytes_IndexByte.f t149 (rd (l0.take 4) x10_1)).bind fun t152 => (if t152 < 0 then (some (-1)) else (line_length.l0 k1 (Go.bits .or .i64 (wrap64 (x3_1 * 16)) t152) (l0.take 4) ((l0.take 4).length : Int) (wrap64 (x10_1 + 1))))) = some r := H
       have A7 := Asd.mk A70
       clear A70
       replace H := Option.bind_eq_some_iff.mp H
       obtain ⟨t152, A80, H⟩ := H
       replace H : (if t152 < 0 then (some (-1)) else (line_length.l0 k1 (Go.bits .or .i64 (wrap64 (x3_1 * 16)) t152) (l0.take 4) ((l0.take 4).length : Int) (wrap64 (x10_1 + 1)))) = some r := H
       have A8 := Asd.mk A80
       clear A80
       by_cases c9 : t152 < 0
       ·rw [if_pos c9] at H
        have c9b0 : decide (t152 < 0) = true := decide_eq_true c9
        clear c9
        obtain rfl := Option.some.inj H
        have p148 : 0 <= (x10_1 : Int) := of_decide_eq_true (by first | (with_reducible assumption) | assumption)
        have q148 : x10_1 < ((l0.take 4).length : Int) := of_decide_eq_true (by first | (with_reducible assumption) | assumption)
        obtain ⟨ad148, e148, hx148_0⟩ := Kd.at_int HR147.out x10_1 p148 q148
        cases e148
        replace hx148_0 := (HB.out.cell (World.block_lt_of_cell? w _ hx148_0)).trans hx148_0
        replace p148 := eq_true p148
        (try (have q148m := q148; simp only [List.length_take] at q148m; replace q148m := eq_true q148m))
        replace q148 := eq_true q148
        go_wp2_with (first | ((with_reducible refine gate_dst (N := 14) rfl ?_); refine lit_ev ?hg (N := 14) ?hd ?hg2 22 5 ([48, 49, 50, 51, 52, 53, 54, 55, 56, 57, 97, 98, 99, 100, 101, 102] : List Int) ?hr (.tmp 14) rfl Tryz.underlying22 Tryz.underlying5 rfl (by decide) A7.out ?_; (case hg => rfl); (case hd => rfl); (case hg2 => rfl); (case hr => first | (go_simp; done) | (go_simp; rfl)); rintro v150 w10 ho0 hb; have n0_ := Asd.mk (Kd.V_lower (Kd.V_mono (ok' := fun k_ => True) ho0 (fun k_ hk_ => trivial)) (below_size (by repeat (first | (with_reducible first | exact HB.out | apply bal | apply pbN | apply bd1) | exact HB.out)))); have n1_ := Asd.mk (below_step (by repeat (first | (with_reducible first | exact HB.out | apply bal | apply pbN | apply bd1) | exact HB.out)) hb); clear HB; have HO151 := n0_; have HB := n1_; clear n0_ n1_; (try clear hb); (try clear hb2); (try clear hk); (try clear hi); (try clear ho0); obtain ⟨Ao11, co11, eo11⟩ := Kd.V_slice HO151.out; subst eo11) | ((with_reducible refine gate_callee (f := 85) rfl ?_); refine goesL_ (some 17) rfl rfl Tryz.func85 (by kernel_rfl) rfl #[.slice Ao11 t149.length co11, .int .u8 (rd (l0.take 4) x10_1)] rfl (by (try simp only [List.map_toArray, List.map_cons, List.map_nil]); first | done | rfl | (simp only [List.length_drop, List.length_take]; rfl)) ?_; (with_reducible refine (bytes_IndexByte.calls _ _ t149 (rd (l0.take 4) x10_1) t152 _ ?side1 ?side2 A8.out).mono ?_); (case side1 => repeat (first | exact (Kd.V_reads' HO151.out).2.2 | (with_reducible refine Kd.C_alloc ?_ _) | (with_reducible refine Kd.C_drewN ?_ _) | (with_reducible refine Kd.C_drew ?_))); (case side2 => exact (Kd.V_reads' HO151.out).2.1); rintro e w' ⟨rfl, ⟨nd, rfl⟩⟩; refine ⟨_, rfl, ?_⟩))
        go_ret
        exact ⟨by first | rfl | (simp [errW_none, errW_some] <;> rfl) | (simp [*, errW_none, errW_some] <;> rfl), by repeat (first | (with_reducible first | exact HB.out | apply bal | apply pbN | apply bd1) | exact HB.out)⟩
       ·rw [if_neg c9] at H
        have c9b0 : decide (t152 < 0) = false := decide_eq_false c9
        clear c9
        have H' := Asd.mk H
        clear H
        have p148 : 0 <= (x10_1 : Int) := of_decide_eq_true (by first | (with_reducible assumption) | assumption)
        have q148 : x10_1 < ((l0.take 4).length : Int) := of_decide_eq_true (by first | (with_reducible assumption) | assumption)
        obtain ⟨ad148, e148, hx148_0⟩ := Kd.at_int HR147.out x10_1 p148 q148
        cases e148
        replace hx148_0 := (HB.out.cell (World.block_lt_of_cell? w _ hx148_0)).trans hx148_0
        replace p148 := eq_true p148
        (try (have q148m := q148; simp only [List.length_take] at q148m; replace q148m := eq_true q148m))
        replace q148 := eq_true q148
        go_wp2_with (first | ((with_reducible refine gate_dst (N := 14) rfl ?_); refine lit_ev ?hg (N := 14) ?hd ?hg2 22 5 ([48, 49, 50, 51, 52, 53, 54, 55, 56, 57, 97, 98, 99, 100, 101, 102] : List Int) ?hr (.tmp 14) rfl Tryz.underlying22 Tryz.underlying5 rfl (by decide) A7.out ?_; (case hg => rfl); (case hd => rfl); (case hg2 => rfl); (case hr => first | (go_simp; done) | (go_simp; rfl)); rintro v150 w12 ho0 hb; have n0_ := Asd.mk (Kd.V_lower (Kd.V_mono (ok' := fun k_ => True) ho0 (fun k_ hk_ => trivial)) (below_size (by repeat (first | (with_reducible first | exact HB.out | apply bal | apply pbN | apply bd1) | exact HB.out)))); have n1_ := Asd.mk (below_step (by repeat (first | (with_reducible first | exact HB.out | apply bal | apply pbN | apply bd1) | exact HB.out)) hb); clear HB; have HO151 := n0_; have HB := n1_; clear n0_ n1_; (try clear hb); (try clear hb2); (try clear hk); (try clear hi); (try clear ho0); obtain ⟨Ao13, co13, eo13⟩ := Kd.V_slice HO151.out; subst eo13) | ((with_reducible refine gate_callee (f := 85) rfl ?_); refine goesL_ (some 17) rfl rfl Tryz.func85 (by kernel_rfl) rfl #[.slice Ao13 t149.length co13, .int .u8 (rd (l0.take 4) x10_1)] rfl (by (try simp only [List.map_toArray, List.map_cons, List.map_nil]); first | done | rfl | (simp only [List.length_drop, List.length_take]; rfl)) ?_; (with_reducible refine (bytes_IndexByte.calls _ _ t149 (rd (l0.take 4) x10_1) t152 _ ?side1 ?side2 A8.out).mono ?_); (case side1 => repeat (first | exact (Kd.V_reads' HO151.out).2.2 | (with_reducible refine Kd.C_alloc ?_ _) | (with_reducible refine Kd.C_drewN ?_ _) | (with_reducible refine Kd.C_drew ?_))); (case side2 => exact (Kd.V_reads' HO151.out).2.1); rintro e w' ⟨rfl, ⟨nd, rfl⟩⟩; refine ⟨_, rfl, ?_⟩))
        go_roundg k1
        case measure => have := HK1.out; omega
        case rel => exact ⟨(Go.bits .or .i64 (wrap64 (x3_1 * 16)) t152), (wrap64 (x10_1 + 1)), (by first | rfl | (simp; done) | (simp [*]; done)), (by first | rfl | (simp; done) | (simp [*]; done)), H', ⟨by have := HK1.out; omega⟩, ⟨by repeat (first | (with_reducible first | exact HB.out | apply bal | apply pbN | apply bd1) | exact HB.out)⟩⟩
      ·rw [if_neg c6] at H
       exact absurd H (by simp)
     ·rw [if_neg c5] at H
      exact absurd H (by simp)
    ·rw [if_neg c4] at H
     have c4b0 : decide (x10_1 < ((l0.take 4).length : Int)) = false := decide_eq_false c4
     (try (have c4b1 : decide (x10_1 < ((min 4 l0.length : Nat) : Int)) = false := by simpa only [List.length_take] using (decide_eq_false c4 : decide (x10_1 < ((l0.take 4).length : Int)) = false)))
     clear c4
     obtain rfl := Option.some.inj H
     go_wp2
     go_ret
     exact ⟨by first | rfl | (simp [errW_none, errW_some] <;> rfl) | (simp [*, errW_none, errW_some] <;> rfl), by repeat (first | (with_reducible first | exact HB.out | apply bal | apply pbN | apply bd1) | exact HB.out)⟩
 ·rw [if_neg c2] at H
  exact absurd H (by simp)
section
attribute [local go_sem] Oper.semAt_some
theorem infoL : (Tryz.prog.info? 65).map (fun i => (i.zero, i.size, i.bytes)) = some (some (.agg #[(.bool false), (.string ⟨#[]⟩)]), 2, 24) := by kernel_rfl
def lcells (xs : List S65) : List Value := xs.flatMap fun x => [.bool x.f0, .string x.f1]
theorem lcells_snoc (xs : List S65) (x : S65) : lcells (xs ++ [x]) = lcells xs ++ [.bool x.f0, .string x.f1] := by simp [lcells]
theorem lcells_reps {w : World} {base : Nat} {ok : Nat -> Prop} (xs : List S65) : Reps (k65.M w base ok) 2 xs (lcells xs) := by
 suffices h : ∀ (n : Nat) (xs : List S65), xs.length = n -> Reps (k65.M w base ok) 2 xs (lcells xs) from h _ xs rfl
 intro n
 induction n with
 | zero => intro xs h; obtain rfl := List.eq_nil_of_length_eq_zero h; exact Reps.none _ _
 | succ n ih =>
  intro xs h
  obtain ⟨ys, y, rfl⟩ : ∃ ys y, xs = ys ++ [y] := ⟨xs.dropLast, xs.getLast (by intro e; subst e; simp at h), (List.dropLast_concat_getLast _).symm⟩
  rw [lcells_snoc]
  exact (ih ys (by simpa using h)).snoc (k65_mkM _ _ _ y) rfl
theorem cell_two_new (w : World) (x y : Value) (t : TypeId) : ∀ j u, [x, y][j]? = some u -> (w.alloc (.cells #[x, y] t)).cell? ((⟨w.heap.size, 0, none⟩ : Addr).add j) = some u := by
 intro j u hj
 have hb : (w.alloc (.cells #[x, y] t)).heap[w.heap.size]? = some (.cells #[x, y] t) := by show (w.heap.push _)[w.heap.size]? = _; exact Array.getElem?_push_size
 rw [add_plain, cell_of_row _ _ j _ _ _ hb]
 simpa using hj
def lval (x : S65) : Array Value := #[.agg #[.bool x.f0, .string x.f1]]
set_option maxRecDepth 100000 in
set_option maxHeartbeats 4000000 in
theorem line_appendSeq {gf : Nat} {lb : Array Value} (eg : ∀ args w, (callFunc gf args).run Tryz.prog w = .ok (.enter gf args) w) {Fi Fm : Nat -> Prop} {S Sp : List S65 -> World -> Prop} {N : Nat} {w0 : World} (hseq : Go.Sep.SeqSep Tryz.prog gf lb lval Fi Fm S Sp N w0) (w : World)
  (hw0 : w0.heap.size <= w.heap.size) (hFi : ∀ k, Fi k -> w.heap[k]? = w0.heap[k]?) (hFil : ∀ k, Fi k -> k < w.heap.size) (hN : N * 24 <= 140737488355328)
  (hS : ∀ xs W W', S xs W -> (∀ k, Fi k -> W'.heap[k]? = W.heap[k]?) -> S xs W') (hSp : ∀ xs W W', Sp xs W -> (∀ k, Fi k -> W'.heap[k]? = W.heap[k]?) -> Sp xs W') :
  CallsIn Fence.wide 0 Tryz.prog 69 #[.slice none 0 0, .func (.func gf) #[] lb] w fun e w' => ∃ v xs, e = .returned v /\ Kd.R k65 65 w' w.heap.size (fun _ => True) v xs /\ S xs w' /\ Go.Sep.KeepEx Fm w w' := by
 obtain ⟨i0, hi, hz0, hz1, hz2⟩ := info_parts infoL
 refine callsIn_of_wp_marks Tryz.func69 rfl trivial ?_ rfl
 simp only [Tryz.ntmps69, List.size_toArray, List.length_cons, List.length_nil, Nat.reduceAdd, Nat.reduceSub, Array.replicate_succ, Array.replicate_zero, List.push_toArray, List.append_toArray, List.nil_append, List.cons_append]
 gi_wp2
 have bO := Boxed.new w 46 (.slice none 0 0)
 refine Go.Sep.wpIn_rangeFunc_sep rfl eg hseq (by simp; omega) (fun k hk => ?_) (fun k hk => ?_) (fun _ => rfl) hS hSp
  (fun Fq pre W => ∃ v, Boxed W w.heap.size 46 v /\ W.ownsRow w.heap.size 65 2 v pre.length (lcells pre) /\ Fq w.heap.size /\ ∀ k, v.ownBlock = some k -> Fq k)
  (fun _ _ _ _ => False) ?sI (fun _ _ _ _ _ h _ => h) (fun k => k = w.heap.size) ?d1 ?d2 ?h0
  (fun Fq p W => (∃ v, Boxed W w.heap.size 46 v /\ W.ownsRow w.heap.size 65 2 v p.1.length (lcells p.1) /\ Fq w.heap.size /\ ∀ k, v.ownBlock = some k -> Fq k) /\ ∃ Bx, Fq Bx /\ W.heap[Bx]? = some (.cells #[.bool p.2.1.f0, .string p.2.1.f1] 65 (0, 0)) /\ p.2.2 = { tmps := #[.slice none 0 0, .func (.func gf) #[] lb, .pointer (some ⟨w.heap.size, 0, none⟩), undef, .slice none 0 0, .pointer (some ⟨Bx, 0, none⟩), .func (.func gf) #[] lb, .agg #[.bool p.2.1.f0, .string p.2.1.f1], undef, undef, undef, undef, undef], defers := [] })
  ?sM ?assign ?body ?done ?stop
 ·exact (Below.heap_alloc _ _ _ (hFil k hk)).trans (hFi k hk)
 ·have := hFil k hk; simp; omega
 case sI =>
  rintro Fq pre W W' ⟨v, hv, hr, hB, hb⟩ h
  exact ⟨v, (h _ hB).trans hv, own_move hr (fun k hk => h k (hb k hk)), hB, hb⟩
 case d1 =>
  rintro k rfl hk
  exact absurd (hFil _ hk) (Nat.lt_irrefl _)
 case d2 =>
  rintro k rfl
  simp
 case h0 => exact ⟨_, bO, World.ownsRow_nil _ _ _ _, rfl, by simp [Value.ownBlock]⟩
 case sM =>
  rintro Fq ⟨pre, x, a'⟩ W W' ⟨⟨v, hv, hr, hB, hb⟩, Bx, h1, h2, h3⟩ h
  exact ⟨⟨v, (h _ hB).trans hv, own_move hr (fun k hk => h k (hb k hk)), hB, hb⟩, Bx, h1, (h _ h1).trans h2, h3⟩
 case assign =>
  rintro l Fq pre x W ⟨v, hv, hr, hB, hb⟩ hsz hFql hro
  simp only [lval, List.zip_toArray, List.zip_cons_cons, List.zip_nil_right, List.foldl_toArray', List.foldl_cons, List.foldl_nil]
  gi_wp2
  refine ⟨fun k => Fq k ∨ k = W.heap.size, (Go.Sep.KeepEx.refl _ _).alloc _, ?_, ⟨v, hv.alloc _, hr.alloc _, .inl hB, fun k hk => .inl (hb k hk)⟩, W.heap.size, .inr rfl, by show (W.heap.push _)[W.heap.size]? = _; exact Array.getElem?_push_size, rfl⟩
  rintro k (hk | rfl)
  ·exact ⟨.inl hk, by have := hFql k hk; simp; omega⟩
  ·exact ⟨.inr (Nat.le_refl _), by simp⟩
 case body =>
  rintro l Fq pre x a' W ⟨⟨v, hv, hr, hB, hb⟩, Bx, h1, h2, h3⟩ hlen hsz hFql hro
  dsimp only at hv hr h2 h3
  subst h3
  have hc := hv.cell
  have hf := hv.frozen
  have hx0 : W.cell? ⟨Bx, 0, none⟩ = some (.bool x.f0) := (cell_of_row W Bx 0 _ _ _ h2).trans rfl
  have hx1 : W.cell? ⟨Bx, 1, none⟩ = some (.string x.f1) := (cell_of_row W Bx 1 _ _ _ h2).trans rfl
  have hBs : w.heap.size <= W.heap.size := by simp at hsz; omega
  gi_wp2_with (gi_at_builtin; refine wpListIn_append_own_at _ rfl _ _ 46 rfl w.heap.size 65 i0 _ 2 24 Tryz.underlying46 hi hz0 hz1 hz2 rfl (by decide) _ _ _ rfl (hr.alloc _) ⟨W.heap.size, 0, none⟩ 1 1 [.bool x.f0, .string x.f1] rfl rfl ?c1 ?c2 ?c3 ?c4 ?c5 ?_; (case c1 => exact cell_two_new _ _ _ _); (case c2 => simp [Value.oneCell']); (case c3 => unfold maxLen; omega); (case c4 => omega); (case c5 => simp; omega); intro v' w1 hown' hgrow _ hat; obtain ⟨g', cap', rfl⟩ := ownsRow_succ hown'; obtain ⟨hv1, hv2, hr2, hk2, hb2⟩ := hv.appended (by decide) hr hBs (Nat.le_refl _) hown' hgrow; have hc1 := hv1.cell; have hf1 := hv1.frozen)
  have hg' : Fq g' ∨ W.heap.size <= g' := by
   rcases hat with h | h
   ·exact .inl (hb g' (Eq.symm h))
   ·exact .inr (by have h2 : some g' = some (W.alloc (.cells #[.bool x.f0, .string x.f1] 65)).heap.size := h; simp at h2; omega)
  refine ⟨fun k => Fq k ∨ k = g', ((Go.Sep.KeepEx.refl Fq W).alloc _ |>.trans (Go.Sep.KeepEx.of_grownBy (Fp := Fq) hgrow (fun k e => .inl (hb k e))) (fun _ e => e) (fun _ e => .inl e)).setCell ⟨w.heap.size, 0, none⟩ _ (.inl hB), ?_, _, hv2, ?_, .inl hB, ?_⟩
  ·rintro k (hk | rfl)
   ·exact ⟨.inl hk, by have := hFql k hk; have := hk2.size; omega⟩
   ·exact ⟨hg', own_lt hr2 _ rfl⟩
  ·rw [lcells_snoc]; simpa using hr2
  ·intro k hk
   right
   simpa [Value.ownBlock] using hk.symm
 case done =>
  rintro D Fq xs W hD hFqD hSx ⟨v, hv, hr, hB, hb⟩ hkeep hFql hK
  have hc := hv.cell
  gi_wp2
  refine ⟨by simp, .inl ⟨_, _, rfl, run_takeDeferred hK, ?_⟩⟩
  have hDs : w.heap.size + 1 <= D := by simpa using hD
  refine ⟨_, results_tmp rfl _ _ _, v, xs, rfl, ⟨fun _ _ => trivial, lcells xs, ownsRow_putObj hr _ hK rfl, lcells_reps xs⟩, hS _ _ _ hSx (fun k hk => World.putObj_heap_other (fun e => by have := hFil k hk; omega)), ?_⟩
  refine (((Go.Sep.KeepEx.refl Fm w).alloc _).trans hkeep (fun _ e => e) (fun k hk => ?_)).trans (Go.Sep.KeepEx.putObj (Fp := fun k => k = D) W D _ rfl) (fun _ e => e) (fun k hk => .inr (by omega))
  rcases hk with rfl | hk
  ·exact .inr (Nat.le_refl _)
  ·exact .inl hk
 case stop =>
  rintro D c Fq pre W _ _ _ h
  exact h.elim
def line_Cut.l : Nat -> List Int -> List S65 -> Option (List S65 × List Int × Int)
 | 0, _, _ => none
 | k + 1, b, out =>
  if b.length < 4 then some (out, b, 0) else
  (line_length.f k b).bind fun n =>
   if n < 0 ∨ (0 < n /\ n <= 4) ∨ 4004 < n then some (out, b, 3) else
   if (b.length : Int) < n then some (out, b, 0) else
   if n = 0 then line_Cut.l k (b.drop 4) (out ++ [⟨true, ⟨#[]⟩⟩])
   else line_Cut.l k (b.drop n.toNat) (out ++ [⟨false, strOfNums ((b.take n.toNat).drop 4)⟩])
theorem line_Cut.l_len : ∀ (k : Nat) (b : List Int) (out xs : List S65) (r : List Int) (e : Int), line_Cut.l k b out = some (xs, r, e) -> out.length <= xs.length
 | 0, _, _, _, _, _, h => by simp [line_Cut.l] at h
 | k + 1, b, out, xs, r, e, h => by
  simp only [line_Cut.l] at h
  split at h
  ·simp at h; simp [h.1]
  ·cases hn : line_length.f k b with
   | none => rw [hn] at h; simp at h
   | some n =>
    rw [hn] at h
    simp only [Option.bind_some] at h
    split at h
    ·simp at h; simp [h.1]
    ·split at h
     ·simp at h; simp [h.1]
     ·split at h
      all_goals
       have := line_Cut.l_len _ _ _ _ _ _ h
       simp at this
       omega
def sliceLen (W : World) (R : Nat) : Nat := match W.cell? ⟨R, 0, none⟩ with | some (.slice _ n _) => n | _ => 0
set_option maxRecDepth 100000 in
set_option maxHeartbeats 4000000 in
theorem line_lines (k0 : Nat) (b0 : List Int) (xs0 : List S65) (rest : List Int) (e0 : Int) (h0 : line_Cut.l k0 b0 [] = some (xs0, rest, e0)) (w w0 : World) (R Bx : Nat) (A0 : Option Addr) (c0 : Nat) (hne : R ≠ Bx)
  (hRn : w.heap.size <= R) (hBn : w.heap.size <= Bx) (hw : Below w.heap.size w w0)
  (hR : w0.heap[R]? = some (.cells #[.slice A0 b0.length c0, .int .i64 0] 84 (0, 0))) (hB : w0.heap[Bx]? = some (.cells #[.pointer (some ⟨R, 0, none⟩)] 82 (0, 0))) (hC : Kd.C (Kd.int .u8) w A0 b0.length b0) (hc0 : b0.length <= c0) :
  Go.Sep.SeqSep Tryz.prog 70 #[.pointer (some ⟨Bx, 0, none⟩)] lval (fun k => k < w.heap.size ∨ k = R ∨ k = Bx) (fun k => k = R)
   (fun xs W => xs = xs0 /\ ∃ A c, W.heap[R]? = some (.cells #[.slice A rest.length c, .int .i64 e0] 84 (0, 0)) /\ rest.length <= c /\ Kd.C (Kd.int .u8) w A rest.length rest) (fun _ _ => True) xs0.length w0 := by
 intro l J Jx Fp W hsz hFiW hdisj hFpl hSJ hSJx hround hJ0
 refine callsIn_of_wp Tryz.func70 rfl trivial ?_ rfl
 simp only [Tryz.ntmps70, List.size_toArray, List.length_cons, List.length_nil, Nat.reduceAdd, Nat.reduceSub, Array.replicate_succ, Array.replicate_zero, List.push_toArray, List.append_toArray, List.nil_append, List.cons_append]
 gi_wp2
 gi_loopw [] (fun wr => ∃ (Fq : Nat -> Prop) (pre : List S65) (bq : List Int) (kq : Nat) (A : Option Addr) (c : Nat), J Fq pre wr /\ Go.Sep.KeepEx (fun k => Fp k ∨ k = R) W wr /\ (∀ k, Fq k -> (Fp k ∨ W.heap.size <= k) /\ ¬ (k < w.heap.size ∨ k = R ∨ k = Bx) /\ k < wr.heap.size) /\ wr.heap[R]? = some (.cells #[.slice A bq.length c, .int .i64 0] 84 (0, 0)) /\ wr.heap[Bx]? = some (.cells #[.pointer (some ⟨R, 0, none⟩)] 82 (0, 0)) /\ bq.length <= c /\ Kd.C (Kd.int .u8) w A bq.length bq /\ line_Cut.l kq bq pre = some (xs0, rest, e0))
  (fun wr => sliceLen wr R)
 case atStart => exact ⟨Fp, [], b0, k0, A0, c0, hJ0, Go.Sep.KeepEx.refl _ _, fun k hk => ⟨.inl hk, hdisj k hk, hFpl k hk⟩, (hFiW R (.inr (.inl rfl))).trans hR, (hFiW Bx (.inr (.inr rfl))).trans hB, hc0, hC, h0⟩
 case round =>
  obtain ⟨Fq, pre, bq, kq, A, c, hJq, hkeep, hFq, hRq, hBq, hcq, hCq, hl⟩ := hrel
  have hB0 : wr.cell? ⟨Bx, 0, none⟩ = some (.pointer (some ⟨R, 0, none⟩)) := (cell_of_row wr Bx 0 _ _ _ hBq).trans rfl
  have hR0 : wr.cell? ⟨R, 0, none⟩ = some (.slice A bq.length c) := (cell_of_row wr R 0 _ _ _ hRq).trans rfl
  have hR1 : wr.cell? ⟨R, 1, none⟩ = some (.int .i64 0) := (cell_of_row wr R 1 _ _ _ hRq).trans rfl
  have hRf : ∀ j, wr.frozen? ⟨R, j, none⟩ = false := fun j => by simp [World.frozen?, hRq]
  have hRf1 := hRf 1
  have hRl : R < wr.heap.size := (Array.getElem?_eq_some_iff.1 hRq).1
  have hBl : Bx < wr.heap.size := (Array.getElem?_eq_some_iff.1 hBq).1
  have hFpn : ∀ k, Fp k -> ¬ (k < w.heap.size ∨ k = R ∨ k = Bx) := hdisj
  have hsame : ∀ k, k < w.heap.size -> wr.heap[k]? = w.heap[k]? := fun k hk =>
   ((hkeep.block k (by have := hw.size; omega) (fun h => h.elim (fun h => hFpn k h (.inl hk)) (fun h => by omega))).trans (hFiW k (.inl hk))).trans (hw.block k hk)
  have hCr : ∀ {B : Option Addr} {ys : List Int}, Kd.C (Kd.int .u8) w B ys.length ys -> ∀ W1, Below wr.heap.size wr W1 -> Kd.C (Kd.int .u8) W1 B ys.length ys := fun h W1 hb =>
   Kd.C_F (Kd.heap_int .u8) h W1 (fun k hk _ => (hb.block k (by have := hw.size; have := hkeep.size; omega)).trans (hsame k hk))
  have hstep : ∀ W1, Below wr.heap.size wr W1 -> J Fq pre W1 /\ W1.heap[R]? = some (.cells #[.slice A bq.length c, .int .i64 0] 84 (0, 0)) /\ W1.heap[Bx]? = some (.cells #[.pointer (some ⟨R, 0, none⟩)] 82 (0, 0)) /\ Go.Sep.KeepEx (fun k => Fp k ∨ k = R) W W1 := fun W1 hb =>
   ⟨hSJ _ _ _ _ hJq (fun k hk => hb.block k (hFq k hk).2.2), (hb.block R hRl).trans hRq, (hb.block Bx hBl).trans hBq, hkeep.step hb⟩
  have hset : ∀ W1, Below wr.heap.size wr W1 -> ∀ j v, J Fq pre (W1.setCell ⟨R, j, none⟩ v) /\ Go.Sep.KeepEx (fun k => Fp k ∨ k = R) W (W1.setCell ⟨R, j, none⟩ v) /\ wr.heap.size <= (W1.setCell ⟨R, j, none⟩ v).heap.size := fun W1 hb j v =>
   ⟨hSJ _ _ _ _ (hstep W1 hb).1 (fun k hk => Below.heap_setCell _ _ _ _ (fun e => (hFq k hk).2.1 (.inr (.inl e)))), (hstep W1 hb).2.2.2.setCell _ _ (.inl (.inr rfl)), by have := hb.size; simpa [World.setCell] using this⟩
  cases kq with
  | zero => simp [line_Cut.l] at hl
  | succ kq =>
  simp only [line_Cut.l] at hl
  by_cases h4 : bq.length < 4
  ·rw [if_pos h4] at hl
   obtain ⟨rfl, rfl, rfl⟩ : pre = xs0 /\ bq = rest /\ 0 = e0 := by simpa using hl
   have ht : decide (4 <= bq.length) = false := by simp; omega
   have ht2 : decide ((4 : Int) <= (bq.length : Int)) = false := by simp; omega
   clear hl
   gi_wp2
   go_end0
   exact ⟨⟨_, rfl⟩, Fq, hkeep, hFq, .inl ⟨_, ⟨rfl, A, c, hRq, hcq, hCq⟩, hJq⟩⟩
  ·rw [if_neg h4] at hl
   have ht : decide (4 <= bq.length) = true := by simp; omega
   have ht2 : decide ((4 : Int) <= (bq.length : Int)) = true := by simp; omega
   obtain ⟨n, hn, hl⟩ := Option.bind_eq_some_iff.1 hl
   by_cases h5 : n < 0 ∨ (0 < n /\ n <= 4) ∨ 4004 < n
   ·rw [if_pos h5] at hl
    obtain ⟨rfl, rfl, rfl⟩ : pre = xs0 /\ bq = rest /\ 3 = e0 := by simpa using hl
    have Hn := Asd.mk hn
    have HCq := Asd.mk (hCr hCq wr (Below.refl _ _))
    clear hl hn h4
    have key : ∀ W1, Below wr.heap.size wr W1 -> (∃ Fr, Go.Sep.KeepEx (fun k => Fp k ∨ k = R) W (W1.setCell ⟨R, 1, none⟩ (.int .i64 3)) /\ (∀ k, Fr k -> (Fp k ∨ W.heap.size <= k) /\ ¬ (k < w.heap.size ∨ k = R ∨ k = Bx) /\ k < (W1.setCell ⟨R, 1, none⟩ (.int .i64 3)).heap.size) /\
      ((∃ xs, (xs = pre /\ ∃ A c, (W1.setCell ⟨R, 1, none⟩ (.int .i64 3)).heap[R]? = some (.cells #[.slice A bq.length c, .int .i64 3] 84 (0, 0)) /\ bq.length <= c /\ Kd.C (Kd.int .u8) w A bq.length bq) /\ J Fr xs (W1.setCell ⟨R, 1, none⟩ (.int .i64 3))) ∨ (∃ pre', True /\ Jx Fr pre' (W1.setCell ⟨R, 1, none⟩ (.int .i64 3))))) := by
     intro W1 hb
     obtain ⟨hj, hk, hz⟩ := hset W1 hb 1 (.int .i64 3)
     exact ⟨Fq, hk, fun k hk => ⟨(hFq k hk).1, (hFq k hk).2.1, by have := (hFq k hk).2.2; omega⟩, .inl ⟨pre, ⟨rfl, A, c, blk_put (hstep W1 hb).2.1 1 _ rfl, hcq, hCq⟩, hj⟩⟩
    rcases h5 with h5 | h5 | h5
    ·have c1 : decide (n < 0) = true := by simpa using h5
     gi_wp2_with (refine ⟨trivial, rfl, ?_⟩; gi_at_call 71; refine (callsIn_wide.2 (line_length.calls kq A c bq n wr HCq.out hcq Hn.out)).mono ?_; rintro e W1 ⟨rfl, hb⟩; have HK := Asd.mk (key W1 hb); have hB0' := (hb.cell (p := ⟨Bx, 0, none⟩) hBl).trans hB0; have hR1' := (hb.cell (p := ⟨R, 1, none⟩) hRl).trans hR1; have hRf' := (hb.frozen (p := ⟨R, 1, none⟩) hRl).trans hRf1; clear hb)
     refine bodyPost_ret (results_none rfl _ _ _) rfl ?_
     exact ⟨⟨_, rfl⟩, HK.out⟩
    ·have c1 : decide (n < 0) = false := by simp; omega
     have c2 : decide (0 < n) = true := by simp; omega
     have c3 : decide (n <= 4) = true := by simp; omega
     gi_wp2_with (refine ⟨trivial, rfl, ?_⟩; gi_at_call 71; refine (callsIn_wide.2 (line_length.calls kq A c bq n wr HCq.out hcq Hn.out)).mono ?_; rintro e W1 ⟨rfl, hb⟩; have HK := Asd.mk (key W1 hb); have hB0' := (hb.cell (p := ⟨Bx, 0, none⟩) hBl).trans hB0; have hR1' := (hb.cell (p := ⟨R, 1, none⟩) hRl).trans hR1; have hRf' := (hb.frozen (p := ⟨R, 1, none⟩) hRl).trans hRf1; clear hb)
     refine bodyPost_ret (results_none rfl _ _ _) rfl ?_
     exact ⟨⟨_, rfl⟩, HK.out⟩
    ·have c1 : decide (n < 0) = false := by simp; omega
     have c2 : decide (0 < n) = true := by simp; omega
     have c3 : decide (n <= 4) = false := by simp; omega
     have c4 : decide (4004 < n) = true := by simp; omega
     gi_wp2_with (refine ⟨trivial, rfl, ?_⟩; gi_at_call 71; refine (callsIn_wide.2 (line_length.calls kq A c bq n wr HCq.out hcq Hn.out)).mono ?_; rintro e W1 ⟨rfl, hb⟩; have HK := Asd.mk (key W1 hb); have hB0' := (hb.cell (p := ⟨Bx, 0, none⟩) hBl).trans hB0; have hR1' := (hb.cell (p := ⟨R, 1, none⟩) hRl).trans hR1; have hRf' := (hb.frozen (p := ⟨R, 1, none⟩) hRl).trans hRf1; clear hb)
     refine bodyPost_ret (results_none rfl _ _ _) rfl ?_
     exact ⟨⟨_, rfl⟩, HK.out⟩
   ·rw [if_neg h5] at hl
    have Hn := Asd.mk hn
    have HCq := Asd.mk (hCr hCq wr (Below.refl _ _))
    by_cases h6 : (bq.length : Int) < n
    ·rw [if_pos h6] at hl
     obtain ⟨rfl, rfl, rfl⟩ : pre = xs0 /\ bq = rest /\ 0 = e0 := by simpa using hl
     have key : ∀ W1, Below wr.heap.size wr W1 -> (∃ Fr, Go.Sep.KeepEx (fun k => Fp k ∨ k = R) W W1 /\ (∀ k, Fr k -> (Fp k ∨ W.heap.size <= k) /\ ¬ (k < w.heap.size ∨ k = R ∨ k = Bx) /\ k < W1.heap.size) /\
      ((∃ xs, (xs = pre /\ ∃ A c, W1.heap[R]? = some (.cells #[.slice A bq.length c, .int .i64 0] 84 (0, 0)) /\ bq.length <= c /\ Kd.C (Kd.int .u8) w A bq.length bq) /\ J Fr xs W1) ∨ (∃ pre', True /\ Jx Fr pre' W1))) := by
      intro W1 hb
      exact ⟨Fq, (hstep W1 hb).2.2.2, fun k hk => ⟨(hFq k hk).1, (hFq k hk).2.1, by have := (hFq k hk).2.2; have := hb.size; omega⟩, .inl ⟨pre, ⟨rfl, A, c, (hstep W1 hb).2.1, hcq, hCq⟩, (hstep W1 hb).1⟩⟩
     have c1 : decide (n < 0) = false := by simp; omega
     have c2 : decide (0 < n) = true := by simp; omega
     have c3 : decide (n <= 4) = false := by simp; omega
     have c4 : decide (4004 < n) = false := by simp; omega
     have c5 : decide ((bq.length : Int) < n) = true := by simpa using h6
     clear hl hn h4 h5 h6
     gi_wp2_with (refine ⟨trivial, rfl, ?_⟩; gi_at_call 71; refine (callsIn_wide.2 (line_length.calls kq A c bq n wr HCq.out hcq Hn.out)).mono ?_; rintro e W1 ⟨rfl, hb⟩; have HK := Asd.mk (key W1 hb); have hB0' := (hb.cell (p := ⟨Bx, 0, none⟩) hBl).trans hB0; have hR0' := (hb.cell (p := ⟨R, 0, none⟩) hRl).trans hR0; clear hb)
     refine bodyPost_ret (results_none rfl _ _ _) rfl ?_
     exact ⟨⟨_, rfl⟩, HK.out⟩
    ·rw [if_neg h6] at hl
     by_cases h7 : n = 0
     ·rw [if_pos h7] at hl
      subst h7
      obtain ⟨i0, hi0, _, hsz, _⟩ := info_parts info5
      obtain ⟨A', hcut, hAr, hcc⟩ := print_drop_of (P := Tryz.prog) (Value.int .u8) 0 22 5 .i64 Tryz.underlying22 hi0 hsz A c bq 4 (by omega) (by omega) hcq
      have HCd := Asd.mk (Kd.C_of_reads (h1 := fun _ => rfl) (hAr _ (Kd.reads_of_C hCq)))
      obtain ⟨y, hy⟩ : ∃ y, y = bq.drop 4 := ⟨_, rfl⟩
      simp only [show (4 : Int).toNat = 4 from rfl] at hcut HCd hcc
      rw [<- hy] at hl hcut HCd hcc
      have Hl := Asd.mk hl
      have Hcc := Asd.mk hcc
      have HYl := Asd.mk (show y.length + 4 = bq.length by rw [hy, List.length_drop]; omega)
      clear hl hn h4 h5 h6 hy hcc hAr hi0 hsz
      gi_wp2_with (refine ⟨trivial, rfl, ?_⟩; gi_at_call 71; refine (callsIn_wide.2 (line_length.calls kq A c bq 0 wr HCq.out hcq Hn.out)).mono ?_; rintro e W1 ⟨rfl, hb⟩; have HB1 := Asd.mk hb; have hB0' := (hb.cell (p := ⟨Bx, 0, none⟩) hBl).trans hB0; have hR0' := (hb.cell (p := ⟨R, 0, none⟩) hRl).trans hR0; have hRf' := (hb.frozen (p := ⟨R, 0, none⟩) hRl).trans (hRf 0); clear hb)
      obtain ⟨W2, hW2⟩ : ∃ W2, W2 = W1.alloc (.cells #[.bool true, .string ⟨#[]⟩] 65) := ⟨_, rfl⟩
      rw [<- hW2]
      have hbX : W2.heap[W1.heap.size]? = some (.cells #[.bool true, .string ⟨#[]⟩] 65 (0, 0)) := by rw [hW2]; show (W1.heap.push _)[W1.heap.size]? = _; exact Array.getElem?_push_size
      have HB2 := Asd.mk (show Below wr.heap.size wr W2 by rw [hW2]; exact bal HB1.out _)
      have HZ2 := Asd.mk (show W2.heap.size = W1.heap.size + 1 by rw [hW2]; simp)
      clear hW2 hB0' hR0' hRf'
      have hB0' := (HB2.out.cell (p := ⟨Bx, 0, none⟩) hBl).trans hB0
      have hR0' := (HB2.out.cell (p := ⟨R, 0, none⟩) hRl).trans hR0
      have hRf' := (HB2.out.frozen (p := ⟨R, 0, none⟩) hRl).trans (hRf 0)
      gi_region
      obtain ⟨W3, hW3⟩ : ∃ W3, W3 = (W2.setCell ⟨R, 0, none⟩ (.slice A' y.length (c - 4))).drew := ⟨_, rfl⟩
      rw [<- hW3]
      have hz3 : W3.heap.size = W2.heap.size := by rw [hW3]; simp [World.setCell]
      have hXR : W1.heap.size ≠ R := by have := HB1.out.size; omega
      have hb3 : ∀ k, k ≠ R -> W3.heap[k]? = W2.heap[k]? := fun k hk => by rw [hW3]; exact Below.heap_setCell _ ⟨R, 0, none⟩ _ k hk
      have hX3 : W3.heap[W1.heap.size]? = some (.cells #[.bool true, .string ⟨#[]⟩] 65 (0, 0)) := (hb3 _ hXR).trans hbX
      have hR3 : W3.heap[R]? = some (.cells #[.slice A' y.length (c - 4), .int .i64 0] 84 (0, 0)) := by rw [hW3]; exact blk_put (hstep W2 HB2.out).2.1 0 _ rfl
      have hB3 : W3.heap[Bx]? = some (.cells #[.pointer (some ⟨R, 0, none⟩)] 82 (0, 0)) := (hb3 _ (Ne.symm hne)).trans (hstep W2 HB2.out).2.2.1
      have hx0 : W3.cell? ⟨W1.heap.size, 0, none⟩ = some (.bool true) := (cell_of_row W3 _ 0 _ _ _ hX3).trans rfl
      have hx1 : W3.cell? ⟨W1.heap.size, 1, none⟩ = some (.string ⟨#[]⟩) := (cell_of_row W3 _ 1 _ _ _ hX3).trans rfl
      have hj3 : J Fq pre W3 := by rw [hW3]; exact hSJ _ _ _ _ (hset W2 HB2.out 0 (.slice A' y.length (c - 4))).1 (fun _ _ => rfl)
      have hk3 : Go.Sep.KeepEx (fun k => Fp k ∨ k = R) W W3 := by rw [hW3]; exact ((hset W2 HB2.out 0 _).2.1).drew
      have hsz3 : wr.heap.size <= W3.heap.size := by rw [hz3]; exact HB2.out.size
      have hlen := line_Cut.l_len _ _ _ _ _ _ Hl.out
      obtain ⟨fn, tmps, assign, body, hy3, hR⟩ := hround Fq pre ⟨true, ⟨#[]⟩⟩ W3 hj3 (by simp at hlen; omega) (by have := hkeep.size; omega) (fun k hk => (hFq k hk).2.1) (fun k hk => by have := (hFq k hk).2.2; omega) (fun k h1 h2 => hk3.block k (by have := hw.size; have := (Array.getElem?_eq_some_iff.1 hB).1; omega) (fun h => h.elim (fun h => hFpn k h h1) h2))
      simp only [lval] at hy3
      clear hW3 hB0' hR0' hRf' hbX hlen
      gi_wp2
      refine ⟨rfl, hR.mono ?_⟩
      rintro e W4 ⟨Fr, hk4, hFr, hor⟩
      have hR4 : W4.heap[R]? = some (.cells #[.slice A' y.length (c - 4), .int .i64 0] 84 (0, 0)) := (hk4.block R (by omega) (fun h => (hFq R h).2.1 (.inr (.inl rfl)))).trans hR3
      have hB4 : W4.heap[Bx]? = some (.cells #[.pointer (some ⟨R, 0, none⟩)] 82 (0, 0)) := (hk4.block Bx (by omega) (fun h => (hFq Bx h).2.1 (.inr (.inr rfl)))).trans hB3
      have hk5 : Go.Sep.KeepEx (fun k => Fp k ∨ k = R) W W4 := hk3.trans hk4 (fun _ e => e) (fun k hk => by
       rcases (hFq k hk).1 with h | h
       ·exact .inl (.inl h)
       ·exact .inr h)
      have hFr5 : ∀ k, Fr k -> (Fp k ∨ W.heap.size <= k) /\ ¬ (k < w.heap.size ∨ k = R ∨ k = Bx) /\ k < W4.heap.size := fun k hk => by
       rcases (hFr k hk).1 with h | h
       ·exact ⟨(hFq k h).1, (hFq k h).2.1, (hFr k hk).2⟩
       ·have := hkeep.size; have := hw.size; exact ⟨.inr (by omega), fun h' => by omega, (hFr k hk).2⟩
      rcases hor with ⟨rfl, hj4⟩ | ⟨rfl, hj4⟩
      ·gi_wp2
       go_roundw
       case rel => exact ⟨Fr, _, y, kq, A', _, hj4, hk5, hFr5, hR4, hB4, Hcc.out, HCd.out, Hl.out⟩
       case measure =>
        have e1 : sliceLen W4 R = y.length := by unfold sliceLen; rw [cell_of_row W4 R 0 _ _ _ hR4]; rfl
        have e2 : sliceLen wr R = bq.length := by unfold sliceLen; rw [hR0]
        rw [e1, e2]; have := HYl.out; omega
      ·gi_wp2
       refine bodyPost_ret (results_none rfl _ _ _) rfl ?_
       exact ⟨⟨_, rfl⟩, Fr, hk5, hFr5, .inr ⟨_, trivial, hj4⟩⟩
     ·rw [if_neg h7] at hl
      obtain ⟨i0, hi0, _, hsz, _⟩ := info_parts info5
      obtain ⟨A', hcut, hAr, hcc⟩ := print_drop_of (P := Tryz.prog) (Value.int .u8) 0 22 5 .i64 Tryz.underlying22 hi0 hsz A c bq n (by omega) (by omega) hcq
      obtain ⟨A2, hcut2, hAr2, hcc2⟩ := print_mid_of (P := Tryz.prog) (Value.int .u8) 0 22 5 .i64 .i64 Tryz.underlying22 hi0 hsz A c bq 4 n (by omega) (by omega) (by omega) hcq
      have HCd := Asd.mk (Kd.C_of_reads (h1 := fun _ => rfl) (hAr _ (Kd.reads_of_C hCq)))
      have HCm := Asd.mk (Kd.C_of_reads (h1 := fun _ => rfl) (hAr2 _ (Kd.reads_of_C hCq)))
      simp only [show (4 : Int).toNat = 4 from rfl] at hcut2 HCm hcc2
      have HYl := Asd.mk (show (bq.drop n.toNat).length + 4 <= bq.length by rw [List.length_drop]; omega)
      generalize bq.drop n.toNat = y at hl hcut HCd hcc HYl
      generalize (bq.take n.toNat).drop 4 = z at hl hcut2 HCm hcc2
      have Hl := Asd.mk hl
      have Hcc := Asd.mk hcc
      have c1 : decide (n < 0) = false := by simp; omega
      have c2 : decide (0 < n) = true := by simp; omega
      have c3 : decide (n <= 4) = false := by simp; omega
      have c4 : decide (4004 < n) = false := by simp; omega
      have c5 : decide ((bq.length : Int) < n) = false := by simpa using h6
      have c6 : (n == 0) = false := by simpa using h7
      have c7 : decide (4 < n) = true := by simp; omega
      have c8 : (if n < 4 then (4 : Int) else n) = n := by rw [if_neg (by omega)]
      have c9 : max n 4 = n := by omega
      have HMM := Asd.mk (show 4 < n by omega)
      clear hl hn h4 h5 h6 h7 hcc hAr hi0 hsz hAr2 hcc2
      gi_wp2_with (refine ⟨trivial, rfl, ?_⟩; gi_at_call 71; refine (callsIn_wide.2 (line_length.calls kq A c bq n wr HCq.out hcq Hn.out)).mono ?_; rintro e W1 ⟨rfl, hb⟩; have HB1 := Asd.mk hb; have hB0' := (hb.cell (p := ⟨Bx, 0, none⟩) hBl).trans hB0; have hR0' := (hb.cell (p := ⟨R, 0, none⟩) hRl).trans hR0; have hRf' := (hb.frozen (p := ⟨R, 0, none⟩) hRl).trans (hRf 0); have hcv := Kd.C_string (P := Tryz.prog) (src := 22) (dst := 9) (c := c - 4) Tryz.underlying22 Tryz.underlying5 Tryz.underlying9 (hCr HCm.out _ (bal hb (.cells #[.bool false, .string ⟨#[]⟩] 65))); have hb' := bal hb (.cells #[.bool false, .string ⟨#[]⟩] 65); have hB0'' := (hb'.cell (p := ⟨Bx, 0, none⟩) hBl).trans hB0; have hR0'' := (hb'.cell (p := ⟨R, 0, none⟩) hRl).trans hR0; clear hb hb')
      obtain ⟨W2, hW2⟩ : ∃ W2, W2 = W1.alloc (.cells #[.bool false, .string (strOfNums z)] 65) := ⟨_, rfl⟩
      rw [<- hW2]
      have hbX : W2.heap[W1.heap.size]? = some (.cells #[.bool false, .string (strOfNums z)] 65 (0, 0)) := by rw [hW2]; show (W1.heap.push _)[W1.heap.size]? = _; exact Array.getElem?_push_size
      have HB2 := Asd.mk (show Below wr.heap.size wr W2 by rw [hW2]; exact bal HB1.out _)
      have HZ2 := Asd.mk (show W2.heap.size = W1.heap.size + 1 by rw [hW2]; simp)
      clear hW2 hB0' hR0' hRf' hcv hB0'' hR0''
      have hB0' := (HB2.out.cell (p := ⟨Bx, 0, none⟩) hBl).trans hB0
      have hR0' := (HB2.out.cell (p := ⟨R, 0, none⟩) hRl).trans hR0
      have hRf' := (HB2.out.frozen (p := ⟨R, 0, none⟩) hRl).trans (hRf 0)
      gi_region
      obtain ⟨W3, hW3⟩ : ∃ W3, W3 = (W2.setCell ⟨R, 0, none⟩ (.slice A' y.length (c - n.toNat))).drew := ⟨_, rfl⟩
      rw [<- hW3]
      have hz3 : W3.heap.size = W2.heap.size := by rw [hW3]; simp [World.setCell]
      have hXR : W1.heap.size ≠ R := by have := HB1.out.size; omega
      have hb3 : ∀ k, k ≠ R -> W3.heap[k]? = W2.heap[k]? := fun k hk => by rw [hW3]; exact Below.heap_setCell _ ⟨R, 0, none⟩ _ k hk
      have hX3 : W3.heap[W1.heap.size]? = some (.cells #[.bool false, .string (strOfNums z)] 65 (0, 0)) := (hb3 _ hXR).trans hbX
      have hR3 : W3.heap[R]? = some (.cells #[.slice A' y.length (c - n.toNat), .int .i64 0] 84 (0, 0)) := by rw [hW3]; exact blk_put (hstep W2 HB2.out).2.1 0 _ rfl
      have hB3 : W3.heap[Bx]? = some (.cells #[.pointer (some ⟨R, 0, none⟩)] 82 (0, 0)) := (hb3 _ (Ne.symm hne)).trans (hstep W2 HB2.out).2.2.1
      have hx0 : W3.cell? ⟨W1.heap.size, 0, none⟩ = some (.bool false) := (cell_of_row W3 _ 0 _ _ _ hX3).trans rfl
      have hx1 : W3.cell? ⟨W1.heap.size, 1, none⟩ = some (.string (strOfNums z)) := (cell_of_row W3 _ 1 _ _ _ hX3).trans rfl
      have hj3 : J Fq pre W3 := by rw [hW3]; exact hSJ _ _ _ _ (hset W2 HB2.out 0 (.slice A' y.length (c - n.toNat))).1 (fun _ _ => rfl)
      have hk3 : Go.Sep.KeepEx (fun k => Fp k ∨ k = R) W W3 := by rw [hW3]; exact ((hset W2 HB2.out 0 _).2.1).drew
      have hsz3 : wr.heap.size <= W3.heap.size := by rw [hz3]; exact HB2.out.size
      have hlen := line_Cut.l_len _ _ _ _ _ _ Hl.out
      obtain ⟨fn, tmps, assign, body, hy3, hR⟩ := hround Fq pre ⟨false, (strOfNums z)⟩ W3 hj3 (by simp at hlen; omega) (by have := hkeep.size; omega) (fun k hk => (hFq k hk).2.1) (fun k hk => by have := (hFq k hk).2.2; omega) (fun k h1 h2 => hk3.block k (by have := hw.size; have := (Array.getElem?_eq_some_iff.1 hB).1; omega) (fun h => h.elim (fun h => hFpn k h h1) h2))
      simp only [lval] at hy3
      clear hW3 hB0' hR0' hRf' hbX hlen
      gi_wp2
      refine ⟨rfl, hR.mono ?_⟩
      rintro e W4 ⟨Fr, hk4, hFr, hor⟩
      have hR4 : W4.heap[R]? = some (.cells #[.slice A' y.length (c - n.toNat), .int .i64 0] 84 (0, 0)) := (hk4.block R (by omega) (fun h => (hFq R h).2.1 (.inr (.inl rfl)))).trans hR3
      have hB4 : W4.heap[Bx]? = some (.cells #[.pointer (some ⟨R, 0, none⟩)] 82 (0, 0)) := (hk4.block Bx (by omega) (fun h => (hFq Bx h).2.1 (.inr (.inr rfl)))).trans hB3
      have hk5 : Go.Sep.KeepEx (fun k => Fp k ∨ k = R) W W4 := hk3.trans hk4 (fun _ e => e) (fun k hk => by
       rcases (hFq k hk).1 with h | h
       ·exact .inl (.inl h)
       ·exact .inr h)
      have hFr5 : ∀ k, Fr k -> (Fp k ∨ W.heap.size <= k) /\ ¬ (k < w.heap.size ∨ k = R ∨ k = Bx) /\ k < W4.heap.size := fun k hk => by
       rcases (hFr k hk).1 with h | h
       ·exact ⟨(hFq k h).1, (hFq k h).2.1, (hFr k hk).2⟩
       ·have := hkeep.size; have := hw.size; exact ⟨.inr (by omega), fun h' => by omega, (hFr k hk).2⟩
      rcases hor with ⟨rfl, hj4⟩ | ⟨rfl, hj4⟩
      ·gi_wp2
       go_roundw
       case rel => exact ⟨Fr, _, y, kq, A', _, hj4, hk5, hFr5, hR4, hB4, Hcc.out, HCd.out, Hl.out⟩
       case measure =>
        have e1 : sliceLen W4 R = y.length := by unfold sliceLen; rw [cell_of_row W4 R 0 _ _ _ hR4]; rfl
        have e2 : sliceLen wr R = bq.length := by unfold sliceLen; rw [hR0]
        rw [e1, e2]; have := HYl.out; omega
      ·gi_wp2
       refine bodyPost_ret (results_none rfl _ _ _) rfl ?_
       exact ⟨⟨_, rfl⟩, Fr, hk5, hFr5, .inr ⟨_, trivial, hj4⟩⟩
theorem line_lines_any (R : Nat) (w : World) : Calls Tryz.prog 46 #[.pointer (some ⟨R, 0, none⟩)] w fun e w' => e = .returned (.func (.func 70) #[] #[.pointer (some ⟨w.heap.size, 0, none⟩)]) /\ w' = w.alloc (.cells #[.pointer (some ⟨R, 0, none⟩)] 82) := by
 go_enter Tryz.func46, Tryz.ntmps46
 go_wp2
 go_ret
 exact ⟨rfl, rfl⟩
theorem line_collect {gf : Nat} {lb : Array Value} {Q : Ending -> World -> Prop} (w : World) (h : Calls Tryz.prog 69 #[.slice none 0 0, .func (.func gf) #[] lb] w fun e w' => ∃ v, e = .returned v /\ Q (.returned v) w') :
  Calls Tryz.prog 45 #[.func (.func gf) #[] lb] w Q := by
 go_enter Tryz.func45, Tryz.ntmps45
 go_wp2_with (go_at_call 69; refine h.mono ?_; rintro e W1 ⟨v, rfl, hq⟩; have HQ := Asd.mk hq; clear hq)
 exact HQ.out
def line_Cut.f (k : Nat) (l0 : List Int) : Option (List S65 × List Int × Int) := (line_Cut.l k l0 []).bind fun r => if r.1.length * 24 <= 140737488355328 then (if r.2.2 = 0 then (bytes_Clone.f r.2.1).bind fun c => some (r.1, c, 0) else some ([], [], r.2.2)) else none
set_option maxRecDepth 100000 in
set_option maxHeartbeats 4000000 in
theorem line_Cut.calls (k : Nat) (A0 : Option Addr) (c0 : Nat) (l0 : List Int) (r1 : List S65) (r2 : List Int) (r3 : Int) (w : World) (hr0 : Kd.C (Kd.int .u8) w A0 l0.length l0) (hc0 : l0.length <= c0) (h : line_Cut.f k l0 = some (r1, r2, r3)) :
  Calls Tryz.prog 26 #[.slice A0 l0.length c0] w fun e w' => ∃ v0_ v1_ : Value, e = .returned (.tuple #[v0_, v1_, .int .i64 r3]) /\ Kd.R k65 65 w' w.heap.size (fun _ => True) v0_ r1 /\ Kd.R (Kd.int .u8) 5 w' w.heap.size (fun _ => True) v1_ r2 /\ Below w.heap.size w w' := by
 obtain ⟨⟨xs0, rest, e0⟩, hl, h⟩ := Option.bind_eq_some_iff.1 h
 dsimp only at h
 by_cases hlim : xs0.length * 24 <= 140737488355328
 case neg => rw [if_neg hlim] at h; cases h
 rw [if_pos hlim] at h
 obtain ⟨W2, hW2⟩ : ∃ W2, W2 = (w.alloc (.cells #[.slice A0 l0.length c0, .int .i64 0] 84)).alloc (.cells #[.pointer (some ⟨w.heap.size, 0, none⟩)] 82) := ⟨_, rfl⟩
 have hz2 : W2.heap.size = w.heap.size + 2 := by rw [hW2]; simp
 have hb2 : Below w.heap.size w W2 := by rw [hW2]; exact bal (bal (Below.refl _ _) _) _
 have hR2 : W2.heap[w.heap.size]? = some (.cells #[.slice A0 l0.length c0, .int .i64 0] 84 (0, 0)) := by
  rw [hW2]; refine (Below.heap_alloc _ _ _ (by simp)).trans ?_; show (w.heap.push _)[w.heap.size]? = _; exact Array.getElem?_push_size
 have hB2 : W2.heap[w.heap.size + 1]? = some (.cells #[.pointer (some ⟨w.heap.size, 0, none⟩)] 82 (0, 0)) := by
  rw [hW2]
  have e : w.heap.size + 1 = (w.alloc (.cells #[.slice A0 l0.length c0, .int .i64 0] 84)).heap.size := by simp
  rw [e]
  show ((w.alloc (.cells #[.slice A0 l0.length c0, .int .i64 0] 84)).heap.push _)[(w.alloc (.cells #[.slice A0 l0.length c0, .int .i64 0] 84)).heap.size]? = _
  exact Array.getElem?_push_size
 have hseq := line_lines k l0 xs0 rest e0 hl w W2 w.heap.size (w.heap.size + 1) A0 c0 (by omega) (by omega) (by omega) hb2 hR2 hB2 hr0 hc0
 have hcol := line_appendSeq (enters_of Tryz.func70 (by kernel_rfl) rfl) hseq W2 (Nat.le_refl _) (fun _ _ => rfl) (fun k hk => by omega) hlim
  (by
   rintro xs W W' ⟨rfl, A, c, h1, h2, h3⟩ hsame
   exact ⟨rfl, A, c, (hsame _ (.inr (.inl rfl))).trans h1, h2, h3⟩) (fun _ _ _ _ _ => trivial)
 have hcol2 : Calls Tryz.prog 45 #[.func (.func 70) #[] #[.pointer (some ⟨w.heap.size + 1, 0, none⟩)]] ((w.alloc (.cells #[.slice A0 l0.length c0, .int .i64 0] 84)).alloc (.cells #[.pointer (some ⟨w.heap.size, 0, none⟩)] 82))
   fun e W3 => ∃ v, e = .returned v /\ Kd.R k65 65 W3 w.heap.size (fun _ => True) v xs0 /\ (∃ A c, W3.heap[w.heap.size]? = some (.cells #[.slice A rest.length c, .int .i64 e0] 84 (0, 0)) /\ rest.length <= c /\ Kd.C (Kd.int .u8) W3 A rest.length rest) /\ Below w.heap.size w W3 := by
  rw [<- hW2]
  refine line_collect W2 ((callsIn_wide.1 hcol).mono ?_)
  rintro e W3 ⟨v, xs, rfl, hv, ⟨rfl, A, c, h1, h2, h3⟩, hk⟩
  have hb3 : Below w.heap.size w W3 := hb2.trans (hk.below (by omega) (fun i hi => by omega))
  exact ⟨v, rfl, v, rfl, Kd.R_lower hv (by omega), ⟨A, c, h1, h2, Kd.C_below h3 hb3⟩, hb3⟩
 have HC2 := Asd.mk hcol2
 clear hseq hB2 hl hcol hcol2 hR2 hb2 hz2 hW2
 by_cases he : e0 = 0
 ·rw [if_pos he] at h
  obtain ⟨c1, hc1, h⟩ := Option.bind_eq_some_iff.1 h
  obtain ⟨rfl, rfl, rfl⟩ : xs0 = r1 /\ c1 = r2 /\ 0 = r3 := by simpa using h
  subst he
  have Hc1 := Asd.mk hc1
  clear h hc1
  go_enter Tryz.func26, Tryz.ntmps26
  go_wp2_with (first | (go_at_call 46; refine (line_lines_any _ _).mono ?_; rintro e w' ⟨rfl, rfl⟩) | (go_at_call 45; refine HC2.out.mono ?_; rintro e W3 ⟨v, rfl, hv, ⟨A, c, hb, hcc, hC3⟩, hB3⟩; have HV := Asd.mk hv; have HB3 := Asd.mk hB3; have HC3 := Asd.mk hC3; have hx0 : W3.cell? ⟨w.heap.size, 0, none⟩ = some (.slice A rest.length c) := (cell_of_row W3 _ 0 _ _ _ hb).trans rfl; have hx1 : W3.cell? ⟨w.heap.size, 1, none⟩ = some (.int .i64 0) := (cell_of_row W3 _ 1 _ _ _ hb).trans rfl; clear hv hB3 hC3 hb) | (go_at_call 28; refine (bytes_Clone.calls _ _ rest c1 _ HC3.out hcc Hc1.out).mono ?_; rintro e W4 ⟨v4, rfl, hv4, hB4⟩; have HV4 := Asd.mk hv4; have HB4 := Asd.mk hB4; clear hv4 hB4))
  go_ret3
  exact ⟨v, v4, rfl, Kd.R_below HV.out HB4.out, Kd.R_lower HV4.out HB3.out.size, below_step HB3.out HB4.out⟩
 ·rw [if_neg he] at h
  obtain ⟨rfl, rfl, rfl⟩ : ([] : List S65) = r1 /\ ([] : List Int) = r2 /\ e0 = r3 := by simpa using h
  have hne1 : (e0 == 0) = false := by simpa using he
  have hne2 : (e0 != 0) = true := by simpa using he
  clear h he
  go_enter Tryz.func26, Tryz.ntmps26
  go_wp2_with (first | (go_at_call 46; refine (line_lines_any _ _).mono ?_; rintro e w' ⟨rfl, rfl⟩) | (go_at_call 45; refine HC2.out.mono ?_; rintro e W3 ⟨v, rfl, hv, ⟨A, c, hb, hcc, hC3⟩, hB3⟩; have HV := Asd.mk hv; have HB3 := Asd.mk hB3; have HC3 := Asd.mk hC3; have hx0 : W3.cell? ⟨w.heap.size, 0, none⟩ = some (.slice A rest.length c) := (cell_of_row W3 _ 0 _ _ _ hb).trans rfl; have hx1 : W3.cell? ⟨w.heap.size, 1, none⟩ = some (.int .i64 e0) := (cell_of_row W3 _ 1 _ _ _ hb).trans rfl; clear hv hB3 hC3 hb))
  go_quiet (fail)
  go_wp2
  go_ret3
  exact ⟨_, _, rfl, Kd.R_nil _ _ _ _ _, Kd.R_nil _ _ _ _ _, pbN HB3.out _⟩
end
def hello_may.f (k : Nat) (a0 : ByteArray) : Option (Bool) := if a0.toList = ([] : List UInt8) then (some true) else ((digest_Named.f k a0).bind fun t153 => (some t153))
set_option maxHeartbeats 8000000 in
set_option maxRecDepth 100000 in
theorem hello_may.calls (k : Nat) (a0 : ByteArray) (r : Bool) (w : World) (h : hello_may.f k a0 = some r) :
  Calls Tryz.prog 37 #[.string a0] w fun e w' => e = .returned (.bool r) /\ Drawn0 w w' := by
 have H : (if a0.toList = ([] : List UInt8) then (some true) else ((digest_Named.f k a0).bind fun t153 => (some t153))) = some r := h
 clear h
 by_cases c2 : a0.toList = ([] : List UInt8)
 ·rw [if_pos c2] at H
  have c2b0 : (a0.toList == ([] : List UInt8)) = true := beq_iff_eq.mpr c2
  have c2b1 : (a0.toList != ([] : List UInt8)) = false := bne_eq_false_iff_eq.mpr c2
  clear c2
  obtain rfl := Option.some.inj H
  go_enter Tryz.func37, Tryz.ntmps37
  go_wp2
  go_ret
  exact ⟨by first | rfl | (simp; done) | (simp [*]; done), by repeat (first | exact Drawn0.refl _ | apply Drawn0.step)⟩
 ·rw [if_neg c2] at H
  have c2b0 : (a0.toList == ([] : List UInt8)) = false := beq_eq_false_iff_ne.mpr c2
  have c2b1 : (a0.toList != ([] : List UInt8)) = true := bne_iff_ne.mpr c2
  replace H := Option.bind_eq_some_iff.mp H
  obtain ⟨t153, A30, H⟩ := H
  replace H : (some t153) = some r := H
  have A3 := Asd.mk A30
  clear A30
  obtain rfl := Option.some.inj H
  go_enter Tryz.func37, Tryz.ntmps37
  go_wp2_with (first | (go_at_call 58; (with_reducible refine (digest_Named.calls k a0 t153 _ A3.out).mono ?_); rintro e w' ⟨rfl, ⟨nd, rfl⟩⟩))
  go_ret
  exact ⟨by first | rfl | (simp; done) | (simp [*]; done), by repeat (first | exact Drawn0.refl _ | apply Drawn0.step)⟩
def hello_dash.f (a0 : ByteArray) : Option (ByteArray) := if a0.toList = ([] : List UInt8) then (some (⟨#[45]⟩ : ByteArray)) else (some a0)
set_option maxHeartbeats 8000000 in
set_option maxRecDepth 100000 in
theorem hello_dash.calls (a0 : ByteArray) (r : ByteArray) (w : World) (h : hello_dash.f a0 = some r) :
  Calls Tryz.prog 38 #[.string a0] w fun e w' => e = .returned (.string r) /\ Drawn0 w w' := by
 have H : (if a0.toList = ([] : List UInt8) then (some (⟨#[45]⟩ : ByteArray)) else (some a0)) = some r := h
 clear h
 by_cases c2 : a0.toList = ([] : List UInt8)
 ·rw [if_pos c2] at H
  have c2b0 : (a0.toList == ([] : List UInt8)) = true := beq_iff_eq.mpr c2
  have c2b1 : (a0.toList != ([] : List UInt8)) = false := bne_eq_false_iff_eq.mpr c2
  clear c2
  obtain rfl := Option.some.inj H
  go_enter Tryz.func38, Tryz.ntmps38
  go_wp2
  go_ret
  exact ⟨by first | rfl | (simp; done) | (simp [*]; done), by repeat (first | exact Drawn0.refl _ | apply Drawn0.step)⟩
 ·rw [if_neg c2] at H
  have c2b0 : (a0.toList == ([] : List UInt8)) = false := beq_eq_false_iff_ne.mpr c2
  have c2b1 : (a0.toList != ([] : List UInt8)) = true := bne_iff_ne.mpr c2
  obtain rfl := Option.some.inj H
  go_enter Tryz.func38, Tryz.ntmps38
  go_wp2
  go_ret
  exact ⟨by first | rfl | (simp; done) | (simp [*]; done), by repeat (first | exact Drawn0.refl _ | apply Drawn0.step)⟩
end Go.Proofs.YtemkgdpfkbpnpaaGreatDoor.Print
