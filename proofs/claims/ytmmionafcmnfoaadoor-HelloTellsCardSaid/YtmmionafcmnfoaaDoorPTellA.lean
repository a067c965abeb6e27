/- The calls of a law, as a plain function, printed by a program. -/
import Derived.Test.YtmmionafcmnfoaaDoorPNamB
namespace Go.Proofs.YtmmionafcmnfoaaDoor.Print
open Go.RowKit Go.Proofs.YtmmionafcmnfoaaDoorW.PrintWords Go.Proofs.YtmmionafcmnfoaaDoorW.PrintLast Go.Proofs.YtmmionafcmnfoaaDoorW.PrintMore Go.Proofs.YtmmionafcmnfoaaDoor.Conv
attribute [local go_sem] max2_int min2_int max_two min_two max_three min_three max_four min_four
set_option linter.unusedVariables false
set_option linter.unusedSimpArgs false
def q6_ends.l0 : Nat -> List ByteArray -> List (S49) -> Int -> Option ((List (S49)))
 | 0, _, _, _ => none
 | k + 1, x0, x3, x4 => if x4 < (x0.length : Int) then (if 0 <= x4 then (if (rdOf ByteArray.empty x0 x4).size + 1 <= 9223372036854775807 then (if x3.length < 5864062014805 then (q6_ends.l0 k x0 (x3 ++ [(⟨false, (rdOf ByteArray.empty x0 x4) ++ (⟨#[10]⟩ : ByteArray)⟩ : S49)]) (wrap64 (x4 + 1))) else (none)) else (none)) else (none)) else (if x3.length < 5864062014805 then (some (x3 ++ [(⟨true, (⟨#[]⟩ : ByteArray)⟩ : S49)])) else (none))
def q6_ends.f (k : Nat) (l0 : List ByteArray) : Option ((List (S49))) := q6_ends.l0 k l0 ([] : List (S49)) 0
set_option maxHeartbeats 8000000 in
set_option maxRecDepth 100000 in
theorem q6_ends.calls (k : Nat) (A0 : Option Addr) (c0 : Nat) (l0 : List ByteArray) (r : List (S49)) (w : World) (hr0 : Kd.C Kd.string w A0 l0.length l0) (hc0 : l0.length <= c0) (h : q6_ends.f k l0 = some r) :
  Calls Tryd.prog 38 #[.slice A0 l0.length c0] w fun e w' => ∃ v0_ : Value, e = .returned (v0_) /\ Kd.R k49 49 w' w.heap.size (fun _ => True) v0_ r /\ Below w.heap.size w w' := by
 have hu49 := Tryd.underlying49
 have HR0 := Asd.mk hr0
 have HC0 := Asd.mk hc0
 clear hr0 hc0
 have HB := Asd.mk (Below.refl w.heap.size w)
 have H : (q6_ends.l0 k l0 ([] : List (S49)) 0) = some r := h
 clear h
 have H' := Asd.mk H
 clear H
 go_enter Tryd.func38, Tryd.ntmps38
 go_wp2
 go_loopg [3, 4] k (fun kq v3 v4 w' => ∃ (x3_1 : List (S49)) (x4_1 : Int), v4 = .int .i64 x4_1 /\ Asd (q6_ends.l0 kq l0 x3_1 x4_1 = some r) /\ Asd (kq <= k) /\ Asd (Kd.R k49 49 w' w.heap.size (fun _ => True) v3 x3_1) /\ Asd (Below w.heap.size w w'))
 case atStart => exact ⟨(([] : List (S49))), (0), (by first | rfl | (simp; done) | (simp [*]; done)), H', ⟨Nat.le_refl _⟩, ⟨by first | exact Kd.R_nil _ _ _ _ _ | exact Kd.N_nil _ _ _ _ _ | exact Kd.V_nil _ _ _ _ _ | exact Kd.Q_nil _ _ _ _ _ | exact Kd.S_nil _ _ _ _ _⟩, ⟨by repeat (first | (with_reducible first | exact HB.out | apply bal | apply pbN | apply bd1) | exact HB.out)⟩⟩
 case round =>
  clear H'
  obtain ⟨x3_1, x4_1, rfl, HA, HK1, HO_3, HB⟩ := hrel
  cases gk with
  | zero => exact absurd HA.out (by simp [q6_ends.l0])
  | succ k1 =>
   have H := HA.out
   clear HA
   simp only [q6_ends.l0] at H
   by_cases c2 : x4_1 < (l0.length : Int)
   ·rw [if_pos c2] at H
    have c2b0 : decide (x4_1 < (l0.length : Int)) = true := decide_eq_true c2
    clear c2
    by_cases c3 : 0 <= x4_1
    ·rw [if_pos c3] at H
     have c3b0 : decide (0 <= x4_1) = true := decide_eq_true c3
     clear c3
     by_cases c4 : (rdOf ByteArray.empty l0 x4_1).size + 1 <= 9223372036854775807
     ·rw [if_pos c4] at H
      have c4b0 := eq_true c4
      have c4b1 : decide ((rdOf ByteArray.empty l0 x4_1).size + 1 <= 9223372036854775807) = true := decide_eq_true c4
      try have c4b2 : (9223372036854775807 < (rdOf ByteArray.empty l0 x4_1).size + 1) = False := eq_false (Nat.not_lt.2 c4)
      by_cases c5 : x3_1.length < 5864062014805
      ·rw [if_pos c5] at H
       have LMc5 := Asd.mk c5
       clear c5
       obtain ⟨y254, hy254⟩ : ∃ y_ : List (S49), y_ = (x3_1 ++ [(⟨false, (rdOf ByteArray.empty l0 x4_1) ++ (⟨#[10]⟩ : ByteArray)⟩ : S49)]) := ⟨_, rfl⟩
       replace H : (q6_ends.l0 k1 l0 y254 (wrap64 (x4_1 + 1))) = some r := by first | (rw [hy254]; with_reducible exact H) | (have H2_ := (Option.bind_some _ _).symm.trans H; rw [hy254]; with_reducible exact H2_) | (have H2_ := (Option.bind_some _ _).symm.trans H; with_reducible exact H2_) | with_reducible exact H | (rw [hy254]; exact H) | exact H
       have Ny254 := Asd.mk hy254
       clear hy254
       have H' := Asd.mk H
       clear H
       have p253 : 0 <= (x4_1 : Int) := of_decide_eq_true (by first | (with_reducible assumption) | assumption)
       have q253 : x4_1 < (l0.length : Int) := of_decide_eq_true (by first | (with_reducible assumption) | assumption)
       obtain ⟨ad253, e253, hx253_0⟩ := Kd.at_string HR0.out x4_1 p253 q253
       cases e253
       replace hx253_0 := (HB.out.cell (World.block_lt_of_cell? w _ hx253_0)).trans hx253_0
       replace p253 := eq_true p253
       replace q253 := eq_true q253
       go_wp2_with (first | ((with_reducible refine gate_builtin (b := .append) (xs := #[.tmp 11, .tmp 18]) rfl ?_); at_builtin; refine Kd.R_append k49 (w0 := w) w.heap.size rfl (.tmp 11) (.tmp 18) 27 49 (.agg #[(.bool false), (.string ⟨#[]⟩)]) 24 rfl Tryd.underlying27 info49 rfl (by decide) (by omega) u3 x3_1 (⟨false, (rdOf ByteArray.empty l0 x4_1) ++ (⟨#[10]⟩ : ByteArray)⟩ : S49) [.bool false, .string ((rdOf ByteArray.empty l0 x4_1) ++ (⟨#[10]⟩ : ByteArray))] (fun _ => True) (fun _ => False) rfl rfl ?aP (fun _ hk => hk.elim) ?aF ?aO ?aB ?aS ?aL ?_; (case aP => exact k49_mkM _ _ _ (⟨false, (rdOf ByteArray.empty l0 x4_1) ++ (⟨#[10]⟩ : ByteArray)⟩ : S49)); (case aB => exact (by repeat (first | (with_reducible first | exact HB.out | apply bal | apply pbN | apply bd1) | exact HB.out))); (case aF => exact (fun _ _ => trivial)); (case aO => exact (by (with_reducible repeat (first | apply Kd.R_alloc | apply Kd.R_drewN | apply Kd.R_drew)); exact HO_3.out)); (case aS => exact (below_size (by repeat (first | (with_reducible first | exact HB.out | apply bal | apply pbN | apply bd1) | exact HB.out)))); (case aL => have := LMc5.out; omega); intro v255 w6 ho hb hg hat; rw [<- Ny254.out] at ho; have n0_ := Asd.mk (hb); have n1_ := Asd.mk (ho); clear HB; clear HO_3; have HB := n0_; have HO256 := n1_; clear n0_ n1_; clear ho hb hg hat))
       go_roundg k1
       case measure => have := HK1.out; omega
       case rel => exact ⟨(y254), (wrap64 (x4_1 + 1)), (by first | rfl | (simp; done) | (simp [*]; done)), H', ⟨by have := HK1.out; omega⟩, ⟨by (with_reducible repeat (first | apply Kd.R_alloc | apply Kd.R_drewN | apply Kd.R_drew)); exact HO256.out⟩, ⟨by repeat (first | (with_reducible first | exact HB.out | apply bal | apply pbN | apply bd1) | exact HB.out)⟩⟩
      ·rw [if_neg c5] at H
       exact absurd H (by simp)
     ·rw [if_neg c4] at H
      exact absurd H (by simp)
    ·rw [if_neg c3] at H
     exact absurd H (by simp)
   ·rw [if_neg c2] at H
    have c2b0 : decide (x4_1 < (l0.length : Int)) = false := decide_eq_false c2
    clear c2
    by_cases c7 : x3_1.length < 5864062014805
    ·rw [if_pos c7] at H
     have LMc7 := Asd.mk c7
     clear c7
     obtain ⟨y257, hy257⟩ : ∃ y_ : List (S49), y_ = (x3_1 ++ [(⟨true, (⟨#[]⟩ : ByteArray)⟩ : S49)]) := ⟨_, rfl⟩
     replace H : (some y257) = some r := by first | (rw [hy257]; with_reducible exact H) | (have H2_ := (Option.bind_some _ _).symm.trans H; rw [hy257]; with_reducible exact H2_) | (have H2_ := (Option.bind_some _ _).symm.trans H; with_reducible exact H2_) | with_reducible exact H | (rw [hy257]; exact H) | exact H
     have Ny257 := Asd.mk hy257
     clear hy257
     obtain rfl := Option.some.inj H
     go_wp2_with (first | ((with_reducible refine gate_builtin (b := .append) (xs := #[.tmp 20, .tmp 22]) rfl ?_); at_builtin; refine Kd.R_append k49 (w0 := w) w.heap.size rfl (.tmp 20) (.tmp 22) 27 49 (.agg #[(.bool false), (.string ⟨#[]⟩)]) 24 rfl Tryd.underlying27 info49 rfl (by decide) (by omega) u3 x3_1 (⟨true, (⟨#[]⟩ : ByteArray)⟩ : S49) [.bool true, .string (⟨#[]⟩ : ByteArray)] (fun _ => True) (fun _ => False) rfl rfl ?aP (fun _ hk => hk.elim) ?aF ?aO ?aB ?aS ?aL ?_; (case aP => exact k49_mkM _ _ _ (⟨true, (⟨#[]⟩ : ByteArray)⟩ : S49)); (case aB => exact (by repeat (first | (with_reducible first | exact HB.out | apply bal | apply pbN | apply bd1) | exact HB.out))); (case aF => exact (fun _ _ => trivial)); (case aO => exact (by (with_reducible repeat (first | apply Kd.R_alloc | apply Kd.R_drewN | apply Kd.R_drew)); exact HO_3.out)); (case aS => exact (below_size (by repeat (first | (with_reducible first | exact HB.out | apply bal | apply pbN | apply bd1) | exact HB.out)))); (case aL => have := LMc7.out; omega); intro v258 w8 ho hb hg hat; rw [<- Ny257.out] at ho; have n0_ := Asd.mk (hb); have n1_ := Asd.mk (ho); clear HB; clear HO_3; have HB := n0_; have HO259 := n1_; clear n0_ n1_; clear ho hb hg hat))
     go_ret
     exact ⟨_, by first | rfl | (simp [errW_none, errW_some] <;> rfl) | (simp [*, errW_none, errW_some] <;> rfl), by (with_reducible repeat (first | apply Kd.R_alloc | apply Kd.R_drewN | apply Kd.R_drew)); exact HO259.out, by repeat (first | (with_reducible first | exact HB.out | apply bal | apply pbN | apply bd1) | exact HB.out)⟩
    ·rw [if_neg c7] at H
     exact absurd H (by simp)
mutual
def q6_Told.j0 : Nat -> ByteArray -> List (S63) -> Bool -> Option ((List (S49)) × Bool)
 | 0, _, _, _ => none
 | k + 1, x0, x1, x15 => if x15 = true then (some (([] : List (S49)), false)) else (if 14 + x0.size <= 9223372036854775807 then (q6_Told.l0 k x1 (([(⟨#[115, 97, 99, 114, 105, 115, 116, 121, 32, 104, 101, 97, 100, 32]⟩ : ByteArray) ++ x0] : List ByteArray)) 0) else (none))
def q6_Told.l0 : Nat -> List (S63) -> List ByteArray -> Int -> Option ((List (S49)) × Bool)
 | 0, _, _, _ => none
 | k + 1, x1, x6, x7 => if x7 < (x1.length : Int) then (if 0 <= x7 then (if ((rd_T63 x1 x7).f1).size + 1 <= 9223372036854775807 then (if (((rd_T63 x1 x7).f1) ++ (⟨#[32]⟩ : ByteArray)).size + ((rd_T63 x1 x7).f0).size <= 9223372036854775807 then (if x6.length < 8796093022208 then (q6_Told.l0 k x1 (x6 ++ [(((rd_T63 x1 x7).f1) ++ (⟨#[32]⟩ : ByteArray)) ++ ((rd_T63 x1 x7).f0)]) (wrap64 (x7 + 1))) else (none)) else (none)) else (none)) else (none)) else ((q6_ends.f k x6).bind fun t270 => (some (t270, true)))
end
def q6_Told.f (k : Nat) (a0 : ByteArray) (l1 : List (S63)) : Option ((List (S49)) × Bool) := (q9_Named.f k a0).bind fun t260 => (if t260 = true then ((q9_Right.f k l1).bind fun t261 => (q6_Told.j0 k a0 l1 (!t261))) else (q6_Told.j0 k a0 l1 true))
def q6_Told.T7 : Bool × List (List Nat × List Nat) := (true, [([], []), ([], []), ([], []), ([1, 2], [1, 2]), ([3], [3]), ([4], [4]), ([5], [5]), ([], []), ([], []), ([7, 8], [7, 8]), ([9], [9]), ([10], [10]), ([6, 11], [6, 11]), ([12], [12]), ([0, 13], [0, 13]), ([14, 14, 0, 1, 2, 3, 4, 5, 6, 7, 8, 9, 10, 11, 12, 13, 14], [0, 14])])
def q6_Told.B7 : List Nat := [0, 0, 0, 6, 14, 30, 62, 0, 0, 384, 896, 1920, 4094, 8190, 16383, 32767]
theorem q6_Told.tab7 : rtab .any (opsOf Tryd.f14 7) = q6_Told.T7 := by kernel_rfl
theorem q6_Told.bits7 : waitsOk q6_Told.T7.2 q6_Told.B7 = true := by kernel_rfl
set_option maxHeartbeats 8000000 in
set_option maxRecDepth 100000 in
theorem q6_Told.calls (k : Nat) (a0 : ByteArray) (A1 : Option Addr) (c1 : Nat) (l1 : List (S63)) (r1 : List (S49)) (r2 : Bool) (w : World) (hr1 : Kd.C k63 w A1 l1.length l1) (hc1 : l1.length <= c1) (h : q6_Told.f k a0 l1 = some (r1, r2)) :
  Calls Tryd.prog 14 #[.string a0, .slice A1 l1.length c1] w fun e w' => ∃ v0_ : Value, e = .returned (.tuple #[v0_, .bool r2]) /\ Kd.R k49 49 w' w.heap.size (fun _ => True) v0_ r1 /\ Below w.heap.size w w' := by
 have HR1 := Asd.mk hr1
 have HC1 := Asd.mk hc1
 clear hr1 hc1
 have HB := Asd.mk (Below.refl w.heap.size w)
 have H : ((q9_Named.f k a0).bind fun t260 => (if t260 = true then ((q9_Right.f k l1).bind fun t261 => (q6_Told.j0 k a0 l1 (!t261))) else (q6_Told.j0 k a0 l1 true))) = some (r1, r2) := h
 clear h
 have HC3 := Asd.mk H
 clear H
 go_enter Tryd.func14, Tryd.ntmps14
 go_upto_region 1 with (fail)
 go_cut [15] (fun v15 wc => ∃ (kq : Nat) (x15_2 : Bool), v15 = .bool x15_2 /\ Asd (q6_Told.j0 kq a0 l1 x15_2 = some (r1, r2)) /\ Asd (kq <= k) /\ Asd (Below w.heap.size w wc))
 case first =>
  have H := HC3.out
  clear HC3
  replace H := Option.bind_eq_some_iff.mp H
  obtain ⟨t260, A40, H⟩ := H
  replace H : (if t260 = true then ((q9_Right.f k l1).bind fun t261 => (q6_Told.j0 k a0 l1 (!t261))) else (q6_Told.j0 k a0 l1 true)) = some (r1, r2) := H
  have A4 := Asd.mk A40
  clear A40
  by_cases c5 : t260 = true
  ·subst c5
   have H1 : ((q9_Right.f k l1).bind fun t261 => (q6_Told.j0 k a0 l1 (!t261))) = some (r1, r2) := by rw [if_pos rfl] at H; exact H
   clear H
   have H := H1
   clear H1
   replace H := Option.bind_eq_some_iff.mp H
   obtain ⟨t261, A60, H⟩ := H
   replace H : (q6_Told.j0 k a0 l1 (!t261)) = some (r1, r2) := H
   have A6 := Asd.mk A60
   clear A60
   have H' := Asd.mk H
   clear H
   go_wp2_with (first | ((with_reducible refine gate_callee (f := 36) rfl ?_); refine goesL_ (some 9) rfl rfl Tryd.func36 (by kernel_rfl) rfl #[.string a0] rfl (by (try simp only [List.map_toArray, List.map_cons, List.map_nil]); first | done | rfl | (simp only [List.length_drop, List.length_take]; rfl)) ?_; (with_reducible refine (q9_Named.calls k a0 true _ A4.out).mono ?_); rintro e w7 ⟨rfl, hb⟩; refine ⟨_, rfl, ?_⟩; have n0_ := Asd.mk (below_step (by repeat (first | (with_reducible first | exact HB.out | apply bal | apply pbN | apply bd1) | exact HB.out)) hb); clear HB; have HB := n0_; clear n0_; (try clear hb); (try clear hb2); (try clear hk); (try clear hi)) | (go_at_call 37; (with_reducible refine (q9_Right.calls k _ _ l1 t261 _ ?side1 ?side2 A6.out).mono ?_); (case side1 => repeat (first | exact (Kd.C_below HR1.out HB.out) | (with_reducible refine Kd.C_alloc ?_ _) | (with_reducible refine Kd.C_drewN ?_ _) | (with_reducible refine Kd.C_drew ?_))); (case side2 => exact HC1.out); rintro e w8 ⟨rfl, hb⟩; have n0_ := Asd.mk (below_step (by repeat (first | (with_reducible first | exact HB.out | apply bal | apply pbN | apply bd1) | exact HB.out)) hb); clear HB; have HB := n0_; clear n0_; (try clear hb); (try clear hb2); (try clear hk); (try clear hi)))
   go_meet
   case rel => exact ⟨_, (!t261), (by first | rfl | (simp; done) | (simp [*]; done)), H', ⟨by first | omega | exact Nat.le_refl _⟩, ⟨by repeat (first | (with_reducible first | exact HB.out | apply bal | apply pbN | apply bd1) | exact HB.out)⟩⟩
  ·replace c5 := Bool.eq_false_iff.mpr c5
   subst c5
   have H1 : (q6_Told.j0 k a0 l1 true) = some (r1, r2) := by rw [if_neg (show ¬ (false = true) by decide)] at H; exact H
   clear H
   have H := H1
   clear H1
   have H' := Asd.mk H
   clear H
   go_wp2_with (first | ((with_reducible refine gate_callee (f := 36) rfl ?_); refine goesL_ (some 9) rfl rfl Tryd.func36 (by kernel_rfl) rfl #[.string a0] rfl (by (try simp only [List.map_toArray, List.map_cons, List.map_nil]); first | done | rfl | (simp only [List.length_drop, List.length_take]; rfl)) ?_; (with_reducible refine (q9_Named.calls k a0 false _ A4.out).mono ?_); rintro e w9 ⟨rfl, hb⟩; refine ⟨_, rfl, ?_⟩; have n0_ := Asd.mk (below_step (by repeat (first | (with_reducible first | exact HB.out | apply bal | apply pbN | apply bd1) | exact HB.out)) hb); clear HB; have HB := n0_; clear n0_; (try clear hb); (try clear hb2); (try clear hk); (try clear hi)))
   go_meet
   case rel => exact ⟨_, (true), (by first | rfl | (simp; done) | (simp [*]; done)), H', ⟨by first | omega | exact Nat.le_refl _⟩, ⟨by repeat (first | (with_reducible first | exact HB.out | apply bal | apply pbN | apply bd1) | exact HB.out)⟩⟩
 case rest =>
  clear HC3
  try clear c1
  try clear p2
  try clear c3
  try clear c5
  obtain ⟨kq, x15_2, rfl, HA, HJ2, HB⟩ := hcut
  cases kq with
  | zero => exact absurd HA.out (by simp [q6_Told.j0])
  | succ kj2 =>
   have H := HA.out
   clear HA
   simp only [q6_Told.j0] at H
   by_cases c10 : x15_2 = true
   ·subst c10
    have H1 : (some (([] : List (S49)), false)) = some (r1, r2) := by rw [if_pos rfl] at H; exact H
    clear H
    have H := H1
    clear H1
    simp only [Option.some.injEq, Prod.mk.injEq] at H
    obtain ⟨rfl, rfl⟩ := H
    go_wp2
    go_ret2
    exact ⟨_, by first | rfl | (simp [errW_none, errW_some] <;> rfl) | (simp [*, errW_none, errW_some] <;> rfl), by first | exact Kd.R_nil _ _ _ _ _ | exact Kd.N_nil _ _ _ _ _ | exact Kd.V_nil _ _ _ _ _ | exact Kd.Q_nil _ _ _ _ _ | exact Kd.S_nil _ _ _ _ _, by repeat (first | (with_reducible first | exact HB.out | apply bal | apply pbN | apply bd1) | exact HB.out)⟩
   ·replace c10 := Bool.eq_false_iff.mpr c10
    subst c10
    have H1 : (if 14 + a0.size <= 9223372036854775807 then (q6_Told.l0 kj2 l1 (([(⟨#[115, 97, 99, 114, 105, 115, 116, 121, 32, 104, 101, 97, 100, 32]⟩ : ByteArray) ++ a0] : List ByteArray)) 0) else (none)) = some (r1, r2) := by rw [if_neg (show ¬ (false = true) by decide)] at H; exact H
    clear H
    have H := H1
    clear H1
    by_cases c11 : 14 + a0.size <= 9223372036854775807
    ·rw [if_pos c11] at H
     have c11b0 := eq_true c11
     have c11b1 : decide (14 + a0.size <= 9223372036854775807) = true := decide_eq_true c11
     try have c11b2 : (9223372036854775807 < 14 + a0.size) = False := eq_false (Nat.not_lt.2 c11)
     obtain ⟨y262, hy262⟩ : ∃ y_ : List ByteArray, y_ = (([(⟨#[115, 97, 99, 114, 105, 115, 116, 121, 32, 104, 101, 97, 100, 32]⟩ : ByteArray) ++ a0] : List ByteArray)) := ⟨_, rfl⟩
     replace H : (q6_Told.l0 kj2 l1 y262 0) = some (r1, r2) := by first | (rw [hy262]; with_reducible exact H) | (have H2_ := (Option.bind_some _ _).symm.trans H; rw [hy262]; with_reducible exact H2_) | (have H2_ := (Option.bind_some _ _).symm.trans H; with_reducible exact H2_) | with_reducible exact H | (rw [hy262]; exact H) | exact H
     have Ny262 := Asd.mk hy262
     clear hy262
     have H' := Asd.mk H
     clear H
     go_wp2_with (first | ((with_reducible refine gate_dst (N := 18) rfl ?_); refine Kd.R_lit Kd.string _ 9 ?hg (N := 18) ?hd (xs := ([(⟨#[115, 97, 99, 114, 105, 115, 116, 121, 32, 104, 101, 97, 100, 32]⟩ : ByteArray) ++ a0] : List ByteArray)) (inner := [.string ((⟨#[115, 97, 99, 114, 105, 115, 116, 121, 32, 104, 101, 97, 100, 32]⟩ : ByteArray) ++ a0)]) (ok := fun _ => True) (okp := fun _ => True) ?hr ?hp (fun _ hk => hk) trivial (Below.refl _ _) (Nat.le_refl _) (by simp) ?_; (case hd => rfl); (case hg => rfl); (case hr => first | (go_simp; done) | (go_simp; rfl)); (case hp => exact (Reps.one (show Kd.M Kd.string _ _ _ ((⟨#[115, 97, 99, 114, 105, 115, 116, 121, 32, 104, 101, 97, 100, 32]⟩ : ByteArray) ++ a0) [.string ((⟨#[115, 97, 99, 114, 105, 115, 116, 121, 32, 104, 101, 97, 100, 32]⟩ : ByteArray) ++ a0)] from rfl) (Reps.none _ _))); intro v263 w12 ho13 hb hg_ hnew_; clear hg_ hnew_; (first | rw [<- Ny262.out] at ho13 | (simp only [Int.reduceToNat] at ho13; rw [<- Ny262.out] at ho13)); have n0_ := Asd.mk (Kd.R_lower ho13 (below_size (by repeat (first | (with_reducible first | exact HB.out | apply bal | apply pbN | apply bd1) | exact HB.out)))); have n1_ := Asd.mk (below_step (by repeat (first | (with_reducible first | exact HB.out | apply bal | apply pbN | apply bd1) | exact HB.out)) hb); clear HB; have HO264 := n0_; have HB := n1_; clear n0_ n1_; clear hb ho13))
     go_loopg [6, 7] kj2 (fun kq v6 v7 w' => ∃ (x6_2 : List ByteArray) (x7_2 : Int), v7 = .int .i64 x7_2 /\ Asd (q6_Told.l0 kq l1 x6_2 x7_2 = some (r1, r2)) /\ Asd (kq <= kj2) /\ Asd (Kd.R Kd.string 9 w' w.heap.size (fun _ => True) v6 x6_2) /\ Asd (Below w.heap.size w w'))
     case atStart => exact ⟨(y262), (0), (by first | rfl | (simp; done) | (simp [*]; done)), H', ⟨Nat.le_refl _⟩, ⟨by (with_reducible repeat (first | apply Kd.R_alloc | apply Kd.R_drewN | apply Kd.R_drew)); exact HO264.out⟩, ⟨by repeat (first | (with_reducible first | exact HB.out | apply bal | apply pbN | apply bd1) | exact HB.out)⟩⟩
     case round =>
      clear H'
      try clear c1
      try clear p2
      try clear c3
      try clear c5
      try clear c10
      try clear c11
      try clear c11b0
      try clear c11b1
      try clear c11b2
      try clear p2
      obtain ⟨x6_2, x7_2, rfl, HA, HK2, HO_6, HB⟩ := hrel
      cases gk with
      | zero => exact absurd HA.out (by simp [q6_Told.l0])
      | succ k2 =>
       have H := HA.out
       clear HA
       simp only [q6_Told.l0] at H
       by_cases c14 : x7_2 < (l1.length : Int)
       ·rw [if_pos c14] at H
        have c14b0 : decide (x7_2 < (l1.length : Int)) = true := decide_eq_true c14
        clear c14
        by_cases c15 : 0 <= x7_2
        ·rw [if_pos c15] at H
         have c15b0 : decide (0 <= x7_2) = true := decide_eq_true c15
         clear c15
         by_cases c16 : ((rd_T63 l1 x7_2).f1).size + 1 <= 9223372036854775807
         ·rw [if_pos c16] at H
          have c16b0 := eq_true c16
          have c16b1 : decide (((rd_T63 l1 x7_2).f1).size + 1 <= 9223372036854775807) = true := decide_eq_true c16
          try have c16b2 : (9223372036854775807 < ((rd_T63 l1 x7_2).f1).size + 1) = False := eq_false (Nat.not_lt.2 c16)
          by_cases c17 : (((rd_T63 l1 x7_2).f1) ++ (⟨#[32]⟩ : ByteArray)).size + ((rd_T63 l1 x7_2).f0).size <= 9223372036854775807
          ·rw [if_pos c17] at H
           have c17b0 := eq_true c17
           have c17b1 : decide ((((rd_T63 l1 x7_2).f1) ++ (⟨#[32]⟩ : ByteArray)).size + ((rd_T63 l1 x7_2).f0).size <= 9223372036854775807) = true := decide_eq_true c17
           try have c17b2 : (9223372036854775807 < (((rd_T63 l1 x7_2).f1) ++ (⟨#[32]⟩ : ByteArray)).size + ((rd_T63 l1 x7_2).f0).size) = False := eq_false (Nat.not_lt.2 c17)
           try have c17b3 : (9223372036854775807 < ((rd_T63 l1 x7_2).f1).size + 1 + ((rd_T63 l1 x7_2).f0).size) = False := eq_false (Nat.not_lt.2 (by have e_ := c17; simp only [ByteArray.size_append] at e_; exact e_))
           by_cases c18 : x6_2.length < 8796093022208
           ·rw [if_pos c18] at H
            have LMc18 := Asd.mk c18
            clear c18
            obtain ⟨y267, hy267⟩ : ∃ y_ : List ByteArray, y_ = (x6_2 ++ [(((rd_T63 l1 x7_2).f1) ++ (⟨#[32]⟩ : ByteArray)) ++ ((rd_T63 l1 x7_2).f0)]) := ⟨_, rfl⟩
            replace H : (q6_Told.l0 k2 l1 y267 (wrap64 (x7_2 + 1))) = some (r1, r2) := by first | (rw [hy267]; with_reducible exact H) | (have H2_ := (Option.bind_some _ _).symm.trans H; rw [hy267]; with_reducible exact H2_) | (have H2_ := (Option.bind_some _ _).symm.trans H; with_reducible exact H2_) | with_reducible exact H | (rw [hy267]; exact H) | exact H
            have Ny267 := Asd.mk hy267
            clear hy267
            have H' := Asd.mk H
            clear H
            try go_wp2
            have n0_ := Asd.mk (Kd.R_drew HO_6.out)
            have n1_ := Asd.mk (bd1 HB.out)
            clear HO_6
            clear HB
            have HO_6 := n0_
            have HB := n1_
            clear n0_ n1_
            have p265 : 0 <= (x7_2 : Int) := of_decide_eq_true (by first | (with_reducible assumption) | assumption)
            have q265 : x7_2 < (l1.length : Int) := of_decide_eq_true (by first | (with_reducible assumption) | assumption)
            obtain ⟨ad265, e265, hx265_0, hx265_1⟩ := at_T63 HR1.out x7_2 p265 q265
            have hw265_1 := hx265_1
            have hw265_0 := hx265_0
            cases e265
            replace hx265_0 := (HB.out.cell (World.block_lt_of_cell? w _ hx265_0)).trans hx265_0
            replace hx265_1 := (HB.out.cell (World.block_lt_of_cell? w _ hx265_1)).trans hx265_1
            replace p265 := eq_true p265
            replace q265 := eq_true q265
            have p266 : 0 <= (x7_2 : Int) := of_decide_eq_true (by first | (with_reducible assumption) | assumption)
            have q266 : x7_2 < (l1.length : Int) := of_decide_eq_true (by first | (with_reducible assumption) | assumption)
            obtain ⟨ad266, e266, hx266_0, hx266_1⟩ := at_T63 HR1.out x7_2 p266 q266
            have hw266_1 := hx266_1
            have hw266_0 := hx266_0
            obtain rfl : ad265 = ad266 := (by injection e266)
            replace hx266_0 := (HB.out.cell (World.block_lt_of_cell? w _ hx266_0)).trans hx266_0
            replace hx266_1 := (HB.out.cell (World.block_lt_of_cell? w _ hx266_1)).trans hx266_1
            replace p266 := eq_true p266
            replace q266 := eq_true q266
            refine start_ (n := 16) (S := fun w' => w'.cell? (ad265.add ((x7_2).toNat * 2)) = some (.string ((rd_T63 l1 x7_2).f0)) /\ w'.cell? ⟨(ad265.add ((x7_2).toNat * 2)).block, (ad265.add ((x7_2).toNat * 2)).off + 1, none⟩ = some (.string ((rd_T63 l1 x7_2).f1)) /\ w'.cell? (ad265.add ((x7_2).toNat * 2)) = some (.string ((rd_T63 l1 x7_2).f0)) /\ w'.cell? ⟨(ad265.add ((x7_2).toNat * 2)).block, (ad265.add ((x7_2).toNat * 2)).off + 1, none⟩ = some (.string ((rd_T63 l1 x7_2).f1))) (ds := []) (bA 16 0) (by kernel_rfl) rfl rfl ⟨((HB.out.cell (World.block_lt_of_cell? w _ hw265_0)).trans hw265_0), ((HB.out.cell (World.block_lt_of_cell? w _ hw265_1)).trans hw265_1), ((HB.out.cell (World.block_lt_of_cell? w _ hw266_0)).trans hw266_0), ((HB.out.cell (World.block_lt_of_cell? w _ hw266_1)).trans hw266_1)⟩ (fun hHeld => ?_); refine with_tabW q6_Told.tab7 q6_Told.bits7 (fun HT_ HW_ => ?_)
            generalize wr.drew = w19 at HO_6 HB hx265_0 hx265_1 hx266_0 hx266_1 hHeld ⊢
            refine pure_ (i := 0) (N := some 25) (v := ?_) (a' := ?_) (bA 16 1) rfl rfl (any_of HT_.out (by kernel_rfl)) (fun _ _ _ h => h) (Or.inl ⟨by rfl, ?_⟩) ?_ ?_
            rotate_left
            ·intro w'
             go_simp
             with_reducible rfl
            rotate_left
            ·simp only [Act.put, zA, zB, zC, i64_w, i32_w]
             rfl
            refine pure_ (i := 1) (N := some 26) (v := ?_) (a' := ?_) (bA 16 3) rfl rfl (any_of HT_.out (by kernel_rfl)) (fun _ _ _ h => h) (Or.inl ⟨by rfl, ?_⟩) ?_ ?_
            rotate_left
            ·intro w'
             go_simp
             with_reducible rfl
            rotate_left
            ·simp only [Act.put, zA, zB, zC, i64_w, i32_w]
             rfl
            refine pure_ (i := 2) (N := some 27) (v := ?_) (a' := ?_) (bA 16 7) rfl rfl (any_of HT_.out (by kernel_rfl)) (fun _ _ _ h => h) (Or.inl ⟨by rfl, ?_⟩) ?_ ?_
            rotate_left
            ·intro w'
             go_simp
             with_reducible rfl
            rotate_left
            ·simp only [Act.put, zA, zB, zC, i64_w, i32_w]
             rfl
            refine pure_ (i := 3) (N := some 28) (v := ?_) (a' := ?_) (bA 16 15) rfl rfl (any_of HT_.out (by kernel_rfl)) (fun _ _ _ h => h) (Or.inl ⟨by rfl, ?_⟩) ?_ ?_
            rotate_left
            ·intro w'
             go_simp
             with_reducible rfl
            rotate_left
            ·simp only [Act.put, zA, zB, zC, i64_w, i32_w]
             rfl
            refine pure_ (i := 4) (N := some 29) (v := ?_) (a' := ?_) (bA 16 31) rfl rfl (any_of HT_.out (by kernel_rfl)) (fun _ _ _ h => h) (Or.inl ⟨by rfl, ?_⟩) ?_ ?_
            rotate_left
            ·intro w'
             go_simp
             with_reducible rfl
            rotate_left
            ·simp only [Act.put, zA, zB, zC, i64_w, i32_w]
             rfl
            refine pure_ (i := 7) (N := some 32) (v := ?_) (a' := ?_) (bA 16 159) rfl rfl (any_of HT_.out (by kernel_rfl)) (fun _ _ _ h => h) (Or.inl ⟨by rfl, ?_⟩) ?_ ?_
            rotate_left
            ·intro w'
             go_simp
             with_reducible rfl
            rotate_left
            ·simp only [Act.put, zA, zB, zC, i64_w, i32_w]
             rfl
            refine pure_ (i := 8) (N := some 33) (v := ?_) (a' := ?_) (bA 16 415) rfl rfl (any_of HT_.out (by kernel_rfl)) (fun _ _ _ h => h) (Or.inl ⟨by rfl, ?_⟩) ?_ ?_
            rotate_left
            ·intro w'
             go_simp
             with_reducible rfl
            rotate_left
            ·simp only [Act.put, zA, zB, zC, i64_w, i32_w]
             rfl
            refine pure_ (i := 9) (N := some 34) (v := ?_) (a' := ?_) (bA 16 927) rfl rfl (any_of HT_.out (by kernel_rfl)) (fun _ _ _ h => h) (Or.inl ⟨by rfl, ?_⟩) ?_ ?_
            rotate_left
            ·intro w'
             go_simp
             with_reducible rfl
            rotate_left
            ·simp only [Act.put, zA, zB, zC, i64_w, i32_w]
             rfl
            refine pure_ (i := 10) (N := some 35) (v := ?_) (a' := ?_) (bA 16 1951) rfl rfl (any_of HT_.out (by kernel_rfl)) (fun _ _ _ h => h) (Or.inl ⟨by rfl, ?_⟩) ?_ ?_
            rotate_left
            ·intro w'
             go_simp
             with_reducible rfl
            rotate_left
            ·simp only [Act.put, zA, zB, zC, i64_w, i32_w]
             rfl
            refine take_ (i := 5) (N := some 30) (v := ?_) (a' := ?_) (bA 16 1983) rfl rfl (take_ofW HT_.out HW_.out (by kernel_rfl)) (fun _ _ _ h => h) (Or.inl ⟨by rfl, ?_⟩) hHeld ?_ ?_
            rotate_left
            ·rintro w' ⟨s0, s1, s2, s3⟩
             go_simp
             with_reducible rfl
            rotate_left
            ·simp only [Act.put, zA, zB, zC, i64_w, i32_w]
             rfl
            refine pure_ (i := 6) (N := some 31) (v := ?_) (a' := ?_) (bA 16 2047) rfl rfl (any_of HT_.out (by kernel_rfl)) (fun _ _ _ h => h) (Or.inl ⟨by rfl, ?_⟩) ?_ ?_
            rotate_left
            ·intro w'
             go_simp
             with_reducible rfl
            rotate_left
            ·simp only [Act.put, zA, zB, zC, i64_w, i32_w]
             rfl
            refine take_ (i := 11) (N := some 36) (v := ?_) (a' := ?_) (bA 16 4095) rfl rfl (take_ofW HT_.out HW_.out (by kernel_rfl)) (fun _ _ _ h => h) (Or.inl ⟨by rfl, ?_⟩) hHeld ?_ ?_
            rotate_left
            ·rintro w' ⟨s0, s1, s2, s3⟩
             go_simp
             with_reducible rfl
            rotate_left
            ·simp only [Act.put, zA, zB, zC, i64_w, i32_w]
             rfl
            refine pure_ (i := 12) (N := some 37) (v := ?_) (a' := ?_) (bA 16 8191) rfl rfl (any_of HT_.out (by kernel_rfl)) (fun _ _ _ h => h) (Or.inl ⟨by rfl, ?_⟩) ?_ ?_
            rotate_left
            ·intro w'
             go_simp
             with_reducible rfl
            rotate_left
            ·simp only [Act.put, zA, zB, zC, i64_w, i32_w]
             rfl
            refine one_ (i := 13) (N := some 38) (bA 16 16383) rfl rfl (one_of HT_.out (by kernel_rfl)) (by decide) (fun K hK => ?_)
            refine value_ (w1 := ?_) (v := ?_) (by rfl) rfl ?_ ?_
            rotate_left 2
            ·go_simp
             constructor
             ·rfl
             ·rfl
            refine hK.out _ _ ⟨(World.cell?_alloc_lt _ _ _ (World.block_lt_of_cell? _ _ (((HB.out.cell (World.block_lt_of_cell? w _ hw265_0)).trans hw265_0)))).trans (((HB.out.cell (World.block_lt_of_cell? w _ hw265_0)).trans hw265_0)), (World.cell?_alloc_lt _ _ _ (World.block_lt_of_cell? _ _ (((HB.out.cell (World.block_lt_of_cell? w _ hw265_1)).trans hw265_1)))).trans (((HB.out.cell (World.block_lt_of_cell? w _ hw265_1)).trans hw265_1)), (World.cell?_alloc_lt _ _ _ (World.block_lt_of_cell? _ _ (((HB.out.cell (World.block_lt_of_cell? w _ hw266_0)).trans hw266_0)))).trans (((HB.out.cell (World.block_lt_of_cell? w _ hw266_0)).trans hw266_0)), (World.cell?_alloc_lt _ _ _ (World.block_lt_of_cell? _ _ (((HB.out.cell (World.block_lt_of_cell? w _ hw266_1)).trans hw266_1)))).trans (((HB.out.cell (World.block_lt_of_cell? w _ hw266_1)).trans hw266_1))⟩ (fun hHeld => ?_)
            clear hK K
            refine norm_ (a' := ?_) ?_ ?_
            rotate_left
            ·show Act.put _ (some 38) _ = _
             simp only [Act.put, zA, zB, zC, i64_w, i32_w]
             rfl
            refine one_ (i := 14) (N := some 39) (bA 16 32767) rfl rfl (one_of HT_.out (by kernel_rfl)) (by decide) (fun K hK => ?_)
            refine Kd.R_append_step Kd.string (w0 := w) w.heap.size (by rfl) (.tmp 25) (.tmp 38) 23 9 (.string ⟨#[]⟩) 16 rfl Tryd.underlying23 info9 rfl (by decide) (by omega) u6 x6_2 ((((rd_T63 l1 x7_2).f1) ++ (⟨#[32]⟩ : ByteArray)) ++ ((rd_T63 l1 x7_2).f0)) [.string ((((rd_T63 l1 x7_2).f1) ++ (⟨#[32]⟩ : ByteArray)) ++ ((rd_T63 l1 x7_2).f0))] (fun _ => True) (fun _ => False) rfl rfl ?aP (fun _ hk => hk.elim) ?aF ?aO ?aB ?aS ?aL ?_
            (case aP => exact rfl)
            (case aB => exact (by repeat (first | (with_reducible first | exact HB.out | apply bal | apply pbN | apply bd1) | exact HB.out)))
            (case aF => exact (fun _ _ => trivial))
            (case aO => exact (by (with_reducible repeat (first | apply Kd.R_alloc | apply Kd.R_drewN | apply Kd.R_drew)); exact HO_6.out))
            (case aS => exact (below_size (by repeat (first | (with_reducible first | exact HB.out | apply bal | apply pbN | apply bd1) | exact HB.out))))
            (case aL => have := LMc18.out; omega)
            intro v268 w20 ho hb hg hat
            rw [<- Ny267.out] at ho
            have n0_ := Asd.mk (hb)
            have n1_ := Asd.mk (ho)
            clear HB
            clear HO_6
            have HB := n0_
            have HO269 := n1_
            clear n0_ n1_
            clear ho hb hg hat
            refine hK.out _ _ ⟨((HB.out.cell (World.block_lt_of_cell? w _ hw265_0)).trans hw265_0), ((HB.out.cell (World.block_lt_of_cell? w _ hw265_1)).trans hw265_1), ((HB.out.cell (World.block_lt_of_cell? w _ hw266_0)).trans hw266_0), ((HB.out.cell (World.block_lt_of_cell? w _ hw266_1)).trans hw266_1)⟩ (fun hHeld => ?_)
            clear hK K
            refine norm_ (a' := ?_) ?_ ?_
            rotate_left
            ·show Act.put _ (some 39) _ = _
             simp only [Act.put, zA, zB, zC, i64_w, i32_w]
             rfl
            refine pure_ (i := 15) (N := some 6) (v := ?_) (a' := ?_) (bA 16 65535) rfl rfl (any_of HT_.out (by kernel_rfl)) (fun _ _ _ h => h) (Or.inl ⟨by rfl, ?_⟩) ?_ ?_
            rotate_left
            ·intro w'
             go_simp
             with_reducible rfl
            rotate_left
            ·simp only [Act.put, zA, zB, zC, i64_w, i32_w]
             rfl
            refine done_ (done_of HT_.out (by kernel_rfl)) ?_
            try go_wp2
            go_roundg k2
            case measure => have := HJ2.out; have := HK2.out; omega
            case rel => exact ⟨(y267), (wrap64 (x7_2 + 1)), (by first | rfl | (simp; done) | (simp [*]; done)), H', ⟨by have := HJ2.out; have := HK2.out; omega⟩, ⟨by (with_reducible repeat (first | apply Kd.R_alloc | apply Kd.R_drewN | apply Kd.R_drew)); exact HO269.out⟩, ⟨by repeat (first | (with_reducible first | exact HB.out | apply bal | apply pbN | apply bd1) | exact HB.out)⟩⟩
           ·rw [if_neg c18] at H
            exact absurd H (by simp)
          ·rw [if_neg c17] at H
           exact absurd H (by simp)
         ·rw [if_neg c16] at H
          exact absurd H (by simp)
        ·rw [if_neg c15] at H
         exact absurd H (by simp)
       ·rw [if_neg c14] at H
        have c14b0 : decide (x7_2 < (l1.length : Int)) = false := decide_eq_false c14
        clear c14
        replace H := Option.bind_eq_some_iff.mp H
        obtain ⟨t270, A210, H⟩ := H
        replace H : (some (t270, true)) = some (r1, r2) := H
        have A21 := Asd.mk A210
        clear A210
        simp only [Option.some.injEq, Prod.mk.injEq] at H
        obtain ⟨rfl, rfl⟩ := H
        obtain ⟨Ao22, co22, eo22⟩ := Kd.R_slice HO_6.out
        subst eo22
        go_wp2_with (first | ((with_reducible refine gate_callee (f := 38) rfl ?_); refine goesL_ (some 41) rfl rfl Tryd.func38 (by kernel_rfl) rfl #[.slice Ao22 x6_2.length co22] rfl (by (try simp only [List.map_toArray, List.map_cons, List.map_nil]); first | done | rfl | (simp only [List.length_drop, List.length_take]; rfl)) ?_; (with_reducible refine (q6_ends.calls k2 _ _ x6_2 t270 _ ?side1 ?side2 A21.out).mono ?_); (case side1 => repeat (first | exact (Kd.R_reads' HO_6.out).2.2 | (with_reducible refine Kd.C_alloc ?_ _) | (with_reducible refine Kd.C_drewN ?_ _) | (with_reducible refine Kd.C_drew ?_))); (case side2 => exact (Kd.R_reads' HO_6.out).2.1); rintro e w23 ⟨v271, rfl, ho0, hb⟩; refine ⟨_, rfl, ?_⟩; have n0_ := Asd.mk (Kd.R_below (by (with_reducible repeat (first | apply Kd.R_alloc | apply Kd.R_drewN | apply Kd.R_drew)); exact HO_6.out) hb); have n1_ := Asd.mk (Kd.R_lower ho0 (below_size (by repeat (first | (with_reducible first | exact HB.out | apply bal | apply pbN | apply bd1) | exact HB.out)))); have n2_ := Asd.mk (below_step (by repeat (first | (with_reducible first | exact HB.out | apply bal | apply pbN | apply bd1) | exact HB.out)) hb); clear HO_6; clear HB; have HO_6 := n0_; have HO272 := n1_; have HB := n2_; clear n0_ n1_ n2_; (try clear hb); (try clear hb2); (try clear hk); (try clear hi); (try clear ho0)))
        go_ret2
        exact ⟨_, by first | rfl | (simp [errW_none, errW_some] <;> rfl) | (simp [*, errW_none, errW_some] <;> rfl), by (with_reducible repeat (first | apply Kd.R_alloc | apply Kd.R_drewN | apply Kd.R_drew)); exact HO272.out, by repeat (first | (with_reducible first | exact HB.out | apply bal | apply pbN | apply bd1) | exact HB.out)⟩
    ·rw [if_neg c11] at H
     exact absurd H (by simp)
def q6_named.l0 : Nat -> List ByteArray -> Int -> Int -> Option (Bool)
 | 0, _, _, _ => none
 | k + 1, x0, x1, x5 => if x5 < (x0.length : Int) then (if 0 <= x5 then ((q2_Named.f k (rdOf ByteArray.empty x0 x5)).bind fun t274 => (if t274 = true then (q6_named.l0 k x0 x1 (wrap64 (x5 + 1))) else (some false))) else (none)) else (some (decide ((x0.length : Int) <= x1)))
def q6_named.f (k : Nat) (l0 : List ByteArray) (a1 : Int) : Option (Bool) := q6_named.l0 k l0 a1 0
set_option maxHeartbeats 8000000 in
set_option maxRecDepth 100000 in
theorem q6_named.calls (k : Nat) (A0 : Option Addr) (c0 : Nat) (l0 : List ByteArray) (a1 : Int) (r : Bool) (w : World) (hr0 : Kd.C Kd.string w A0 l0.length l0) (hc0 : l0.length <= c0) (h : q6_named.f k l0 a1 = some r) :
  Calls Tryd.prog 41 #[.slice A0 l0.length c0, .int .i64 a1] w fun e w' => e = .returned (.bool r) /\ Drawn0 w w' := by
 have HR0 := Asd.mk hr0
 have HC0 := Asd.mk hc0
 clear hr0 hc0
 have H : (q6_named.l0 k l0 a1 0) = some r := h
 clear h
 have H' := Asd.mk H
 clear H
 go_enter Tryd.func41, Tryd.ntmps41
 go_wp2
 go_loopg [5] k (fun kq v5 w' => ∃ (x5_1 : Int), v5 = .int .i64 x5_1 /\ Asd (q6_named.l0 kq l0 a1 x5_1 = some r) /\ Asd (kq <= k) /\ Drawn0 w w')
 case atStart => exact ⟨(0), (by first | rfl | (simp; done) | (simp [*]; done)), H', ⟨Nat.le_refl _⟩, by repeat (first | exact Drawn0.refl _ | apply Drawn0.step)⟩
 case round =>
  clear H'
  try clear p2
  obtain ⟨x5_1, rfl, HA, HK1, ⟨m1, rfl⟩⟩ := hrel
  cases gk with
  | zero => exact absurd HA.out (by simp [q6_named.l0])
  | succ k1 =>
   have H := HA.out
   clear HA
   simp only [q6_named.l0] at H
   by_cases c3 : x5_1 < (l0.length : Int)
   ·rw [if_pos c3] at H
    have c3b0 : decide (x5_1 < (l0.length : Int)) = true := decide_eq_true c3
    clear c3
    by_cases c4 : 0 <= x5_1
    ·rw [if_pos c4] at H
     have c4b0 : decide (0 <= x5_1) = true := decide_eq_true c4
     clear c4
     replace H := Option.bind_eq_some_iff.mp H
     obtain ⟨t274, A50, H⟩ := H
     replace H : (if t274 = true then (q6_named.l0 k1 l0 a1 (wrap64 (x5_1 + 1))) else (some false)) = some r := H
     have A5 := Asd.mk A50
     clear A50
     by_cases c6 : t274 = true
     ·subst c6
      have H1 : (q6_named.l0 k1 l0 a1 (wrap64 (x5_1 + 1))) = some r := by rw [if_pos rfl] at H; exact H
      clear H
      have H := H1
      clear H1
      have H' := Asd.mk H
      clear H
      have p273 : 0 <= (x5_1 : Int) := of_decide_eq_true (by first | (with_reducible assumption) | assumption)
      have q273 : x5_1 < (l0.length : Int) := of_decide_eq_true (by first | (with_reducible assumption) | assumption)
      obtain ⟨ad273, e273, hx273_0⟩ := Kd.at_string HR0.out x5_1 p273 q273
      cases e273
      replace p273 := eq_true p273
      replace q273 := eq_true q273
      go_wp2_with (first | ((with_reducible refine gate_callee (f := 65) rfl ?_); refine goesL_ (some 16) rfl rfl Tryd.func65 (by kernel_rfl) rfl #[.string (rdOf ByteArray.empty l0 x5_1)] rfl (by (try simp only [List.map_toArray, List.map_cons, List.map_nil]); first | done | rfl | (simp only [List.length_drop, List.length_take]; rfl)) ?_; (with_reducible refine (q2_Named.calls k1 (rdOf ByteArray.empty l0 x5_1) true _ A5.out).mono ?_); rintro e w' ⟨rfl, ⟨nd, rfl⟩⟩; refine ⟨_, rfl, ?_⟩))
      go_roundg k1
      case measure => have := HK1.out; omega
      case rel => exact ⟨(wrap64 (x5_1 + 1)), (by first | rfl | (simp; done) | (simp [*]; done)), H', ⟨by have := HK1.out; omega⟩, by repeat (first | exact Drawn0.refl _ | apply Drawn0.step)⟩
     ·replace c6 := Bool.eq_false_iff.mpr c6
      subst c6
      have H1 : (some false) = some r := by rw [if_neg (show ¬ (false = true) by decide)] at H; exact H
      clear H
      have H := H1
      clear H1
      obtain rfl := Option.some.inj H
      have p273 : 0 <= (x5_1 : Int) := of_decide_eq_true (by first | (with_reducible assumption) | assumption)
      have q273 : x5_1 < (l0.length : Int) := of_decide_eq_true (by first | (with_reducible assumption) | assumption)
      obtain ⟨ad273, e273, hx273_0⟩ := Kd.at_string HR0.out x5_1 p273 q273
      cases e273
      replace p273 := eq_true p273
      replace q273 := eq_true q273
      go_wp2_with (first | ((with_reducible refine gate_callee (f := 65) rfl ?_); refine goesL_ (some 16) rfl rfl Tryd.func65 (by kernel_rfl) rfl #[.string (rdOf ByteArray.empty l0 x5_1)] rfl (by (try simp only [List.map_toArray, List.map_cons, List.map_nil]); first | done | rfl | (simp only [List.length_drop, List.length_take]; rfl)) ?_; (with_reducible refine (q2_Named.calls k1 (rdOf ByteArray.empty l0 x5_1) false _ A5.out).mono ?_); rintro e w' ⟨rfl, ⟨nd, rfl⟩⟩; refine ⟨_, rfl, ?_⟩))
      go_ret
      exact ⟨by first | rfl | (simp; done) | (simp [*]; done), by repeat (first | exact Drawn0.refl _ | apply Drawn0.step)⟩
    ·rw [if_neg c4] at H
     exact absurd H (by simp)
   ·rw [if_neg c3] at H
    have c3b0 : decide (x5_1 < (l0.length : Int)) = false := decide_eq_false c3
    clear c3
    obtain rfl := Option.some.inj H
    go_wp2
    go_ret
    exact ⟨by first | rfl | (simp; done) | (simp [*]; done), by repeat (first | exact Drawn0.refl _ | apply Drawn0.step)⟩
mutual
def q6_Ask.j0 : Nat -> Bool -> List ByteArray -> List ByteArray -> Option ((List (S49)) × Bool)
 | 0, _, _, _ => none
 | k + 1, x22, x276000, x276001 => if x22 = true then (some (([] : List (S49)), false)) else (q6_Ask.l0 k ([] : List ByteArray) 0 x276000 x276001)
def q6_Ask.l0 : Nat -> List ByteArray -> Int -> List ByteArray -> List ByteArray -> Option ((List (S49)) × Bool)
 | 0, _, _, _, _ => none
 | k + 1, x4, x5, x276000, x276001 => if x5 < (x276000.length : Int) then (if 0 <= x5 then (if 5 + (rdOf ByteArray.empty x276000 x5).size <= 9223372036854775807 then (if x4.length < 8796093022208 then (q6_Ask.l0 k (x4 ++ [(⟨#[119, 97, 110, 116, 32]⟩ : ByteArray) ++ (rdOf ByteArray.empty x276000 x5)]) (wrap64 (x5 + 1)) x276000 x276001) else (none)) else (none)) else (none)) else (q6_Ask.l1 k x4 0 x276000 x276001)
def q6_Ask.l1 : Nat -> List ByteArray -> Int -> List ByteArray -> List ByteArray -> Option ((List (S49)) × Bool)
 | 0, _, _, _, _ => none
 | k + 1, x4, x6, x276000, x276001 => if x6 < (x276001.length : Int) then (if 0 <= x6 then (if 5 + (rdOf ByteArray.empty x276001 x6).size <= 9223372036854775807 then (if x4.length < 8796093022208 then (q6_Ask.l1 k (x4 ++ [(⟨#[104, 97, 118, 101, 32]⟩ : ByteArray) ++ (rdOf ByteArray.empty x276001 x6)]) (wrap64 (x6 + 1)) x276000 x276001) else (none)) else (none)) else (none)) else (if x4.length < 8796093022208 then ((q6_ends.f k (x4 ++ [(⟨#[100, 111, 110, 101]⟩ : ByteArray)])).bind fun t289 => (some (t289, true))) else (none))
end
def q6_Ask.f (k : Nat) (l0_0 : List ByteArray) (l0_1 : List ByteArray) : Option ((List (S49)) × Bool) := if (l0_0.length : Int) = 0 then (q6_Ask.j0 k true l0_0 l0_1) else ((q6_named.f k l0_0 64).bind fun t276 => (if t276 = true then ((q6_named.f k l0_1 256).bind fun t277 => (q6_Ask.j0 k (!t277) l0_0 l0_1)) else (q6_Ask.j0 k true l0_0 l0_1)))
set_option maxHeartbeats 8000000 in
set_option maxRecDepth 100000 in
theorem q6_Ask.calls (k : Nat) (A0_0 : Option Addr) (c0_0 : Nat) (l0_0 : List ByteArray) (A0_1 : Option Addr) (c0_1 : Nat) (l0_1 : List ByteArray) (r1 : List (S49)) (r2 : Bool) (w : World) (hr0_0 : Kd.C Kd.string w A0_0 l0_0.length l0_0) (hc0_0 : l0_0.length <= c0_0) (hr0_1 : Kd.C Kd.string w A0_1 l0_1.length l0_1) (hc0_1 : l0_1.length <= c0_1) (h : q6_Ask.f k l0_0 l0_1 = some (r1, r2)) :
  Calls Tryd.prog 16 #[.agg #[.slice A0_0 l0_0.length c0_0, .slice A0_1 l0_1.length c0_1]] w fun e w' => ∃ v0_ : Value, e = .returned (.tuple #[v0_, .bool r2]) /\ Kd.R k49 49 w' w.heap.size (fun _ => True) v0_ r1 /\ Below w.heap.size w w' := by
 have hu25 := Tryd.underlying25
 have HR0_0 := Asd.mk hr0_0
 have HC0_0 := Asd.mk hc0_0
 clear hr0_0 hc0_0
 have HR0_1 := Asd.mk hr0_1
 have HC0_1 := Asd.mk hc0_1
 clear hr0_1 hc0_1
 have HB := Asd.mk (Below.refl w.heap.size w)
 have H : (if (l0_0.length : Int) = 0 then (q6_Ask.j0 k true l0_0 l0_1) else ((q6_named.f k l0_0 64).bind fun t276 => (if t276 = true then ((q6_named.f k l0_1 256).bind fun t277 => (q6_Ask.j0 k (!t277) l0_0 l0_1)) else (q6_Ask.j0 k true l0_0 l0_1)))) = some (r1, r2) := h
 clear h
 have HC2 := Asd.mk H
 clear H
 go_enter Tryd.func16, Tryd.ntmps16
 go_upto_region 1 with (first | ((with_reducible refine gate_dst (N := 1) rfl ?_); refine box_event ?hg (N := 1) ?hd (cs := #[.slice A0_0 l0_0.length c0_0, .slice A0_1 l0_1.length c0_1]) (t := 25) ?hr ?_; (case hd => rfl); (case hg => rfl); (case hr => first | (go_simp; done) | (go_simp; rfl)); intro gb275 hg w3 hbox hb; have n0_ := Asd.mk (below_step (by repeat (first | (with_reducible first | exact HB.out | apply bal | apply pbN | apply bd1) | exact HB.out)) hb); have n1_ := Asd.mk (hbox); have n2_ := Asd.mk ((by rw [hg]; exact (below_size (by repeat (first | (with_reducible first | exact HB.out | apply bal | apply pbN | apply bd1) | exact HB.out))) : w.heap.size <= gb275)); have n3_ := Asd.mk ((by rw [hg]; exact (below_size (by repeat (first | (with_reducible first | exact HB.out | apply bal | apply pbN | apply bd1) | exact HB.out))) : w.heap.size <= gb275)); clear HB; have HB := n0_; have BK275 := n1_; have GW275 := n2_; have GE275 := n3_; clear n0_ n1_ n2_ n3_; clear hb hbox hg))
 (try simp only [Act.put, zA, zB, zC])
 go_cut [22] (fun v22 wc => ∃ (kq : Nat) (x22_1 : Bool), v22 = .bool x22_1 /\ Asd (q6_Ask.j0 kq x22_1 l0_0 l0_1 = some (r1, r2)) /\ Asd (kq <= k) /\ Asd (wc.heap[gb275]? = some (.cells #[(.slice A0_0 l0_0.length c0_0), (.slice A0_1 l0_1.length c0_1)] 25 (0, 0))) /\ Asd (Below w.heap.size w wc))
 case first =>
  have H := HC2.out
  clear HC2
  by_cases c4 : (l0_0.length : Int) = 0
  ·rw [if_pos c4] at H
   have c4b0 : ((l0_0.length : Int) == 0) = true := beq_iff_eq.mpr c4
   have c4b1 : ((l0_0.length : Int) != 0) = false := bne_eq_false_iff_eq.mpr c4
   clear c4
   (first | rw [c4b0] | (simp only [i64_w, i32_w]; rw [c4b0]) | skip)
   have H' := Asd.mk H
   clear H
   have hcz5_0 : w3.cell? ⟨gb275, 0, none⟩ = some (.slice A0_0 l0_0.length c0_0) := (blk_cell BK275.out 0).trans rfl
   have hcz5_1 : w3.cell? ⟨gb275, 1, none⟩ = some (.slice A0_1 l0_1.length c0_1) := (blk_cell BK275.out 1).trans rfl
   have hfz5_0 := blk_frozen BK275.out 0
   have hfz5_1 := blk_frozen BK275.out 1
   go_wp2
   go_meet
   case rel => exact ⟨_, (true), (by first | rfl | (simp; done) | (simp [*]; done)), H', ⟨by first | omega | exact Nat.le_refl _⟩, ⟨by (with_reducible repeat (first | refine blk_drewN ?_ _ | refine blk_drew ?_ | refine blk_alloc ?_ _)); exact BK275.out⟩, ⟨by repeat (first | (with_reducible first | exact HB.out | apply bal | apply pbN | apply bd1 | refine below_set ?_ GE275.out) | exact HB.out)⟩⟩
  ·rw [if_neg c4] at H
   have c4b0 : ((l0_0.length : Int) == 0) = false := beq_eq_false_iff_ne.mpr c4
   have c4b1 : ((l0_0.length : Int) != 0) = true := bne_iff_ne.mpr c4
   have c4b2 : ¬ (l0_0 = []) := fun h_ => c4 (by rw [h_]; rfl)
   (first | rw [c4b0] | (simp only [i64_w, i32_w]; rw [c4b0]) | skip)
   replace H := Option.bind_eq_some_iff.mp H
   obtain ⟨t276, A60, H⟩ := H
   replace H : (if t276 = true then ((q6_named.f k l0_1 256).bind fun t277 => (q6_Ask.j0 k (!t277) l0_0 l0_1)) else (q6_Ask.j0 k true l0_0 l0_1)) = some (r1, r2) := H
   have A6 := Asd.mk A60
   clear A60
   by_cases c7 : t276 = true
   ·subst c7
    have H1 : ((q6_named.f k l0_1 256).bind fun t277 => (q6_Ask.j0 k (!t277) l0_0 l0_1)) = some (r1, r2) := by rw [if_pos rfl] at H; exact H
    clear H
    have H := H1
    clear H1
    replace H := Option.bind_eq_some_iff.mp H
    obtain ⟨t277, A80, H⟩ := H
    replace H : (q6_Ask.j0 k (!t277) l0_0 l0_1) = some (r1, r2) := H
    have A8 := Asd.mk A80
    clear A80
    have H' := Asd.mk H
    clear H
    have hcz9_0 : w3.cell? ⟨gb275, 0, none⟩ = some (.slice A0_0 l0_0.length c0_0) := (blk_cell BK275.out 0).trans rfl
    have hcz9_1 : w3.cell? ⟨gb275, 1, none⟩ = some (.slice A0_1 l0_1.length c0_1) := (blk_cell BK275.out 1).trans rfl
    have hfz9_0 := blk_frozen BK275.out 0
    have hfz9_1 := blk_frozen BK275.out 1
    go_wp2_with (first | (go_at_call 41; (with_reducible refine (q6_named.calls k _ _ l0_0 64 true _ ?side1 ?side2 A6.out).mono ?_); (case side1 => repeat (first | exact (Kd.C_below HR0_0.out HB.out) | (with_reducible refine Kd.C_alloc ?_ _) | (with_reducible refine Kd.C_drewN ?_ _) | (with_reducible refine Kd.C_drew ?_))); (case side2 => exact HC0_0.out); rintro e w' ⟨rfl, ⟨nd, rfl⟩⟩) | (go_at_call 41; (with_reducible refine (q6_named.calls k _ _ l0_1 256 t277 _ ?side1 ?side2 A8.out).mono ?_); (case side1 => repeat (first | exact (Kd.C_below HR0_1.out (by repeat (first | (with_reducible first | exact HB.out | apply bal | apply pbN | apply bd1 | refine below_set ?_ GE275.out) | exact HB.out))) | (with_reducible refine Kd.C_alloc ?_ _) | (with_reducible refine Kd.C_drewN ?_ _) | (with_reducible refine Kd.C_drew ?_))); (case side2 => exact HC0_1.out); rintro e w' ⟨rfl, ⟨nd, rfl⟩⟩))
    go_meet
    case rel => exact ⟨_, (!t277), (by first | rfl | (simp; done) | (simp [*]; done)), H', ⟨by first | omega | exact Nat.le_refl _⟩, ⟨by (with_reducible repeat (first | refine blk_drewN ?_ _ | refine blk_drew ?_ | refine blk_alloc ?_ _)); exact BK275.out⟩, ⟨by repeat (first | (with_reducible first | exact HB.out | apply bal | apply pbN | apply bd1 | refine below_set ?_ GE275.out) | exact HB.out)⟩⟩
   ·replace c7 := Bool.eq_false_iff.mpr c7
    subst c7
    have H1 : (q6_Ask.j0 k true l0_0 l0_1) = some (r1, r2) := by rw [if_neg (show ¬ (false = true) by decide)] at H; exact H
    clear H
    have H := H1
    clear H1
    have H' := Asd.mk H
    clear H
    have hcz10_0 : w3.cell? ⟨gb275, 0, none⟩ = some (.slice A0_0 l0_0.length c0_0) := (blk_cell BK275.out 0).trans rfl
    have hcz10_1 : w3.cell? ⟨gb275, 1, none⟩ = some (.slice A0_1 l0_1.length c0_1) := (blk_cell BK275.out 1).trans rfl
    have hfz10_0 := blk_frozen BK275.out 0
    have hfz10_1 := blk_frozen BK275.out 1
    go_wp2_with (first | (go_at_call 41; (with_reducible refine (q6_named.calls k _ _ l0_0 64 false _ ?side1 ?side2 A6.out).mono ?_); (case side1 => repeat (first | exact (Kd.C_below HR0_0.out HB.out) | (with_reducible refine Kd.C_alloc ?_ _) | (with_reducible refine Kd.C_drewN ?_ _) | (with_reducible refine Kd.C_drew ?_))); (case side2 => exact HC0_0.out); rintro e w' ⟨rfl, ⟨nd, rfl⟩⟩))
    go_meet
    case rel => exact ⟨_, (true), (by first | rfl | (simp; done) | (simp [*]; done)), H', ⟨by first | omega | exact Nat.le_refl _⟩, ⟨by (with_reducible repeat (first | refine blk_drewN ?_ _ | refine blk_drew ?_ | refine blk_alloc ?_ _)); exact BK275.out⟩, ⟨by repeat (first | (with_reducible first | exact HB.out | apply bal | apply pbN | apply bd1 | refine below_set ?_ GE275.out) | exact HB.out)⟩⟩
 case rest =>
  clear HC2
  try clear c1
  try clear p2
  try clear c4
  try clear c4b0
  try clear c4b1
  try clear c4b2
  try clear c7
  try clear hcz10_0
  try clear hcz10_1
  try clear hcz5_0
  try clear hcz5_1
  try clear hcz9_0
  try clear hcz9_1
  try clear hfz10_0
  try clear hfz10_1
  try clear hfz5_0
  try clear hfz5_1
  try clear hfz9_0
  try clear hfz9_1
  obtain ⟨kq, x22_1, rfl, HA, HJ1, BK275, HB⟩ := hcut
  cases kq with
  | zero => exact absurd HA.out (by simp [q6_Ask.j0])
  | succ kj1 =>
   have H := HA.out
   clear HA
   simp only [q6_Ask.j0] at H
   by_cases c11 : x22_1 = true
   ·subst c11
    have H1 : (some (([] : List (S49)), false)) = some (r1, r2) := by rw [if_pos rfl] at H; exact H
    clear H
    have H := H1
    clear H1
    simp only [Option.some.injEq, Prod.mk.injEq] at H
    obtain ⟨rfl, rfl⟩ := H
    go_wp2
    go_ret2
    exact ⟨_, by first | rfl | (simp [errW_none, errW_some] <;> rfl) | (simp [*, errW_none, errW_some] <;> rfl), by first | exact Kd.R_nil _ _ _ _ _ | exact Kd.N_nil _ _ _ _ _ | exact Kd.V_nil _ _ _ _ _ | exact Kd.Q_nil _ _ _ _ _ | exact Kd.S_nil _ _ _ _ _, by repeat (first | (with_reducible first | exact HB.out | apply bal | apply pbN | apply bd1 | refine below_set ?_ GE275.out) | exact HB.out)⟩
   ·replace c11 := Bool.eq_false_iff.mpr c11
    subst c11
    have H1 : (q6_Ask.l0 kj1 ([] : List ByteArray) 0 l0_0 l0_1) = some (r1, r2) := by rw [if_neg (show ¬ (false = true) by decide)] at H; exact H
    clear H
    have H := H1
    clear H1
    have H' := Asd.mk H
    clear H
    go_wp2
    go_loopg [4, 5] kj1 (fun kq v4 v5 w' => ∃ (x4_2 : List ByteArray) (x5_2 : Int), v5 = .int .i64 x5_2 /\ Asd (q6_Ask.l0 kq x4_2 x5_2 l0_0 l0_1 = some (r1, r2)) /\ Asd (kq <= kj1) /\ Asd (Kd.R Kd.string 9 w' w.heap.size (fun _ => True) v4 x4_2) /\ Asd (w'.heap[gb275]? = some (.cells #[(.slice A0_0 l0_0.length c0_0), (.slice A0_1 l0_1.length c0_1)] 25 (0, 0))) /\ Asd (Below w.heap.size w w'))
    case atStart => exact ⟨(([] : List ByteArray)), (0), (by first | rfl | (simp; done) | (simp [*]; done)), H', ⟨Nat.le_refl _⟩, ⟨by first | exact Kd.R_nil _ _ _ _ _ | exact Kd.N_nil _ _ _ _ _ | exact Kd.V_nil _ _ _ _ _ | exact Kd.Q_nil _ _ _ _ _ | exact Kd.S_nil _ _ _ _ _⟩, ⟨by (with_reducible repeat (first | refine blk_drewN ?_ _ | refine blk_drew ?_ | refine blk_alloc ?_ _)); exact BK275.out⟩, ⟨by repeat (first | (with_reducible first | exact HB.out | apply bal | apply pbN | apply bd1 | refine below_set ?_ GE275.out) | exact HB.out)⟩⟩
    case round =>
     clear H'
     try clear c1
     try clear p2
     try clear c4
     try clear c4b0
     try clear c4b1
     try clear c4b2
     try clear c7
     try clear c11
     try clear hcz10_0
     try clear hcz10_1
     try clear hcz5_0
     try clear hcz5_1
     try clear hcz9_0
     try clear hcz9_1
     try clear hfz10_0
     try clear hfz10_1
     try clear hfz5_0
     try clear hfz5_1
     try clear hfz9_0
     try clear hfz9_1
     try clear p2
     obtain ⟨x4_2, x5_2, rfl, HA, HK2, HO_4, BK275, HB⟩ := hrel
     cases gk with
     | zero => exact absurd HA.out (by simp [q6_Ask.l0])
     | succ k2 =>
      have H := HA.out
      clear HA
      simp only [q6_Ask.l0] at H
      by_cases c12 : x5_2 < (l0_0.length : Int)
      ·rw [if_pos c12] at H
       have c12b0 : decide (x5_2 < (l0_0.length : Int)) = true := decide_eq_true c12
       clear c12
       by_cases c13 : 0 <= x5_2
       ·rw [if_pos c13] at H
        have c13b0 : decide (0 <= x5_2) = true := decide_eq_true c13
        clear c13
        by_cases c14 : 5 + (rdOf ByteArray.empty l0_0 x5_2).size <= 9223372036854775807
        ·rw [if_pos c14] at H
         have c14b0 := eq_true c14
         have c14b1 : decide (5 + (rdOf ByteArray.empty l0_0 x5_2).size <= 9223372036854775807) = true := decide_eq_true c14
         try have c14b2 : (9223372036854775807 < 5 + (rdOf ByteArray.empty l0_0 x5_2).size) = False := eq_false (Nat.not_lt.2 c14)
         by_cases c15 : x4_2.length < 8796093022208
         ·rw [if_pos c15] at H
          have LMc15 := Asd.mk c15
          clear c15
          obtain ⟨y279, hy279⟩ : ∃ y_ : List ByteArray, y_ = (x4_2 ++ [(⟨#[119, 97, 110, 116, 32]⟩ : ByteArray) ++ (rdOf ByteArray.empty l0_0 x5_2)]) := ⟨_, rfl⟩
          replace H : (q6_Ask.l0 k2 y279 (wrap64 (x5_2 + 1)) l0_0 l0_1) = some (r1, r2) := by first | (rw [hy279]; with_reducible exact H) | (have H2_ := (Option.bind_some _ _).symm.trans H; rw [hy279]; with_reducible exact H2_) | (have H2_ := (Option.bind_some _ _).symm.trans H; with_reducible exact H2_) | with_reducible exact H | (rw [hy279]; exact H) | exact H
          have Ny279 := Asd.mk hy279
          clear hy279
          have H' := Asd.mk H
          clear H
          have hcz16_0 : wr.cell? ⟨gb275, 0, none⟩ = some (.slice A0_0 l0_0.length c0_0) := (blk_cell BK275.out 0).trans rfl
          have hcz16_1 : wr.cell? ⟨gb275, 1, none⟩ = some (.slice A0_1 l0_1.length c0_1) := (blk_cell BK275.out 1).trans rfl
          have hfz16_0 := blk_frozen BK275.out 0
          have hfz16_1 := blk_frozen BK275.out 1
          have p278 : 0 <= (x5_2 : Int) := of_decide_eq_true (by first | (with_reducible assumption) | assumption)
          have q278 : x5_2 < (l0_0.length : Int) := of_decide_eq_true (by first | (with_reducible assumption) | assumption)
          obtain ⟨ad278, e278, hx278_0⟩ := Kd.at_string HR0_0.out x5_2 p278 q278
          cases e278
          replace hx278_0 := (HB.out.cell (World.block_lt_of_cell? w _ hx278_0)).trans hx278_0
          replace p278 := eq_true p278
          replace q278 := eq_true q278
          go_wp2_with (first | ((with_reducible refine gate_builtin (b := .append) (xs := #[.tmp 30, .tmp 37]) rfl ?_); at_builtin; refine Kd.R_append Kd.string (w0 := w) w.heap.size rfl (.tmp 30) (.tmp 37) 23 9 (.string ⟨#[]⟩) 16 rfl Tryd.underlying23 info9 rfl (by decide) (by omega) u4 x4_2 ((⟨#[119, 97, 110, 116, 32]⟩ : ByteArray) ++ (rdOf ByteArray.empty l0_0 x5_2)) [.string ((⟨#[119, 97, 110, 116, 32]⟩ : ByteArray) ++ (rdOf ByteArray.empty l0_0 x5_2))] (fun _ => True) (fun _ => False) rfl rfl ?aP (fun _ hk => hk.elim) ?aF ?aO ?aB ?aS ?aL ?_; (case aP => exact rfl); (case aB => exact (by repeat (first | (with_reducible first | exact HB.out | apply bal | apply pbN | apply bd1 | refine below_set ?_ GE275.out) | exact HB.out))); (case aF => exact (fun _ _ => trivial)); (case aO => exact (by (with_reducible repeat (first | apply Kd.R_alloc | apply Kd.R_drewN | apply Kd.R_drew)); exact HO_4.out)); (case aS => exact (below_size (by repeat (first | (with_reducible first | exact HB.out | apply bal | apply pbN | apply bd1 | refine below_set ?_ GE275.out) | exact HB.out)))); (case aL => have := LMc15.out; omega); intro v280 w17 ho hb hg hat; rw [<- Ny279.out] at ho; have n0_ := Asd.mk (blk_grown (g := gb275) (o := .cells #[.slice (some ad278) l0_0.length c0_0, .slice A0_1 l0_1.length c0_1] 25 (0, 0)) (by (with_reducible repeat (first | refine blk_drewN ?_ _ | refine blk_drew ?_ | refine blk_alloc ?_ _)); exact BK275.out) hg (Kd.R_ne HO_4.out BK275.out (by decide))); have n1_ := Asd.mk (hb); have n2_ := Asd.mk (ho); clear BK275; clear HB; clear HO_4; have BK275 := n0_; have HB := n1_; have HO281 := n2_; clear n0_ n1_ n2_; clear ho hb hg hat))
          go_roundg k2
          case measure => have := HJ1.out; have := HK2.out; omega
          case rel => exact ⟨(y279), (wrap64 (x5_2 + 1)), (by first | rfl | (simp; done) | (simp [*]; done)), H', ⟨by have := HJ1.out; have := HK2.out; omega⟩, ⟨by (with_reducible repeat (first | apply Kd.R_alloc | apply Kd.R_drewN | apply Kd.R_drew)); exact HO281.out⟩, ⟨by (with_reducible repeat (first | refine blk_drewN ?_ _ | refine blk_drew ?_ | refine blk_alloc ?_ _)); exact BK275.out⟩, ⟨by repeat (first | (with_reducible first | exact HB.out | apply bal | apply pbN | apply bd1 | refine below_set ?_ GE275.out) | exact HB.out)⟩⟩
         ·rw [if_neg c15] at H
          exact absurd H (by simp)
        ·rw [if_neg c14] at H
         exact absurd H (by simp)
       ·rw [if_neg c13] at H
        exact absurd H (by simp)
      ·rw [if_neg c12] at H
       have c12b0 : decide (x5_2 < (l0_0.length : Int)) = false := decide_eq_false c12
       clear c12
       have H' := Asd.mk H
       clear H
       have hcz18_0 : wr.cell? ⟨gb275, 0, none⟩ = some (.slice A0_0 l0_0.length c0_0) := (blk_cell BK275.out 0).trans rfl
       have hcz18_1 : wr.cell? ⟨gb275, 1, none⟩ = some (.slice A0_1 l0_1.length c0_1) := (blk_cell BK275.out 1).trans rfl
       have hfz18_0 := blk_frozen BK275.out 0
       have hfz18_1 := blk_frozen BK275.out 1
       go_wp2
       go_loopg [4, 6] k2 (fun kq v4 v6 w' => ∃ (x4_3 : List ByteArray) (x6_3 : Int), v6 = .int .i64 x6_3 /\ Asd (q6_Ask.l1 kq x4_3 x6_3 l0_0 l0_1 = some (r1, r2)) /\ Asd (kq <= k2) /\ Asd (Kd.R Kd.string 9 w' w.heap.size (fun _ => True) v4 x4_3) /\ Asd (w'.heap[gb275]? = some (.cells #[(.slice A0_0 l0_0.length c0_0), (.slice A0_1 l0_1.length c0_1)] 25 (0, 0))) /\ Asd (Below w.heap.size w w'))
       case atStart => exact ⟨(x4_2), (0), (by first | rfl | (simp; done) | (simp [*]; done)), H', ⟨Nat.le_refl _⟩, ⟨by (with_reducible repeat (first | apply Kd.R_alloc | apply Kd.R_drewN | apply Kd.R_drew)); exact HO_4.out⟩, ⟨by (with_reducible repeat (first | refine blk_drewN ?_ _ | refine blk_drew ?_ | refine blk_alloc ?_ _)); exact BK275.out⟩, ⟨by repeat (first | (with_reducible first | exact HB.out | apply bal | apply pbN | apply bd1 | refine below_set ?_ GE275.out) | exact HB.out)⟩⟩
       case round =>
        clear H'
        try clear c1
        try clear p2
        try clear q2
        try clear hx2
        try clear c4
        try clear c4b0
        try clear c4b1
        try clear c4b2
        try clear p6
        try clear c7
        try clear c11
        try clear c12
        try clear c12b0
        try clear c13
        try clear c13b0
        try clear c14
        try clear c14b0
        try clear c14b1
        try clear c14b2
        try clear c15
        try clear c16
        try clear hcz10_0
        try clear hcz10_1
        try clear hcz16_0
        try clear hcz16_1
        try clear hcz18_0
        try clear hcz18_1
        try clear hcz5_0
        try clear hcz5_1
        try clear hcz9_0
        try clear hcz9_1
        try clear hfz10_0
        try clear hfz10_1
        try clear hfz16_0
        try clear hfz16_1
        try clear hfz18_0
        try clear hfz18_1
        try clear hfz5_0
        try clear hfz5_1
        try clear hfz9_0
        try clear hfz9_1
        try clear hx278_0
        try clear p2
        try clear p278
        try clear q278
        obtain ⟨x4_3, x6_3, rfl, HA, HK3, HO_4, BK275, HB⟩ := hrel
        cases gk with
        | zero => exact absurd HA.out (by simp [q6_Ask.l1])
        | succ k3 =>
         have H := HA.out
         clear HA
         simp only [q6_Ask.l1] at H
         by_cases c19 : x6_3 < (l0_1.length : Int)
         ·rw [if_pos c19] at H
          have c19b0 : decide (x6_3 < (l0_1.length : Int)) = true := decide_eq_true c19
          clear c19
          by_cases c20 : 0 <= x6_3
          ·rw [if_pos c20] at H
           have c20b0 : decide (0 <= x6_3) = true := decide_eq_true c20
           clear c20
           by_cases c21 : 5 + (rdOf ByteArray.empty l0_1 x6_3).size <= 9223372036854775807
           ·rw [if_pos c21] at H
            have c21b0 := eq_true c21
            have c21b1 : decide (5 + (rdOf ByteArray.empty l0_1 x6_3).size <= 9223372036854775807) = true := decide_eq_true c21
            try have c21b2 : (9223372036854775807 < 5 + (rdOf ByteArray.empty l0_1 x6_3).size) = False := eq_false (Nat.not_lt.2 c21)
            by_cases c22 : x4_3.length < 8796093022208
            ·rw [if_pos c22] at H
             have LMc22 := Asd.mk c22
             clear c22
             obtain ⟨y283, hy283⟩ : ∃ y_ : List ByteArray, y_ = (x4_3 ++ [(⟨#[104, 97, 118, 101, 32]⟩ : ByteArray) ++ (rdOf ByteArray.empty l0_1 x6_3)]) := ⟨_, rfl⟩
             replace H : (q6_Ask.l1 k3 y283 (wrap64 (x6_3 + 1)) l0_0 l0_1) = some (r1, r2) := by first | (rw [hy283]; with_reducible exact H) | (have H2_ := (Option.bind_some _ _).symm.trans H; rw [hy283]; with_reducible exact H2_) | (have H2_ := (Option.bind_some _ _).symm.trans H; with_reducible exact H2_) | with_reducible exact H | (rw [hy283]; exact H) | exact H
             have Ny283 := Asd.mk hy283
             clear hy283
             have H' := Asd.mk H
             clear H
             have hcz23_0 : wr.cell? ⟨gb275, 0, none⟩ = some (.slice A0_0 l0_0.length c0_0) := (blk_cell BK275.out 0).trans rfl
             have hcz23_1 : wr.cell? ⟨gb275, 1, none⟩ = some (.slice A0_1 l0_1.length c0_1) := (blk_cell BK275.out 1).trans rfl
             have hfz23_0 := blk_frozen BK275.out 0
             have hfz23_1 := blk_frozen BK275.out 1
             have p282 : 0 <= (x6_3 : Int) := of_decide_eq_true (by first | (with_reducible assumption) | assumption)
             have q282 : x6_3 < (l0_1.length : Int) := of_decide_eq_true (by first | (with_reducible assumption) | assumption)
             obtain ⟨ad282, e282, hx282_0⟩ := Kd.at_string HR0_1.out x6_3 p282 q282
             cases e282
             replace hx282_0 := (HB.out.cell (World.block_lt_of_cell? w _ hx282_0)).trans hx282_0
             replace p282 := eq_true p282
             replace q282 := eq_true q282
             go_wp2_with (first | ((with_reducible refine gate_builtin (b := .append) (xs := #[.tmp 46, .tmp 53]) rfl ?_); at_builtin; refine Kd.R_append Kd.string (w0 := w) w.heap.size rfl (.tmp 46) (.tmp 53) 23 9 (.string ⟨#[]⟩) 16 rfl Tryd.underlying23 info9 rfl (by decide) (by omega) u4 x4_3 ((⟨#[104, 97, 118, 101, 32]⟩ : ByteArray) ++ (rdOf ByteArray.empty l0_1 x6_3)) [.string ((⟨#[104, 97, 118, 101, 32]⟩ : ByteArray) ++ (rdOf ByteArray.empty l0_1 x6_3))] (fun _ => True) (fun _ => False) rfl rfl ?aP (fun _ hk => hk.elim) ?aF ?aO ?aB ?aS ?aL ?_; (case aP => exact rfl); (case aB => exact (by repeat (first | (with_reducible first | exact HB.out | apply bal | apply pbN | apply bd1 | refine below_set ?_ GE275.out) | exact HB.out))); (case aF => exact (fun _ _ => trivial)); (case aO => exact (by (with_reducible repeat (first | apply Kd.R_alloc | apply Kd.R_drewN | apply Kd.R_drew)); exact HO_4.out)); (case aS => exact (below_size (by repeat (first | (with_reducible first | exact HB.out | apply bal | apply pbN | apply bd1 | refine below_set ?_ GE275.out) | exact HB.out)))); (case aL => have := LMc22.out; omega); intro v284 w24 ho hb hg hat; rw [<- Ny283.out] at ho; have n0_ := Asd.mk (blk_grown (g := gb275) (o := .cells #[.slice A0_0 l0_0.length c0_0, .slice (some ad282) l0_1.length c0_1] 25 (0, 0)) (by (with_reducible repeat (first | refine blk_drewN ?_ _ | refine blk_drew ?_ | refine blk_alloc ?_ _)); exact BK275.out) hg (Kd.R_ne HO_4.out BK275.out (by decide))); have n1_ := Asd.mk (hb); have n2_ := Asd.mk (ho); clear BK275; clear HB; clear HO_4; have BK275 := n0_; have HB := n1_; have HO285 := n2_; clear n0_ n1_ n2_; clear ho hb hg hat))
             go_roundg k3
             case measure => have := HJ1.out; have := HK2.out; have := HK3.out; omega
             case rel => exact ⟨(y283), (wrap64 (x6_3 + 1)), (by first | rfl | (simp; done) | (simp [*]; done)), H', ⟨by have := HJ1.out; have := HK2.out; have := HK3.out; omega⟩, ⟨by (with_reducible repeat (first | apply Kd.R_alloc | apply Kd.R_drewN | apply Kd.R_drew)); exact HO285.out⟩, ⟨by (with_reducible repeat (first | refine blk_drewN ?_ _ | refine blk_drew ?_ | refine blk_alloc ?_ _)); exact BK275.out⟩, ⟨by repeat (first | (with_reducible first | exact HB.out | apply bal | apply pbN | apply bd1 | refine below_set ?_ GE275.out) | exact HB.out)⟩⟩
            ·rw [if_neg c22] at H
             exact absurd H (by simp)
           ·rw [if_neg c21] at H
            exact absurd H (by simp)
          ·rw [if_neg c20] at H
           exact absurd H (by simp)
         ·rw [if_neg c19] at H
          have c19b0 : decide (x6_3 < (l0_1.length : Int)) = false := decide_eq_false c19
          clear c19
          by_cases c25 : x4_3.length < 8796093022208
          ·rw [if_pos c25] at H
           have LMc25 := Asd.mk c25
           clear c25
           obtain ⟨y286, hy286⟩ : ∃ y_ : List ByteArray, y_ = (x4_3 ++ [(⟨#[100, 111, 110, 101]⟩ : ByteArray)]) := ⟨_, rfl⟩
           replace H : ((q6_ends.f k3 y286).bind fun t289 => (some (t289, true))) = some (r1, r2) := by first | (rw [hy286]; with_reducible exact H) | (have H2_ := (Option.bind_some _ _).symm.trans H; rw [hy286]; with_reducible exact H2_) | (have H2_ := (Option.bind_some _ _).symm.trans H; with_reducible exact H2_) | with_reducible exact H | (rw [hy286]; exact H) | exact H
           have Ny286 := Asd.mk hy286
           clear hy286
           replace H := Option.bind_eq_some_iff.mp H
           obtain ⟨t289, A260, H⟩ := H
           replace H : (some (t289, true)) = some (r1, r2) := H
           have A26 := Asd.mk A260
           clear A260
           simp only [Option.some.injEq, Prod.mk.injEq] at H
           obtain ⟨rfl, rfl⟩ := H
           have hcz27_0 : wr.cell? ⟨gb275, 0, none⟩ = some (.slice A0_0 l0_0.length c0_0) := (blk_cell BK275.out 0).trans rfl
           have hcz27_1 : wr.cell? ⟨gb275, 1, none⟩ = some (.slice A0_1 l0_1.length c0_1) := (blk_cell BK275.out 1).trans rfl
           have hfz27_0 := blk_frozen BK275.out 0
           have hfz27_1 := blk_frozen BK275.out 1
           go_wp2_with (first | ((with_reducible refine gate_builtin (b := .append) (xs := #[.tmp 55, .tmp 56]) rfl ?_); at_builtin; refine Kd.R_append Kd.string (w0 := w) w.heap.size rfl (.tmp 55) (.tmp 56) 23 9 (.string ⟨#[]⟩) 16 rfl Tryd.underlying23 info9 rfl (by decide) (by omega) u4 x4_3 (⟨#[100, 111, 110, 101]⟩ : ByteArray) [.string (⟨#[100, 111, 110, 101]⟩ : ByteArray)] (fun _ => True) (fun _ => False) rfl rfl ?aP (fun _ hk => hk.elim) ?aF ?aO ?aB ?aS ?aL ?_; (case aP => exact rfl); (case aB => exact (by repeat (first | (with_reducible first | exact HB.out | apply bal | apply pbN | apply bd1 | refine below_set ?_ GE275.out) | exact HB.out))); (case aF => exact (fun _ _ => trivial)); (case aO => exact (by (with_reducible repeat (first | apply Kd.R_alloc | apply Kd.R_drewN | apply Kd.R_drew)); exact HO_4.out)); (case aS => exact (below_size (by repeat (first | (with_reducible first | exact HB.out | apply bal | apply pbN | apply bd1 | refine below_set ?_ GE275.out) | exact HB.out)))); (case aL => have := LMc25.out; omega); intro v287 w28 ho hb hg hat; rw [<- Ny286.out] at ho; have n0_ := Asd.mk (blk_grown (g := gb275) (o := .cells #[.slice A0_0 l0_0.length c0_0, .slice A0_1 l0_1.length c0_1] 25 (0, 0)) (by (with_reducible repeat (first | refine blk_drewN ?_ _ | refine blk_drew ?_ | refine blk_alloc ?_ _)); exact BK275.out) hg (Kd.R_ne HO_4.out BK275.out (by decide))); have n1_ := Asd.mk (hb); have n2_ := Asd.mk (ho); clear BK275; clear HB; clear HO_4; have BK275 := n0_; have HB := n1_; have HO288 := n2_; clear n0_ n1_ n2_; clear ho hb hg hat; obtain ⟨Ao29, co29, eo29⟩ := Kd.R_slice HO288.out; subst eo29) | ((with_reducible refine gate_callee (f := 38) rfl ?_); refine goesL_ (some 58) rfl rfl Tryd.func38 (by kernel_rfl) rfl #[.slice Ao29 y286.length co29] rfl (by (try simp only [List.map_toArray, List.map_cons, List.map_nil]); first | done | rfl | (simp only [List.length_drop, List.length_take]; rfl)) ?_; (with_reducible refine (q6_ends.calls k3 _ _ y286 t289 _ ?side1 ?side2 A26.out).mono ?_); (case side1 => repeat (first | exact (Kd.R_reads' HO288.out).2.2 | (with_reducible refine Kd.C_alloc ?_ _) | (with_reducible refine Kd.C_drewN ?_ _) | (with_reducible refine Kd.C_drew ?_))); (case side2 => exact (Kd.R_reads' HO288.out).2.1); rintro e w30 ⟨v290, rfl, ho0, hb⟩; refine ⟨_, rfl, ?_⟩; have n0_ := Asd.mk (Kd.R_below (by (with_reducible repeat (first | apply Kd.R_alloc | apply Kd.R_drewN | apply Kd.R_drew)); exact HO288.out) hb); have n1_ := Asd.mk (Kd.R_lower ho0 (below_size (by repeat (first | (with_reducible first | exact HB.out | apply bal | apply pbN | apply bd1 | refine below_set ?_ GE275.out) | exact HB.out)))); have n2_ := Asd.mk (blk_below (g := gb275) (o := .cells #[.slice A0_0 l0_0.length c0_0, .slice A0_1 l0_1.length c0_1] 25 (0, 0)) (by (with_reducible repeat (first | refine blk_drewN ?_ _ | refine blk_drew ?_ | refine blk_alloc ?_ _)); exact BK275.out) hb); have n3_ := Asd.mk (below_step (by repeat (first | (with_reducible first | exact HB.out | apply bal | apply pbN | apply bd1 | refine below_set ?_ GE275.out) | exact HB.out)) hb); clear HO288; clear BK275; clear HB; have HO288 := n0_; have HO291 := n1_; have BK275 := n2_; have HB := n3_; clear n0_ n1_ n2_ n3_; (try clear hb); (try clear hb2); (try clear hk); (try clear hi); (try clear ho0)))
           go_ret2
           exact ⟨_, by first | rfl | (simp [errW_none, errW_some] <;> rfl) | (simp [*, errW_none, errW_some] <;> rfl), by (with_reducible repeat (first | apply Kd.R_alloc | apply Kd.R_drewN | apply Kd.R_drew)); exact HO291.out, by repeat (first | (with_reducible first | exact HB.out | apply bal | apply pbN | apply bd1 | refine below_set ?_ GE275.out) | exact HB.out)⟩
          ·rw [if_neg c25] at H
           exact absurd H (by simp)
def q6_may.f (k : Nat) (a0 : ByteArray) : Option (Bool) := if a0.toList = ([] : List UInt8) then (some true) else ((q2_Named.f k a0).bind fun t292 => (some t292))
set_option maxHeartbeats 8000000 in
set_option maxRecDepth 100000 in
theorem q6_may.calls (k : Nat) (a0 : ByteArray) (r : Bool) (w : World) (h : q6_may.f k a0 = some r) :
  Calls Tryd.prog 44 #[.string a0] w fun e w' => e = .returned (.bool r) /\ Drawn0 w w' := by
 have H : (if a0.toList = ([] : List UInt8) then (some true) else ((q2_Named.f k a0).bind fun t292 => (some t292))) = some r := h
 clear h
 by_cases c2 : a0.toList = ([] : List UInt8)
 ·rw [if_pos c2] at H
  have c2b0 : (a0.toList == ([] : List UInt8)) = true := beq_iff_eq.mpr c2
  have c2b1 : (a0.toList != ([] : List UInt8)) = false := bne_eq_false_iff_eq.mpr c2
  clear c2
  obtain rfl := Option.some.inj H
  go_enter Tryd.func44, Tryd.ntmps44
  go_wp2
  go_ret
  exact ⟨by first | rfl | (simp; done) | (simp [*]; done), by repeat (first | exact Drawn0.refl _ | apply Drawn0.step)⟩
 ·rw [if_neg c2] at H
  have c2b0 : (a0.toList == ([] : List UInt8)) = false := beq_eq_false_iff_ne.mpr c2
  have c2b1 : (a0.toList != ([] : List UInt8)) = true := bne_iff_ne.mpr c2
  replace H := Option.bind_eq_some_iff.mp H
  obtain ⟨t292, A30, H⟩ := H
  replace H : (some t292) = some r := H
  have A3 := Asd.mk A30
  clear A30
  obtain rfl := Option.some.inj H
  go_enter Tryd.func44, Tryd.ntmps44
  go_wp2_with (first | (go_at_call 65; (with_reducible refine (q2_Named.calls k a0 t292 _ A3.out).mono ?_); rintro e w' ⟨rfl, ⟨nd, rfl⟩⟩))
  go_ret
  exact ⟨by first | rfl | (simp; done) | (simp [*]; done), by repeat (first | exact Drawn0.refl _ | apply Drawn0.step)⟩
def q6_dash.f (a0 : ByteArray) : Option (ByteArray) := if a0.toList = ([] : List UInt8) then (some (⟨#[45]⟩ : ByteArray)) else (some a0)
set_option maxHeartbeats 8000000 in
set_option maxRecDepth 100000 in
theorem q6_dash.calls (a0 : ByteArray) (r : ByteArray) (w : World) (h : q6_dash.f a0 = some r) :
  Calls Tryd.prog 45 #[.string a0] w fun e w' => e = .returned (.string r) /\ Drawn0 w w' := by
 have H : (if a0.toList = ([] : List UInt8) then (some (⟨#[45]⟩ : ByteArray)) else (some a0)) = some r := h
 clear h
 by_cases c2 : a0.toList = ([] : List UInt8)
 ·rw [if_pos c2] at H
  have c2b0 : (a0.toList == ([] : List UInt8)) = true := beq_iff_eq.mpr c2
  have c2b1 : (a0.toList != ([] : List UInt8)) = false := bne_eq_false_iff_eq.mpr c2
  clear c2
  obtain rfl := Option.some.inj H
  go_enter Tryd.func45, Tryd.ntmps45
  go_wp2
  go_ret
  exact ⟨by first | rfl | (simp; done) | (simp [*]; done), by repeat (first | exact Drawn0.refl _ | apply Drawn0.step)⟩
 ·rw [if_neg c2] at H
  have c2b0 : (a0.toList == ([] : List UInt8)) = false := beq_eq_false_iff_ne.mpr c2
  have c2b1 : (a0.toList != ([] : List UInt8)) = true := bne_iff_ne.mpr c2
  obtain rfl := Option.some.inj H
  go_enter Tryd.func45, Tryd.ntmps45
  go_wp2
  go_ret
  exact ⟨by first | rfl | (simp; done) | (simp [*]; done), by repeat (first | exact Drawn0.refl _ | apply Drawn0.step)⟩
end Go.Proofs.YtmmionafcmnfoaaDoor.Print
