/- Functions of the program as plain functions, and proofs that the program's calls tell what these tell. Written by a program. -/
import Derived.Test.YtmmionafcmnfoaaDoorPrint0
import Derived.Test.YtmmionafcmnfoaaDoorPrint4
import Derived.Test.YtmmionafcmnfoaaDoorPrint5
namespace Go.Proofs.YtmmionafcmnfoaaDoor.Print
open Go.RowKit Go.Proofs.YtmmionafcmnfoaaDoorW.PrintWords Go.Proofs.YtmmionafcmnfoaaDoorW.PrintLast Go.Proofs.YtmmionafcmnfoaaDoorW.PrintMore Go.Proofs.YtmmionafcmnfoaaDoor.Conv
attribute [local go_sem] max2_int min2_int max_two min_two max_three min_three max_four min_four
set_option linter.unusedVariables false
set_option linter.unusedSimpArgs false
def hello_ended.l0 : Nat -> List (S49) -> List ByteArray -> Int -> Int -> Option ((List (S49)))
 | 0, _, _, _, _ => none
 | k + 1, x3, x6, x7, x8 => if x8 < x7 then (if 0 <= x8 then (if x8 < (x6.length : Int) then (if (rdOf ByteArray.empty x6 x8).size + 1 <= 9223372036854775807 then (if x3.length < 5864062014805 then (hello_ended.l0 k (x3 ++ [(⟨false, (rdOf ByteArray.empty x6 x8) ++ (⟨#[10]⟩ : ByteArray)⟩ : S49)]) x6 x7 (wrap64 (x8 + 1))) else (none)) else (none)) else (none)) else (none)) else (if x3.length < 5864062014805 then (some (x3 ++ [(⟨true, (⟨#[]⟩ : ByteArray)⟩ : S49)])) else (none))
def hello_ended.f (k : Nat) (l0 : List ByteArray) : Option ((List (S49))) := hello_ended.l0 k ([] : List (S49)) l0 (l0.length : Int) 0
set_option maxHeartbeats 8000000 in
set_option maxRecDepth 100000 in
theorem hello_ended.calls (k : Nat) (A0 : Option Addr) (c0 : Nat) (l0 : List ByteArray) (r : List (S49)) (w : World) (hr0 : Kd.C Kd.string w A0 l0.length l0) (hc0 : l0.length <= c0) (h : hello_ended.f k l0 = some r) :
  Calls Tryd.prog 35 #[.slice A0 l0.length c0] w fun e w' => ∃ v0_ : Value, e = .returned (v0_) /\ Kd.R k49 49 w' w.heap.size (fun _ => True) v0_ r /\ Below w.heap.size w w' := by
 have hu49 := Tryd.underlying49
 have HR0 := Asd.mk hr0
 have HC0 := Asd.mk hc0
 clear hr0 hc0
 have HB := Asd.mk (Below.refl w.heap.size w)
 have H : (hello_ended.l0 k ([] : List (S49)) l0 (l0.length : Int) 0) = some r := h
 clear h
 have H' := Asd.mk H
 clear H
 go_enter Tryd.func35, Tryd.ntmps35
 go_wp2
 go_loopg [3, 8] k (fun kq v3 v8 w' => ∃ (x3_1 : List (S49)) (x8_1 : Int), v8 = .int .i64 x8_1 /\ Asd (hello_ended.l0 kq x3_1 l0 (l0.length : Int) x8_1 = some r) /\ Asd (kq <= k) /\ Asd (Kd.R k49 49 w' w.heap.size (fun _ => True) v3 x3_1) /\ Asd (Below w.heap.size w w'))
 case atStart => exact ⟨(([] : List (S49))), (0), (by first | rfl | (simp; done) | (simp [*]; done)), H', ⟨Nat.le_refl _⟩, ⟨by first | exact Kd.R_nil _ _ _ _ _ | exact Kd.N_nil _ _ _ _ _ | exact Kd.V_nil _ _ _ _ _ | exact Kd.Q_nil _ _ _ _ _ | exact Kd.S_nil _ _ _ _ _⟩, ⟨by repeat (first | (with_reducible first | exact HB.out | apply bal | apply pbN | apply bd1) | exact HB.out)⟩⟩
 case round =>
  clear H'
  obtain ⟨x3_1, x8_1, rfl, HA, HK1, HO_3, HB⟩ := hrel
  cases gk with
  | zero => exact absurd HA.out (by simp [hello_ended.l0])
  | succ k1 =>
   have H := HA.out
   clear HA
   simp only [hello_ended.l0] at H
   by_cases c2 : x8_1 < (l0.length : Int)
   ·rw [if_pos c2] at H
    have c2b0 : decide (x8_1 < (l0.length : Int)) = true := decide_eq_true c2
    clear c2
    by_cases c3 : 0 <= x8_1
    ·rw [if_pos c3] at H
     have c3b0 : decide (0 <= x8_1) = true := decide_eq_true c3
     clear c3
     by_cases c4 : x8_1 < (l0.length : Int)
     ·rw [if_pos c4] at H
      have c4b0 : decide (x8_1 < (l0.length : Int)) = true := decide_eq_true c4
      clear c4
      by_cases c5 : (rdOf ByteArray.empty l0 x8_1).size + 1 <= 9223372036854775807
      ·rw [if_pos c5] at H
       have c5b0 := eq_true c5
       have c5b1 : decide ((rdOf ByteArray.empty l0 x8_1).size + 1 <= 9223372036854775807) = true := decide_eq_true c5
       try have c5b2 : (9223372036854775807 < (rdOf ByteArray.empty l0 x8_1).size + 1) = False := eq_false (Nat.not_lt.2 c5)
       by_cases c6 : x3_1.length < 5864062014805
       ·rw [if_pos c6] at H
        have LMc6 := Asd.mk c6
        clear c6
        obtain ⟨y119, hy119⟩ : ∃ y_ : List (S49), y_ = (x3_1 ++ [(⟨false, (rdOf ByteArray.empty l0 x8_1) ++ (⟨#[10]⟩ : ByteArray)⟩ : S49)]) := ⟨_, rfl⟩
        replace H : (hello_ended.l0 k1 y119 l0 (l0.length : Int) (wrap64 (x8_1 + 1))) = some r := by first | (rw [hy119]; with_reducible exact H) | (have H2_ := (Option.bind_some _ _).symm.trans H; rw [hy119]; with_reducible exact H2_) | (have H2_ := (Option.bind_some _ _).symm.trans H; with_reducible exact H2_) | with_reducible exact H | (rw [hy119]; exact H) | exact H
        have Ny119 := Asd.mk hy119
        clear hy119
        have H' := Asd.mk H
        clear H
        have p118 : 0 <= (x8_1 : Int) := of_decide_eq_true (by first | (with_reducible assumption) | assumption)
        have q118 : x8_1 < (l0.length : Int) := of_decide_eq_true (by first | (with_reducible assumption) | assumption)
        obtain ⟨ad118, e118, hx118_0⟩ := Kd.at_string HR0.out x8_1 p118 q118
        cases e118
        replace hx118_0 := (HB.out.cell (World.block_lt_of_cell? w _ hx118_0)).trans hx118_0
        replace p118 := eq_true p118
        replace q118 := eq_true q118
        go_wp2_with (first | ((with_reducible refine gate_builtin (b := .append) (xs := #[.tmp 12, .tmp 16]) rfl ?_); at_builtin; refine Kd.R_append k49 (w0 := w) w.heap.size rfl (.tmp 12) (.tmp 16) 27 49 (.agg #[(.bool false), (.string ⟨#[]⟩)]) 24 rfl Tryd.underlying27 info49 rfl (by decide) (by omega) u3 x3_1 (⟨false, (rdOf ByteArray.empty l0 x8_1) ++ (⟨#[10]⟩ : ByteArray)⟩ : S49) [.bool false, .string ((rdOf ByteArray.empty l0 x8_1) ++ (⟨#[10]⟩ : ByteArray))] (fun _ => True) (fun _ => False) rfl rfl ?aP (fun _ hk => hk.elim) ?aF ?aO ?aB ?aS ?aL ?_; (case aP => exact k49_mkM _ _ _ (⟨false, (rdOf ByteArray.empty l0 x8_1) ++ (⟨#[10]⟩ : ByteArray)⟩ : S49)); (case aB => exact (by repeat (first | (with_reducible first | exact HB.out | apply bal | apply pbN | apply bd1) | exact HB.out))); (case aF => exact (fun _ _ => trivial)); (case aO => exact (by (with_reducible repeat (first | apply Kd.R_alloc | apply Kd.R_drewN | apply Kd.R_drew)); exact HO_3.out)); (case aS => exact (below_size (by repeat (first | (with_reducible first | exact HB.out | apply bal | apply pbN | apply bd1) | exact HB.out)))); (case aL => have := LMc6.out; omega); intro v120 w7 ho hb hg hat; rw [<- Ny119.out] at ho; have n0_ := Asd.mk (hb); have n1_ := Asd.mk (ho); clear HB; clear HO_3; have HB := n0_; have HO121 := n1_; clear n0_ n1_; clear ho hb hg hat))
        go_roundg k1
        case measure => have := HK1.out; omega
        case rel => exact ⟨(y119), (wrap64 (x8_1 + 1)), (by first | rfl | (simp; done) | (simp [*]; done)), H', ⟨by have := HK1.out; omega⟩, ⟨by (with_reducible repeat (first | apply Kd.R_alloc | apply Kd.R_drewN | apply Kd.R_drew)); exact HO121.out⟩, ⟨by repeat (first | (with_reducible first | exact HB.out | apply bal | apply pbN | apply bd1) | exact HB.out)⟩⟩
       ·rw [if_neg c6] at H
        exact absurd H (by simp)
      ·rw [if_neg c5] at H
       exact absurd H (by simp)
     ·rw [if_neg c4] at H
      exact absurd H (by simp)
    ·rw [if_neg c3] at H
     exact absurd H (by simp)
   ·rw [if_neg c2] at H
    have c2b0 : decide (x8_1 < (l0.length : Int)) = false := decide_eq_false c2
    clear c2
    by_cases c8 : x3_1.length < 5864062014805
    ·rw [if_pos c8] at H
     have LMc8 := Asd.mk c8
     clear c8
     obtain ⟨y122, hy122⟩ : ∃ y_ : List (S49), y_ = (x3_1 ++ [(⟨true, (⟨#[]⟩ : ByteArray)⟩ : S49)]) := ⟨_, rfl⟩
     replace H : (some y122) = some r := by first | (rw [hy122]; with_reducible exact H) | (have H2_ := (Option.bind_some _ _).symm.trans H; rw [hy122]; with_reducible exact H2_) | (have H2_ := (Option.bind_some _ _).symm.trans H; with_reducible exact H2_) | with_reducible exact H | (rw [hy122]; exact H) | exact H
     have Ny122 := Asd.mk hy122
     clear hy122
     obtain rfl := Option.some.inj H
     go_wp2_with (first | ((with_reducible refine gate_builtin (b := .append) (xs := #[.tmp 19, .tmp 21]) rfl ?_); at_builtin; refine Kd.R_append k49 (w0 := w) w.heap.size rfl (.tmp 19) (.tmp 21) 27 49 (.agg #[(.bool false), (.string ⟨#[]⟩)]) 24 rfl Tryd.underlying27 info49 rfl (by decide) (by omega) u3 x3_1 (⟨true, (⟨#[]⟩ : ByteArray)⟩ : S49) [.bool true, .string (⟨#[]⟩ : ByteArray)] (fun _ => True) (fun _ => False) rfl rfl ?aP (fun _ hk => hk.elim) ?aF ?aO ?aB ?aS ?aL ?_; (case aP => exact k49_mkM _ _ _ (⟨true, (⟨#[]⟩ : ByteArray)⟩ : S49)); (case aB => exact (by repeat (first | (with_reducible first | exact HB.out | apply bal | apply pbN | apply bd1) | exact HB.out))); (case aF => exact (fun _ _ => trivial)); (case aO => exact (by (with_reducible repeat (first | apply Kd.R_alloc | apply Kd.R_drewN | apply Kd.R_drew)); exact HO_3.out)); (case aS => exact (below_size (by repeat (first | (with_reducible first | exact HB.out | apply bal | apply pbN | apply bd1) | exact HB.out)))); (case aL => have := LMc8.out; omega); intro v123 w9 ho hb hg hat; rw [<- Ny122.out] at ho; have n0_ := Asd.mk (hb); have n1_ := Asd.mk (ho); clear HB; clear HO_3; have HB := n0_; have HO124 := n1_; clear n0_ n1_; clear ho hb hg hat))
     go_ret
     exact ⟨_, by first | rfl | (simp [errW_none, errW_some] <;> rfl) | (simp [*, errW_none, errW_some] <;> rfl), by (with_reducible repeat (first | apply Kd.R_alloc | apply Kd.R_drewN | apply Kd.R_drew)); exact HO124.out, by repeat (first | (with_reducible first | exact HB.out | apply bal | apply pbN | apply bd1) | exact HB.out)⟩
    ·rw [if_neg c8] at H
     exact absurd H (by simp)
mutual
def hello_Told.j0 : Nat -> ByteArray -> List (S63) -> Bool -> Option ((List (S49)) × Bool)
 | 0, _, _, _ => none
 | k + 1, x0, x1, x16 => if x16 = true then (some (([] : List (S49)), false)) else (if 14 + x0.size <= 9223372036854775807 then (hello_Told.l0 k (([(⟨#[115, 97, 99, 114, 105, 115, 116, 121, 32, 104, 101, 97, 100, 32]⟩ : ByteArray) ++ x0] : List ByteArray)) x1 (x1.length : Int) 0) else (none))
def hello_Told.l0 : Nat -> List ByteArray -> List (S63) -> Int -> Int -> Option ((List (S49)) × Bool)
 | 0, _, _, _, _ => none
 | k + 1, x6, x20, x21, x22 => if x22 < x21 then (if 0 <= x22 then (if x22 < (x20.length : Int) then (if ((rd_T63 x20 x22).f1).size + 1 <= 9223372036854775807 then (if (((rd_T63 x20 x22).f1) ++ (⟨#[32]⟩ : ByteArray)).size + ((rd_T63 x20 x22).f0).size <= 9223372036854775807 then (if x6.length < 8796093022208 then (hello_Told.l0 k (x6 ++ [(((rd_T63 x20 x22).f1) ++ (⟨#[32]⟩ : ByteArray)) ++ ((rd_T63 x20 x22).f0)]) x20 x21 (wrap64 (x22 + 1))) else (none)) else (none)) else (none)) else (none)) else (none)) else ((hello_ended.f k x6).bind fun t135 => (some (t135, true)))
end
def hello_Told.f (k : Nat) (a0 : ByteArray) (l1 : List (S63)) : Option ((List (S49)) × Bool) := (refs_Named.f k a0).bind fun t125 => (if t125 = true then ((refs_Right.f k l1).bind fun t126 => (hello_Told.j0 k a0 l1 (!t126))) else (hello_Told.j0 k a0 l1 true))
set_option maxHeartbeats 8000000 in
set_option maxRecDepth 100000 in
theorem hello_Told.calls (k : Nat) (a0 : ByteArray) (A1 : Option Addr) (c1 : Nat) (l1 : List (S63)) (r1 : List (S49)) (r2 : Bool) (w : World) (hr1 : Kd.C k63 w A1 l1.length l1) (hc1 : l1.length <= c1) (h : hello_Told.f k a0 l1 = some (r1, r2)) :
  Calls Tryd.prog 13 #[.string a0, .slice A1 l1.length c1] w fun e w' => ∃ v0_ : Value, e = .returned (.tuple #[v0_, .bool r2]) /\ Kd.R k49 49 w' w.heap.size (fun _ => True) v0_ r1 /\ Below w.heap.size w w' := by
 have hu63 := Tryd.underlying63
 have HR1 := Asd.mk hr1
 have HC1 := Asd.mk hc1
 clear hr1 hc1
 have HB := Asd.mk (Below.refl w.heap.size w)
 have H : ((refs_Named.f k a0).bind fun t125 => (if t125 = true then ((refs_Right.f k l1).bind fun t126 => (hello_Told.j0 k a0 l1 (!t126))) else (hello_Told.j0 k a0 l1 true))) = some (r1, r2) := h
 clear h
 have HC3 := Asd.mk H
 clear H
 go_enter Tryd.func13, Tryd.ntmps13
 go_upto_region 1 with (fail)
 go_cut [16] (fun v16 wc => ∃ (kq : Nat) (x16_2 : Bool), v16 = .bool x16_2 /\ Asd (hello_Told.j0 kq a0 l1 x16_2 = some (r1, r2)) /\ Asd (kq <= k) /\ Asd (Below w.heap.size w wc))
 case first =>
  have H := HC3.out
  clear HC3
  replace H := Option.bind_eq_some_iff.mp H
  obtain ⟨t125, A40, H⟩ := H
  replace H : (if t125 = true then ((refs_Right.f k l1).bind fun t126 => (hello_Told.j0 k a0 l1 (!t126))) else (hello_Told.j0 k a0 l1 true)) = some (r1, r2) := H
  have A4 := Asd.mk A40
  clear A40
  by_cases c5 : t125 = true
  ·subst c5
   have H1 : ((refs_Right.f k l1).bind fun t126 => (hello_Told.j0 k a0 l1 (!t126))) = some (r1, r2) := by rw [if_pos rfl] at H; exact H
   clear H
   have H := H1
   clear H1
   replace H := Option.bind_eq_some_iff.mp H
   obtain ⟨t126, A60, H⟩ := H
   replace H : (hello_Told.j0 k a0 l1 (!t126)) = some (r1, r2) := H
   have A6 := Asd.mk A60
   clear A60
   have H' := Asd.mk H
   clear H
   go_wp2_with (first | ((with_reducible refine gate_callee (f := 33) rfl ?_); refine goesL_ (some 10) rfl rfl Tryd.func33 (by kernel_rfl) rfl #[.string a0] rfl (by (try simp only [List.map_toArray, List.map_cons, List.map_nil]); first | done | rfl | (simp only [List.length_drop, List.length_take]; rfl)) ?_; (with_reducible refine (refs_Named.calls k a0 true _ A4.out).mono ?_); rintro e w7 ⟨rfl, hb⟩; refine ⟨_, rfl, ?_⟩; have n0_ := Asd.mk (below_step (by repeat (first | (with_reducible first | exact HB.out | apply bal | apply pbN | apply bd1) | exact HB.out)) hb); clear HB; have HB := n0_; clear n0_; (try clear hb); (try clear hb2); (try clear hk); (try clear hi)) | (go_at_call 34; (with_reducible refine (refs_Right.calls k _ _ l1 t126 _ ?side1 ?side2 A6.out).mono ?_); (case side1 => repeat (first | exact (Kd.C_below HR1.out HB.out) | (with_reducible refine Kd.C_alloc ?_ _) | (with_reducible refine Kd.C_drewN ?_ _) | (with_reducible refine Kd.C_drew ?_))); (case side2 => exact HC1.out); rintro e w8 ⟨rfl, hb⟩; have n0_ := Asd.mk (below_step (by repeat (first | (with_reducible first | exact HB.out | apply bal | apply pbN | apply bd1) | exact HB.out)) hb); clear HB; have HB := n0_; clear n0_; (try clear hb); (try clear hb2); (try clear hk); (try clear hi)))
   go_meet
   case rel => exact ⟨_, (!t126), (by first | rfl | (simp; done) | (simp [*]; done)), H', ⟨by first | omega | exact Nat.le_refl _⟩, ⟨by repeat (first | (with_reducible first | exact HB.out | apply bal | apply pbN | apply bd1) | exact HB.out)⟩⟩
  ·replace c5 := Bool.eq_false_iff.mpr c5
   subst c5
   have H1 : (hello_Told.j0 k a0 l1 true) = some (r1, r2) := by rw [if_neg (show ¬ (false = true) by decide)] at H; exact H
   clear H
   have H := H1
   clear H1
   have H' := Asd.mk H
   clear H
   go_wp2_with (first | ((with_reducible refine gate_callee (f := 33) rfl ?_); refine goesL_ (some 10) rfl rfl Tryd.func33 (by kernel_rfl) rfl #[.string a0] rfl (by (try simp only [List.map_toArray, List.map_cons, List.map_nil]); first | done | rfl | (simp only [List.length_drop, List.length_take]; rfl)) ?_; (with_reducible refine (refs_Named.calls k a0 false _ A4.out).mono ?_); rintro e w9 ⟨rfl, hb⟩; refine ⟨_, rfl, ?_⟩; have n0_ := Asd.mk (below_step (by repeat (first | (with_reducible first | exact HB.out | apply bal | apply pbN | apply bd1) | exact HB.out)) hb); clear HB; have HB := n0_; clear n0_; (try clear hb); (try clear hb2); (try clear hk); (try clear hi)))
   go_meet
   case rel => exact ⟨_, (true), (by first | rfl | (simp; done) | (simp [*]; done)), H', ⟨by first | omega | exact Nat.le_refl _⟩, ⟨by repeat (first | (with_reducible first | exact HB.out | apply bal | apply pbN | apply bd1) | exact HB.out)⟩⟩
 case rest =>
  clear HC3
  try clear c1
  try clear p2
  try clear c3
  try clear c5
  obtain ⟨kq, x16_2, rfl, HA, HJ2, HB⟩ := hcut
  cases kq with
  | zero => exact absurd HA.out (by simp [hello_Told.j0])
  | succ kj2 =>
   have H := HA.out
   clear HA
   simp only [hello_Told.j0] at H
   by_cases c10 : x16_2 = true
   ·subst c10
    have H1 : (some (([] : List (S49)), false)) = some (r1, r2) := by rw [if_pos rfl] at H; exact H
    clear H
    have H := H1
    clear H1
    simp only [Option.some.injEq, Prod.mk.injEq] at H
    obtain ⟨rfl, rfl⟩ := H
    go_wp2
    go_ret2
    exact ⟨_, by first | rfl | (simp [errW_none, errW_some] <;> rfl) | (simp [*, errW_none, errW_some] <;> rfl), by first | exact Kd.R_nil _ _ _ _ _ | exact Kd.N_nil _ _ _ _ _ | exact Kd.V_nil _ _ _ _ _ | exact Kd.Q_nil _ _ _ _ _ | exact Kd.S_nil _ _ _ _ _, by repeat (first | (with_reducible first | exact HB.out | apply bal | apply pbN | apply bd1) | exact HB.out)⟩
   ·replace c10 := Bool.eq_false_iff.mpr c10
    subst c10
    have H1 : (if 14 + a0.size <= 9223372036854775807 then (hello_Told.l0 kj2 (([(⟨#[115, 97, 99, 114, 105, 115, 116, 121, 32, 104, 101, 97, 100, 32]⟩ : ByteArray) ++ a0] : List ByteArray)) l1 (l1.length : Int) 0) else (none)) = some (r1, r2) := by rw [if_neg (show ¬ (false = true) by decide)] at H; exact H
    clear H
    have H := H1
    clear H1
    by_cases c11 : 14 + a0.size <= 9223372036854775807
    ·rw [if_pos c11] at H
     have c11b0 := eq_true c11
     have c11b1 : decide (14 + a0.size <= 9223372036854775807) = true := decide_eq_true c11
     try have c11b2 : (9223372036854775807 < 14 + a0.size) = False := eq_false (Nat.not_lt.2 c11)
     obtain ⟨y127, hy127⟩ : ∃ y_ : List ByteArray, y_ = (([(⟨#[115, 97, 99, 114, 105, 115, 116, 121, 32, 104, 101, 97, 100, 32]⟩ : ByteArray) ++ a0] : List ByteArray)) := ⟨_, rfl⟩
     replace H : (hello_Told.l0 kj2 y127 l1 (l1.length : Int) 0) = some (r1, r2) := by first | (rw [hy127]; with_reducible exact H) | (have H2_ := (Option.bind_some _ _).symm.trans H; rw [hy127]; with_reducible exact H2_) | (have H2_ := (Option.bind_some _ _).symm.trans H; with_reducible exact H2_) | with_reducible exact H | (rw [hy127]; exact H) | exact H
     have Ny127 := Asd.mk hy127
     clear hy127
     have H' := Asd.mk H
     clear H
     go_wp2_with (first | ((with_reducible refine gate_dst (N := 19) rfl ?_); refine Kd.R_lit Kd.string _ 9 ?hg (N := 19) ?hd (xs := ([(⟨#[115, 97, 99, 114, 105, 115, 116, 121, 32, 104, 101, 97, 100, 32]⟩ : ByteArray) ++ a0] : List ByteArray)) (inner := [.string ((⟨#[115, 97, 99, 114, 105, 115, 116, 121, 32, 104, 101, 97, 100, 32]⟩ : ByteArray) ++ a0)]) (ok := fun _ => True) (okp := fun _ => True) ?hr ?hp (fun _ hk => hk) trivial (Below.refl _ _) (Nat.le_refl _) (by simp) ?_; (case hd => rfl); (case hg => rfl); (case hr => first | (go_simp; done) | (go_simp; rfl)); (case hp => exact (Reps.one (show Kd.M Kd.string _ _ _ ((⟨#[115, 97, 99, 114, 105, 115, 116, 121, 32, 104, 101, 97, 100, 32]⟩ : ByteArray) ++ a0) [.string ((⟨#[115, 97, 99, 114, 105, 115, 116, 121, 32, 104, 101, 97, 100, 32]⟩ : ByteArray) ++ a0)] from rfl) (Reps.none _ _))); intro v128 w12 ho13 hb hg_ hnew_; clear hg_ hnew_; (first | rw [<- Ny127.out] at ho13 | (simp only [Int.reduceToNat] at ho13; rw [<- Ny127.out] at ho13)); have n0_ := Asd.mk (Kd.R_lower ho13 (below_size (by repeat (first | (with_reducible first | exact HB.out | apply bal | apply pbN | apply bd1) | exact HB.out)))); have n1_ := Asd.mk (below_step (by repeat (first | (with_reducible first | exact HB.out | apply bal | apply pbN | apply bd1) | exact HB.out)) hb); clear HB; have HO129 := n0_; have HB := n1_; clear n0_ n1_; clear hb ho13))
     go_loopg [6, 22] kj2 (fun kq v6 v22 w' => ∃ (x6_2 : List ByteArray) (x22_2 : Int), v22 = .int .i64 x22_2 /\ Asd (hello_Told.l0 kq x6_2 l1 (l1.length : Int) x22_2 = some (r1, r2)) /\ Asd (kq <= kj2) /\ Asd (Kd.R Kd.string 9 w' w.heap.size (fun _ => True) v6 x6_2) /\ Asd (Below w.heap.size w w'))
     case atStart => exact ⟨(y127), (0), (by first | rfl | (simp; done) | (simp [*]; done)), H', ⟨Nat.le_refl _⟩, ⟨by (with_reducible repeat (first | apply Kd.R_alloc | apply Kd.R_drewN | apply Kd.R_drew)); exact HO129.out⟩, ⟨by repeat (first | (with_reducible first | exact HB.out | apply bal | apply pbN | apply bd1) | exact HB.out)⟩⟩
     case round =>
      clear H'
      try clear c1
      try clear p2
      try clear c3
      try clear c5
      try clear c10
      try clear c11
      try clear c11b0
      try clear c11b1
      try clear c11b2
      try clear c13
      try clear p2
      obtain ⟨x6_2, x22_2, rfl, HA, HK2, HO_6, HB⟩ := hrel
      cases gk with
      | zero => exact absurd HA.out (by simp [hello_Told.l0])
      | succ k2 =>
       have H := HA.out
       clear HA
       simp only [hello_Told.l0] at H
       by_cases c14 : x22_2 < (l1.length : Int)
       ·rw [if_pos c14] at H
        have c14b0 : decide (x22_2 < (l1.length : Int)) = true := decide_eq_true c14
        clear c14
        by_cases c15 : 0 <= x22_2
        ·rw [if_pos c15] at H
         have c15b0 : decide (0 <= x22_2) = true := decide_eq_true c15
         clear c15
         by_cases c16 : x22_2 < (l1.length : Int)
         ·rw [if_pos c16] at H
          have c16b0 : decide (x22_2 < (l1.length : Int)) = true := decide_eq_true c16
          clear c16
          by_cases c17 : ((rd_T63 l1 x22_2).f1).size + 1 <= 9223372036854775807
          ·rw [if_pos c17] at H
           have c17b0 := eq_true c17
           have c17b1 : decide (((rd_T63 l1 x22_2).f1).size + 1 <= 9223372036854775807) = true := decide_eq_true c17
           try have c17b2 : (9223372036854775807 < ((rd_T63 l1 x22_2).f1).size + 1) = False := eq_false (Nat.not_lt.2 c17)
           by_cases c18 : (((rd_T63 l1 x22_2).f1) ++ (⟨#[32]⟩ : ByteArray)).size + ((rd_T63 l1 x22_2).f0).size <= 9223372036854775807
           ·rw [if_pos c18] at H
            have c18b0 := eq_true c18
            have c18b1 : decide ((((rd_T63 l1 x22_2).f1) ++ (⟨#[32]⟩ : ByteArray)).size + ((rd_T63 l1 x22_2).f0).size <= 9223372036854775807) = true := decide_eq_true c18
            try have c18b2 : (9223372036854775807 < (((rd_T63 l1 x22_2).f1) ++ (⟨#[32]⟩ : ByteArray)).size + ((rd_T63 l1 x22_2).f0).size) = False := eq_false (Nat.not_lt.2 c18)
            try have c18b3 : (9223372036854775807 < ((rd_T63 l1 x22_2).f1).size + 1 + ((rd_T63 l1 x22_2).f0).size) = False := eq_false (Nat.not_lt.2 (by have e_ := c18; simp only [ByteArray.size_append] at e_; exact e_))
            by_cases c19 : x6_2.length < 8796093022208
            ·rw [if_pos c19] at H
             have LMc19 := Asd.mk c19
             clear c19
             obtain ⟨y132, hy132⟩ : ∃ y_ : List ByteArray, y_ = (x6_2 ++ [(((rd_T63 l1 x22_2).f1) ++ (⟨#[32]⟩ : ByteArray)) ++ ((rd_T63 l1 x22_2).f0)]) := ⟨_, rfl⟩
             replace H : (hello_Told.l0 k2 y132 l1 (l1.length : Int) (wrap64 (x22_2 + 1))) = some (r1, r2) := by first | (rw [hy132]; with_reducible exact H) | (have H2_ := (Option.bind_some _ _).symm.trans H; rw [hy132]; with_reducible exact H2_) | (have H2_ := (Option.bind_some _ _).symm.trans H; with_reducible exact H2_) | with_reducible exact H | (rw [hy132]; exact H) | exact H
             have Ny132 := Asd.mk hy132
             clear hy132
             have H' := Asd.mk H
             clear H
             have p130 : 0 <= (x22_2 : Int) := of_decide_eq_true (by first | (with_reducible assumption) | assumption)
             have q130 : x22_2 < (l1.length : Int) := of_decide_eq_true (by first | (with_reducible assumption) | assumption)
             obtain ⟨ad130, e130, hx130_0, hx130_1⟩ := at_T63 HR1.out x22_2 p130 q130
             cases e130
             replace hx130_0 := (HB.out.cell (World.block_lt_of_cell? w _ hx130_0)).trans hx130_0
             replace hx130_1 := (HB.out.cell (World.block_lt_of_cell? w _ hx130_1)).trans hx130_1
             replace p130 := eq_true p130
             replace q130 := eq_true q130
             go_wp2_with (first | ((with_reducible refine gate_dst (N := 8) rfl ?_); refine box_event ?hg (N := 8) ?hd (cs := #[.string (⟨#[]⟩ : ByteArray), .string (⟨#[]⟩ : ByteArray)]) (t := 63) ?hr ?_; (case hd => rfl); (case hg => rfl); (case hr => first | (go_simp; done) | (go_simp; rfl)); intro gb131 hg w20 hbox hb; have n0_ := Asd.mk (Kd.R_below (by (with_reducible repeat (first | apply Kd.R_alloc | apply Kd.R_drewN | apply Kd.R_drew)); exact HO_6.out) hb); have n1_ := Asd.mk (below_step (by repeat (first | (with_reducible first | exact HB.out | apply bal | apply pbN | apply bd1) | exact HB.out)) hb); have n2_ := Asd.mk (hbox); have n3_ := Asd.mk ((by rw [hg]; exact (below_size (by repeat (first | (with_reducible first | exact HB.out | apply bal | apply pbN | apply bd1) | exact HB.out))) : w.heap.size <= gb131)); have n4_ := Asd.mk ((by rw [hg]; exact (below_size (by repeat (first | (with_reducible first | exact HB.out | apply bal | apply pbN | apply bd1) | exact HB.out))) : w.heap.size <= gb131)); clear HO_6; clear HB; have HO_6 := n0_; have HB := n1_; have BK131 := n2_; have GW131 := n3_; have GE131 := n4_; clear n0_ n1_ n2_ n3_ n4_; clear hb hbox hg; have hcz21_0 : w20.cell? ⟨gb131, 0, none⟩ = some (.string (⟨#[]⟩ : ByteArray)) := (blk_cell BK131.out 0).trans rfl; have hcz21_1 : w20.cell? ⟨gb131, 1, none⟩ = some (.string (⟨#[]⟩ : ByteArray)) := (blk_cell BK131.out 1).trans rfl; have hfz21_0 := blk_frozen BK131.out 0; have hfz21_1 := blk_frozen BK131.out 1) | ((with_reducible refine gate_builtin (b := .append) (xs := #[.tmp 26, .tmp 33]) rfl ?_); at_builtin; refine Kd.R_append Kd.string (w0 := w) w.heap.size rfl (.tmp 26) (.tmp 33) 23 9 (.string ⟨#[]⟩) 16 rfl Tryd.underlying23 info9 rfl (by decide) (by omega) u6 x6_2 ((((rd_T63 l1 x22_2).f1) ++ (⟨#[32]⟩ : ByteArray)) ++ ((rd_T63 l1 x22_2).f0)) [.string ((((rd_T63 l1 x22_2).f1) ++ (⟨#[32]⟩ : ByteArray)) ++ ((rd_T63 l1 x22_2).f0))] (fun _ => True) (fun _ => False) rfl (by first | (go_simp; done) | (go_simp; rfl)) ?aP (fun _ hk => hk.elim) ?aF ?aO ?aB ?aS ?aL ?_; (case aP => exact rfl); (case aB => exact (by repeat (first | (with_reducible first | exact HB.out | apply bal | apply pbN | apply bd1 | refine below_set ?_ GE131.out) | exact HB.out))); (case aF => exact (fun _ _ => trivial)); (case aO => exact (by (with_reducible repeat (first | apply Kd.R_alloc | apply Kd.R_drewN | apply Kd.R_drew)); exact Kd.R_mono (Kd.R_far (p := ⟨gb131, 1, none⟩) (Kd.R_far (p := ⟨gb131, 0, none⟩) (Kd.R_types HO_6.out BK131.out (by decide)) (fun _ hk => hk.2) (.string ((rd_T63 l1 x22_2).f0))) (fun _ hk => hk.2) (.string ((rd_T63 l1 x22_2).f1))) (fun _ hk => trivial))); (case aS => exact (below_size (by repeat (first | (with_reducible first | exact HB.out | apply bal | apply pbN | apply bd1 | refine below_set ?_ GE131.out) | exact HB.out)))); (case aL => have := LMc19.out; omega); intro v133 w22 ho hb hg hat; rw [<- Ny132.out] at ho; have n0_ := Asd.mk (blk_grown (g := gb131) (o := .cells #[.string ((rd_T63 l1 x22_2).f0), .string ((rd_T63 l1 x22_2).f1)] 63 (0, 0)) (by (with_reducible repeat (first | refine blk_drewN ?_ _ | refine blk_drew ?_ | refine blk_alloc ?_ _)); refine blk_put (cs := #[.string ((rd_T63 l1 x22_2).f0), .string (⟨#[]⟩ : ByteArray)]) ?_ 1 _ rfl; (with_reducible repeat (first | refine blk_drewN ?_ _ | refine blk_drew ?_ | refine blk_alloc ?_ _)); refine blk_put (cs := #[.string (⟨#[]⟩ : ByteArray), .string (⟨#[]⟩ : ByteArray)]) ?_ 0 _ rfl; (with_reducible repeat (first | refine blk_drewN ?_ _ | refine blk_drew ?_ | refine blk_alloc ?_ _)); exact BK131.out) hg (Kd.R_ne HO_6.out BK131.out (by decide))); have n1_ := Asd.mk (hb); have n2_ := Asd.mk (ho); clear BK131; clear HB; clear HO_6; have BK131 := n0_; have HB := n1_; have HO134 := n2_; clear n0_ n1_ n2_; clear ho hb hg hat))
             go_roundg k2
             case measure => have := HJ2.out; have := HK2.out; omega
             case rel => exact ⟨(y132), (wrap64 (x22_2 + 1)), (by first | rfl | (simp; done) | (simp [*]; done)), H', ⟨by have := HJ2.out; have := HK2.out; omega⟩, ⟨by (with_reducible repeat (first | apply Kd.R_alloc | apply Kd.R_drewN | apply Kd.R_drew)); exact HO134.out⟩, ⟨by repeat (first | (with_reducible first | exact HB.out | apply bal | apply pbN | apply bd1 | refine below_set ?_ GE131.out) | exact HB.out)⟩⟩
            ·rw [if_neg c19] at H
             exact absurd H (by simp)
           ·rw [if_neg c18] at H
            exact absurd H (by simp)
          ·rw [if_neg c17] at H
           exact absurd H (by simp)
         ·rw [if_neg c16] at H
          exact absurd H (by simp)
        ·rw [if_neg c15] at H
         exact absurd H (by simp)
       ·rw [if_neg c14] at H
        have c14b0 : decide (x22_2 < (l1.length : Int)) = false := decide_eq_false c14
        clear c14
        replace H := Option.bind_eq_some_iff.mp H
        obtain ⟨t135, A230, H⟩ := H
        replace H : (some (t135, true)) = some (r1, r2) := H
        have A23 := Asd.mk A230
        clear A230
        simp only [Option.some.injEq, Prod.mk.injEq] at H
        obtain ⟨rfl, rfl⟩ := H
        obtain ⟨Ao24, co24, eo24⟩ := Kd.R_slice HO_6.out
        subst eo24
        go_wp2_with (first | ((with_reducible refine gate_callee (f := 35) rfl ?_); refine goesL_ (some 37) rfl rfl Tryd.func35 (by kernel_rfl) rfl #[.slice Ao24 x6_2.length co24] rfl (by (try simp only [List.map_toArray, List.map_cons, List.map_nil]); first | done | rfl | (simp only [List.length_drop, List.length_take]; rfl)) ?_; (with_reducible refine (hello_ended.calls k2 _ _ x6_2 t135 _ ?side1 ?side2 A23.out).mono ?_); (case side1 => repeat (first | exact (Kd.R_reads' HO_6.out).2.2 | (with_reducible refine Kd.C_alloc ?_ _) | (with_reducible refine Kd.C_drewN ?_ _) | (with_reducible refine Kd.C_drew ?_))); (case side2 => exact (Kd.R_reads' HO_6.out).2.1); rintro e w25 ⟨v136, rfl, ho0, hb⟩; refine ⟨_, rfl, ?_⟩; have n0_ := Asd.mk (Kd.R_below (by (with_reducible repeat (first | apply Kd.R_alloc | apply Kd.R_drewN | apply Kd.R_drew)); exact HO_6.out) hb); have n1_ := Asd.mk (Kd.R_lower ho0 (below_size (by repeat (first | (with_reducible first | exact HB.out | apply bal | apply pbN | apply bd1) | exact HB.out)))); have n2_ := Asd.mk (below_step (by repeat (first | (with_reducible first | exact HB.out | apply bal | apply pbN | apply bd1) | exact HB.out)) hb); clear HO_6; clear HB; have HO_6 := n0_; have HO137 := n1_; have HB := n2_; clear n0_ n1_ n2_; (try clear hb); (try clear hb2); (try clear hk); (try clear hi); (try clear ho0)))
        go_ret2
        exact ⟨_, by first | rfl | (simp [errW_none, errW_some] <;> rfl) | (simp [*, errW_none, errW_some] <;> rfl), by (with_reducible repeat (first | apply Kd.R_alloc | apply Kd.R_drewN | apply Kd.R_drew)); exact HO137.out, by repeat (first | (with_reducible first | exact HB.out | apply bal | apply pbN | apply bd1) | exact HB.out)⟩
    ·rw [if_neg c11] at H
     exact absurd H (by simp)
def hello_named.f (k : Nat) (l0 : List ByteArray) (a1 : Int) : Option (Bool) := if (l0.length : Int) <= a1 then ((hello_named_1.f k l0).bind fun t138 => (some (!t138))) else (some false)
set_option maxHeartbeats 8000000 in
set_option maxRecDepth 100000 in
theorem hello_named.calls (k : Nat) (A0 : Option Addr) (c0 : Nat) (l0 : List ByteArray) (a1 : Int) (r : Bool) (w : World) (hr0 : Kd.C Kd.string w A0 l0.length l0) (hc0 : l0.length <= c0) (h : hello_named.f k l0 a1 = some r) :
  Calls Tryd.prog 39 #[.slice A0 l0.length c0, .int .i64 a1] w fun e w' => e = .returned (.bool r) /\ Drawn0 w w' := by
 have HR0 := Asd.mk hr0
 have HC0 := Asd.mk hc0
 clear hr0 hc0
 have H : (if (l0.length : Int) <= a1 then ((hello_named_1.f k l0).bind fun t138 => (some (!t138))) else (some false)) = some r := h
 clear h
 by_cases c3 : (l0.length : Int) <= a1
 ·rw [if_pos c3] at H
  have c3b0 : decide ((l0.length : Int) <= a1) = true := decide_eq_true c3
  clear c3
  replace H := Option.bind_eq_some_iff.mp H
  obtain ⟨t138, A40, H⟩ := H
  replace H : (some (!t138)) = some r := H
  have A4 := Asd.mk A40
  clear A40
  obtain rfl := Option.some.inj H
  go_enter Tryd.func39, Tryd.ntmps39
  go_wp2_with (first | (go_at_call 57; (with_reducible refine (hello_named_1.calls k _ _ l0 t138 _ ?side1 ?side2 A4.out).mono ?_); (case side1 => repeat (first | exact HR0.out | (with_reducible refine Kd.C_alloc ?_ _) | (with_reducible refine Kd.C_drewN ?_ _) | (with_reducible refine Kd.C_drew ?_))); (case side2 => exact HC0.out); rintro e w' ⟨rfl, ⟨nd, rfl⟩⟩))
  go_ret
  exact ⟨by first | rfl | (simp; done) | (simp [*]; done), by repeat (first | exact Drawn0.refl _ | apply Drawn0.step)⟩
 ·rw [if_neg c3] at H
  have c3b0 : decide ((l0.length : Int) <= a1) = false := decide_eq_false c3
  clear c3
  obtain rfl := Option.some.inj H
  go_enter Tryd.func39, Tryd.ntmps39
  go_wp2
  go_ret
  exact ⟨by first | rfl | (simp; done) | (simp [*]; done), by repeat (first | exact Drawn0.refl _ | apply Drawn0.step)⟩
def eachF (word : ByteArray) (l : List ByteArray) : List ByteArray := l.map fun x => word ++ (⟨#[32]⟩ : ByteArray) ++ x
theorem blk_cell_ {W : World} {g : Nat} {v : Value} {t : TypeId} (h : W.heap[g]? = some (.cells #[v] t (0, 0))) : W.cell? ⟨g, 0, none⟩ = some v := by rw [cell_of_row _ _ 0 _ _ _ h]; rfl
theorem set_blk {W : World} {g : Nat} {v : Value} {t : TypeId} (h : W.heap[g]? = some (.cells #[v] t (0, 0))) (u : Value) : (W.setCell ⟨g, 0, none⟩ u).heap[g]? = some (.cells #[u] t (0, 0)) := by
 have hg : g < W.heap.size := (Array.getElem?_eq_some_iff.1 h).1
 rw [Array.getElem?_eq_getElem hg] at h
 simp [World.setCell, hg, Array.getElem_modify, Option.some.inj h]
set_option maxHeartbeats 4000000 in
set_option maxRecDepth 100000 in
theorem hello_each (word : ByteArray) (A : Option Addr) (c : Nat) (l xs : List ByteArray) (g : Nat) (v : Value) (w W : World) (hB : Below w.heap.size w W) (hgb : w.heap.size <= g) (hblk : W.heap[g]? = some (.cells #[v] 23 (0, 0)))
  (ho : Kd.R Kd.string 9 W w.heap.size (fun k => k ≠ g) v xs) (hl : Kd.C Kd.string w A l.length l) (hsz : ∀ x ∈ l, word.size + 1 + x.size <= 9223372036854775807) (hlen : xs.length + l.length < 8796093022208) :
  Calls Tryd.prog 40 #[.string word, .slice A l.length c, .pointer (some ⟨g, 0, none⟩)] W fun e w' => (∃ r, e = .returned r) /\ Below w.heap.size w w' /\ ∃ v', w'.heap[g]? = some (.cells #[v'] 23 (0, 0)) /\
   Kd.R Kd.string 9 w' w.heap.size (fun k => k ≠ g) v' (xs ++ eachF word l) := by
 have HL := Asd.mk hl
 have hmax : l.length <= 9223372036854775807 := hl.2.1
 have HB0 := Asd.mk hB
 have HK0 := Asd.mk hblk
 have HO0 := Asd.mk ho
 have HS := Asd.mk hsz
 clear hl hB hblk ho hsz
 go_enter Tryd.func40, Tryd.ntmps40
 go_wp2
 go_loopg [6, 9] l.length (fun gg _ s9 wr => ∃ (kk : Nat) (v' : Value), kk <= l.length /\ l.length - kk <= gg /\ s9 = .int .i64 kk /\ Asd (Below w.heap.size w wr) /\ Asd (wr.heap[g]? = some (.cells #[v'] 23 (0, 0))) /\ Asd (Kd.R Kd.string 9 wr w.heap.size (fun k => k ≠ g) v' (xs ++ eachF word (l.take kk))))
 case atStart => exact ⟨0, v, Nat.zero_le _, by omega, rfl, HB0, HK0, ⟨by simpa [eachF] using HO0.out⟩⟩
 case round =>
  obtain ⟨kk, v', hkk, hgg, rfl, BW, HK, HO⟩ := hrel
  by_cases hlt : kk < l.length
  ·have hltz : (kk : Int) < (l.length : Int) := by omega
   obtain ⟨ad, rfl, hc⟩ := (Kd.reads_of_C (enc := Value.string) (d := ByteArray.empty) (h1 := fun _ => rfl) (Kd.C_below HL.out BW.out)).2.2 (by omega)
   have hcell := hc kk hlt
   clear hc
   have hx : l.getD kk ByteArray.empty = l[kk] := by rw [List.getD_eq_getElem?_getD, List.getElem?_eq_getElem hlt]; rfl
   rw [hx] at hcell
   have htk : l.take (kk + 1) = l.take kk ++ [l[kk]] := by rw [List.take_add_one, List.getElem?_eq_getElem hlt]; rfl
   have hs := HS.out l[kk] (List.getElem_mem hlt)
   clear hx
   generalize l[kk] = x at hcell htk hs
   have hcg := blk_cell_ HK.out
   have b1_ : (9223372036854775807 < word.size + 1) = False := eq_false (by omega)
   have b2_ : (9223372036854775807 < word.size + 1 + x.size) = False := eq_false (by omega)
   have hgl : g < wr.heap.size := (Array.getElem?_eq_some_iff.1 HK.out).1
   have hne : ∀ k, v'.ownBlock = some k -> k ≠ g := HO.out.1
   have hll : (xs ++ eachF word (l.take kk)).length + 1 < 8796093022208 + 1 := by simp only [eachF, List.length_append, List.length_map, List.length_take]; omega
   go_wp2_with (at_builtin; (refine Kd.R_append Kd.string (w0 := w) w.heap.size rfl (.tmp 13) (.tmp 18) 23 9 (.string ⟨#[]⟩) 16 rfl Tryd.underlying23 info9 rfl (by decide) (by omega) v' (xs ++ eachF word (l.take kk)) (word ++ (⟨#[32]⟩ : ByteArray) ++ x) [.string (word ++ (⟨#[32]⟩ : ByteArray) ++ x)] (fun k => k ≠ g) (fun _ => False) rfl rfl ?aP (fun _ hk => hk.elim) ?aF ?aO ?aB ?aS ?aL ?_; (case aP => rfl); (case aB => exact BW.out); (case aF => exact fun k hk => Nat.ne_of_gt (Nat.lt_of_lt_of_le hgl hk)); (case aO => exact HO.out); (case aS => exact below_size BW.out); (case aL => omega); intro v1 w1 ho hb hg hat; have HOn := Asd.mk ho; have HBn := Asd.mk hb; have HGn := Asd.mk hg; clear ho hb hg hat; have HKn : Asd (w1.heap[g]? = some (.cells #[v'] 23 (0, 0))) := ⟨(HGn.out.block g hgl (fun e => hne g e.symm rfl)).trans HK.out⟩; have hcn := blk_cell_ HKn.out; have hfn : w1.frozen? ⟨g, 0, none⟩ = false := (by simp [World.frozen?, HKn.out]); obtain ⟨A1, c1, rfl⟩ := Kd.R_slice HOn.out))
   go_roundg (l.length - (kk + 1))
   case measure => omega
   case rel =>
    refine ⟨kk + 1, _, by omega, by omega, by go_num, ⟨Below.setCell HBn.out hgb _⟩, ⟨set_blk HKn.out _⟩, ⟨?_⟩⟩
    have := Kd.R_far (p := ⟨g, 0, none⟩) HOn.out (fun k hk => hk) (.slice A1 (xs ++ eachF word (l.take kk) ++ [word ++ (⟨#[32]⟩ : ByteArray) ++ x]).length c1)
    rw [htk, show xs ++ eachF word (l.take kk ++ [x]) = xs ++ eachF word (l.take kk) ++ [word ++ (⟨#[32]⟩ : ByteArray) ++ x] from by simp [eachF]]
    rw [show (xs ++ eachF word (l.take kk) ++ [word ++ (⟨#[32]⟩ : ByteArray) ++ x]).length = xs.length + ((eachF word (l.take kk)).length + 1) from by simp [Nat.add_assoc]] at this
    exact this
  ·have hltz : ¬ (kk : Int) < (l.length : Int) := by omega
   obtain rfl : kk = l.length := by omega
   go_wp2
   go_end0
   exact ⟨⟨_, rfl⟩, BW.out, v', HK.out, by have := HO.out; rw [List.take_length] at this; exact this⟩
def wantT : ByteArray := ⟨#[119, 97, 110, 116]⟩
def haveT : ByteArray := ⟨#[104, 97, 118, 101]⟩
def doneT : ByteArray := ⟨#[100, 111, 110, 101]⟩
def smallT (l : List ByteArray) : Bool := l.all fun x => decide (x.size <= 9223372036854775000)
def hello_Ask.f (k : Nat) (l0_0 : List ByteArray) (l0_1 : List ByteArray) : Option ((List S49) × Bool) :=
 if l0_0.length = 0 then some ([], false) else (hello_named.f k l0_0 64).bind fun a => if a = true then ((hello_named.f k l0_1 256).bind fun b => if b = true then
  (if smallT l0_0 = true /\ smallT l0_1 = true /\ l0_0.length + l0_1.length < 8796093022000 then (hello_ended.f k (eachF wantT l0_0 ++ eachF haveT l0_1 ++ [doneT])).bind fun t => some (t, true) else none) else some ([], false)) else some ([], false)
set_option maxHeartbeats 800000 in
set_option maxRecDepth 100000 in
theorem hello_Ask.calls (k : Nat) (A0_0 : Option Addr) (c0_0 : Nat) (l0_0 : List ByteArray) (A0_1 : Option Addr) (c0_1 : Nat) (l0_1 : List ByteArray) (r1 : List S49) (r2 : Bool) (w : World) (hr0_0 : Kd.C Kd.string w A0_0 l0_0.length l0_0) (hc0_0 : l0_0.length <= c0_0) (hr0_1 : Kd.C Kd.string w A0_1 l0_1.length l0_1) (hc0_1 : l0_1.length <= c0_1) (h : hello_Ask.f k l0_0 l0_1 = some (r1, r2)) :
  Calls Tryd.prog 15 #[.agg #[.slice A0_0 l0_0.length c0_0, .slice A0_1 l0_1.length c0_1]] w fun e w' => ∃ v0_ : Value, e = .returned (.tuple #[v0_, .bool r2]) /\ Kd.R k49 49 w' w.heap.size (fun _ => True) v0_ r1 /\ Below w.heap.size w w' := by
 have HR0 := Asd.mk hr0_0
 have HR1 := Asd.mk hr0_1
 clear hr0_0 hr0_1
 unfold hello_Ask.f at h
 by_cases c1 : l0_0.length = 0
 ·obtain rfl := List.eq_nil_of_length_eq_zero c1
  rw [if_pos c1] at h
  obtain ⟨rfl, rfl⟩ := Prod.mk.inj (Option.some.inj h)
  clear c1 h
  go_enter Tryd.func15, Tryd.ntmps15
  go_wp2
  go_ret2
  exact ⟨_, rfl, Kd.R_nil _ _ _ _ _, bal (Below.refl _ _) _⟩
 ·rw [if_neg c1] at h
  have b1_ : ((l0_0.length : Int) == 0) = false := by simp only [beq_eq_false_iff_ne]; omega
  have b2_ : decide ((l0_0.length : Int) = 0) = false := decide_eq_false (by omega)
  have b3_ : (l0_0.length == 0) = false := by simp only [beq_eq_false_iff_ne]; exact c1
  obtain ⟨a, ha, h⟩ := Option.bind_eq_some_iff.1 h
  have HA := Asd.mk ha
  clear ha
  cases a with
  | false =>
   obtain ⟨rfl, rfl⟩ := Prod.mk.inj (Option.some.inj (show some ([], false) = some (r1, r2) from by simpa using h))
   clear h
   go_enter Tryd.func15, Tryd.ntmps15
   go_wp2_with (go_at_call 39; with_reducible refine (hello_named.calls k A0_0 c0_0 l0_0 64 false _ ?s1 ?t1 HA.out).mono ?_; (case s1 => repeat (first | exact HR0.out | (with_reducible refine Kd.C_alloc ?_ _) | (with_reducible refine Kd.C_drewN ?_ _))); (case t1 => exact hc0_0); rintro e w' ⟨rfl, ⟨nd, rfl⟩⟩; clear HA)
   go_ret2
   exact ⟨_, rfl, Kd.R_nil _ _ _ _ _, pbN (bal (Below.refl _ _) _) _⟩
  | true =>
  rw [if_pos rfl] at h
  obtain ⟨b, hb, h⟩ := Option.bind_eq_some_iff.1 h
  have HB := Asd.mk hb
  clear hb
  cases b with
  | false =>
   obtain ⟨rfl, rfl⟩ := Prod.mk.inj (Option.some.inj (show some ([], false) = some (r1, r2) from by simpa using h))
   clear h
   go_enter Tryd.func15, Tryd.ntmps15
   go_wp2_with (first | (go_at_call 39; with_reducible refine (hello_named.calls k A0_0 c0_0 l0_0 64 true _ ?s2 ?t2 HA.out).mono ?_; (case s2 => repeat (first | exact HR0.out | (with_reducible refine Kd.C_alloc ?_ _) | (with_reducible refine Kd.C_drewN ?_ _))); (case t2 => exact hc0_0); rintro e w' ⟨rfl, ⟨nd, rfl⟩⟩; clear HA) | (go_at_call 39; with_reducible refine (hello_named.calls k A0_1 c0_1 l0_1 256 false _ ?s3 ?t3 HB.out).mono ?_; (case s3 => repeat (first | exact HR1.out | (with_reducible refine Kd.C_alloc ?_ _) | (with_reducible refine Kd.C_drewN ?_ _))); (case t3 => exact hc0_1); rintro e w' ⟨rfl, ⟨nd2, rfl⟩⟩; clear HB))
   go_ret2
   exact ⟨_, rfl, Kd.R_nil _ _ _ _ _, pbN (bal (Below.refl _ _) _) _⟩
  | true =>
  rw [if_pos rfl] at h
  split at h
  case isFalse => cases h
  case isTrue hsm =>
  obtain ⟨t, ht, h⟩ := Option.bind_eq_some_iff.1 h
  obtain ⟨rfl, rfl⟩ := Prod.mk.inj (Option.some.inj h)
  have HT := Asd.mk ht
  have HSM := Asd.mk hsm
  clear h ht hsm
  go_enter Tryd.func15, Tryd.ntmps15
  go_upto_region 5 with (first | (go_at_call 39; with_reducible refine (hello_named.calls k A0_0 c0_0 l0_0 64 true _ ?s4 ?t4 HA.out).mono ?_; (case s4 => repeat (first | exact HR0.out | (with_reducible refine Kd.C_alloc ?_ _) | (with_reducible refine Kd.C_drewN ?_ _))); (case t4 => exact hc0_0); rintro e w' ⟨rfl, ⟨nd, rfl⟩⟩; clear HA) | (go_at_call 39; with_reducible refine (hello_named.calls k A0_1 c0_1 l0_1 256 true _ ?s5 ?t5 HB.out).mono ?_; (case s5 => repeat (first | exact HR1.out | (with_reducible refine Kd.C_alloc ?_ _) | (with_reducible refine Kd.C_drewN ?_ _))); (case t5 => exact hc0_1); rintro e w' ⟨rfl, ⟨nd2, rfl⟩⟩; clear HB))
  have HBb := Asd.mk (bal (Below.refl w.heap.size w) (.cells #[.slice A0_0 l0_0.length c0_0, .slice A0_1 l0_1.length c0_1] 25))
  have hx0 := Asd.mk (show (w.alloc (.cells #[.slice A0_0 l0_0.length c0_0, .slice A0_1 l0_1.length c0_1] 25)).cell? ⟨w.heap.size, 0, none⟩ = some (.slice A0_0 l0_0.length c0_0) from by rw [cell_of_row _ _ 0 _ _ _ (heap_alloc_new w _)]; rfl)
  have hx1 := Asd.mk (show (w.alloc (.cells #[.slice A0_0 l0_0.length c0_0, .slice A0_1 l0_1.length c0_1] 25)).cell? ⟨w.heap.size, 1, none⟩ = some (.slice A0_1 l0_1.length c0_1) from by rw [cell_of_row _ _ 1 _ _ _ (heap_alloc_new w _)]; rfl)
  have HRb0 := Asd.mk (Kd.C_alloc HR0.out (.cells #[.slice A0_0 l0_0.length c0_0, .slice A0_1 l0_1.length c0_1] 25))
  have HRb1 := Asd.mk (Kd.C_alloc HR1.out (.cells #[.slice A0_0 l0_0.length c0_0, .slice A0_1 l0_1.length c0_1] 25))
  have hgs : (w.alloc (.cells #[.slice A0_0 l0_0.length c0_0, .slice A0_1 l0_1.length c0_1] 25)).heap.size = w.heap.size + 1 := Array.size_push _
  have hbs := Asd.mk (show w.heap.size < (w.alloc (.cells #[.slice A0_0 l0_0.length c0_0, .slice A0_1 l0_1.length c0_1] 25)).heap.size from by rw [hgs]; exact Nat.lt_succ_self _)
  rw [<- hgs]
  clear hgs HR0 HR1
  generalize w.alloc (.cells #[.slice A0_0 l0_0.length c0_0, .slice A0_1 l0_1.length c0_1] 25) = Wb at HBb hx0 hx1 HRb0 HRb1 hbs ⊢
  have HB0 := Asd.mk (bal (pbN (Below.refl Wb.heap.size Wb) (nd + nd2)) (.cells #[.slice none 0 0] 23))
  have HK0 := Asd.mk (show ((Wb.drewN (nd + nd2)).alloc (.cells #[.slice none 0 0] 23)).heap[Wb.heap.size]? = some (.cells #[.slice none 0 0] 23 (0, 0)) from heap_alloc_new (Wb.drewN (nd + nd2)) _)
  generalize (Wb.drewN (nd + nd2)).alloc (.cells #[.slice none 0 0] 23) = W0 at HB0 HK0 ⊢
  have small : ∀ (word : ByteArray) (l : List ByteArray), word.size = 4 -> smallT l = true -> ∀ x ∈ l, word.size + 1 + x.size <= 9223372036854775807 := fun word l hw hl x hx => by
   have := of_decide_eq_true (List.all_eq_true.1 hl x hx)
   omega
  have E1 := Asd.mk (hello_each ⟨#[119, 97, 110, 116]⟩ A0_0 c0_0 l0_0 [] Wb.heap.size (.slice none 0 0) Wb W0 HB0.out (Nat.le_refl _) HK0.out (Kd.R_nil _ _ _ _ _) HRb0.out (small _ _ rfl HSM.out.1) (by have := HSM.out.2.2; simp; omega))
  have hcl := (HB0.out.cell (p := ⟨w.heap.size, 0, none⟩) hbs.out).trans hx0.out
  clear small
  go_upto_region 6 with (go_at_call 40; refine E1.out.mono ?_; rintro e W1 ⟨⟨rr, rfl⟩, hb, v1, hk, ho⟩; have HB1 := Asd.mk hb; have HK1 := Asd.mk hk; have HO1 := Asd.mk ho; clear hb hk ho hcl E1)
  have small : ∀ (word : ByteArray) (l : List ByteArray), word.size = 4 -> smallT l = true -> ∀ x ∈ l, word.size + 1 + x.size <= 9223372036854775807 := fun word l hw hl x hx => by
   have := of_decide_eq_true (List.all_eq_true.1 hl x hx)
   omega
  have E2 := Asd.mk (hello_each ⟨#[104, 97, 118, 101]⟩ A0_1 c0_1 l0_1 _ Wb.heap.size v1 Wb W1 HB1.out (Nat.le_refl _) HK1.out HO1.out HRb1.out (small _ _ rfl HSM.out.2.1) (by have := HSM.out.2.2; simp [eachF]; omega))
  have hcl := (HB1.out.cell (p := ⟨w.heap.size, 1, none⟩) hbs.out).trans hx1.out
  clear small
  go_upto_region 7 with (go_at_call 40; refine E2.out.mono ?_; rintro e W2 ⟨⟨rr2, rfl⟩, hb, v2, hk, ho⟩; have HB2 := Asd.mk hb; have HK2 := Asd.mk hk; have HO2 := Asd.mk ho; clear hb hk ho hcl E2)
  obtain ⟨L, hL⟩ : ∃ L, ([] ++ eachF ⟨#[119, 97, 110, 116]⟩ l0_0 ++ eachF ⟨#[104, 97, 118, 101]⟩ l0_1) ++ [(⟨#[100, 111, 110, 101]⟩ : ByteArray)] = L := ⟨_, rfl⟩
  have HTL := Asd.mk (show hello_ended.f k L = some t from by rw [<- hL, List.nil_append]; exact HT.out)
  have HL := Asd.mk hL
  clear hL HT
  have hcg := blk_cell_ HK2.out
  have hgl : Wb.heap.size < W2.heap.size := (Array.getElem?_eq_some_iff.1 HK2.out).1
  have hll := Asd.mk (show ([] ++ eachF ⟨#[119, 97, 110, 116]⟩ l0_0 ++ eachF ⟨#[104, 97, 118, 101]⟩ l0_1).length + 1 < 8796093022208 from by have := HSM.out.2.2; simp [eachF]; omega)
  go_wp2_with (first
   | (at_builtin; refine Kd.R_append Kd.string (w0 := Wb) Wb.heap.size rfl (.tmp 31) (.tmp 32) 23 9 (.string ⟨#[]⟩) 16 rfl Tryd.underlying23 info9 rfl (by decide) (by omega) v2 ([] ++ eachF ⟨#[119, 97, 110, 116]⟩ l0_0 ++ eachF ⟨#[104, 97, 118, 101]⟩ l0_1) (⟨#[100, 111, 110, 101]⟩ : ByteArray) [.string (⟨#[100, 111, 110, 101]⟩ : ByteArray)] (fun k => k ≠ Wb.heap.size) (fun _ => False) rfl rfl ?aP (fun _ hk => hk.elim) ?aF ?aO ?aB ?aS ?aL ?_; (case aP => rfl); (case aB => exact HB2.out); (case aF => exact fun k hk => Nat.ne_of_gt (Nat.lt_of_lt_of_le hgl hk)); (case aO => exact HO2.out); (case aS => exact below_size HB2.out); (case aL => have := hll.out; omega); intro v3 W3 ho hb hg hat; rw [HL.out] at ho; have HO3 := Asd.mk ho; have HB3 := Asd.mk hb; clear ho hb hg hat; obtain ⟨A3, c3, rfl⟩ := Kd.R_slice HO3.out)
   | (go_at_call 35; refine (hello_ended.calls k A3 c3 L t _ (Kd.R_reads' HO3.out).2.2 (Kd.R_reads' HO3.out).2.1 HTL.out).mono ?_; rintro e W4 ⟨v4, rfl, ho, hb⟩; have HE := Asd.mk ho; have HB4 := Asd.mk hb; clear ho hb))
  go_ret2
  exact ⟨_, rfl, Kd.R_lower HE.out (Nat.le_trans (below_size HBb.out) (below_size HB3.out)), below_step HBb.out (below_step HB3.out HB4.out)⟩
def hello_may.f (k : Nat) (a0 : ByteArray) : Option (Bool) := if a0.toList = ([] : List UInt8) then (some true) else ((digest_Named.f k a0).bind fun t139 => (some t139))
set_option maxHeartbeats 8000000 in
set_option maxRecDepth 100000 in
theorem hello_may.calls (k : Nat) (a0 : ByteArray) (r : Bool) (w : World) (h : hello_may.f k a0 = some r) :
  Calls Tryd.prog 42 #[.string a0] w fun e w' => e = .returned (.bool r) /\ Drawn0 w w' := by
 have H : (if a0.toList = ([] : List UInt8) then (some true) else ((digest_Named.f k a0).bind fun t139 => (some t139))) = some r := h
 clear h
 by_cases c2 : a0.toList = ([] : List UInt8)
 ·rw [if_pos c2] at H
  have c2b0 : (a0.toList == ([] : List UInt8)) = true := beq_iff_eq.mpr c2
  have c2b1 : (a0.toList != ([] : List UInt8)) = false := bne_eq_false_iff_eq.mpr c2
  clear c2
  obtain rfl := Option.some.inj H
  go_enter Tryd.func42, Tryd.ntmps42
  go_wp2
  go_ret
  exact ⟨by first | rfl | (simp; done) | (simp [*]; done), by repeat (first | exact Drawn0.refl _ | apply Drawn0.step)⟩
 ·rw [if_neg c2] at H
  have c2b0 : (a0.toList == ([] : List UInt8)) = false := beq_eq_false_iff_ne.mpr c2
  have c2b1 : (a0.toList != ([] : List UInt8)) = true := bne_iff_ne.mpr c2
  replace H := Option.bind_eq_some_iff.mp H
  obtain ⟨t139, A30, H⟩ := H
  replace H : (some t139) = some r := H
  have A3 := Asd.mk A30
  clear A30
  obtain rfl := Option.some.inj H
  go_enter Tryd.func42, Tryd.ntmps42
  go_wp2_with (first | (go_at_call 60; (with_reducible refine (digest_Named.calls k a0 t139 _ A3.out).mono ?_); rintro e w' ⟨rfl, ⟨nd, rfl⟩⟩))
  go_ret
  exact ⟨by first | rfl | (simp; done) | (simp [*]; done), by repeat (first | exact Drawn0.refl _ | apply Drawn0.step)⟩
def hello_dash.f (a0 : ByteArray) : Option (ByteArray) := if a0.toList = ([] : List UInt8) then (some (⟨#[45]⟩ : ByteArray)) else (some a0)
set_option maxHeartbeats 8000000 in
set_option maxRecDepth 100000 in
theorem hello_dash.calls (a0 : ByteArray) (r : ByteArray) (w : World) (h : hello_dash.f a0 = some r) :
  Calls Tryd.prog 43 #[.string a0] w fun e w' => e = .returned (.string r) /\ Drawn0 w w' := by
 have H : (if a0.toList = ([] : List UInt8) then (some (⟨#[45]⟩ : ByteArray)) else (some a0)) = some r := h
 clear h
 by_cases c2 : a0.toList = ([] : List UInt8)
 ·rw [if_pos c2] at H
  have c2b0 : (a0.toList == ([] : List UInt8)) = true := beq_iff_eq.mpr c2
  have c2b1 : (a0.toList != ([] : List UInt8)) = false := bne_eq_false_iff_eq.mpr c2
  clear c2
  obtain rfl := Option.some.inj H
  go_enter Tryd.func43, Tryd.ntmps43
  go_wp2
  go_ret
  exact ⟨by first | rfl | (simp; done) | (simp [*]; done), by repeat (first | exact Drawn0.refl _ | apply Drawn0.step)⟩
 ·rw [if_neg c2] at H
  have c2b0 : (a0.toList == ([] : List UInt8)) = false := beq_eq_false_iff_ne.mpr c2
  have c2b1 : (a0.toList != ([] : List UInt8)) = true := bne_iff_ne.mpr c2
  obtain rfl := Option.some.inj H
  go_enter Tryd.func43, Tryd.ntmps43
  go_wp2
  go_ret
  exact ⟨by first | rfl | (simp; done) | (simp [*]; done), by repeat (first | exact Drawn0.refl _ | apply Drawn0.step)⟩
end Go.Proofs.YtmmionafcmnfoaaDoor.Print
