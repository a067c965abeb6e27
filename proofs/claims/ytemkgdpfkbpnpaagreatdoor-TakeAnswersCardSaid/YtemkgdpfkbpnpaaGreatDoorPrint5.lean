/- Functions of the program as plain functions, and proofs that the program's calls tell what these tell. Written by a program. -/
import Derived.Test.YtemkgdpfkbpnpaaGreatDoorPrint0
import Derived.Test.YtemkgdpfkbpnpaaGreatDoorPrint3
import Derived.Test.YtemkgdpfkbpnpaaGreatDoorPrint4
namespace Go.Proofs.YtemkgdpfkbpnpaaGreatDoor.Print
open Go.RowKit Go.Proofs.YtemkgdpfkbpnpaaGreatDoorW.PrintWords Go.Proofs.YtemkgdpfkbpnpaaGreatDoorW.PrintLast Go.Proofs.YtemkgdpfkbpnpaaGreatDoorW.PrintMore Go.Proofs.YtemkgdpfkbpnpaaGreatDoor.Conv
attribute [local go_sem] max2_int min2_int max_two min_two max_three min_three max_four min_four
set_option linter.unusedVariables false
set_option linter.unusedSimpArgs false
def hello_ended.l0 : Nat -> List (S65) -> List ByteArray -> Int -> Int -> Option ((List (S65)))
 | 0, _, _, _, _ => none
 | k + 1, x3, x6, x7, x8 => if x8 < x7 then (if 0 <= x8 then (if x8 < (x6.length : Int) then (if (rdOf ByteArray.empty x6 x8).size + 1 <= 9223372036854775807 then (if x3.length < 5864062014805 then (hello_ended.l0 k (x3 ++ [(⟨false, (rdOf ByteArray.empty x6 x8) ++ (⟨#[10]⟩ : ByteArray)⟩ : S65)]) x6 x7 (wrap64 (x8 + 1))) else (none)) else (none)) else (none)) else (none)) else (if x3.length < 5864062014805 then (some (x3 ++ [(⟨true, (⟨#[]⟩ : ByteArray)⟩ : S65)])) else (none))
def hello_ended.f (k : Nat) (l0 : List ByteArray) : Option ((List (S65))) := hello_ended.l0 k ([] : List (S65)) l0 (l0.length : Int) 0
set_option maxHeartbeats 8000000 in
set_option maxRecDepth 100000 in
theorem hello_ended.calls (k : Nat) (A0 : Option Addr) (c0 : Nat) (l0 : List ByteArray) (r : List (S65)) (w : World) (hr0 : Kd.C Kd.string w A0 l0.length l0) (hc0 : l0.length <= c0) (h : hello_ended.f k l0 = some r) :
  Calls Tryz.prog 36 #[.slice A0 l0.length c0] w fun e w' => ∃ v0_ : Value, e = .returned (v0_) /\ Kd.R k65 65 w' w.heap.size (fun _ => True) v0_ r /\ Below w.heap.size w w' := by
 have hu65 := Tryz.underlying65
 have HR0 := Asd.mk hr0
 have HC0 := Asd.mk hc0
 clear hr0 hc0
 have HB := Asd.mk (Below.refl w.heap.size w)
 have H : (hello_ended.l0 k ([] : List (S65)) l0 (l0.length : Int) 0) = some r := h
 clear h
 have H' := Asd.mk H
 clear H
 go_enter Tryz.func36, Tryz.ntmps36
 go_wp2
 go_loopg [3, 8] k (fun kq v3 v8 w' => ∃ (x3_1 : List (S65)) (x8_1 : Int), v8 = .int .i64 x8_1 /\ Asd (hello_ended.l0 kq x3_1 l0 (l0.length : Int) x8_1 = some r) /\ Asd (kq <= k) /\ Asd (Kd.R k65 65 w' w.heap.size (fun _ => True) v3 x3_1) /\ Asd (Below w.heap.size w w'))
 case atStart => exact ⟨(([] : List (S65))), (0), (by first | rfl | (simp; done) | (simp [*]; done)), H', ⟨Nat.le_refl _⟩, ⟨by first | exact Kd.R_nil _ _ _ _ _ | exact Kd.N_nil _ _ _ _ _ | exact Kd.V_nil _ _ _ _ _ | exact Kd.Q_nil _ _ _ _ _ | exact Kd.S_nil _ _ _ _ _⟩, ⟨by repeat (first | (with_reducible first | exact HB.out | apply bal | apply pbN | apply bd1) | exact HB.out)⟩⟩
 case round =>
  clear H'
  obtain ⟨x3_1, x8_1, rfl, HA, HK1, HO_3, HB⟩ := hrel
  cases gk with
  | zero => exact absurd HA.out (by simp [hello_ended.l0])
  | succ k1 =>
   have H := HA.out
   clear HA
   simp only [hello_ended.l0] at H
   by_cases c2 : x8_1 < (l0.length : Int)
   ·rw [if_pos c2] at H
    have c2b0 : decide (x8_1 < (l0.length : Int)) = true := decide_eq_true c2
    clear c2
    by_cases c3 : 0 <= x8_1
    ·rw [if_pos c3] at H
     have c3b0 : decide (0 <= x8_1) = true := decide_eq_true c3
     clear c3
     by_cases c4 : x8_1 < (l0.length : Int)
     ·rw [if_pos c4] at H
      have c4b0 : decide (x8_1 < (l0.length : Int)) = true := decide_eq_true c4
      clear c4
      by_cases c5 : (rdOf ByteArray.empty l0 x8_1).size + 1 <= 9223372036854775807
      ·rw [if_pos c5] at H
       have c5b0 := eq_true c5
       have c5b1 : decide ((rdOf ByteArray.empty l0 x8_1).size + 1 <= 9223372036854775807) = true := decide_eq_true c5
       try have c5b2 : (9223372036854775807 < (rdOf ByteArray.empty l0 x8_1).size + 1) = False := eq_false (Nat.not_lt.2 c5)
       by_cases c6 : x3_1.length < 5864062014805
       ·rw [if_pos c6] at H
        have LMc6 := Asd.mk c6
        clear c6
        obtain ⟨y119, hy119⟩ : ∃ y_ : List (S65), y_ = (x3_1 ++ [(⟨false, (rdOf ByteArray.empty l0 x8_1) ++ (⟨#[10]⟩ : ByteArray)⟩ : S65)]) := ⟨_, rfl⟩
        replace H : (hello_ended.l0 k1 y119 l0 (l0.length : Int) (wrap64 (x8_1 + 1))) = some r := by first | (rw [hy119]; with_reducible exact H) | (have H2_ := (Option.bind_some _ _).symm.trans H; rw [hy119]; with_reducible exact H2_) | (have H2_ := (Option.bind_some _ _).symm.trans H; with_reducible exact H2_) | with_reducible exact H | (rw [hy119]; exact H) | exact H
        have Ny119 := Asd.mk hy119
        clear hy119
        have H' := Asd.mk H
        clear H
        have p118 : 0 <= (x8_1 : Int) := of_decide_eq_true (by first | (with_reducible assumption) | assumption)
        have q118 : x8_1 < (l0.length : Int) := of_decide_eq_true (by first | (with_reducible assumption) | assumption)
        obtain ⟨ad118, e118, hx118_0⟩ := Kd.at_string HR0.out x8_1 p118 q118
        cases e118
        replace hx118_0 := (HB.out.cell (World.block_lt_of_cell? w _ hx118_0)).trans hx118_0
        replace p118 := eq_true p118
        replace q118 := eq_true q118
        go_wp2_with (first | ((with_reducible refine gate_builtin (b := .append) (xs := #[.tmp 12, .tmp 16]) rfl ?_); at_builtin; refine Kd.R_append k65 (w0 := w) w.heap.size rfl (.tmp 12) (.tmp 16) 46 65 (.agg #[(.bool false), (.string ⟨#[]⟩)]) 24 rfl Tryz.underlying46 info65 rfl (by decide) (by omega) u3 x3_1 (⟨false, (rdOf ByteArray.empty l0 x8_1) ++ (⟨#[10]⟩ : ByteArray)⟩ : S65) [.bool false, .string ((rdOf ByteArray.empty l0 x8_1) ++ (⟨#[10]⟩ : ByteArray))] (fun _ => True) (fun _ => False) rfl rfl ?aP (fun _ hk => hk.elim) ?aF ?aO ?aB ?aS ?aL ?_; (case aP => exact k65_mkM _ _ _ (⟨false, (rdOf ByteArray.empty l0 x8_1) ++ (⟨#[10]⟩ : ByteArray)⟩ : S65)); (case aB => exact (by repeat (first | (with_reducible first | exact HB.out | apply bal | apply pbN | apply bd1) | exact HB.out))); (case aF => exact (fun _ _ => trivial)); (case aO => exact (by (with_reducible repeat (first | apply Kd.R_alloc | apply Kd.R_drewN | apply Kd.R_drew)); exact HO_3.out)); (case aS => exact (below_size (by repeat (first | (with_reducible first | exact HB.out | apply bal | apply pbN | apply bd1) | exact HB.out)))); (case aL => have := LMc6.out; omega); intro v120 w7 ho hb hg hat; rw [<- Ny119.out] at ho; have n0_ := Asd.mk (hb); have n1_ := Asd.mk (ho); clear HB; clear HO_3; have HB := n0_; have HO121 := n1_; clear n0_ n1_; clear ho hb hg hat))
        go_roundg k1
        case measure => have := HK1.out; omega
        case rel => exact ⟨(y119), (wrap64 (x8_1 + 1)), (by first | rfl | (simp; done) | (simp [*]; done)), H', ⟨by have := HK1.out; omega⟩, ⟨by (with_reducible repeat (first | apply Kd.R_alloc | apply Kd.R_drewN | apply Kd.R_drew)); exact HO121.out⟩, ⟨by repeat (first | (with_reducible first | exact HB.out | apply bal | apply pbN | apply bd1) | exact HB.out)⟩⟩
       ·rw [if_neg c6] at H
        exact absurd H (by simp)
      ·rw [if_neg c5] at H
       exact absurd H (by simp)
     ·rw [if_neg c4] at H
      exact absurd H (by simp)
    ·rw [if_neg c3] at H
     exact absurd H (by simp)
   ·rw [if_neg c2] at H
    have c2b0 : decide (x8_1 < (l0.length : Int)) = false := decide_eq_false c2
    clear c2
    by_cases c8 : x3_1.length < 5864062014805
    ·rw [if_pos c8] at H
     have LMc8 := Asd.mk c8
     clear c8
     obtain ⟨y122, hy122⟩ : ∃ y_ : List (S65), y_ = (x3_1 ++ [(⟨true, (⟨#[]⟩ : ByteArray)⟩ : S65)]) := ⟨_, rfl⟩
     replace H : (some y122) = some r := by first | (rw [hy122]; with_reducible exact H) | (have H2_ := (Option.bind_some _ _).symm.trans H; rw [hy122]; with_reducible exact H2_) | (have H2_ := (Option.bind_some _ _).symm.trans H; with_reducible exact H2_) | with_reducible exact H | (rw [hy122]; exact H) | exact H
     have Ny122 := Asd.mk hy122
     clear hy122
     obtain rfl := Option.some.inj H
     go_wp2_with (first | ((with_reducible refine gate_builtin (b := .append) (xs := #[.tmp 19, .tmp 21]) rfl ?_); at_builtin; refine Kd.R_append k65 (w0 := w) w.heap.size rfl (.tmp 19) (.tmp 21) 46 65 (.agg #[(.bool false), (.string ⟨#[]⟩)]) 24 rfl Tryz.underlying46 info65 rfl (by decide) (by omega) u3 x3_1 (⟨true, (⟨#[]⟩ : ByteArray)⟩ : S65) [.bool true, .string (⟨#[]⟩ : ByteArray)] (fun _ => True) (fun _ => False) rfl rfl ?aP (fun _ hk => hk.elim) ?aF ?aO ?aB ?aS ?aL ?_; (case aP => exact k65_mkM _ _ _ (⟨true, (⟨#[]⟩ : ByteArray)⟩ : S65)); (case aB => exact (by repeat (first | (with_reducible first | exact HB.out | apply bal | apply pbN | apply bd1) | exact HB.out))); (case aF => exact (fun _ _ => trivial)); (case aO => exact (by (with_reducible repeat (first | apply Kd.R_alloc | apply Kd.R_drewN | apply Kd.R_drew)); exact HO_3.out)); (case aS => exact (below_size (by repeat (first | (with_reducible first | exact HB.out | apply bal | apply pbN | apply bd1) | exact HB.out)))); (case aL => have := LMc8.out; omega); intro v123 w9 ho hb hg hat; rw [<- Ny122.out] at ho; have n0_ := Asd.mk (hb); have n1_ := Asd.mk (ho); clear HB; clear HO_3; have HB := n0_; have HO124 := n1_; clear n0_ n1_; clear ho hb hg hat))
     go_ret
     exact ⟨_, by first | rfl | (simp [errW_none, errW_some] <;> rfl) | (simp [*, errW_none, errW_some] <;> rfl), by (with_reducible repeat (first | apply Kd.R_alloc | apply Kd.R_drewN | apply Kd.R_drew)); exact HO124.out, by repeat (first | (with_reducible first | exact HB.out | apply bal | apply pbN | apply bd1) | exact HB.out)⟩
    ·rw [if_neg c8] at H
     exact absurd H (by simp)
mutual
def hello_Told.j0 : Nat -> ByteArray -> List (S73) -> Bool -> Option ((List (S65)) × Bool)
 | 0, _, _, _ => none
 | k + 1, x0, x1, x16 => if x16 = true then (some (([] : List (S65)), false)) else (if 14 + x0.size <= 9223372036854775807 then (hello_Told.l0 k (([(⟨#[115, 97, 99, 114, 105, 115, 116, 121, 32, 104, 101, 97, 100, 32]⟩ : ByteArray) ++ x0] : List ByteArray)) x1 (x1.length : Int) 0) else (none))
def hello_Told.l0 : Nat -> List ByteArray -> List (S73) -> Int -> Int -> Option ((List (S65)) × Bool)
 | 0, _, _, _, _ => none
 | k + 1, x6, x20, x21, x22 => if x22 < x21 then (if 0 <= x22 then (if x22 < (x20.length : Int) then (if ((rd_T73 x20 x22).f1).size + 1 <= 9223372036854775807 then (if (((rd_T73 x20 x22).f1) ++ (⟨#[32]⟩ : ByteArray)).size + ((rd_T73 x20 x22).f0).size <= 9223372036854775807 then (if x6.length < 8796093022208 then (hello_Told.l0 k (x6 ++ [(((rd_T73 x20 x22).f1) ++ (⟨#[32]⟩ : ByteArray)) ++ ((rd_T73 x20 x22).f0)]) x20 x21 (wrap64 (x22 + 1))) else (none)) else (none)) else (none)) else (none)) else (none)) else ((hello_ended.f k x6).bind fun t135 => (some (t135, true)))
end
def hello_Told.f (k : Nat) (a0 : ByteArray) (l1 : List (S73)) : Option ((List (S65)) × Bool) := (refs_Named.f k a0).bind fun t125 => (if t125 = true then ((refs_Right.f k l1).bind fun t126 => (hello_Told.j0 k a0 l1 (!t126))) else (hello_Told.j0 k a0 l1 true))
set_option maxHeartbeats 8000000 in
set_option maxRecDepth 100000 in
theorem hello_Told.calls (k : Nat) (a0 : ByteArray) (A1 : Option Addr) (c1 : Nat) (l1 : List (S73)) (r1 : List (S65)) (r2 : Bool) (w : World) (hr1 : Kd.C k73 w A1 l1.length l1) (hc1 : l1.length <= c1) (h : hello_Told.f k a0 l1 = some (r1, r2)) :
  Calls Tryz.prog 19 #[.string a0, .slice A1 l1.length c1] w fun e w' => ∃ v0_ : Value, e = .returned (.tuple #[v0_, .bool r2]) /\ Kd.R k65 65 w' w.heap.size (fun _ => True) v0_ r1 /\ Below w.heap.size w w' := by
 have hu73 := Tryz.underlying73
 have HR1 := Asd.mk hr1
 have HC1 := Asd.mk hc1
 clear hr1 hc1
 have HB := Asd.mk (Below.refl w.heap.size w)
 have H : ((refs_Named.f k a0).bind fun t125 => (if t125 = true then ((refs_Right.f k l1).bind fun t126 => (hello_Told.j0 k a0 l1 (!t126))) else (hello_Told.j0 k a0 l1 true))) = some (r1, r2) := h
 clear h
 have HC3 := Asd.mk H
 clear H
 go_enter Tryz.func19, Tryz.ntmps19
 go_upto_region 1 with (fail)
 go_cut [16] (fun v16 wc => ∃ (kq : Nat) (x16_2 : Bool), v16 = .bool x16_2 /\ Asd (hello_Told.j0 kq a0 l1 x16_2 = some (r1, r2)) /\ Asd (kq <= k) /\ Asd (Below w.heap.size w wc))
 case first =>
  have H := HC3.out
  clear HC3
  replace H := Option.bind_eq_some_iff.mp H
  obtain ⟨t125, A40, H⟩ := H
  replace H : (if t125 = true then ((refs_Right.f k l1).bind fun t126 => (hello_Told.j0 k a0 l1 (!t126))) else (hello_Told.j0 k a0 l1 true)) = some (r1, r2) := H
  have A4 := Asd.mk A40
  clear A40
  by_cases c5 : t125 = true
  ·subst c5
   have H1 : ((refs_Right.f k l1).bind fun t126 => (hello_Told.j0 k a0 l1 (!t126))) = some (r1, r2) := by rw [if_pos rfl] at H; exact H
   clear H
   have H := H1
   clear H1
   replace H := Option.bind_eq_some_iff.mp H
   obtain ⟨t126, A60, H⟩ := H
   replace H : (hello_Told.j0 k a0 l1 (!t126)) = some (r1, r2) := H
   have A6 := Asd.mk A60
   clear A60
   have H' := Asd.mk H
   clear H
   go_wp2_with (first | ((with_reducible refine gate_callee (f := 34) rfl ?_); refine goesL_ (some 10) rfl rfl Tryz.func34 (by kernel_rfl) rfl #[.string a0] rfl (by (try simp only [List.map_toArray, List.map_cons, List.map_nil]); first | done | rfl | (simp only [List.length_drop, List.length_take]; rfl)) ?_; (with_reducible refine (refs_Named.calls k a0 true _ A4.out).mono ?_); rintro e w7 ⟨rfl, hb⟩; refine ⟨_, rfl, ?_⟩; have n0_ := Asd.mk (below_step (by repeat (first | (with_reducible first | exact HB.out | apply bal | apply pbN | apply bd1) | exact HB.out)) hb); clear HB; have HB := n0_; clear n0_; (try clear hb); (try clear hb2); (try clear hk); (try clear hi)) | (go_at_call 35; (with_reducible refine (refs_Right.calls k _ _ l1 t126 _ ?side1 ?side2 A6.out).mono ?_); (case side1 => repeat (first | exact (Kd.C_below HR1.out HB.out) | (with_reducible refine Kd.C_alloc ?_ _) | (with_reducible refine Kd.C_drewN ?_ _) | (with_reducible refine Kd.C_drew ?_))); (case side2 => exact HC1.out); rintro e w8 ⟨rfl, hb⟩; have n0_ := Asd.mk (below_step (by repeat (first | (with_reducible first | exact HB.out | apply bal | apply pbN | apply bd1) | exact HB.out)) hb); clear HB; have HB := n0_; clear n0_; (try clear hb); (try clear hb2); (try clear hk); (try clear hi)))
   go_meet
   case rel => exact ⟨_, (!t126), (by first | rfl | (simp; done) | (simp [*]; done)), H', ⟨by first | omega | exact Nat.le_refl _⟩, ⟨by repeat (first | (with_reducible first | exact HB.out | apply bal | apply pbN | apply bd1) | exact HB.out)⟩⟩
  ·replace c5 := Bool.eq_false_iff.mpr c5
   subst c5
   have H1 : (hello_Told.j0 k a0 l1 true) = some (r1, r2) := by rw [if_neg (show ¬ (false = true) by decide)] at H; exact H
   clear H
   have H := H1
   clear H1
   have H' := Asd.mk H
   clear H
   go_wp2_with (first | ((with_reducible refine gate_callee (f := 34) rfl ?_); refine goesL_ (some 10) rfl rfl Tryz.func34 (by kernel_rfl) rfl #[.string a0] rfl (by (try simp only [List.map_toArray, List.map_cons, List.map_nil]); first | done | rfl | (simp only [List.length_drop, List.length_take]; rfl)) ?_; (with_reducible refine (refs_Named.calls k a0 false _ A4.out).mono ?_); rintro e w9 ⟨rfl, hb⟩; refine ⟨_, rfl, ?_⟩; have n0_ := Asd.mk (below_step (by repeat (first | (with_reducible first | exact HB.out | apply bal | apply pbN | apply bd1) | exact HB.out)) hb); clear HB; have HB := n0_; clear n0_; (try clear hb); (try clear hb2); (try clear hk); (try clear hi)))
   go_meet
   case rel => exact ⟨_, (true), (by first | rfl | (simp; done) | (simp [*]; done)), H', ⟨by first | omega | exact Nat.le_refl _⟩, ⟨by repeat (first | (with_reducible first | exact HB.out | apply bal | apply pbN | apply bd1) | exact HB.out)⟩⟩
 case rest =>
  clear HC3
  try clear c1
  try clear p2
  try clear c3
  try clear c5
  obtain ⟨kq, x16_2, rfl, HA, HJ2, HB⟩ := hcut
  cases kq with
  | zero => exact absurd HA.out (by simp [hello_Told.j0])
  | succ kj2 =>
   have H := HA.out
   clear HA
   simp only [hello_Told.j0] at H
   by_cases c10 : x16_2 = true
   ·subst c10
    have H1 : (some (([] : List (S65)), false)) = some (r1, r2) := by rw [if_pos rfl] at H; exact H
    clear H
    have H := H1
    clear H1
    simp only [Option.some.injEq, Prod.mk.injEq] at H
    obtain ⟨rfl, rfl⟩ := H
    go_wp2
    go_ret2
    exact ⟨_, by first | rfl | (simp [errW_none, errW_some] <;> rfl) | (simp [*, errW_none, errW_some] <;> rfl), by first | exact Kd.R_nil _ _ _ _ _ | exact Kd.N_nil _ _ _ _ _ | exact Kd.V_nil _ _ _ _ _ | exact Kd.Q_nil _ _ _ _ _ | exact Kd.S_nil _ _ _ _ _, by repeat (first | (with_reducible first | exact HB.out | apply bal | apply pbN | apply bd1) | exact HB.out)⟩
   ·replace c10 := Bool.eq_false_iff.mpr c10
    subst c10
    have H1 : (if 14 + a0.size <= 9223372036854775807 then (hello_Told.l0 kj2 (([(⟨#[115, 97, 99, 114, 105, 115, 116, 121, 32, 104, 101, 97, 100, 32]⟩ : ByteArray) ++ a0] : List ByteArray)) l1 (l1.length : Int) 0) else (none)) = some (r1, r2) := by rw [if_neg (show ¬ (false = true) by decide)] at H; exact H
    clear H
    have H := H1
    clear H1
    by_cases c11 : 14 + a0.size <= 9223372036854775807
    ·rw [if_pos c11] at H
     have c11b0 := eq_true c11
     have c11b1 : decide (14 + a0.size <= 9223372036854775807) = true := decide_eq_true c11
     try have c11b2 : (9223372036854775807 < 14 + a0.size) = False := eq_false (Nat.not_lt.2 c11)
     obtain ⟨y127, hy127⟩ : ∃ y_ : List ByteArray, y_ = (([(⟨#[115, 97, 99, 114, 105, 115, 116, 121, 32, 104, 101, 97, 100, 32]⟩ : ByteArray) ++ a0] : List ByteArray)) := ⟨_, rfl⟩
     replace H : (hello_Told.l0 kj2 y127 l1 (l1.length : Int) 0) = some (r1, r2) := by first | (rw [hy127]; with_reducible exact H) | (have H2_ := (Option.bind_some _ _).symm.trans H; rw [hy127]; with_reducible exact H2_) | (have H2_ := (Option.bind_some _ _).symm.trans H; with_reducible exact H2_) | with_reducible exact H | (rw [hy127]; exact H) | exact H
     have Ny127 := Asd.mk hy127
     clear hy127
     have H' := Asd.mk H
     clear H
     go_wp2_with (first | ((with_reducible refine gate_dst (N := 19) rfl ?_); refine Kd.R_lit Kd.string _ 9 ?hg (N := 19) ?hd (xs := ([(⟨#[115, 97, 99, 114, 105, 115, 116, 121, 32, 104, 101, 97, 100, 32]⟩ : ByteArray) ++ a0] : List ByteArray)) (inner := [.string ((⟨#[115, 97, 99, 114, 105, 115, 116, 121, 32, 104, 101, 97, 100, 32]⟩ : ByteArray) ++ a0)]) (ok := fun _ => True) (okp := fun _ => True) ?hr ?hp (fun _ hk => hk) trivial (Below.refl _ _) (Nat.le_refl _) (by simp) ?_; (case hd => rfl); (case hg => rfl); (case hr => first | (go_simp; done) | (go_simp; rfl)); (case hp => exact (Reps.one (show Kd.M Kd.string _ _ _ ((⟨#[115, 97, 99, 114, 105, 115, 116, 121, 32, 104, 101, 97, 100, 32]⟩ : ByteArray) ++ a0) [.string ((⟨#[115, 97, 99, 114, 105, 115, 116, 121, 32, 104, 101, 97, 100, 32]⟩ : ByteArray) ++ a0)] from rfl) (Reps.none _ _))); intro v128 w12 ho13 hb hg_ hnew_; clear hg_ hnew_; (first | rw [<- Ny127.out] at ho13 | (simp only [Int.reduceToNat] at ho13; rw [<- Ny127.out] at ho13)); have n0_ := Asd.mk (Kd.R_lower ho13 (below_size (by repeat (first | (with_reducible first | exact HB.out | apply bal | apply pbN | apply bd1) | exact HB.out)))); have n1_ := Asd.mk (below_step (by repeat (first | (with_reducible first | exact HB.out | apply bal | apply pbN | apply bd1) | exact HB.out)) hb); clear HB; have HO129 := n0_; have HB := n1_; clear n0_ n1_; clear hb ho13))
     go_loopg [6, 22] kj2 (fun kq v6 v22 w' => ∃ (x6_2 : List ByteArray) (x22_2 : Int), v22 = .int .i64 x22_2 /\ Asd (hello_Told.l0 kq x6_2 l1 (l1.length : Int) x22_2 = some (r1, r2)) /\ Asd (kq <= kj2) /\ Asd (Kd.R Kd.string 9 w' w.heap.size (fun _ => True) v6 x6_2) /\ Asd (Below w.heap.size w w'))
     case atStart => exact ⟨(y127), (0), (by first | rfl | (simp; done) | (simp [*]; done)), H', ⟨Nat.le_refl _⟩, ⟨by (with_reducible repeat (first | apply Kd.R_alloc | apply Kd.R_drewN | apply Kd.R_drew)); exact HO129.out⟩, ⟨by repeat (first | (with_reducible first | exact HB.out | apply bal | apply pbN | apply bd1) | exact HB.out)⟩⟩
     case round =>
      clear H'
      try clear c1
      try clear p2
      try clear c3
      try clear c5
      try clear c10
      try clear c11
      try clear c11b0
      try clear c11b1
      try clear c11b2
      try clear p2
      obtain ⟨x6_2, x22_2, rfl, HA, HK2, HO_6, HB⟩ := hrel
      cases gk with
      | zero => exact absurd HA.out (by simp [hello_Told.l0])
      | succ k2 =>
       have H := HA.out
       clear HA
       simp only [hello_Told.l0] at H
       by_cases c14 : x22_2 < (l1.length : Int)
       ·rw [if_pos c14] at H
        have c14b0 : decide (x22_2 < (l1.length : Int)) = true := decide_eq_true c14
        clear c14
        by_cases c15 : 0 <= x22_2
        ·rw [if_pos c15] at H
         have c15b0 : decide (0 <= x22_2) = true := decide_eq_true c15
         clear c15
         by_cases c16 : x22_2 < (l1.length : Int)
         ·rw [if_pos c16] at H
          have c16b0 : decide (x22_2 < (l1.length : Int)) = true := decide_eq_true c16
          clear c16
          by_cases c17 : ((rd_T73 l1 x22_2).f1).size + 1 <= 9223372036854775807
          ·rw [if_pos c17] at H
           have c17b0 := eq_true c17
           have c17b1 : decide (((rd_T73 l1 x22_2).f1).size + 1 <= 9223372036854775807) = true := decide_eq_true c17
           try have c17b2 : (9223372036854775807 < ((rd_T73 l1 x22_2).f1).size + 1) = False := eq_false (Nat.not_lt.2 c17)
           by_cases c18 : (((rd_T73 l1 x22_2).f1) ++ (⟨#[32]⟩ : ByteArray)).size + ((rd_T73 l1 x22_2).f0).size <= 9223372036854775807
           ·rw [if_pos c18] at H
            have c18b0 := eq_true c18
            have c18b1 : decide ((((rd_T73 l1 x22_2).f1) ++ (⟨#[32]⟩ : ByteArray)).size + ((rd_T73 l1 x22_2).f0).size <= 9223372036854775807) = true := decide_eq_true c18
            try have c18b2 : (9223372036854775807 < (((rd_T73 l1 x22_2).f1) ++ (⟨#[32]⟩ : ByteArray)).size + ((rd_T73 l1 x22_2).f0).size) = False := eq_false (Nat.not_lt.2 c18)
            try have c18b3 : (9223372036854775807 < ((rd_T73 l1 x22_2).f1).size + 1 + ((rd_T73 l1 x22_2).f0).size) = False := eq_false (Nat.not_lt.2 (by have e_ := c18; simp only [ByteArray.size_append] at e_; exact e_))
            by_cases c19 : x6_2.length < 8796093022208
            ·rw [if_pos c19] at H
             have LMc19 := Asd.mk c19
             clear c19
             obtain ⟨y132, hy132⟩ : ∃ y_ : List ByteArray, y_ = (x6_2 ++ [(((rd_T73 l1 x22_2).f1) ++ (⟨#[32]⟩ : ByteArray)) ++ ((rd_T73 l1 x22_2).f0)]) := ⟨_, rfl⟩
             replace H : (hello_Told.l0 k2 y132 l1 (l1.length : Int) (wrap64 (x22_2 + 1))) = some (r1, r2) := by first | (rw [hy132]; with_reducible exact H) | (have H2_ := (Option.bind_some _ _).symm.trans H; rw [hy132]; with_reducible exact H2_) | (have H2_ := (Option.bind_some _ _).symm.trans H; with_reducible exact H2_) | with_reducible exact H | (rw [hy132]; exact H) | exact H
             have Ny132 := Asd.mk hy132
             clear hy132
             have H' := Asd.mk H
             clear H
             have p130 : 0 <= (x22_2 : Int) := of_decide_eq_true (by first | (with_reducible assumption) | assumption)
             have q130 : x22_2 < (l1.length : Int) := of_decide_eq_true (by first | (with_reducible assumption) | assumption)
             obtain ⟨ad130, e130, hx130_0, hx130_1⟩ := at_T73 HR1.out x22_2 p130 q130
             cases e130
             replace hx130_0 := (HB.out.cell (World.block_lt_of_cell? w _ hx130_0)).trans hx130_0
             replace hx130_1 := (HB.out.cell (World.block_lt_of_cell? w _ hx130_1)).trans hx130_1
             replace p130 := eq_true p130
             replace q130 := eq_true q130
             go_wp2_with (first | ((with_reducible refine gate_dst (N := 8) rfl ?_); refine box_event ?hg (N := 8) ?hd (cs := #[.string (⟨#[]⟩ : ByteArray), .string (⟨#[]⟩ : ByteArray)]) (t := 73) ?hr ?_; (case hd => rfl); (case hg => rfl); (case hr => first | (go_simp; done) | (go_simp; rfl)); intro gb131 hg w20 hbox hb; have n0_ := Asd.mk (Kd.R_below (by (with_reducible repeat (first | apply Kd.R_alloc | apply Kd.R_drewN | apply Kd.R_drew)); exact HO_6.out) hb); have n1_ := Asd.mk (below_step (by repeat (first | (with_reducible first | exact HB.out | apply bal | apply pbN | apply bd1) | exact HB.out)) hb); have n2_ := Asd.mk (hbox); have n3_ := Asd.mk ((by rw [hg]; exact (below_size (by repeat (first | (with_reducible first | exact HB.out | apply bal | apply pbN | apply bd1) | exact HB.out))) : w.heap.size <= gb131)); have n4_ := Asd.mk ((by rw [hg]; exact (below_size (by repeat (first | (with_reducible first | exact HB.out | apply bal | apply pbN | apply bd1) | exact HB.out))) : w.heap.size <= gb131)); clear HO_6; clear HB; have HO_6 := n0_; have HB := n1_; have BK131 := n2_; have GW131 := n3_; have GE131 := n4_; clear n0_ n1_ n2_ n3_ n4_; clear hb hbox hg; have hcz21_0 : w20.cell? ⟨gb131, 0, none⟩ = some (.string (⟨#[]⟩ : ByteArray)) := (blk_cell BK131.out 0).trans rfl; have hcz21_1 : w20.cell? ⟨gb131, 1, none⟩ = some (.string (⟨#[]⟩ : ByteArray)) := (blk_cell BK131.out 1).trans rfl; have hfz21_0 := blk_frozen BK131.out 0; have hfz21_1 := blk_frozen BK131.out 1) | ((with_reducible refine gate_builtin (b := .append) (xs := #[.tmp 26, .tmp 33]) rfl ?_); at_builtin; refine Kd.R_append Kd.string (w0 := w) w.heap.size rfl (.tmp 26) (.tmp 33) 38 9 (.string ⟨#[]⟩) 16 rfl Tryz.underlying38 info9 rfl (by decide) (by omega) u6 x6_2 ((((rd_T73 l1 x22_2).f1) ++ (⟨#[32]⟩ : ByteArray)) ++ ((rd_T73 l1 x22_2).f0)) [.string ((((rd_T73 l1 x22_2).f1) ++ (⟨#[32]⟩ : ByteArray)) ++ ((rd_T73 l1 x22_2).f0))] (fun _ => True) (fun _ => False) rfl (by first | (go_simp; done) | (go_simp; rfl)) ?aP (fun _ hk => hk.elim) ?aF ?aO ?aB ?aS ?aL ?_; (case aP => exact rfl); (case aB => exact (by repeat (first | (with_reducible first | exact HB.out | apply bal | apply pbN | apply bd1 | refine below_set ?_ GE131.out) | exact HB.out))); (case aF => exact (fun _ _ => trivial)); (case aO => exact (by (with_reducible repeat (first | apply Kd.R_alloc | apply Kd.R_drewN | apply Kd.R_drew)); exact Kd.R_mono (Kd.R_far (p := ⟨gb131, 1, none⟩) (Kd.R_far (p := ⟨gb131, 0, none⟩) (Kd.R_types HO_6.out BK131.out (by decide)) (fun _ hk => hk.2) (.string ((rd_T73 l1 x22_2).f0))) (fun _ hk => hk.2) (.string ((rd_T73 l1 x22_2).f1))) (fun _ hk => trivial))); (case aS => exact (below_size (by repeat (first | (with_reducible first | exact HB.out | apply bal | apply pbN | apply bd1 | refine below_set ?_ GE131.out) | exact HB.out)))); (case aL => have := LMc19.out; omega); intro v133 w22 ho hb hg hat; rw [<- Ny132.out] at ho; have n0_ := Asd.mk (blk_grown (g := gb131) (o := .cells #[.string ((rd_T73 l1 x22_2).f0), .string ((rd_T73 l1 x22_2).f1)] 73 (0, 0)) (by (with_reducible repeat (first | refine blk_drewN ?_ _ | refine blk_drew ?_ | refine blk_alloc ?_ _)); refine blk_put (cs := #[.string ((rd_T73 l1 x22_2).f0), .string (⟨#[]⟩ : ByteArray)]) ?_ 1 _ rfl; (with_reducible repeat (first | refine blk_drewN ?_ _ | refine blk_drew ?_ | refine blk_alloc ?_ _)); refine blk_put (cs := #[.string (⟨#[]⟩ : ByteArray), .string (⟨#[]⟩ : ByteArray)]) ?_ 0 _ rfl; (with_reducible repeat (first | refine blk_drewN ?_ _ | refine blk_drew ?_ | refine blk_alloc ?_ _)); exact BK131.out) hg (Kd.R_ne HO_6.out BK131.out (by decide))); have n1_ := Asd.mk (hb); have n2_ := Asd.mk (ho); clear BK131; clear HB; clear HO_6; have BK131 := n0_; have HB := n1_; have HO134 := n2_; clear n0_ n1_ n2_; clear ho hb hg hat))
             go_roundg k2
             case measure => have := HJ2.out; have := HK2.out; omega
             case rel => exact ⟨(y132), (wrap64 (x22_2 + 1)), (by first | rfl | (simp; done) | (simp [*]; done)), H', ⟨by have := HJ2.out; have := HK2.out; omega⟩, ⟨by (with_reducible repeat (first | apply Kd.R_alloc | apply Kd.R_drewN | apply Kd.R_drew)); exact HO134.out⟩, ⟨by repeat (first | (with_reducible first | exact HB.out | apply bal | apply pbN | apply bd1 | refine below_set ?_ GE131.out) | exact HB.out)⟩⟩
            ·rw [if_neg c19] at H
             exact absurd H (by simp)
           ·rw [if_neg c18] at H
            exact absurd H (by simp)
          ·rw [if_neg c17] at H
           exact absurd H (by simp)
         ·rw [if_neg c16] at H
          exact absurd H (by simp)
        ·rw [if_neg c15] at H
         exact absurd H (by simp)
       ·rw [if_neg c14] at H
        have c14b0 : decide (x22_2 < (l1.length : Int)) = false := decide_eq_false c14
        clear c14
        replace H := Option.bind_eq_some_iff.mp H
        obtain ⟨t135, A230, H⟩ := H
        replace H : (some (t135, true)) = some (r1, r2) := H
        have A23 := Asd.mk A230
        clear A230
        simp only [Option.some.injEq, Prod.mk.injEq] at H
        obtain ⟨rfl, rfl⟩ := H
        obtain ⟨Ao24, co24, eo24⟩ := Kd.R_slice HO_6.out
        subst eo24
        go_wp2_with (first | ((with_reducible refine gate_callee (f := 36) rfl ?_); refine goesL_ (some 37) rfl rfl Tryz.func36 (by kernel_rfl) rfl #[.slice Ao24 x6_2.length co24] rfl (by (try simp only [List.map_toArray, List.map_cons, List.map_nil]); first | done | rfl | (simp only [List.length_drop, List.length_take]; rfl)) ?_; (with_reducible refine (hello_ended.calls k2 _ _ x6_2 t135 _ ?side1 ?side2 A23.out).mono ?_); (case side1 => repeat (first | exact (Kd.R_reads' HO_6.out).2.2 | (with_reducible refine Kd.C_alloc ?_ _) | (with_reducible refine Kd.C_drewN ?_ _) | (with_reducible refine Kd.C_drew ?_))); (case side2 => exact (Kd.R_reads' HO_6.out).2.1); rintro e w25 ⟨v136, rfl, ho0, hb⟩; refine ⟨_, rfl, ?_⟩; have n0_ := Asd.mk (Kd.R_below (by (with_reducible repeat (first | apply Kd.R_alloc | apply Kd.R_drewN | apply Kd.R_drew)); exact HO_6.out) hb); have n1_ := Asd.mk (Kd.R_lower ho0 (below_size (by repeat (first | (with_reducible first | exact HB.out | apply bal | apply pbN | apply bd1) | exact HB.out)))); have n2_ := Asd.mk (below_step (by repeat (first | (with_reducible first | exact HB.out | apply bal | apply pbN | apply bd1) | exact HB.out)) hb); clear HO_6; clear HB; have HO_6 := n0_; have HO137 := n1_; have HB := n2_; clear n0_ n1_ n2_; (try clear hb); (try clear hb2); (try clear hk); (try clear hi); (try clear ho0)))
        go_ret2
        exact ⟨_, by first | rfl | (simp [errW_none, errW_some] <;> rfl) | (simp [*, errW_none, errW_some] <;> rfl), by (with_reducible repeat (first | apply Kd.R_alloc | apply Kd.R_drewN | apply Kd.R_drew)); exact HO137.out, by repeat (first | (with_reducible first | exact HB.out | apply bal | apply pbN | apply bd1) | exact HB.out)⟩
    ·rw [if_neg c11] at H
     exact absurd H (by simp)
mutual
def line_Put.l0 : Nat -> List Int -> List (S65) -> Int -> Int -> Option (List Int × Int)
 | 0, _, _, _, _ => none
 | k + 1, x4, x9, x10, x11 => if x11 < x10 then (if 0 <= x11 then (if x11 < (x9.length : Int) then (if (((rd_T65 x9 x11).f0) != ((((rd_T65 x9 x11).f1).size : Int) == 0)) = true then (line_Put.j1 k x4 (((rd_T65 x9 x11).f1).size : Int) x9 x10 x11 true ((rd_T65 x9 x11).f0) ((rd_T65 x9 x11).f1)) else (line_Put.j1 k x4 (((rd_T65 x9 x11).f1).size : Int) x9 x10 x11 (decide ((((rd_T65 x9 x11).f1).size : Int) > 4000)) ((rd_T65 x9 x11).f0) ((rd_T65 x9 x11).f1))) else (none)) else (none)) else (some (x4, 0))
def line_Put.j1 : Nat -> List Int -> Int -> List (S65) -> Int -> Int -> Bool -> Bool -> ByteArray -> Option (List Int × Int)
 | 0, _, _, _, _, _, _, _, _ => none
 | k + 1, x4, x7, x9, x10, x11, x26, x140000, x140001 => if x26 = true then (some (([] : List Int), 1)) else (if x140000 = true then (line_Put.j2 k x4 x7 x9 x10 x11 x140000 x140001) else (line_Put.j2 k x4 (wrap64 (x7 + 4)) x9 x10 x11 x140000 x140001))
def line_Put.j2 : Nat -> List Int -> Int -> List (S65) -> Int -> Int -> Bool -> ByteArray -> Option (List Int × Int)
 | 0, _, _, _, _, _, _, _ => none
 | k + 1, x4, x7, x9, x10, x11, x140000, x140001 => line_Put.l1 k x4 x7 x9 x10 x11 0 x140000 x140001
def line_Put.l1 : Nat -> List Int -> Int -> List (S65) -> Int -> Int -> Int -> Bool -> ByteArray -> Option (List Int × Int)
 | 0, _, _, _, _, _, _, _, _ => none
 | k + 1, x4, x7, x9, x10, x11, x32, x140000, x140001 => if x32 < 4 then (if 0 <= (wrap64 (12 - (wrap64 (4 * x32)))) then (if 0 <= (Go.bits .and .i64 (shr .i64 x7 (wrap64 (12 - (wrap64 (4 * x32))))) 15) then (if (Go.bits .and .i64 (shr .i64 x7 (wrap64 (12 - (wrap64 (4 * x32))))) 15) < 16 then (if x4.length < 140737488355328 then (line_Put.l1 k (x4 ++ [bt (⟨#[48, 49, 50, 51, 52, 53, 54, 55, 56, 57, 97, 98, 99, 100, 101, 102]⟩ : ByteArray) (Go.bits .and .i64 (shr .i64 x7 (wrap64 (12 - (wrap64 (4 * x32))))) 15)]) x7 x9 x10 x11 (wrap64 (x32 + 1)) x140000 x140001) else (none)) else (none)) else (none)) else (none)) else (if x4.length + x140001.size < 140737488355328 then (line_Put.l0 k (x4 ++ bytesOf x140001) x9 x10 (wrap64 (x11 + 1))) else (none))
end
def line_Put.f (k : Nat) (l0 : List (S65)) : Option (List Int × Int) := line_Put.l0 k ([] : List Int) l0 (l0.length : Int) 0
set_option maxHeartbeats 8000000 in
set_option maxRecDepth 100000 in
theorem line_Put.calls (k : Nat) (A0 : Option Addr) (c0 : Nat) (l0 : List (S65)) (r1 : List Int) (r2 : Int) (w : World) (hr0 : Kd.C k65 w A0 l0.length l0) (hc0 : l0.length <= c0) (h : line_Put.f k l0 = some (r1, r2)) :
  Calls Tryz.prog 20 #[.slice A0 l0.length c0] w fun e w' => ∃ v0_ : Value, e = .returned (.tuple #[v0_, .int .i64 r2]) /\ Kd.R (Kd.int .u8) 5 w' w.heap.size (fun _ => True) v0_ r1 /\ Below w.heap.size w w' := by
 have hu65 := Tryz.underlying65
 have HR0 := Asd.mk hr0
 have HC0 := Asd.mk hc0
 clear hr0 hc0
 have HB := Asd.mk (Below.refl w.heap.size w)
 have H : (line_Put.l0 k ([] : List Int) l0 (l0.length : Int) 0) = some (r1, r2) := h
 clear h
 have H' := Asd.mk H
 clear H
 go_enter Tryz.func20, Tryz.ntmps20
 go_wp2
 go_loopg [4, 11] k (fun kq v4 v11 w' => ∃ (x4_1 : List Int) (x11_1 : Int), v11 = .int .i64 x11_1 /\ Asd (line_Put.l0 kq x4_1 l0 (l0.length : Int) x11_1 = some (r1, r2)) /\ Asd (kq <= k) /\ Asd (Kd.R (Kd.int .u8) 5 w' w.heap.size (fun _ => True) v4 x4_1) /\ Asd (Below w.heap.size w w'))
 case atStart => exact ⟨(([] : List Int)), (0), (by first | rfl | (simp; done) | (simp [*]; done)), H', ⟨Nat.le_refl _⟩, ⟨by first | exact Kd.R_nil _ _ _ _ _ | exact Kd.N_nil _ _ _ _ _ | exact Kd.V_nil _ _ _ _ _ | exact Kd.Q_nil _ _ _ _ _ | exact Kd.S_nil _ _ _ _ _⟩, ⟨by repeat (first | (with_reducible first | exact HB.out | apply bal | apply pbN | apply bd1) | exact HB.out)⟩⟩
 case round =>
  clear H'
  obtain ⟨x4_1, x11_1, rfl, HA, HK1, HO_4, HB⟩ := hrel
  cases gk with
  | zero => exact absurd HA.out (by simp [line_Put.l0])
  | succ k1 =>
   have H := HA.out
   clear HA
   simp only [line_Put.l0] at H
   by_cases c2 : x11_1 < (l0.length : Int)
   ·rw [if_pos c2] at H
    have c2b0 : decide (x11_1 < (l0.length : Int)) = true := decide_eq_true c2
    clear c2
    by_cases c3 : 0 <= x11_1
    ·rw [if_pos c3] at H
     have c3b0 : decide (0 <= x11_1) = true := decide_eq_true c3
     clear c3
     by_cases c4 : x11_1 < (l0.length : Int)
     ·rw [if_pos c4] at H
      have c4b0 : decide (x11_1 < (l0.length : Int)) = true := decide_eq_true c4
      clear c4
      have HC5 := Asd.mk H
      clear H
      have p138 : 0 <= (x11_1 : Int) := of_decide_eq_true (by first | (with_reducible assumption) | assumption)
      have q138 : x11_1 < (l0.length : Int) := of_decide_eq_true (by first | (with_reducible assumption) | assumption)
      obtain ⟨ad138, e138, hx138_0, hx138_1⟩ := at_T65 HR0.out x11_1 p138 q138
      cases e138
      replace hx138_0 := (HB.out.cell (World.block_lt_of_cell? w _ hx138_0)).trans hx138_0
      replace hx138_1 := (HB.out.cell (World.block_lt_of_cell? w _ hx138_1)).trans hx138_1
      replace p138 := eq_true p138
      replace q138 := eq_true q138
      go_upto_region 6 with (first | ((with_reducible refine gate_dst (N := 6) rfl ?_); refine box_event ?hg (N := 6) ?hd (cs := #[.bool false, .string (⟨#[]⟩ : ByteArray)]) (t := 65) ?hr ?_; (case hd => rfl); (case hg => rfl); (case hr => first | (go_simp; done) | (go_simp; rfl)); intro gb139 hg w6 hbox hb; have n0_ := Asd.mk (Kd.R_below (by (with_reducible repeat (first | apply Kd.R_alloc | apply Kd.R_drewN | apply Kd.R_drew)); exact HO_4.out) hb); have n1_ := Asd.mk (below_step (by repeat (first | (with_reducible first | exact HB.out | apply bal | apply pbN | apply bd1) | exact HB.out)) hb); have n2_ := Asd.mk (hbox); have n3_ := Asd.mk ((by rw [hg]; exact (below_size (by repeat (first | (with_reducible first | exact HB.out | apply bal | apply pbN | apply bd1) | exact HB.out))) : w.heap.size <= gb139)); have n4_ := Asd.mk ((by rw [hg]; exact (below_size (by repeat (first | (with_reducible first | exact HB.out | apply bal | apply pbN | apply bd1) | exact HB.out))) : w.heap.size <= gb139)); clear HO_4; clear HB; have HO_4 := n0_; have HB := n1_; have BK139 := n2_; have GW139 := n3_; have GE139 := n4_; clear n0_ n1_ n2_ n3_ n4_; clear hb hbox hg; have hcz7_0 : w6.cell? ⟨gb139, 0, none⟩ = some (.bool false) := (blk_cell BK139.out 0).trans rfl; have hcz7_1 : w6.cell? ⟨gb139, 1, none⟩ = some (.string (⟨#[]⟩ : ByteArray)) := (blk_cell BK139.out 1).trans rfl; have hfz7_0 := blk_frozen BK139.out 0; have hfz7_1 := blk_frozen BK139.out 1))
      (try simp only [Act.put, zA, zB, zC])
      go_cut [26] (fun v26 wc => ∃ (kq : Nat) (x26_4 : Bool), v26 = .bool x26_4 /\ Asd (line_Put.j1 kq x4_1 (((rd_T65 l0 x11_1).f1).size : Int) l0 (l0.length : Int) x11_1 x26_4 ((rd_T65 l0 x11_1).f0) ((rd_T65 l0 x11_1).f1) = some (r1, r2)) /\ Asd (kq <= k1) /\ Asd (Kd.R (Kd.int .u8) 5 wc w.heap.size (fun _ => True) u4 x4_1) /\ Asd (wc.heap[gb139]? = some (.cells #[.bool ((rd_T65 l0 x11_1).f0), .string ((rd_T65 l0 x11_1).f1)] 65 (0, 0))) /\ Asd (Below w.heap.size w wc))
      case first =>
       have H := HC5.out
       clear HC5
       by_cases c8 : (((rd_T65 l0 x11_1).f0) != ((((rd_T65 l0 x11_1).f1).size : Int) == 0)) = true
       ·rw [if_pos c8] at H
        have c8b0 : (((rd_T65 l0 x11_1).f0) != ((((rd_T65 l0 x11_1).f1).size : Int) == 0)) = true := c8
        (try (have c8b1 : decide (((rd_T65 l0 x11_1).f0) = ((((rd_T65 l0 x11_1).f1).size : Int) == 0)) = false := by simpa using c8))
        (try (have c8b2 : (((rd_T65 l0 x11_1).f0) == ((((rd_T65 l0 x11_1).f1).size : Int) == 0)) = false := by simpa using c8))
        (try (have c8b3 : ¬ (((rd_T65 l0 x11_1).f0) = ((((rd_T65 l0 x11_1).f1).size : Int) == 0)) := by simpa using c8))
        clear c8
        (first | rw [c8b0] | (simp only [i64_w, i32_w]; rw [c8b0]) | skip)
        have H' := Asd.mk H
        clear H
        have hcz9_0 : w6.cell? ⟨gb139, 0, none⟩ = some (.bool false) := (blk_cell BK139.out 0).trans rfl
        have hcz9_1 : w6.cell? ⟨gb139, 1, none⟩ = some (.string (⟨#[]⟩ : ByteArray)) := (blk_cell BK139.out 1).trans rfl
        have hfz9_0 := blk_frozen BK139.out 0
        have hfz9_1 := blk_frozen BK139.out 1
        go_wp2
        go_meet
        case rel => exact ⟨_, (true), (by first | rfl | (simp; done) | (simp [*]; done)), H', ⟨by have := HK1.out; first | omega | exact Nat.le_refl _⟩, ⟨by (with_reducible repeat (first | apply Kd.R_alloc | apply Kd.R_drewN | apply Kd.R_drew)); exact Kd.R_mono (Kd.R_far (p := ⟨gb139, 1, none⟩) (Kd.R_far (p := ⟨gb139, 0, none⟩) (Kd.R_types HO_4.out BK139.out (by decide)) (fun _ hk => hk.2) (.bool ((rd_T65 l0 x11_1).f0))) (fun _ hk => hk.2) (.string ((rd_T65 l0 x11_1).f1))) (fun _ hk => trivial)⟩, ⟨by (with_reducible repeat (first | refine blk_drewN ?_ _ | refine blk_drew ?_ | refine blk_alloc ?_ _)); refine blk_put (cs := #[.bool ((rd_T65 l0 x11_1).f0), .string (⟨#[]⟩ : ByteArray)]) ?_ 1 _ rfl; (with_reducible repeat (first | refine blk_drewN ?_ _ | refine blk_drew ?_ | refine blk_alloc ?_ _)); refine blk_put (cs := #[.bool false, .string (⟨#[]⟩ : ByteArray)]) ?_ 0 _ rfl; (with_reducible repeat (first | refine blk_drewN ?_ _ | refine blk_drew ?_ | refine blk_alloc ?_ _)); exact BK139.out⟩, ⟨by repeat (first | (with_reducible first | exact HB.out | apply bal | apply pbN | apply bd1 | refine below_set ?_ GE139.out) | exact HB.out)⟩⟩
       ·rw [if_neg c8] at H
        have c8b0 : (((rd_T65 l0 x11_1).f0) != ((((rd_T65 l0 x11_1).f1).size : Int) == 0)) = false := by simpa using c8
        (try (have c8b1 : decide (((rd_T65 l0 x11_1).f0) = ((((rd_T65 l0 x11_1).f1).size : Int) == 0)) = true := by simpa using c8))
        (try (have c8b2 : (((rd_T65 l0 x11_1).f0) == ((((rd_T65 l0 x11_1).f1).size : Int) == 0)) = true := by simpa using c8))
        clear c8
        (first | rw [c8b0] | (simp only [i64_w, i32_w]; rw [c8b0]) | skip)
        have H' := Asd.mk H
        clear H
        have hcz10_0 : w6.cell? ⟨gb139, 0, none⟩ = some (.bool false) := (blk_cell BK139.out 0).trans rfl
        have hcz10_1 : w6.cell? ⟨gb139, 1, none⟩ = some (.string (⟨#[]⟩ : ByteArray)) := (blk_cell BK139.out 1).trans rfl
        have hfz10_0 := blk_frozen BK139.out 0
        have hfz10_1 := blk_frozen BK139.out 1
        go_wp2
        go_meet
        case rel => exact ⟨_, (decide ((((rd_T65 l0 x11_1).f1).size : Int) > 4000)), (by first | rfl | (simp; done) | (simp [*]; done)), H', ⟨by have := HK1.out; first | omega | exact Nat.le_refl _⟩, ⟨by (with_reducible repeat (first | apply Kd.R_alloc | apply Kd.R_drewN | apply Kd.R_drew)); exact Kd.R_mono (Kd.R_far (p := ⟨gb139, 1, none⟩) (Kd.R_far (p := ⟨gb139, 0, none⟩) (Kd.R_types HO_4.out BK139.out (by decide)) (fun _ hk => hk.2) (.bool ((rd_T65 l0 x11_1).f0))) (fun _ hk => hk.2) (.string ((rd_T65 l0 x11_1).f1))) (fun _ hk => trivial)⟩, ⟨by (with_reducible repeat (first | refine blk_drewN ?_ _ | refine blk_drew ?_ | refine blk_alloc ?_ _)); refine blk_put (cs := #[.bool ((rd_T65 l0 x11_1).f0), .string (⟨#[]⟩ : ByteArray)]) ?_ 1 _ rfl; (with_reducible repeat (first | refine blk_drewN ?_ _ | refine blk_drew ?_ | refine blk_alloc ?_ _)); refine blk_put (cs := #[.bool false, .string (⟨#[]⟩ : ByteArray)]) ?_ 0 _ rfl; (with_reducible repeat (first | refine blk_drewN ?_ _ | refine blk_drew ?_ | refine blk_alloc ?_ _)); exact BK139.out⟩, ⟨by repeat (first | (with_reducible first | exact HB.out | apply bal | apply pbN | apply bd1 | refine below_set ?_ GE139.out) | exact HB.out)⟩⟩
      case rest =>
       clear HC5
       try clear p1
       try clear q1
       try clear hx1
       try clear c2
       try clear c2b0
       try clear p2
       try clear c3
       try clear c3b0
       try clear c4
       try clear c4b0
       try clear c8
       try clear c8b0
       try clear c8b1
       try clear c8b2
       try clear hcz10_0
       try clear hcz10_1
       try clear hcz7_0
       try clear hcz7_1
       try clear hcz9_0
       try clear hcz9_1
       try clear hfz10_0
       try clear hfz10_1
       try clear hfz7_0
       try clear hfz7_1
       try clear hfz9_0
       try clear hfz9_1
       try clear hx138_0
       try clear hx138_1
       try clear p138
       try clear q138
       obtain ⟨kq, x26_4, rfl, HA, HJ4, HO_4, BK139, HB⟩ := hcut
       cases kq with
       | zero => exact absurd HA.out (by simp [line_Put.j1])
       | succ kj4 =>
        have H := HA.out
        clear HA
        simp only [line_Put.j1] at H
        by_cases c11 : x26_4 = true
        ·subst c11
         have H1 : (some (([] : List Int), 1)) = some (r1, r2) := by rw [if_pos rfl] at H; exact H
         clear H
         have H := H1
         clear H1
         simp only [Option.some.injEq, Prod.mk.injEq] at H
         obtain ⟨rfl, rfl⟩ := H
         go_wp2
         go_ret2
         exact ⟨_, by first | rfl | (simp [errW_none, errW_some] <;> rfl) | (simp [*, errW_none, errW_some] <;> rfl), by first | exact Kd.R_nil _ _ _ _ _ | exact Kd.N_nil _ _ _ _ _ | exact Kd.V_nil _ _ _ _ _ | exact Kd.Q_nil _ _ _ _ _ | exact Kd.S_nil _ _ _ _ _, by repeat (first | (with_reducible first | exact HB.out | apply bal | apply pbN | apply bd1 | refine below_set ?_ GE139.out) | exact HB.out)⟩
        ·replace c11 := Bool.eq_false_iff.mpr c11
         subst c11
         have H1 : (if ((rd_T65 l0 x11_1).f0) = true then (line_Put.j2 kj4 x4_1 (((rd_T65 l0 x11_1).f1).size : Int) l0 (l0.length : Int) x11_1 ((rd_T65 l0 x11_1).f0) ((rd_T65 l0 x11_1).f1)) else (line_Put.j2 kj4 x4_1 (wrap64 ((((rd_T65 l0 x11_1).f1).size : Int) + 4)) l0 (l0.length : Int) x11_1 ((rd_T65 l0 x11_1).f0) ((rd_T65 l0 x11_1).f1))) = some (r1, r2) := by rw [if_neg (show ¬ (false = true) by decide)] at H; exact H
         clear H
         have H := H1
         clear H1
         have HC12 := Asd.mk H
         clear H
         have hcz13_0 : wc.cell? ⟨gb139, 0, none⟩ = some (.bool ((rd_T65 l0 x11_1).f0)) := (blk_cell BK139.out 0).trans rfl
         have hcz13_1 : wc.cell? ⟨gb139, 1, none⟩ = some (.string ((rd_T65 l0 x11_1).f1)) := (blk_cell BK139.out 1).trans rfl
         have hfz13_0 := blk_frozen BK139.out 0
         have hfz13_1 := blk_frozen BK139.out 1
         go_upto_if 29 with (fail)
         go_cut [7] (fun v7 wc => ∃ (kq : Nat) (x7_11 : Int), v7 = .int .i64 x7_11 /\ Asd (line_Put.j2 kq x4_1 x7_11 l0 (l0.length : Int) x11_1 ((rd_T65 l0 x11_1).f0) ((rd_T65 l0 x11_1).f1) = some (r1, r2)) /\ Asd (kq <= kj4) /\ Asd (Kd.R (Kd.int .u8) 5 wc w.heap.size (fun _ => True) u4 x4_1) /\ Asd (wc.heap[gb139]? = some (.cells #[.bool ((rd_T65 l0 x11_1).f0), .string ((rd_T65 l0 x11_1).f1)] 65 (0, 0))) /\ Asd (Below w.heap.size w wc))
         case first =>
          have H := HC12.out
          clear HC12
          by_cases c14 : ((rd_T65 l0 x11_1).f0) = true
          ·rw [if_pos c14] at H
           have c14b0 : ((rd_T65 l0 x11_1).f0) = true := c14
           clear c14
           (first | rw [c14b0] | (simp only [i64_w, i32_w]; rw [c14b0]) | skip)
           have H' := Asd.mk H
           clear H
           go_wp2
           go_meet
           case rel => exact ⟨_, ((((rd_T65 l0 x11_1).f1).size : Int)), (by first | rfl | (simp; done) | (simp [*]; done)), H', ⟨by have := HK1.out; have := HJ4.out; first | omega | exact Nat.le_refl _⟩, ⟨by (with_reducible repeat (first | apply Kd.R_alloc | apply Kd.R_drewN | apply Kd.R_drew)); exact HO_4.out⟩, ⟨by (with_reducible repeat (first | refine blk_drewN ?_ _ | refine blk_drew ?_ | refine blk_alloc ?_ _)); exact BK139.out⟩, ⟨by repeat (first | (with_reducible first | exact HB.out | apply bal | apply pbN | apply bd1 | refine below_set ?_ GE139.out) | exact HB.out)⟩⟩
          ·rw [if_neg c14] at H
           have c14b0 : ((rd_T65 l0 x11_1).f0) = false := by simpa using c14
           clear c14
           (first | rw [c14b0] | (simp only [i64_w, i32_w]; rw [c14b0]) | skip)
           have H' := Asd.mk H
           clear H
           go_wp2
           go_meet
           case rel => exact ⟨_, (wrap64 ((((rd_T65 l0 x11_1).f1).size : Int) + 4)), (by first | rfl | (simp; done) | (simp [*]; done)), H', ⟨by have := HK1.out; have := HJ4.out; first | omega | exact Nat.le_refl _⟩, ⟨by (with_reducible repeat (first | apply Kd.R_alloc | apply Kd.R_drewN | apply Kd.R_drew)); exact HO_4.out⟩, ⟨by (with_reducible repeat (first | refine blk_drewN ?_ _ | refine blk_drew ?_ | refine blk_alloc ?_ _)); exact BK139.out⟩, ⟨by repeat (first | (with_reducible first | exact HB.out | apply bal | apply pbN | apply bd1 | refine below_set ?_ GE139.out) | exact HB.out)⟩⟩
         case rest =>
          clear HC12
          try clear c1
          try clear p1
          try clear q1
          try clear hx1
          try clear c2
          try clear c2b0
          try clear p2
          try clear c3
          try clear c3b0
          try clear c4
          try clear c4b0
          try clear p6
          try clear c8
          try clear c8b0
          try clear c8b1
          try clear c8b2
          try clear c11
          try clear p13
          try clear q13
          try clear hx13
          try clear c14
          try clear c14b0
          try clear hcz10_0
          try clear hcz10_1
          try clear hcz13_0
          try clear hcz13_1
          try clear hcz7_0
          try clear hcz7_1
          try clear hcz9_0
          try clear hcz9_1
          try clear hfz10_0
          try clear hfz10_1
          try clear hfz13_0
          try clear hfz13_1
          try clear hfz7_0
          try clear hfz7_1
          try clear hfz9_0
          try clear hfz9_1
          try clear hx138_0
          try clear hx138_1
          try clear p1
          try clear p138
          try clear p2
          try clear q1
          try clear q138
          obtain ⟨kq, x7_11, rfl, HA, HJ11, HO_4, BK139, HB⟩ := hcut
          cases kq with
          | zero => exact absurd HA.out (by simp [line_Put.j2])
          | succ kj11 =>
           have H := HA.out
           clear HA
           simp only [line_Put.j2] at H
           have H' := Asd.mk H
           clear H
           go_wp2
           go_loopg [4, 32] kj11 (fun kq v4 v32 w' => ∃ (x4_4 : List Int) (x32_4 : Int), v32 = .int .i64 x32_4 /\ Asd (line_Put.l1 kq x4_4 x7_11 l0 (l0.length : Int) x11_1 x32_4 ((rd_T65 l0 x11_1).f0) ((rd_T65 l0 x11_1).f1) = some (r1, r2)) /\ Asd (kq <= kj11) /\ Asd (Kd.R (Kd.int .u8) 5 w' w.heap.size (fun _ => True) v4 x4_4) /\ Asd (w'.heap[gb139]? = some (.cells #[.bool ((rd_T65 l0 x11_1).f0), .string ((rd_T65 l0 x11_1).f1)] 65 (0, 0))) /\ Asd (Below w.heap.size w w'))
           case atStart => exact ⟨(x4_1), (0), (by first | rfl | (simp; done) | (simp [*]; done)), H', ⟨Nat.le_refl _⟩, ⟨by (with_reducible repeat (first | apply Kd.R_alloc | apply Kd.R_drewN | apply Kd.R_drew)); exact HO_4.out⟩, ⟨by (with_reducible repeat (first | refine blk_drewN ?_ _ | refine blk_drew ?_ | refine blk_alloc ?_ _)); exact BK139.out⟩, ⟨by repeat (first | (with_reducible first | exact HB.out | apply bal | apply pbN | apply bd1 | refine below_set ?_ GE139.out) | exact HB.out)⟩⟩
           case round =>
            clear H'
            try clear c1
            try clear p1
            try clear q1
            try clear hx1
            try clear c2
            try clear c2b0
            try clear p2
            try clear c3
            try clear c3b0
            try clear c4
            try clear c4b0
            try clear p6
            try clear c8
            try clear c8b0
            try clear c8b1
            try clear c8b2
            try clear c11
            try clear p13
            try clear q13
            try clear hx13
            try clear c14
            try clear c14b0
            try clear hcz10_0
            try clear hcz10_1
            try clear hcz13_0
            try clear hcz13_1
            try clear hcz7_0
            try clear hcz7_1
            try clear hcz9_0
            try clear hcz9_1
            try clear hfz10_0
            try clear hfz10_1
            try clear hfz13_0
            try clear hfz13_1
            try clear hfz7_0
            try clear hfz7_1
            try clear hfz9_0
            try clear hfz9_1
            try clear hx138_0
            try clear hx138_1
            try clear p1
            try clear p13
            try clear p138
            try clear p2
            try clear p6
            try clear q1
            try clear q13
            try clear q138
            obtain ⟨x4_4, x32_4, rfl, HA, HK4, HO_4, BK139, HB⟩ := hrel
            cases gk with
            | zero => exact absurd HA.out (by simp [line_Put.l1])
            | succ k4 =>
             have H := HA.out
             clear HA
             simp only [line_Put.l1] at H
             by_cases c15 : x32_4 < 4
             ·rw [if_pos c15] at H
              have c15b0 : decide (x32_4 < 4) = true := decide_eq_true c15
              clear c15
              obtain ⟨ji16, hji16⟩ : ∃ j_ : Int, (wrap64 (12 - (wrap64 (4 * x32_4)))) = j_ := ⟨_, rfl⟩
              replace H : (if 0 <= (ji16) then (if 0 <= (Go.bits .and .i64 (shr .i64 x7_11 (ji16)) 15) then (if (Go.bits .and .i64 (shr .i64 x7_11 (ji16)) 15) < 16 then (if x4_4.length < 140737488355328 then (line_Put.l1 k4 (x4_4 ++ [bt (⟨#[48, 49, 50, 51, 52, 53, 54, 55, 56, 57, 97, 98, 99, 100, 101, 102]⟩ : ByteArray) (Go.bits .and .i64 (shr .i64 x7_11 (ji16)) 15)]) x7_11 l0 (l0.length : Int) x11_1 (wrap64 (x32_4 + 1)) ((rd_T65 l0 x11_1).f0) ((rd_T65 l0 x11_1).f1)) else (none)) else (none)) else (none)) else (none)) = some (r1, r2) := by first | (rw [hji16] at H; exact H) | (simp only [hji16] at H ⊢; exact H)
              have hji16w : (IntKind.i64.wrap (12 - (wrap64 (4 * x32_4)))) = ji16 := (i64_w _).trans hji16
              by_cases c17 : 0 <= (ji16)
              ·rw [if_pos c17] at H
               have c17b0 := eq_true c17
               have c17b1 : decide (0 <= (ji16)) = true := decide_eq_true c17
               clear c17
               obtain ⟨ji18, hji18⟩ : ∃ j_ : Int, (shr .i64 x7_11 (ji16)) = j_ := ⟨_, rfl⟩
               replace H : (if 0 <= (Go.bits .and .i64 (ji18) 15) then (if (Go.bits .and .i64 (ji18) 15) < 16 then (if x4_4.length < 140737488355328 then (line_Put.l1 k4 (x4_4 ++ [bt (⟨#[48, 49, 50, 51, 52, 53, 54, 55, 56, 57, 97, 98, 99, 100, 101, 102]⟩ : ByteArray) (Go.bits .and .i64 (ji18) 15)]) x7_11 l0 (l0.length : Int) x11_1 (wrap64 (x32_4 + 1)) ((rd_T65 l0 x11_1).f0) ((rd_T65 l0 x11_1).f1)) else (none)) else (none)) else (none)) = some (r1, r2) := by first | (rw [hji18] at H; exact H) | (simp only [hji18] at H ⊢; exact H)
               have hji18_ : (x7_11 / 2 ^ min (ji16).toNat 64) = ji18 := hji18
               have hji18z : (ji16) <= 64 -> (x7_11 / 2 ^ (ji16).toNat) = ji18 := shr_small hji18
               by_cases c19 : 0 <= (Go.bits .and .i64 (ji18) 15)
               ·rw [if_pos c19] at H
                have c19b0 : decide (0 <= (Go.bits .and .i64 (ji18) 15)) = true := decide_eq_true c19
                clear c19
                by_cases c20 : (Go.bits .and .i64 (ji18) 15) < 16
                ·rw [if_pos c20] at H
                 have c20b0 : decide ((Go.bits .and .i64 (ji18) 15) < 16) = true := decide_eq_true c20
                 clear c20
                 by_cases c22 : x4_4.length < 140737488355328
                 ·rw [if_pos c22] at H
                  have LMc22 := Asd.mk c22
                  clear c22
                  obtain ⟨y140, hy140⟩ : ∃ y_ : List Int, y_ = (x4_4 ++ [bt (⟨#[48, 49, 50, 51, 52, 53, 54, 55, 56, 57, 97, 98, 99, 100, 101, 102]⟩ : ByteArray) (Go.bits .and .i64 (ji18) 15)]) := ⟨_, rfl⟩
                  replace H : (line_Put.l1 k4 y140 x7_11 l0 (l0.length : Int) x11_1 (wrap64 (x32_4 + 1)) ((rd_T65 l0 x11_1).f0) ((rd_T65 l0 x11_1).f1)) = some (r1, r2) := by first | (rw [hy140]; with_reducible exact H) | (have H2_ := (Option.bind_some _ _).symm.trans H; rw [hy140]; with_reducible exact H2_) | (have H2_ := (Option.bind_some _ _).symm.trans H; with_reducible exact H2_) | with_reducible exact H | (rw [hy140]; exact H) | exact H
                  have Ny140 := Asd.mk hy140
                  clear hy140
                  have H' := Asd.mk H
                  clear H
                  have p21 : 0 <= ((Go.bits .and .i64 (ji18) 15) : Int) := of_decide_eq_true (by first | (with_reducible assumption) | assumption)
                  have q21 : (Go.bits .and .i64 (ji18) 15) < (16 : Int) := of_decide_eq_true (by first | (with_reducible assumption) | assumption)
                  have hx21 := bt_at (⟨#[48, 49, 50, 51, 52, 53, 54, 55, 56, 57, 97, 98, 99, 100, 101, 102]⟩ : ByteArray) (Go.bits .and .i64 (ji18) 15)
                  replace p21 := eq_true p21
                  replace q21 := eq_true q21
                  go_wp2_with (first | ((with_reducible refine gate_builtin (b := .append) (xs := #[.tmp 35, .tmp 43]) rfl ?_); at_builtin; refine Kd.R_append (Kd.int .u8) (w0 := w) w.heap.size rfl (.tmp 35) (.tmp 43) 22 5 (.int .u8 0) 1 rfl Tryz.underlying22 info5 rfl (by decide) (by omega) u4 x4_4 (bt (⟨#[48, 49, 50, 51, 52, 53, 54, 55, 56, 57, 97, 98, 99, 100, 101, 102]⟩ : ByteArray) (Go.bits .and .i64 (ji18) 15)) [.int .u8 (bt (⟨#[48, 49, 50, 51, 52, 53, 54, 55, 56, 57, 97, 98, 99, 100, 101, 102]⟩ : ByteArray) (Go.bits .and .i64 (ji18) 15))] (fun _ => True) (fun _ => False) rfl rfl ?aP (fun _ hk => hk.elim) ?aF ?aO ?aB ?aS ?aL ?_; (case aP => exact rfl); (case aB => exact (by repeat (first | (with_reducible first | exact HB.out | apply bal | apply pbN | apply bd1 | refine below_set ?_ GE139.out) | exact HB.out))); (case aF => exact (fun _ _ => trivial)); (case aO => exact (by (with_reducible repeat (first | apply Kd.R_alloc | apply Kd.R_drewN | apply Kd.R_drew)); exact HO_4.out)); (case aS => exact (below_size (by repeat (first | (with_reducible first | exact HB.out | apply bal | apply pbN | apply bd1 | refine below_set ?_ GE139.out) | exact HB.out)))); (case aL => have := LMc22.out; omega); intro v141 w23 ho hb hg hat; rw [<- Ny140.out] at ho; have n0_ := Asd.mk (blk_grown (g := gb139) (o := .cells #[.bool ((rd_T65 l0 x11_1).f0), .string ((rd_T65 l0 x11_1).f1)] 65 (0, 0)) (by (with_reducible repeat (first | refine blk_drewN ?_ _ | refine blk_drew ?_ | refine blk_alloc ?_ _)); exact BK139.out) hg (Kd.R_ne HO_4.out BK139.out (by decide))); have n1_ := Asd.mk (hb); have n2_ := Asd.mk (ho); clear BK139; clear HB; clear HO_4; have BK139 := n0_; have HB := n1_; have HO142 := n2_; clear n0_ n1_ n2_; clear ho hb hg hat))
                  go_roundg k4
                  case measure => have := HK1.out; have := HJ4.out; have := HJ11.out; have := HK4.out; omega
                  case rel => exact ⟨(y140), (wrap64 (x32_4 + 1)), (by first | rfl | (simp; done) | (simp [*]; done)), H', ⟨by have := HK1.out; have := HJ4.out; have := HJ11.out; have := HK4.out; omega⟩, ⟨by (with_reducible repeat (first | apply Kd.R_alloc | apply Kd.R_drewN | apply Kd.R_drew)); exact HO142.out⟩, ⟨by (with_reducible repeat (first | refine blk_drewN ?_ _ | refine blk_drew ?_ | refine blk_alloc ?_ _)); exact BK139.out⟩, ⟨by repeat (first | (with_reducible first | exact HB.out | apply bal | apply pbN | apply bd1 | refine below_set ?_ GE139.out) | exact HB.out)⟩⟩
                 ·rw [if_neg c22] at H
                  exact absurd H (by simp)
                ·rw [if_neg c20] at H
                 exact absurd H (by simp)
               ·rw [if_neg c19] at H
                exact absurd H (by simp)
              ·rw [if_neg c17] at H
               exact absurd H (by simp)
             ·rw [if_neg c15] at H
              have c15b0 : decide (x32_4 < 4) = false := decide_eq_false c15
              clear c15
              by_cases c24 : x4_4.length + ((rd_T65 l0 x11_1).f1).size < 140737488355328
              ·rw [if_pos c24] at H
               have LMc24 := Asd.mk c24
               clear c24
               obtain ⟨y143, hy143⟩ : ∃ y_ : List Int, y_ = (x4_4 ++ bytesOf ((rd_T65 l0 x11_1).f1)) := ⟨_, rfl⟩
               replace H : (line_Put.l0 k4 y143 l0 (l0.length : Int) (wrap64 (x11_1 + 1))) = some (r1, r2) := by first | (rw [hy143]; with_reducible exact H) | (have H2_ := (Option.bind_some _ _).symm.trans H; rw [hy143]; with_reducible exact H2_) | (have H2_ := (Option.bind_some _ _).symm.trans H; with_reducible exact H2_) | with_reducible exact H | (rw [hy143]; exact H) | exact H
               have Ny143 := Asd.mk hy143
               clear hy143
               have H' := Asd.mk H
               clear H
               have hcz25_0 : wr.cell? ⟨gb139, 0, none⟩ = some (.bool ((rd_T65 l0 x11_1).f0)) := (blk_cell BK139.out 0).trans rfl
               have hcz25_1 : wr.cell? ⟨gb139, 1, none⟩ = some (.string ((rd_T65 l0 x11_1).f1)) := (blk_cell BK139.out 1).trans rfl
               have hfz25_0 := blk_frozen BK139.out 0
               have hfz25_1 := blk_frozen BK139.out 1
               go_wp2_with (first | (at_builtin; refine print_append_str (w0 := w) w.heap.size rfl (.tmp 46) _ 22 9 5 rfl Tryz.underlying22 Tryz.underlying9 info5 u4 x4_4 ((rd_T65 l0 x11_1).f1) rfl rfl ?aO ?aB ?aS ?aL ?_; (case aB => exact (by repeat (first | (with_reducible first | exact HB.out | apply bal | apply pbN | apply bd1 | refine below_set ?_ GE139.out) | exact HB.out))); (case aO => exact (Kd.own_of_R (by (with_reducible repeat (first | apply Kd.R_alloc | apply Kd.R_drewN | apply Kd.R_drew)); exact HO_4.out))); (case aS => exact (below_size (by repeat (first | (with_reducible first | exact HB.out | apply bal | apply pbN | apply bd1 | refine below_set ?_ GE139.out) | exact HB.out)))); (case aL => have := LMc24.out; omega); intro v144 w26 ho0 hb hg; have ho := Kd.R_of_own (h1 := fun _ => rfl) (ok := fun _ => True) ho0 (fun _ _ => trivial); clear ho0; have hat := True.intro; rw [<- Ny143.out] at ho; change Kd.R (Kd.int .u8) 5 w26 w.heap.size (fun _ => True) v144 y143 at ho; have n0_ := Asd.mk (blk_grown (g := gb139) (o := .cells #[.bool ((rd_T65 l0 x11_1).f0), .string ((rd_T65 l0 x11_1).f1)] 65 (0, 0)) (by (with_reducible repeat (first | refine blk_drewN ?_ _ | refine blk_drew ?_ | refine blk_alloc ?_ _)); exact BK139.out) hg (Kd.R_ne HO_4.out BK139.out (by decide))); have n1_ := Asd.mk (hb); have n2_ := Asd.mk (ho); clear BK139; clear HB; clear HO_4; have BK139 := n0_; have HB := n1_; have HO145 := n2_; clear n0_ n1_ n2_; clear ho hb hg hat))
               go_roundg k4
               case measure => have := HK1.out; have := HJ4.out; have := HJ11.out; have := HK4.out; omega
               case rel => exact ⟨(y143), (wrap64 (x11_1 + 1)), (by first | rfl | (simp; done) | (simp [*]; done)), H', ⟨by have := HK1.out; have := HJ4.out; have := HJ11.out; have := HK4.out; omega⟩, ⟨by (with_reducible repeat (first | apply Kd.R_alloc | apply Kd.R_drewN | apply Kd.R_drew)); exact HO145.out⟩, ⟨by repeat (first | (with_reducible first | exact HB.out | apply bal | apply pbN | apply bd1 | refine below_set ?_ GE139.out) | exact HB.out)⟩⟩
              ·rw [if_neg c24] at H
               exact absurd H (by simp)
     ·rw [if_neg c4] at H
      exact absurd H (by simp)
    ·rw [if_neg c3] at H
     exact absurd H (by simp)
   ·rw [if_neg c2] at H
    have c2b0 : decide (x11_1 < (l0.length : Int)) = false := decide_eq_false c2
    clear c2
    simp only [Option.some.injEq, Prod.mk.injEq] at H
    obtain ⟨rfl, rfl⟩ := H
    go_wp2
    go_ret2
    exact ⟨_, by first | rfl | (simp [errW_none, errW_some] <;> rfl) | (simp [*, errW_none, errW_some] <;> rfl), by (with_reducible repeat (first | apply Kd.R_alloc | apply Kd.R_drewN | apply Kd.R_drew)); exact HO_4.out, by repeat (first | (with_reducible first | exact HB.out | apply bal | apply pbN | apply bd1) | exact HB.out)⟩
def strconv_Itoa.f (a0 : Int) : Option (ByteArray) := if 0 <= a0 /\ a0 < 100 then some ⟨(Lib.decDigits a0.toNat).toArray⟩ else none
theorem strconv_Itoa.calls (a0 : Int) (r : ByteArray) (w : World) (h : strconv_Itoa.f a0 = some r) :
  Calls Tryz.prog 68 #[.int .i64 a0] w fun e w' => e = .returned (.string r) /\ Drawn0 w w' := by
 unfold strconv_Itoa.f at h
 split at h
 case isFalse => cases h
 case isTrue hn =>
 obtain rfl := Option.some.inj h
 obtain ⟨n, rfl⟩ := Int.eq_ofNat_of_zero_le hn.1
 refine (Go.Proofs.Tryz.strconv_Itoa_small n (by omega) w).mono ?_
 rintro e w' ⟨rfl, rfl⟩
 exact ⟨rfl, Drawn0.refl _⟩
end Go.Proofs.YtemkgdpfkbpnpaaGreatDoor.Print
