/- Functions of the program as plain functions, and proofs that the program's calls tell what these tell. Written by a program. -/
import Derived.Test.YtemkgdpfkbpnpaaGreatDoorPrint0
import Derived.Test.YtemkgdpfkbpnpaaGreatDoorPrint2
import Derived.Test.YtemkgdpfkbpnpaaGreatDoorPrint7
import Derived.Test.YtemkgdpfkbpnpaaGreatDoorPrint8
import Derived.Test.YtemkgdpfkbpnpaaGreatDoorPrint9
namespace Go.Proofs.YtemkgdpfkbpnpaaGreatDoor.Print
open Go.RowKit Go.Proofs.YtemkgdpfkbpnpaaGreatDoorW.PrintWords Go.Proofs.YtemkgdpfkbpnpaaGreatDoorW.PrintLast Go.Proofs.YtemkgdpfkbpnpaaGreatDoorW.PrintMore Go.Proofs.YtemkgdpfkbpnpaaGreatDoor.Conv
attribute [local go_sem] max2_int min2_int max_two min_two max_three min_three max_four min_four
set_option linter.unusedVariables false
set_option linter.unusedSimpArgs false
attribute [local go_sem high] eqA65
def api_Line.l0 : Nat -> List (S65) -> List (S65) -> Int -> Int -> Option (Bool)
 | 0, _, _, _, _ => none
 | k + 1, x0, x1, x12, x13 => if x13 < x12 then (if 0 <= x13 then (if x13 < (x0.length : Int) then (if x13 < (x1.length : Int) then (if (!(((rd_T65 x0 x13).f0) == ((rd_T65 x1 x13).f0)) || (!((((rd_T65 x0 x13).f1).toList) == (((rd_T65 x1 x13).f1).toList)))) = true then (some false) else (api_Line.l0 k x0 x1 x12 (wrap64 (x13 + 1)))) else (none)) else (none)) else (none)) else (some true)
def api_Line.f (k : Nat) (l0 : List (S65)) (l1 : List (S65)) : Option (Bool) := if (l0.length : Int) = (l1.length : Int) then (api_Line.l0 k l0 l1 (l0.length : Int) 0) else (some false)
set_option maxHeartbeats 8000000 in
set_option maxRecDepth 100000 in
theorem api_Line.calls (k : Nat) (A0 : Option Addr) (c0 : Nat) (l0 : List (S65)) (A1 : Option Addr) (c1 : Nat) (l1 : List (S65)) (r : Bool) (w : World) (hr0 : Kd.C k65 w A0 l0.length l0) (hc0 : l0.length <= c0) (hr1 : Kd.C k65 w A1 l1.length l1) (hc1 : l1.length <= c1) (h : api_Line.f k l0 l1 = some r) :
  Calls Tryz.prog 67 #[.slice A0 l0.length c0, .slice A1 l1.length c1] w fun e w' => e = .returned (.bool r) /\ Drawn0 w w' := by
 have hu65 := Tryz.underlying65
 have HR0 := Asd.mk hr0
 have HC0 := Asd.mk hc0
 clear hr0 hc0
 have HR1 := Asd.mk hr1
 have HC1 := Asd.mk hc1
 clear hr1 hc1
 have H : (if (l0.length : Int) = (l1.length : Int) then (api_Line.l0 k l0 l1 (l0.length : Int) 0) else (some false)) = some r := h
 clear h
 by_cases c3 : (l0.length : Int) = (l1.length : Int)
 ·rw [if_pos c3] at H
  have c3b0 : ((l0.length : Int) == (l1.length : Int)) = true := beq_iff_eq.mpr c3
  have c3b1 : ((l0.length : Int) != (l1.length : Int)) = false := bne_eq_false_iff_eq.mpr c3
  have c3b2 : (l0.length == l1.length) = true := by first | simpa using c3 | (simp at c3 ⊢; omega)
  clear c3
  have H' := Asd.mk H
  clear H
  go_enter Tryz.func67, Tryz.ntmps67
  go_wp2
  repeat (go_quiet (fail); try go_wp2)
  go_loopg [13] k (fun kq v13 w' => ∃ (x13_1 : Int), v13 = .int .i64 x13_1 /\ Asd (api_Line.l0 kq l0 l1 (l0.length : Int) x13_1 = some r) /\ Asd (kq <= k) /\ Drawn0 w w')
  case atStart => exact ⟨(0), (by first | rfl | (simp; done) | (simp [*]; done)), H', ⟨Nat.le_refl _⟩, by repeat (first | exact Drawn0.refl _ | apply Drawn0.step)⟩
  case round =>
   clear H'
   try clear c1
   try clear p2
   try clear c3
   try clear c3b0
   try clear c3b1
   try clear c3b2
   obtain ⟨x13_1, rfl, HA, HK1, ⟨m1, rfl⟩⟩ := hrel
   cases gk with
   | zero => exact absurd HA.out (by simp [api_Line.l0])
   | succ k1 =>
    have H := HA.out
    clear HA
    simp only [api_Line.l0] at H
    by_cases c4 : x13_1 < (l0.length : Int)
    ·rw [if_pos c4] at H
     have c4b0 : decide (x13_1 < (l0.length : Int)) = true := decide_eq_true c4
     clear c4
     by_cases c5 : 0 <= x13_1
     ·rw [if_pos c5] at H
      have c5b0 : decide (0 <= x13_1) = true := decide_eq_true c5
      clear c5
      by_cases c6 : x13_1 < (l0.length : Int)
      ·rw [if_pos c6] at H
       have c6b0 : decide (x13_1 < (l0.length : Int)) = true := decide_eq_true c6
       clear c6
       by_cases c7 : x13_1 < (l1.length : Int)
       ·rw [if_pos c7] at H
        have c7b0 : decide (x13_1 < (l1.length : Int)) = true := decide_eq_true c7
        clear c7
        by_cases c8 : (!(((rd_T65 l0 x13_1).f0) == ((rd_T65 l1 x13_1).f0)) || (!((((rd_T65 l0 x13_1).f1).toList) == (((rd_T65 l1 x13_1).f1).toList)))) = true
        ·rw [if_pos c8] at H
         have c8b0 : (!(((rd_T65 l0 x13_1).f0) == ((rd_T65 l1 x13_1).f0)) || (!((((rd_T65 l0 x13_1).f1).toList) == (((rd_T65 l1 x13_1).f1).toList)))) = true := c8
         clear c8
         obtain rfl := Option.some.inj H
         have p252 : 0 <= (x13_1 : Int) := of_decide_eq_true (by first | (with_reducible assumption) | assumption)
         have q252 : x13_1 < (l0.length : Int) := of_decide_eq_true (by first | (with_reducible assumption) | assumption)
         obtain ⟨ad252, e252, hx252_0, hx252_1⟩ := at_T65 HR0.out x13_1 p252 q252
         cases e252
         replace p252 := eq_true p252
         replace q252 := eq_true q252
         have p253 : 0 <= (x13_1 : Int) := of_decide_eq_true (by first | (with_reducible assumption) | assumption)
         have q253 : x13_1 < (l1.length : Int) := of_decide_eq_true (by first | (with_reducible assumption) | assumption)
         obtain ⟨ad253, e253, hx253_0, hx253_1⟩ := at_T65 HR1.out x13_1 p253 q253
         cases e253
         replace p253 := eq_true p253
         replace q253 := eq_true q253
         go_wp2
         repeat (go_quiet (fail); try go_wp2)
         go_ret
         exact ⟨by first | rfl | (simp; done) | (simp [*]; done), by repeat (first | exact Drawn0.refl _ | apply Drawn0.step)⟩
        ·rw [if_neg c8] at H
         have c8b0 : (!(((rd_T65 l0 x13_1).f0) == ((rd_T65 l1 x13_1).f0)) || (!((((rd_T65 l0 x13_1).f1).toList) == (((rd_T65 l1 x13_1).f1).toList)))) = false := by simpa using c8
         clear c8
         have H' := Asd.mk H
         clear H
         have p252 : 0 <= (x13_1 : Int) := of_decide_eq_true (by first | (with_reducible assumption) | assumption)
         have q252 : x13_1 < (l0.length : Int) := of_decide_eq_true (by first | (with_reducible assumption) | assumption)
         obtain ⟨ad252, e252, hx252_0, hx252_1⟩ := at_T65 HR0.out x13_1 p252 q252
         cases e252
         replace p252 := eq_true p252
         replace q252 := eq_true q252
         have p253 : 0 <= (x13_1 : Int) := of_decide_eq_true (by first | (with_reducible assumption) | assumption)
         have q253 : x13_1 < (l1.length : Int) := of_decide_eq_true (by first | (with_reducible assumption) | assumption)
         obtain ⟨ad253, e253, hx253_0, hx253_1⟩ := at_T65 HR1.out x13_1 p253 q253
         cases e253
         replace p253 := eq_true p253
         replace q253 := eq_true q253
         go_wp2
         repeat (go_quiet (fail); try go_wp2)
         go_roundg k1
         case measure => have := HK1.out; omega
         case rel => exact ⟨(wrap64 (x13_1 + 1)), (by first | rfl | (simp; done) | (simp [*]; done)), H', ⟨by have := HK1.out; omega⟩, by repeat (first | exact Drawn0.refl _ | apply Drawn0.step)⟩
       ·rw [if_neg c7] at H
        exact absurd H (by simp)
      ·rw [if_neg c6] at H
       exact absurd H (by simp)
     ·rw [if_neg c5] at H
      exact absurd H (by simp)
    ·rw [if_neg c4] at H
     have c4b0 : decide (x13_1 < (l0.length : Int)) = false := decide_eq_false c4
     clear c4
     obtain rfl := Option.some.inj H
     go_wp2
     repeat (go_quiet (fail); try go_wp2)
     go_ret
     exact ⟨by first | rfl | (simp; done) | (simp [*]; done), by repeat (first | exact Drawn0.refl _ | apply Drawn0.step)⟩
 ·rw [if_neg c3] at H
  have c3b0 : ((l0.length : Int) == (l1.length : Int)) = false := beq_eq_false_iff_ne.mpr c3
  have c3b1 : ((l0.length : Int) != (l1.length : Int)) = true := bne_iff_ne.mpr c3
  have c3b2 : (l0.length == l1.length) = false := by first | simpa using c3 | (simp at c3 ⊢; omega)
  obtain rfl := Option.some.inj H
  go_enter Tryz.func67, Tryz.ntmps67
  go_wp2
  repeat (go_quiet (fail); try go_wp2)
  go_ret
  exact ⟨by first | rfl | (simp; done) | (simp [*]; done), by repeat (first | exact Drawn0.refl _ | apply Drawn0.step)⟩
def hello_again.f (k : Nat) (l0 : List (S65)) (a1 : Bool) (l2 : List (S65)) : Option (Bool) := if a1 = true then ((api_Line.f k l0 l2).bind fun t254 => (some t254)) else (some false)
set_option maxHeartbeats 8000000 in
set_option maxRecDepth 100000 in
theorem hello_again.calls (k : Nat) (A0 : Option Addr) (c0 : Nat) (l0 : List (S65)) (a1 : Bool) (A2 : Option Addr) (c2 : Nat) (l2 : List (S65)) (r : Bool) (w : World) (hr0 : Kd.C k65 w A0 l0.length l0) (hc0 : l0.length <= c0) (hr2 : Kd.C k65 w A2 l2.length l2) (hc2 : l2.length <= c2) (h : hello_again.f k l0 a1 l2 = some r) :
  Calls Tryz.prog 65 #[.slice A0 l0.length c0, .bool a1, .slice A2 l2.length c2] w fun e w' => e = .returned (.bool r) /\ Drawn0 w w' := by
 have HR0 := Asd.mk hr0
 have HC0 := Asd.mk hc0
 clear hr0 hc0
 have HR2 := Asd.mk hr2
 have HC2 := Asd.mk hc2
 clear hr2 hc2
 have H : (if a1 = true then ((api_Line.f k l0 l2).bind fun t254 => (some t254)) else (some false)) = some r := h
 clear h
 by_cases c4 : a1 = true
 ·subst c4
  have H1 : ((api_Line.f k l0 l2).bind fun t254 => (some t254)) = some r := by rw [if_pos rfl] at H; exact H
  clear H
  have H := H1
  clear H1
  replace H := Option.bind_eq_some_iff.mp H
  obtain ⟨t254, A50, H⟩ := H
  replace H : (some t254) = some r := H
  have A5 := Asd.mk A50
  clear A50
  obtain rfl := Option.some.inj H
  go_enter Tryz.func65, Tryz.ntmps65
  go_wp2_with (first | (go_at_call 67; (with_reducible refine (api_Line.calls k _ _ l0 _ _ l2 t254 _ ?side1 ?side2 ?side3 ?side4 A5.out).mono ?_); (case side1 => repeat (first | exact HR0.out | (with_reducible refine Kd.C_alloc ?_ _) | (with_reducible refine Kd.C_drewN ?_ _) | (with_reducible refine Kd.C_drew ?_))); (case side2 => exact HC0.out); (case side3 => repeat (first | exact HR2.out | (with_reducible refine Kd.C_alloc ?_ _) | (with_reducible refine Kd.C_drewN ?_ _) | (with_reducible refine Kd.C_drew ?_))); (case side4 => exact HC2.out); rintro e w' ⟨rfl, ⟨nd, rfl⟩⟩))
  go_ret
  exact ⟨by first | rfl | (simp; done) | (simp [*]; done), by repeat (first | exact Drawn0.refl _ | apply Drawn0.step)⟩
 ·replace c4 := Bool.eq_false_iff.mpr c4
  subst c4
  have H1 : (some false) = some r := by rw [if_neg (show ¬ (false = true) by decide)] at H; exact H
  clear H
  have H := H1
  clear H1
  obtain rfl := Option.some.inj H
  go_enter Tryz.func65, Tryz.ntmps65
  go_wp2
  go_ret
  exact ⟨by first | rfl | (simp; done) | (simp [*]; done), by repeat (first | exact Drawn0.refl _ | apply Drawn0.step)⟩
def hello_Pushed.l0 : Nat -> List (S65) -> List (S42) -> List ByteArray -> Int -> Int -> Option ((List (S42)) × Bool)
 | 0, _, _, _, _, _ => none
 | k + 1, x0, x4, x16, x17, x18 => if x18 < x17 then (if 0 <= x18 then (if x18 < (x16.length : Int) then ((strings_Cut.f (rdOf ByteArray.empty x16 x18) (⟨#[32]⟩ : ByteArray)).bind fun bt259 => ((strings_Cut.f bt259.2.1 (⟨#[32]⟩ : ByteArray)).bind fun bt262 => ((hello_plain.f bt259.1).bind fun t265 => ((hello_plain.f bt262.1).bind fun t266 => (if x4.length < 2932031007402 then (hello_Pushed.l0 k x0 (x4 ++ [(⟨bt262.2.1, t265, t266⟩ : S42)]) x16 x17 (wrap64 (x18 + 1))) else (none)))))) else (none)) else (none)) else ((hello_Push.f k x4).bind fun bt270 => ((hello_again.f k bt270.1 bt270.2 x0).bind fun t274 => (if t274 = true then (some (x4, true)) else (some (([] : List (S42)), false)))))
def hello_Pushed.f (k : Nat) (l0 : List (S65)) : Option ((List (S42)) × Bool) := (hello_texts.f k l0).bind fun t255 => (hello_Pushed.l0 k l0 ([] : List (S42)) t255 (t255.length : Int) 0)
set_option maxHeartbeats 8000000 in
set_option maxRecDepth 100000 in
theorem hello_Pushed.calls (k : Nat) (A0 : Option Addr) (c0 : Nat) (l0 : List (S65)) (r1 : List (S42)) (r2 : Bool) (w : World) (hr0 : Kd.C k65 w A0 l0.length l0) (hc0 : l0.length <= c0) (h : hello_Pushed.f k l0 = some (r1, r2)) :
  Calls Tryz.prog 41 #[.slice A0 l0.length c0] w fun e w' => ∃ v0_ : Value, e = .returned (.tuple #[v0_, .bool r2]) /\ Kd.R k42 42 w' w.heap.size (fun _ => True) v0_ r1 /\ Below w.heap.size w w' := by
 have hu42 := Tryz.underlying42
 have HR0 := Asd.mk hr0
 have HC0 := Asd.mk hc0
 clear hr0 hc0
 have HB := Asd.mk (Below.refl w.heap.size w)
 have H : ((hello_texts.f k l0).bind fun t255 => (hello_Pushed.l0 k l0 ([] : List (S42)) t255 (t255.length : Int) 0)) = some (r1, r2) := h
 clear h
 replace H := Option.bind_eq_some_iff.mp H
 obtain ⟨t255, A20, H⟩ := H
 replace H : (hello_Pushed.l0 k l0 ([] : List (S42)) t255 (t255.length : Int) 0) = some (r1, r2) := H
 have A2 := Asd.mk A20
 clear A20
 have H' := Asd.mk H
 clear H
 go_enter Tryz.func41, Tryz.ntmps41
 go_wp2_with (first | ((with_reducible refine gate_callee (f := 63) rfl ?_); refine goesL_ (some 16) rfl rfl Tryz.func63 (by kernel_rfl) rfl #[.slice A0 l0.length c0] rfl (by (try simp only [List.map_toArray, List.map_cons, List.map_nil]); first | done | rfl | (simp only [List.length_drop, List.length_take]; rfl)) ?_; (with_reducible refine (hello_texts.calls k _ _ l0 t255 _ ?side1 ?side2 A2.out).mono ?_); (case side1 => repeat (first | exact HR0.out | (with_reducible refine Kd.C_alloc ?_ _) | (with_reducible refine Kd.C_drewN ?_ _) | (with_reducible refine Kd.C_drew ?_))); (case side2 => exact HC0.out); rintro e w3 ⟨v256, rfl, ho0, hb⟩; refine ⟨_, rfl, ?_⟩; have n0_ := Asd.mk (Kd.R_lower ho0 (below_size (by repeat (first | (with_reducible first | exact HB.out | apply bal | apply pbN | apply bd1) | exact HB.out)))); have n1_ := Asd.mk (below_step (by repeat (first | (with_reducible first | exact HB.out | apply bal | apply pbN | apply bd1) | exact HB.out)) hb); clear HB; have HO257 := n0_; have HB := n1_; clear n0_ n1_; (try clear hb); (try clear hb2); (try clear hk); (try clear hi); (try clear ho0); obtain ⟨Ao4, co4, eo4⟩ := Kd.R_slice HO257.out; subst eo4))
 go_loopg [4, 18] k (fun kq v4 v18 w' => ∃ (x4_1 : List (S42)) (x18_1 : Int), v18 = .int .i64 x18_1 /\ Asd (hello_Pushed.l0 kq l0 x4_1 t255 (t255.length : Int) x18_1 = some (r1, r2)) /\ Asd (kq <= k) /\ Asd (Kd.R k42 42 w' w.heap.size (fun _ => True) v4 x4_1) /\ Asd (Kd.R Kd.string 9 w' w.heap.size (fun _ => True) (.slice Ao4 t255.length co4) t255) /\ Asd (Below w.heap.size w w'))
 case atStart => exact ⟨(([] : List (S42))), (0), (by first | rfl | (simp; done) | (simp [*]; done)), H', ⟨Nat.le_refl _⟩, ⟨by first | exact Kd.R_nil _ _ _ _ _ | exact Kd.N_nil _ _ _ _ _ | exact Kd.V_nil _ _ _ _ _ | exact Kd.Q_nil _ _ _ _ _ | exact Kd.S_nil _ _ _ _ _⟩, ⟨by (with_reducible repeat (first | apply Kd.R_alloc | apply Kd.R_drewN | apply Kd.R_drew)); exact HO257.out⟩, ⟨by repeat (first | (with_reducible first | exact HB.out | apply bal | apply pbN | apply bd1) | exact HB.out)⟩⟩
 case round =>
  clear H'
  try clear p2
  try clear c4
  obtain ⟨x4_1, x18_1, rfl, HA, HK1, HO_4, HO_16, HB⟩ := hrel
  cases gk with
  | zero => exact absurd HA.out (by simp [hello_Pushed.l0])
  | succ k1 =>
   have H := HA.out
   clear HA
   simp only [hello_Pushed.l0] at H
   by_cases c5 : x18_1 < (t255.length : Int)
   ·rw [if_pos c5] at H
    have c5b0 : decide (x18_1 < (t255.length : Int)) = true := decide_eq_true c5
    clear c5
    by_cases c6 : 0 <= x18_1
    ·rw [if_pos c6] at H
     have c6b0 : decide (0 <= x18_1) = true := decide_eq_true c6
     clear c6
     by_cases c7 : x18_1 < (t255.length : Int)
     ·rw [if_pos c7] at H
      have c7b0 : decide (x18_1 < (t255.length : Int)) = true := decide_eq_true c7
      clear c7
      replace H := Option.bind_eq_some_iff.mp H
      obtain ⟨⟨t259, t260, t261⟩, A80, H⟩ := H
      replace H : ((strings_Cut.f t260 (⟨#[32]⟩ : ByteArray)).bind fun bt262 => ((hello_plain.f t259).bind fun t265 => ((hello_plain.f bt262.1).bind fun t266 => (if x4_1.length < 2932031007402 then (hello_Pushed.l0 k1 l0 (x4_1 ++ [(⟨bt262.2.1, t265, t266⟩ : S42)]) t255 (t255.length : Int) (wrap64 (x18_1 + 1))) else (none))))) = some (r1, r2) := H
      have A8 := Asd.mk A80
      clear A80
      replace H := Option.bind_eq_some_iff.mp H
      obtain ⟨⟨t262, t263, t264⟩, A90, H⟩ := H
      replace H : ((hello_plain.f t259).bind fun t265 => ((hello_plain.f t262).bind fun t266 => (if x4_1.length < 2932031007402 then (hello_Pushed.l0 k1 l0 (x4_1 ++ [(⟨t263, t265, t266⟩ : S42)]) t255 (t255.length : Int) (wrap64 (x18_1 + 1))) else (none)))) = some (r1, r2) := H
      have A9 := Asd.mk A90
      clear A90
      replace H := Option.bind_eq_some_iff.mp H
      obtain ⟨t265, A100, H⟩ := H
      replace H : ((hello_plain.f t262).bind fun t266 => (if x4_1.length < 2932031007402 then (hello_Pushed.l0 k1 l0 (x4_1 ++ [(⟨t263, t265, t266⟩ : S42)]) t255 (t255.length : Int) (wrap64 (x18_1 + 1))) else (none))) = some (r1, r2) := H
      have A10 := Asd.mk A100
      clear A100
      replace H := Option.bind_eq_some_iff.mp H
      obtain ⟨t266, A110, H⟩ := H
      replace H : (if x4_1.length < 2932031007402 then (hello_Pushed.l0 k1 l0 (x4_1 ++ [(⟨t263, t265, t266⟩ : S42)]) t255 (t255.length : Int) (wrap64 (x18_1 + 1))) else (none)) = some (r1, r2) := H
      have A11 := Asd.mk A110
      clear A110
      by_cases c12 : x4_1.length < 2932031007402
      ·rw [if_pos c12] at H
       have LMc12 := Asd.mk c12
       clear c12
       obtain ⟨y267, hy267⟩ : ∃ y_ : List (S42), y_ = (x4_1 ++ [(⟨t263, t265, t266⟩ : S42)]) := ⟨_, rfl⟩
       replace H : (hello_Pushed.l0 k1 l0 y267 t255 (t255.length : Int) (wrap64 (x18_1 + 1))) = some (r1, r2) := by first | (rw [hy267]; with_reducible exact H) | (have H2_ := (Option.bind_some _ _).symm.trans H; rw [hy267]; with_reducible exact H2_) | (have H2_ := (Option.bind_some _ _).symm.trans H; with_reducible exact H2_) | with_reducible exact H | (rw [hy267]; exact H) | exact H
       have Ny267 := Asd.mk hy267
       clear hy267
       have H' := Asd.mk H
       clear H
       have p258 : 0 <= (x18_1 : Int) := of_decide_eq_true (by first | (with_reducible assumption) | assumption)
       have q258 : x18_1 < (t255.length : Int) := of_decide_eq_true (by first | (with_reducible assumption) | assumption)
       obtain ⟨ad258, e258, hx258_0⟩ := Kd.at_string (Kd.R_reads' HO_16.out).2.2 x18_1 p258 q258
       cases e258
       replace p258 := eq_true p258
       replace q258 := eq_true q258
       go_wp2_with (first | ((with_reducible refine gate_callee (f := 50) rfl ?_); refine goesL_ (some 24) rfl rfl Tryz.func50 (by kernel_rfl) rfl #[.string (rdOf ByteArray.empty t255 x18_1), .string (⟨#[32]⟩ : ByteArray)] rfl (by (try simp only [List.map_toArray, List.map_cons, List.map_nil]); first | done | rfl | (simp only [List.length_drop, List.length_take]; rfl)) ?_; (with_reducible refine (strings_Cut.calls (rdOf ByteArray.empty t255 x18_1) (⟨#[32]⟩ : ByteArray) t259 t260 t261 _ A8.out).mono ?_); rintro e w' ⟨rfl, ⟨nd, rfl⟩⟩; refine ⟨_, rfl, ?_⟩) | ((with_reducible refine gate_callee (f := 50) rfl ?_); refine goesL_ (some 30) rfl rfl Tryz.func50 (by kernel_rfl) rfl #[.string t260, .string (⟨#[32]⟩ : ByteArray)] rfl (by (try simp only [List.map_toArray, List.map_cons, List.map_nil]); first | done | rfl | (simp only [List.length_drop, List.length_take]; rfl)) ?_; (with_reducible refine (strings_Cut.calls t260 (⟨#[32]⟩ : ByteArray) t262 t263 t264 _ A9.out).mono ?_); rintro e w' ⟨rfl, ⟨nd, rfl⟩⟩; refine ⟨_, rfl, ?_⟩) | ((with_reducible refine gate_callee (f := 64) rfl ?_); refine goesL_ (some 37) rfl rfl Tryz.func64 (by kernel_rfl) rfl #[.string t259] rfl (by (try simp only [List.map_toArray, List.map_cons, List.map_nil]); first | done | rfl | (simp only [List.length_drop, List.length_take]; rfl)) ?_; (with_reducible refine (hello_plain.calls t259 t265 _ A10.out).mono ?_); rintro e w' ⟨rfl, ⟨nd, rfl⟩⟩; refine ⟨_, rfl, ?_⟩) | ((with_reducible refine gate_callee (f := 64) rfl ?_); refine goesL_ (some 39) rfl rfl Tryz.func64 (by kernel_rfl) rfl #[.string t262] rfl (by (try simp only [List.map_toArray, List.map_cons, List.map_nil]); first | done | rfl | (simp only [List.length_drop, List.length_take]; rfl)) ?_; (with_reducible refine (hello_plain.calls t262 t266 _ A11.out).mono ?_); rintro e w' ⟨rfl, ⟨nd, rfl⟩⟩; refine ⟨_, rfl, ?_⟩) | ((with_reducible refine gate_builtin (b := .append) (xs := #[.tmp 34, .tmp 41]) rfl ?_); at_builtin; refine Kd.R_append k42 (w0 := w) w.heap.size rfl (.tmp 34) (.tmp 41) 27 42 (.agg #[(.string ⟨#[]⟩), (.string ⟨#[]⟩), (.string ⟨#[]⟩)]) 48 rfl Tryz.underlying27 info42 rfl (by decide) (by omega) u4 x4_1 (⟨t263, t265, t266⟩ : S42) [.string t263, .string t265, .string t266] (fun _ => True) (fun _ => False) rfl rfl ?aP (fun _ hk => hk.elim) ?aF ?aO ?aB ?aS ?aL ?_; (case aP => exact k42_mkM _ _ _ (⟨t263, t265, t266⟩ : S42)); (case aB => exact (by repeat (first | (with_reducible first | exact HB.out | apply bal | apply pbN | apply bd1) | exact HB.out))); (case aF => exact (fun _ _ => trivial)); (case aO => exact (by (with_reducible repeat (first | apply Kd.R_alloc | apply Kd.R_drewN | apply Kd.R_drew)); exact HO_4.out)); (case aS => exact (below_size (by repeat (first | (with_reducible first | exact HB.out | apply bal | apply pbN | apply bd1) | exact HB.out)))); (case aL => have := LMc12.out; omega); intro v268 w13 ho hb hg hat; rw [<- Ny267.out] at ho; have n0_ := Asd.mk (Kd.R_over' (by (with_reducible repeat (first | apply Kd.R_alloc | apply Kd.R_drewN | apply Kd.R_drew)); exact HO_16.out) (Kd.R_typed (by (with_reducible repeat (first | apply Kd.R_alloc | apply Kd.R_drewN | apply Kd.R_drew)); exact HO_4.out)) (by decide) hg); have n1_ := Asd.mk (hb); have n2_ := Asd.mk (ho); clear HO_16; clear HB; clear HO_4; have HO_16 := n0_; have HB := n1_; have HO269 := n2_; clear n0_ n1_ n2_; clear ho hb hg hat))
       go_roundg k1
       case measure => have := HK1.out; omega
       case rel => exact ⟨(y267), (wrap64 (x18_1 + 1)), (by first | rfl | (simp; done) | (simp [*]; done)), H', ⟨by have := HK1.out; omega⟩, ⟨by (with_reducible repeat (first | apply Kd.R_alloc | apply Kd.R_drewN | apply Kd.R_drew)); exact HO269.out⟩, ⟨by (with_reducible repeat (first | apply Kd.R_alloc | apply Kd.R_drewN | apply Kd.R_drew)); exact HO_16.out⟩, ⟨by repeat (first | (with_reducible first | exact HB.out | apply bal | apply pbN | apply bd1) | exact HB.out)⟩⟩
      ·rw [if_neg c12] at H
       exact absurd H (by simp)
     ·rw [if_neg c7] at H
      exact absurd H (by simp)
    ·rw [if_neg c6] at H
     exact absurd H (by simp)
   ·rw [if_neg c5] at H
    have c5b0 : decide (x18_1 < (t255.length : Int)) = false := decide_eq_false c5
    clear c5
    replace H := Option.bind_eq_some_iff.mp H
    obtain ⟨⟨t270, t271⟩, A140, H⟩ := H
    replace H : ((hello_again.f k1 t270 t271 l0).bind fun t274 => (if t274 = true then (some (x4_1, true)) else (some (([] : List (S42)), false)))) = some (r1, r2) := H
    have A14 := Asd.mk A140
    clear A140
    replace H := Option.bind_eq_some_iff.mp H
    obtain ⟨t274, A150, H⟩ := H
    replace H : (if t274 = true then (some (x4_1, true)) else (some (([] : List (S42)), false))) = some (r1, r2) := H
    have A15 := Asd.mk A150
    clear A150
    by_cases c16 : t274 = true
    ·subst c16
     have H1 : (some (x4_1, true)) = some (r1, r2) := by rw [if_pos rfl] at H; exact H
     clear H
     have H := H1
     clear H1
     simp only [Option.some.injEq, Prod.mk.injEq] at H
     obtain ⟨rfl, rfl⟩ := H
     obtain ⟨Ao17, co17, eo17⟩ := Kd.R_slice HO_4.out
     subst eo17
     go_wp2_with (first | ((with_reducible refine gate_callee (f := 21) rfl ?_); refine goesL_ (some 46) rfl rfl Tryz.func21 (by kernel_rfl) rfl #[.slice Ao17 x4_1.length co17] rfl (by (try simp only [List.map_toArray, List.map_cons, List.map_nil]); first | done | rfl | (simp only [List.length_drop, List.length_take]; rfl)) ?_; (with_reducible refine (hello_Push.calls k1 _ _ x4_1 t270 t271 _ ?side1 ?side2 A14.out).mono ?_); (case side1 => repeat (first | exact (Kd.R_reads' HO_4.out).2.2 | (with_reducible refine Kd.C_alloc ?_ _) | (with_reducible refine Kd.C_drewN ?_ _) | (with_reducible refine Kd.C_drew ?_))); (case side2 => exact (Kd.R_reads' HO_4.out).2.1); rintro e w18 ⟨v272, rfl, ho0, hb⟩; refine ⟨_, rfl, ?_⟩; have n0_ := Asd.mk (Kd.R_below (by (with_reducible repeat (first | apply Kd.R_alloc | apply Kd.R_drewN | apply Kd.R_drew)); exact HO_4.out) hb); have n1_ := Asd.mk (Kd.R_below (by (with_reducible repeat (first | apply Kd.R_alloc | apply Kd.R_drewN | apply Kd.R_drew)); exact HO_16.out) hb); have n2_ := Asd.mk (Kd.R_lower ho0 (below_size (by repeat (first | (with_reducible first | exact HB.out | apply bal | apply pbN | apply bd1) | exact HB.out)))); have n3_ := Asd.mk (below_step (by repeat (first | (with_reducible first | exact HB.out | apply bal | apply pbN | apply bd1) | exact HB.out)) hb); clear HO_4; clear HO_16; clear HB; have HO_4 := n0_; have HO_16 := n1_; have HO273 := n2_; have HB := n3_; clear n0_ n1_ n2_ n3_; (try clear hb); (try clear hb2); (try clear hk); (try clear hi); (try clear ho0); obtain ⟨Ao19, co19, eo19⟩ := Kd.R_slice HO273.out; subst eo19) | ((with_reducible refine gate_callee (f := 65) rfl ?_); refine goesL_ (some 52) rfl rfl Tryz.func65 (by kernel_rfl) rfl #[.slice Ao19 t270.length co19, .bool t271, .slice A0 l0.length c0] rfl (by (try simp only [List.map_toArray, List.map_cons, List.map_nil]); first | done | rfl | (simp only [List.length_drop, List.length_take]; rfl)) ?_; (with_reducible refine (hello_again.calls k1 _ _ t270 t271 _ _ l0 true _ ?side1 ?side2 ?side3 ?side4 A15.out).mono ?_); (case side1 => repeat (first | exact (Kd.R_reads' HO273.out).2.2 | (with_reducible refine Kd.C_alloc ?_ _) | (with_reducible refine Kd.C_drewN ?_ _) | (with_reducible refine Kd.C_drew ?_))); (case side2 => exact (Kd.R_reads' HO273.out).2.1); (case side3 => repeat (first | exact (Kd.C_below HR0.out HB.out) | (with_reducible refine Kd.C_alloc ?_ _) | (with_reducible refine Kd.C_drewN ?_ _) | (with_reducible refine Kd.C_drew ?_))); (case side4 => exact HC0.out); rintro e w' ⟨rfl, ⟨nd, rfl⟩⟩; refine ⟨_, rfl, ?_⟩))
     go_ret2
     exact ⟨_, by first | rfl | (simp [errW_none, errW_some] <;> rfl) | (simp [*, errW_none, errW_some] <;> rfl), by (with_reducible repeat (first | apply Kd.R_alloc | apply Kd.R_drewN | apply Kd.R_drew)); exact HO_4.out, by repeat (first | (with_reducible first | exact HB.out | apply bal | apply pbN | apply bd1) | exact HB.out)⟩
    ·replace c16 := Bool.eq_false_iff.mpr c16
     subst c16
     have H1 : (some (([] : List (S42)), false)) = some (r1, r2) := by rw [if_neg (show ¬ (false = true) by decide)] at H; exact H
     clear H
     have H := H1
     clear H1
     simp only [Option.some.injEq, Prod.mk.injEq] at H
     obtain ⟨rfl, rfl⟩ := H
     obtain ⟨Ao20, co20, eo20⟩ := Kd.R_slice HO_4.out
     subst eo20
     go_wp2_with (first | ((with_reducible refine gate_callee (f := 21) rfl ?_); refine goesL_ (some 46) rfl rfl Tryz.func21 (by kernel_rfl) rfl #[.slice Ao20 x4_1.length co20] rfl (by (try simp only [List.map_toArray, List.map_cons, List.map_nil]); first | done | rfl | (simp only [List.length_drop, List.length_take]; rfl)) ?_; (with_reducible refine (hello_Push.calls k1 _ _ x4_1 t270 t271 _ ?side1 ?side2 A14.out).mono ?_); (case side1 => repeat (first | exact (Kd.R_reads' HO_4.out).2.2 | (with_reducible refine Kd.C_alloc ?_ _) | (with_reducible refine Kd.C_drewN ?_ _) | (with_reducible refine Kd.C_drew ?_))); (case side2 => exact (Kd.R_reads' HO_4.out).2.1); rintro e w21 ⟨v272, rfl, ho0, hb⟩; refine ⟨_, rfl, ?_⟩; have n0_ := Asd.mk (Kd.R_below (by (with_reducible repeat (first | apply Kd.R_alloc | apply Kd.R_drewN | apply Kd.R_drew)); exact HO_4.out) hb); have n1_ := Asd.mk (Kd.R_below (by (with_reducible repeat (first | apply Kd.R_alloc | apply Kd.R_drewN | apply Kd.R_drew)); exact HO_16.out) hb); have n2_ := Asd.mk (Kd.R_lower ho0 (below_size (by repeat (first | (with_reducible first | exact HB.out | apply bal | apply pbN | apply bd1) | exact HB.out)))); have n3_ := Asd.mk (below_step (by repeat (first | (with_reducible first | exact HB.out | apply bal | apply pbN | apply bd1) | exact HB.out)) hb); clear HO_4; clear HO_16; clear HB; have HO_4 := n0_; have HO_16 := n1_; have HO273 := n2_; have HB := n3_; clear n0_ n1_ n2_ n3_; (try clear hb); (try clear hb2); (try clear hk); (try clear hi); (try clear ho0); obtain ⟨Ao22, co22, eo22⟩ := Kd.R_slice HO273.out; subst eo22) | ((with_reducible refine gate_callee (f := 65) rfl ?_); refine goesL_ (some 52) rfl rfl Tryz.func65 (by kernel_rfl) rfl #[.slice Ao22 t270.length co22, .bool t271, .slice A0 l0.length c0] rfl (by (try simp only [List.map_toArray, List.map_cons, List.map_nil]); first | done | rfl | (simp only [List.length_drop, List.length_take]; rfl)) ?_; (with_reducible refine (hello_again.calls k1 _ _ t270 t271 _ _ l0 false _ ?side1 ?side2 ?side3 ?side4 A15.out).mono ?_); (case side1 => repeat (first | exact (Kd.R_reads' HO273.out).2.2 | (with_reducible refine Kd.C_alloc ?_ _) | (with_reducible refine Kd.C_drewN ?_ _) | (with_reducible refine Kd.C_drew ?_))); (case side2 => exact (Kd.R_reads' HO273.out).2.1); (case side3 => repeat (first | exact (Kd.C_below HR0.out HB.out) | (with_reducible refine Kd.C_alloc ?_ _) | (with_reducible refine Kd.C_drewN ?_ _) | (with_reducible refine Kd.C_drew ?_))); (case side4 => exact HC0.out); rintro e w' ⟨rfl, ⟨nd, rfl⟩⟩; refine ⟨_, rfl, ?_⟩))
     go_ret2
     exact ⟨_, by first | rfl | (simp [errW_none, errW_some] <;> rfl) | (simp [*, errW_none, errW_some] <;> rfl), by first | exact Kd.R_nil _ _ _ _ _ | exact Kd.N_nil _ _ _ _ _ | exact Kd.V_nil _ _ _ _ _ | exact Kd.Q_nil _ _ _ _ _ | exact Kd.S_nil _ _ _ _ _, by repeat (first | (with_reducible first | exact HB.out | apply bal | apply pbN | apply bd1) | exact HB.out)⟩
def line_Join.l0 : Nat -> List Int -> List (S65) -> Int -> Int -> Option (List Int)
 | 0, _, _, _, _ => none
 | k + 1, x3, x6, x7, x8 => if x8 < x7 then (if 0 <= x8 then (if x8 < (x6.length : Int) then (if x3.length + ((rd_T65 x6 x8).f1).size < 140737488355328 then (line_Join.l0 k (x3 ++ bytesOf ((rd_T65 x6 x8).f1)) x6 x7 (wrap64 (x8 + 1))) else (none)) else (none)) else (none)) else (some x3)
def line_Join.f (k : Nat) (l0 : List (S65)) : Option (List Int) := line_Join.l0 k ([] : List Int) l0 (l0.length : Int) 0
set_option maxHeartbeats 8000000 in
set_option maxRecDepth 100000 in
theorem line_Join.calls (k : Nat) (A0 : Option Addr) (c0 : Nat) (l0 : List (S65)) (r : List Int) (w : World) (hr0 : Kd.C k65 w A0 l0.length l0) (hc0 : l0.length <= c0) (h : line_Join.f k l0 = some r) :
  Calls Tryz.prog 66 #[.slice A0 l0.length c0] w fun e w' => ∃ v0_ : Value, e = .returned (v0_) /\ Kd.R (Kd.int .u8) 5 w' w.heap.size (fun _ => True) v0_ r /\ Below w.heap.size w w' := by
 have hu65 := Tryz.underlying65
 have HR0 := Asd.mk hr0
 have HC0 := Asd.mk hc0
 clear hr0 hc0
 have HB := Asd.mk (Below.refl w.heap.size w)
 have H : (line_Join.l0 k ([] : List Int) l0 (l0.length : Int) 0) = some r := h
 clear h
 have H' := Asd.mk H
 clear H
 go_enter Tryz.func66, Tryz.ntmps66
 go_wp2
 go_loopg [3, 8] k (fun kq v3 v8 w' => ∃ (x3_1 : List Int) (x8_1 : Int), v8 = .int .i64 x8_1 /\ Asd (line_Join.l0 kq x3_1 l0 (l0.length : Int) x8_1 = some r) /\ Asd (kq <= k) /\ Asd (Kd.R (Kd.int .u8) 5 w' w.heap.size (fun _ => True) v3 x3_1) /\ Asd (Below w.heap.size w w'))
 case atStart => exact ⟨(([] : List Int)), (0), (by first | rfl | (simp; done) | (simp [*]; done)), H', ⟨Nat.le_refl _⟩, ⟨by first | exact Kd.R_nil _ _ _ _ _ | exact Kd.N_nil _ _ _ _ _ | exact Kd.V_nil _ _ _ _ _ | exact Kd.Q_nil _ _ _ _ _ | exact Kd.S_nil _ _ _ _ _⟩, ⟨by repeat (first | (with_reducible first | exact HB.out | apply bal | apply pbN | apply bd1) | exact HB.out)⟩⟩
 case round =>
  clear H'
  obtain ⟨x3_1, x8_1, rfl, HA, HK1, HO_3, HB⟩ := hrel
  cases gk with
  | zero => exact absurd HA.out (by simp [line_Join.l0])
  | succ k1 =>
   have H := HA.out
   clear HA
   simp only [line_Join.l0] at H
   by_cases c2 : x8_1 < (l0.length : Int)
   ·rw [if_pos c2] at H
    have c2b0 : decide (x8_1 < (l0.length : Int)) = true := decide_eq_true c2
    clear c2
    by_cases c3 : 0 <= x8_1
    ·rw [if_pos c3] at H
     have c3b0 : decide (0 <= x8_1) = true := decide_eq_true c3
     clear c3
     by_cases c4 : x8_1 < (l0.length : Int)
     ·rw [if_pos c4] at H
      have c4b0 : decide (x8_1 < (l0.length : Int)) = true := decide_eq_true c4
      clear c4
      by_cases c5 : x3_1.length + ((rd_T65 l0 x8_1).f1).size < 140737488355328
      ·rw [if_pos c5] at H
       have LMc5 := Asd.mk c5
       clear c5
       obtain ⟨y277, hy277⟩ : ∃ y_ : List Int, y_ = (x3_1 ++ bytesOf ((rd_T65 l0 x8_1).f1)) := ⟨_, rfl⟩
       replace H : (line_Join.l0 k1 y277 l0 (l0.length : Int) (wrap64 (x8_1 + 1))) = some r := by first | (rw [hy277]; with_reducible exact H) | (have H2_ := (Option.bind_some _ _).symm.trans H; rw [hy277]; with_reducible exact H2_) | (have H2_ := (Option.bind_some _ _).symm.trans H; with_reducible exact H2_) | with_reducible exact H | (rw [hy277]; exact H) | exact H
       have Ny277 := Asd.mk hy277
       clear hy277
       have H' := Asd.mk H
       clear H
       have p275 : 0 <= (x8_1 : Int) := of_decide_eq_true (by first | (with_reducible assumption) | assumption)
       have q275 : x8_1 < (l0.length : Int) := of_decide_eq_true (by first | (with_reducible assumption) | assumption)
       obtain ⟨ad275, e275, hx275_0, hx275_1⟩ := at_T65 HR0.out x8_1 p275 q275
       cases e275
       replace hx275_0 := (HB.out.cell (World.block_lt_of_cell? w _ hx275_0)).trans hx275_0
       replace hx275_1 := (HB.out.cell (World.block_lt_of_cell? w _ hx275_1)).trans hx275_1
       replace p275 := eq_true p275
       replace q275 := eq_true q275
       go_wp2_with (first | ((with_reducible refine gate_dst (N := 5) rfl ?_); refine box_event ?hg (N := 5) ?hd (cs := #[.bool false, .string (⟨#[]⟩ : ByteArray)]) (t := 65) ?hr ?_; (case hd => rfl); (case hg => rfl); (case hr => first | (go_simp; done) | (go_simp; rfl)); intro gb276 hg w6 hbox hb; have n0_ := Asd.mk (Kd.R_below (by (with_reducible repeat (first | apply Kd.R_alloc | apply Kd.R_drewN | apply Kd.R_drew)); exact HO_3.out) hb); have n1_ := Asd.mk (below_step (by repeat (first | (with_reducible first | exact HB.out | apply bal | apply pbN | apply bd1) | exact HB.out)) hb); have n2_ := Asd.mk (hbox); have n3_ := Asd.mk ((by rw [hg]; exact (below_size (by repeat (first | (with_reducible first | exact HB.out | apply bal | apply pbN | apply bd1) | exact HB.out))) : w.heap.size <= gb276)); have n4_ := Asd.mk ((by rw [hg]; exact (below_size (by repeat (first | (with_reducible first | exact HB.out | apply bal | apply pbN | apply bd1) | exact HB.out))) : w.heap.size <= gb276)); clear HO_3; clear HB; have HO_3 := n0_; have HB := n1_; have BK276 := n2_; have GW276 := n3_; have GE276 := n4_; clear n0_ n1_ n2_ n3_ n4_; clear hb hbox hg; have hcz7_0 : w6.cell? ⟨gb276, 0, none⟩ = some (.bool false) := (blk_cell BK276.out 0).trans rfl; have hcz7_1 : w6.cell? ⟨gb276, 1, none⟩ = some (.string (⟨#[]⟩ : ByteArray)) := (blk_cell BK276.out 1).trans rfl; have hfz7_0 := blk_frozen BK276.out 0; have hfz7_1 := blk_frozen BK276.out 1) | (at_builtin; refine print_append_str (w0 := w) w.heap.size rfl (.tmp 12) _ 22 9 5 rfl Tryz.underlying22 Tryz.underlying9 info5 u3 x3_1 ((rd_T65 l0 x8_1).f1) rfl rfl ?aO ?aB ?aS ?aL ?_; (case aB => exact (by repeat (first | (with_reducible first | exact HB.out | apply bal | apply pbN | apply bd1 | refine below_set ?_ GE276.out) | exact HB.out))); (case aO => exact (Kd.own_of_R (by (with_reducible repeat (first | apply Kd.R_alloc | apply Kd.R_drewN | apply Kd.R_drew)); exact Kd.R_mono (Kd.R_far (p := ⟨gb276, 1, none⟩) (Kd.R_far (p := ⟨gb276, 0, none⟩) (Kd.R_types HO_3.out BK276.out (by decide)) (fun _ hk => hk.2) (.bool ((rd_T65 l0 x8_1).f0))) (fun _ hk => hk.2) (.string ((rd_T65 l0 x8_1).f1))) (fun _ hk => trivial)))); (case aS => exact (below_size (by repeat (first | (with_reducible first | exact HB.out | apply bal | apply pbN | apply bd1 | refine below_set ?_ GE276.out) | exact HB.out)))); (case aL => have := LMc5.out; omega); intro v278 w8 ho0 hb hg; have ho := Kd.R_of_own (h1 := fun _ => rfl) (ok := fun _ => True) ho0 (fun _ _ => trivial); clear ho0; have hat := True.intro; rw [<- Ny277.out] at ho; change Kd.R (Kd.int .u8) 5 w8 w.heap.size (fun _ => True) v278 y277 at ho; have n0_ := Asd.mk (blk_grown (g := gb276) (o := .cells #[.bool ((rd_T65 l0 x8_1).f0), .string ((rd_T65 l0 x8_1).f1)] 65 (0, 0)) (by (with_reducible repeat (first | refine blk_drewN ?_ _ | refine blk_drew ?_ | refine blk_alloc ?_ _)); refine blk_put (cs := #[.bool ((rd_T65 l0 x8_1).f0), .string (⟨#[]⟩ : ByteArray)]) ?_ 1 _ rfl; (with_reducible repeat (first | refine blk_drewN ?_ _ | refine blk_drew ?_ | refine blk_alloc ?_ _)); refine blk_put (cs := #[.bool false, .string (⟨#[]⟩ : ByteArray)]) ?_ 0 _ rfl; (with_reducible repeat (first | refine blk_drewN ?_ _ | refine blk_drew ?_ | refine blk_alloc ?_ _)); exact BK276.out) hg (Kd.R_ne HO_3.out BK276.out (by decide))); have n1_ := Asd.mk (hb); have n2_ := Asd.mk (ho); clear BK276; clear HB; clear HO_3; have BK276 := n0_; have HB := n1_; have HO279 := n2_; clear n0_ n1_ n2_; clear ho hb hg hat))
       go_roundg k1
       case measure => have := HK1.out; omega
       case rel => exact ⟨(y277), (wrap64 (x8_1 + 1)), (by first | rfl | (simp; done) | (simp [*]; done)), H', ⟨by have := HK1.out; omega⟩, ⟨by (with_reducible repeat (first | apply Kd.R_alloc | apply Kd.R_drewN | apply Kd.R_drew)); exact HO279.out⟩, ⟨by repeat (first | (with_reducible first | exact HB.out | apply bal | apply pbN | apply bd1 | refine below_set ?_ GE276.out) | exact HB.out)⟩⟩
      ·rw [if_neg c5] at H
       exact absurd H (by simp)
     ·rw [if_neg c4] at H
      exact absurd H (by simp)
    ·rw [if_neg c3] at H
     exact absurd H (by simp)
   ·rw [if_neg c2] at H
    have c2b0 : decide (x8_1 < (l0.length : Int)) = false := decide_eq_false c2
    clear c2
    obtain rfl := Option.some.inj H
    go_wp2
    go_ret
    exact ⟨_, by first | rfl | (simp [errW_none, errW_some] <;> rfl) | (simp [*, errW_none, errW_some] <;> rfl), by (with_reducible repeat (first | apply Kd.R_alloc | apply Kd.R_drewN | apply Kd.R_drew)); exact HO_3.out, by repeat (first | (with_reducible first | exact HB.out | apply bal | apply pbN | apply bd1) | exact HB.out)⟩
end Go.Proofs.YtemkgdpfkbpnpaaGreatDoor.Print
