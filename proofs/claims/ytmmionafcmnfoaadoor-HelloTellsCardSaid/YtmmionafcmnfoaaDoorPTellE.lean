/- The calls of a law, as a plain function, printed by a program. -/
import Derived.Test.YtmmionafcmnfoaaDoorPTellC
import Derived.Test.YtmmionafcmnfoaaDoorPTellB
namespace Go.Proofs.YtmmionafcmnfoaaDoor.Print
open Go.RowKit Go.Proofs.YtmmionafcmnfoaaDoorW.PrintWords Go.Proofs.YtmmionafcmnfoaaDoorW.PrintLast Go.Proofs.YtmmionafcmnfoaaDoorW.PrintMore Go.Proofs.YtmmionafcmnfoaaDoor.Conv
attribute [local go_sem] max2_int min2_int max_two min_two max_three min_three max_four min_four
set_option linter.unusedVariables false
set_option linter.unusedSimpArgs false
def q6_word.l0 : Nat -> ByteArray -> Int -> Option (ByteArray × ByteArray)
 | 0, _, _ => none
 | k + 1, x0, x4 => if x4 < (x0.size : Int) then (if 0 <= x4 then (if (bt x0 x4) = 32 then (if x4 <= (x0.size : Int) then (if 0 <= (wrap64 (x4 + 1)) then (if (wrap64 (x4 + 1)) <= (x0.size : Int) then (some (x0.extract 0 (x4 : Int).toNat, x0.extract ((wrap64 (x4 + 1)) : Int).toNat x0.size)) else (none)) else (none)) else (none)) else (q6_word.l0 k x0 (wrap64 (x4 + 1)))) else (none)) else (some (x0, (⟨#[]⟩ : ByteArray)))
def q6_word.f (k : Nat) (a0 : ByteArray) : Option (ByteArray × ByteArray) := q6_word.l0 k a0 0
set_option maxHeartbeats 8000000 in
set_option maxRecDepth 100000 in
theorem q6_word.calls (k : Nat) (a0 : ByteArray) (r1 : ByteArray) (r2 : ByteArray) (w : World) (h : q6_word.f k a0 = some (r1, r2)) :
  Calls Tryd.prog 52 #[.string a0] w fun e w' => e = .returned (.tuple #[.string r1, .string r2]) /\ Drawn0 w w' := by
 have H : (q6_word.l0 k a0 0) = some (r1, r2) := h
 clear h
 have H' := Asd.mk H
 clear H
 go_enter Tryd.func52, Tryd.ntmps52
 go_wp2
 repeat (go_quiet (fail); try go_wp2)
 go_loopg [4] k (fun kq v4 w' => ∃ (x4_1 : Int), v4 = .int .i64 x4_1 /\ Asd (q6_word.l0 kq a0 x4_1 = some (r1, r2)) /\ Asd (kq <= k) /\ Drawn0 w w')
 case atStart => exact ⟨(0), (by first | rfl | (simp; done) | (simp [*]; done)), H', ⟨Nat.le_refl _⟩, by repeat (first | exact Drawn0.refl _ | apply Drawn0.step)⟩
 case round =>
  clear H'
  obtain ⟨x4_1, rfl, HA, HK1, ⟨m1, rfl⟩⟩ := hrel
  cases gk with
  | zero => exact absurd HA.out (by simp [q6_word.l0])
  | succ k1 =>
   have H := HA.out
   clear HA
   simp only [q6_word.l0] at H
   by_cases c2 : x4_1 < (a0.size : Int)
   ·rw [if_pos c2] at H
    have c2b0 : decide (x4_1 < (a0.size : Int)) = true := decide_eq_true c2
    clear c2
    by_cases c3 : 0 <= x4_1
    ·rw [if_pos c3] at H
     have c3b0 : decide (0 <= x4_1) = true := decide_eq_true c3
     clear c3
     by_cases c5 : (bt a0 x4_1) = 32
     ·rw [if_pos c5] at H
      have c5b0 : ((bt a0 x4_1) == 32) = true := beq_iff_eq.mpr c5
      have c5b1 : ((bt a0 x4_1) != 32) = false := bne_eq_false_iff_eq.mpr c5
      clear c5
      have c6b0 := eq_true (of_decide_eq_true (by first | (with_reducible assumption) | assumption) : 0 <= x4_1)
      by_cases c7 : x4_1 <= (a0.size : Int)
      ·rw [if_pos c7] at H
       have c7b0 := eq_true c7
       have c7b1 : decide (x4_1 <= (a0.size : Int)) = true := decide_eq_true c7
       clear c7
       obtain ⟨ji8, hji8⟩ : ∃ j_ : Int, (wrap64 (x4_1 + 1)) = j_ := ⟨_, rfl⟩
       replace H : (if 0 <= (ji8) then (if (ji8) <= (a0.size : Int) then (some (a0.extract 0 (x4_1 : Int).toNat, a0.extract ((ji8) : Int).toNat a0.size)) else (none)) else (none)) = some (r1, r2) := by first | (rw [hji8] at H; exact H) | (simp only [hji8] at H ⊢; exact H)
       have hji8w : (IntKind.i64.wrap (x4_1 + 1)) = ji8 := (i64_w _).trans hji8
       by_cases c9 : 0 <= (ji8)
       ·rw [if_pos c9] at H
        have c9b0 := eq_true c9
        have c9b1 : decide (0 <= (ji8)) = true := decide_eq_true c9
        clear c9
        by_cases c10 : (ji8) <= (a0.size : Int)
        ·rw [if_pos c10] at H
         have c10b0 := eq_true c10
         have c10b1 : decide ((ji8) <= (a0.size : Int)) = true := decide_eq_true c10
         clear c10
         simp only [Option.some.injEq, Prod.mk.injEq] at H
         obtain ⟨rfl, rfl⟩ := H
         have p4 : 0 <= (x4_1 : Int) := of_decide_eq_true (by first | (with_reducible assumption) | assumption)
         have q4 : x4_1 < (a0.size : Int) := of_decide_eq_true (by first | (with_reducible assumption) | assumption)
         have hx4 := bt_at a0 x4_1
         replace p4 := eq_true p4
         replace q4 := eq_true q4
         go_wp2
         repeat (go_quiet (fail); try go_wp2)
         go_ret2
         exact ⟨by first | rfl | (simp; done) | (simp only [<- hji8] <;> (first | rfl | simp)) | (simp [*]; done), by repeat (first | exact Drawn0.refl _ | apply Drawn0.step)⟩
        ·rw [if_neg c10] at H
         exact absurd H (by simp)
       ·rw [if_neg c9] at H
        exact absurd H (by simp)
      ·rw [if_neg c7] at H
       exact absurd H (by simp)
     ·rw [if_neg c5] at H
      have c5b0 : ((bt a0 x4_1) == 32) = false := beq_eq_false_iff_ne.mpr c5
      have c5b1 : ((bt a0 x4_1) != 32) = true := bne_iff_ne.mpr c5
      have H' := Asd.mk H
      clear H
      have p4 : 0 <= (x4_1 : Int) := of_decide_eq_true (by first | (with_reducible assumption) | assumption)
      have q4 : x4_1 < (a0.size : Int) := of_decide_eq_true (by first | (with_reducible assumption) | assumption)
      have hx4 := bt_at a0 x4_1
      replace p4 := eq_true p4
      replace q4 := eq_true q4
      go_wp2
      repeat (go_quiet (fail); try go_wp2)
      go_roundg k1
      case measure => have := HK1.out; omega
      case rel => exact ⟨(wrap64 (x4_1 + 1)), (by first | rfl | (simp; done) | (simp [*]; done)), H', ⟨by have := HK1.out; omega⟩, by repeat (first | exact Drawn0.refl _ | apply Drawn0.step)⟩
    ·rw [if_neg c3] at H
     exact absurd H (by simp)
   ·rw [if_neg c2] at H
    have c2b0 : decide (x4_1 < (a0.size : Int)) = false := decide_eq_false c2
    clear c2
    simp only [Option.some.injEq, Prod.mk.injEq] at H
    obtain ⟨rfl, rfl⟩ := H
    go_wp2
    repeat (go_quiet (fail); try go_wp2)
    go_ret2
    exact ⟨by first | rfl | (simp; done) | (simp [*]; done), by repeat (first | exact Drawn0.refl _ | apply Drawn0.step)⟩
def q6_Pushed.l0 : Nat -> List (S49) -> List (S65) -> List ByteArray -> Int -> Option ((List (S65)) × Bool)
 | 0, _, _, _, _ => none
 | k + 1, x0, x4, x5, x7 => if x7 < (x5.length : Int) then (if 0 <= x7 then ((q6_word.f k (rdOf ByteArray.empty x5 x7)).bind fun bt365 => ((q6_word.f k bt365.2).bind fun bt367 => (if bt365.1.toList = ([45] : List UInt8) then (if bt367.1.toList = ([45] : List UInt8) then (if x4.length < 2932031007402 then (q6_Pushed.l0 k x0 (x4 ++ [(⟨bt367.2, (⟨#[]⟩ : ByteArray), (⟨#[]⟩ : ByteArray)⟩ : S65)]) x5 (wrap64 (x7 + 1))) else (none)) else (if x4.length < 2932031007402 then (q6_Pushed.l0 k x0 (x4 ++ [(⟨bt367.2, (⟨#[]⟩ : ByteArray), bt367.1⟩ : S65)]) x5 (wrap64 (x7 + 1))) else (none))) else (if bt367.1.toList = ([45] : List UInt8) then (if x4.length < 2932031007402 then (q6_Pushed.l0 k x0 (x4 ++ [(⟨bt367.2, bt365.1, (⟨#[]⟩ : ByteArray)⟩ : S65)]) x5 (wrap64 (x7 + 1))) else (none)) else (if x4.length < 2932031007402 then (q6_Pushed.l0 k x0 (x4 ++ [(⟨bt367.2, bt365.1, bt367.1⟩ : S65)]) x5 (wrap64 (x7 + 1))) else (none)))))) else (none)) else ((q6_Push.f k x4).bind fun bt381 => (if bt381.2 = true then ((q5_Same.f k bt381.1 x0).bind fun t385 => (if t385 = true then (some (x4, true)) else (some (([] : List (S65)), false)))) else (some (([] : List (S65)), false))))
def q6_Pushed.f (k : Nat) (l0 : List (S49)) : Option ((List (S65)) × Bool) := (q6_texts.f k l0).bind fun bt360 => (if bt360.2 = true then (q6_Pushed.l0 k l0 ([] : List (S65)) bt360.1 0) else (some (([] : List (S65)), false)))
set_option maxHeartbeats 8000000 in
set_option maxRecDepth 100000 in
theorem q6_Pushed.calls (k : Nat) (A0 : Option Addr) (c0 : Nat) (l0 : List (S49)) (r1 : List (S65)) (r2 : Bool) (w : World) (hr0 : Kd.C k49 w A0 l0.length l0) (hc0 : l0.length <= c0) (h : q6_Pushed.f k l0 = some (r1, r2)) :
  Calls Tryd.prog 25 #[.slice A0 l0.length c0] w fun e w' => ∃ v0_ : Value, e = .returned (.tuple #[v0_, .bool r2]) /\ Kd.R k65 65 w' w.heap.size (fun _ => True) v0_ r1 /\ Below w.heap.size w w' := by
 have hu65 := Tryd.underlying65
 have HR0 := Asd.mk hr0
 have HC0 := Asd.mk hc0
 clear hr0 hc0
 have HB := Asd.mk (Below.refl w.heap.size w)
 have H : ((q6_texts.f k l0).bind fun bt360 => (if bt360.2 = true then (q6_Pushed.l0 k l0 ([] : List (S65)) bt360.1 0) else (some (([] : List (S65)), false)))) = some (r1, r2) := h
 clear h
 replace H := Option.bind_eq_some_iff.mp H
 obtain ⟨⟨t360, t361⟩, A20, H⟩ := H
 replace H : (if t361 = true then (q6_Pushed.l0 k l0 ([] : List (S65)) t360 0) else (some (([] : List (S65)), false))) = some (r1, r2) := H
 have A2 := Asd.mk A20
 clear A20
 by_cases c3 : t361 = true
 ·subst c3
  have H1 : (q6_Pushed.l0 k l0 ([] : List (S65)) t360 0) = some (r1, r2) := by rw [if_pos rfl] at H; exact H
  clear H
  have H := H1
  clear H1
  have H' := Asd.mk H
  clear H
  go_enter Tryd.func25, Tryd.ntmps25
  go_wp2_with (first | ((with_reducible refine gate_callee (f := 50) rfl ?_); refine goesL_ (some 16) rfl rfl Tryd.func50 (by kernel_rfl) rfl #[.slice A0 l0.length c0] rfl (by (try simp only [List.map_toArray, List.map_cons, List.map_nil]); first | done | rfl | (simp only [List.length_drop, List.length_take]; rfl)) ?_; (with_reducible refine (q6_texts.calls k _ _ l0 t360 true _ ?side1 ?side2 A2.out).mono ?_); (case side1 => repeat (first | exact HR0.out | (with_reducible refine Kd.C_alloc ?_ _) | (with_reducible refine Kd.C_drewN ?_ _) | (with_reducible refine Kd.C_drew ?_))); (case side2 => exact HC0.out); rintro e w4 ⟨v362, rfl, ho0, hb⟩; refine ⟨_, rfl, ?_⟩; have n0_ := Asd.mk (Kd.R_lower ho0 (below_size (by repeat (first | (with_reducible first | exact HB.out | apply bal | apply pbN | apply bd1) | exact HB.out)))); have n1_ := Asd.mk (below_step (by repeat (first | (with_reducible first | exact HB.out | apply bal | apply pbN | apply bd1) | exact HB.out)) hb); clear HB; have HO363 := n0_; have HB := n1_; clear n0_ n1_; (try clear hb); (try clear hb2); (try clear hk); (try clear hi); (try clear ho0)))
  go_loopg [4, 7] k (fun kq v4 v7 w' => ∃ (x4_1 : List (S65)) (x7_1 : Int), v7 = .int .i64 x7_1 /\ Asd (q6_Pushed.l0 kq l0 x4_1 t360 x7_1 = some (r1, r2)) /\ Asd (kq <= k) /\ Asd (Kd.R k65 65 w' w.heap.size (fun _ => True) v4 x4_1) /\ Asd (Kd.R Kd.string 9 w' w.heap.size (fun _ => True) v362 t360) /\ Asd (Below w.heap.size w w'))
  case atStart => exact ⟨(([] : List (S65))), (0), (by first | rfl | (simp; done) | (simp [*]; done)), H', ⟨Nat.le_refl _⟩, ⟨by first | exact Kd.R_nil _ _ _ _ _ | exact Kd.N_nil _ _ _ _ _ | exact Kd.V_nil _ _ _ _ _ | exact Kd.Q_nil _ _ _ _ _ | exact Kd.S_nil _ _ _ _ _⟩, ⟨by (with_reducible repeat (first | apply Kd.R_alloc | apply Kd.R_drewN | apply Kd.R_drew)); exact HO363.out⟩, ⟨by repeat (first | (with_reducible first | exact HB.out | apply bal | apply pbN | apply bd1) | exact HB.out)⟩⟩
  case round =>
   clear H'
   try clear c2
   try clear p2
   try clear c3
   obtain ⟨x4_1, x7_1, rfl, HA, HK1, HO_4, HO_5, HB⟩ := hrel
   cases gk with
   | zero => exact absurd HA.out (by simp [q6_Pushed.l0])
   | succ k1 =>
    have H := HA.out
    clear HA
    simp only [q6_Pushed.l0] at H
    by_cases c5 : x7_1 < (t360.length : Int)
    ·rw [if_pos c5] at H
     have c5b0 : decide (x7_1 < (t360.length : Int)) = true := decide_eq_true c5
     clear c5
     by_cases c6 : 0 <= x7_1
     ·rw [if_pos c6] at H
      have c6b0 : decide (0 <= x7_1) = true := decide_eq_true c6
      clear c6
      replace H := Option.bind_eq_some_iff.mp H
      obtain ⟨⟨t365, t366⟩, A70, H⟩ := H
      replace H : ((q6_word.f k1 t366).bind fun bt367 => (if t365.toList = ([45] : List UInt8) then (if bt367.1.toList = ([45] : List UInt8) then (if x4_1.length < 2932031007402 then (q6_Pushed.l0 k1 l0 (x4_1 ++ [(⟨bt367.2, (⟨#[]⟩ : ByteArray), (⟨#[]⟩ : ByteArray)⟩ : S65)]) t360 (wrap64 (x7_1 + 1))) else (none)) else (if x4_1.length < 2932031007402 then (q6_Pushed.l0 k1 l0 (x4_1 ++ [(⟨bt367.2, (⟨#[]⟩ : ByteArray), bt367.1⟩ : S65)]) t360 (wrap64 (x7_1 + 1))) else (none))) else (if bt367.1.toList = ([45] : List UInt8) then (if x4_1.length < 2932031007402 then (q6_Pushed.l0 k1 l0 (x4_1 ++ [(⟨bt367.2, t365, (⟨#[]⟩ : ByteArray)⟩ : S65)]) t360 (wrap64 (x7_1 + 1))) else (none)) else (if x4_1.length < 2932031007402 then (q6_Pushed.l0 k1 l0 (x4_1 ++ [(⟨bt367.2, t365, bt367.1⟩ : S65)]) t360 (wrap64 (x7_1 + 1))) else (none))))) = some (r1, r2) := H
      have A7 := Asd.mk A70
      clear A70
      replace H := Option.bind_eq_some_iff.mp H
      obtain ⟨⟨t367, t368⟩, A80, H⟩ := H
      replace H : (if t365.toList = ([45] : List UInt8) then (if t367.toList = ([45] : List UInt8) then (if x4_1.length < 2932031007402 then (q6_Pushed.l0 k1 l0 (x4_1 ++ [(⟨t368, (⟨#[]⟩ : ByteArray), (⟨#[]⟩ : ByteArray)⟩ : S65)]) t360 (wrap64 (x7_1 + 1))) else (none)) else (if x4_1.length < 2932031007402 then (q6_Pushed.l0 k1 l0 (x4_1 ++ [(⟨t368, (⟨#[]⟩ : ByteArray), t367⟩ : S65)]) t360 (wrap64 (x7_1 + 1))) else (none))) else (if t367.toList = ([45] : List UInt8) then (if x4_1.length < 2932031007402 then (q6_Pushed.l0 k1 l0 (x4_1 ++ [(⟨t368, t365, (⟨#[]⟩ : ByteArray)⟩ : S65)]) t360 (wrap64 (x7_1 + 1))) else (none)) else (if x4_1.length < 2932031007402 then (q6_Pushed.l0 k1 l0 (x4_1 ++ [(⟨t368, t365, t367⟩ : S65)]) t360 (wrap64 (x7_1 + 1))) else (none)))) = some (r1, r2) := H
      have A8 := Asd.mk A80
      clear A80
      by_cases c9 : t365.toList = ([45] : List UInt8)
      ·rw [if_pos c9] at H
       have c9b0 : (t365.toList == ([45] : List UInt8)) = true := beq_iff_eq.mpr c9
       have c9b1 : (t365.toList != ([45] : List UInt8)) = false := bne_eq_false_iff_eq.mpr c9
       clear c9
       by_cases c10 : t367.toList = ([45] : List UInt8)
       ·rw [if_pos c10] at H
        have c10b0 : (t367.toList == ([45] : List UInt8)) = true := beq_iff_eq.mpr c10
        have c10b1 : (t367.toList != ([45] : List UInt8)) = false := bne_eq_false_iff_eq.mpr c10
        clear c10
        by_cases c11 : x4_1.length < 2932031007402
        ·rw [if_pos c11] at H
         have LMc11 := Asd.mk c11
         clear c11
         obtain ⟨y369, hy369⟩ : ∃ y_ : List (S65), y_ = (x4_1 ++ [(⟨t368, (⟨#[]⟩ : ByteArray), (⟨#[]⟩ : ByteArray)⟩ : S65)]) := ⟨_, rfl⟩
         replace H : (q6_Pushed.l0 k1 l0 y369 t360 (wrap64 (x7_1 + 1))) = some (r1, r2) := by first | (rw [hy369]; with_reducible exact H) | (have H2_ := (Option.bind_some _ _).symm.trans H; rw [hy369]; with_reducible exact H2_) | (have H2_ := (Option.bind_some _ _).symm.trans H; with_reducible exact H2_) | with_reducible exact H | (rw [hy369]; exact H) | exact H
         have Ny369 := Asd.mk hy369
         clear hy369
         have H' := Asd.mk H
         clear H
         obtain ⟨Ao12, co12, eo12⟩ := Kd.R_slice HO_5.out
         subst eo12
         have p364 : 0 <= (x7_1 : Int) := of_decide_eq_true (by first | (with_reducible assumption) | assumption)
         have q364 : x7_1 < (t360.length : Int) := of_decide_eq_true (by first | (with_reducible assumption) | assumption)
         obtain ⟨ad364, e364, hx364_0⟩ := Kd.at_string (Kd.R_reads' HO_5.out).2.2 x7_1 p364 q364
         cases e364
         replace p364 := eq_true p364
         replace q364 := eq_true q364
         go_wp2_with (first | ((with_reducible refine gate_callee (f := 52) rfl ?_); refine goesL_ (some 32) rfl rfl Tryd.func52 (by kernel_rfl) rfl #[.string (rdOf ByteArray.empty t360 x7_1)] rfl (by (try simp only [List.map_toArray, List.map_cons, List.map_nil]); first | done | rfl | (simp only [List.length_drop, List.length_take]; rfl)) ?_; (with_reducible refine (q6_word.calls k1 (rdOf ByteArray.empty t360 x7_1) t365 t366 _ A7.out).mono ?_); rintro e w' ⟨rfl, ⟨nd, rfl⟩⟩; refine ⟨_, rfl, ?_⟩) | ((with_reducible refine gate_callee (f := 52) rfl ?_); refine goesL_ (some 37) rfl rfl Tryd.func52 (by kernel_rfl) rfl #[.string t366] rfl (by (try simp only [List.map_toArray, List.map_cons, List.map_nil]); first | done | rfl | (simp only [List.length_drop, List.length_take]; rfl)) ?_; (with_reducible refine (q6_word.calls k1 t366 t367 t368 _ A8.out).mono ?_); rintro e w' ⟨rfl, ⟨nd, rfl⟩⟩; refine ⟨_, rfl, ?_⟩) | ((with_reducible refine gate_builtin (b := .append) (xs := #[.tmp 44, .tmp 49]) rfl ?_); at_builtin; refine Kd.R_append k65 (w0 := w) w.heap.size rfl (.tmp 44) (.tmp 49) 26 65 (.agg #[(.string ⟨#[]⟩), (.string ⟨#[]⟩), (.string ⟨#[]⟩)]) 48 rfl Tryd.underlying26 info65 rfl (by decide) (by omega) u4 x4_1 (⟨t368, (⟨#[]⟩ : ByteArray), (⟨#[]⟩ : ByteArray)⟩ : S65) [.string t368, .string (⟨#[]⟩ : ByteArray), .string (⟨#[]⟩ : ByteArray)] (fun _ => True) (fun _ => False) rfl rfl ?aP (fun _ hk => hk.elim) ?aF ?aO ?aB ?aS ?aL ?_; (case aP => exact k65_mkM _ _ _ (⟨t368, (⟨#[]⟩ : ByteArray), (⟨#[]⟩ : ByteArray)⟩ : S65)); (case aB => exact (by repeat (first | (with_reducible first | exact HB.out | apply bal | apply pbN | apply bd1) | exact HB.out))); (case aF => exact (fun _ _ => trivial)); (case aO => exact (by (with_reducible repeat (first | apply Kd.R_alloc | apply Kd.R_drewN | apply Kd.R_drew)); exact HO_4.out)); (case aS => exact (below_size (by repeat (first | (with_reducible first | exact HB.out | apply bal | apply pbN | apply bd1) | exact HB.out)))); (case aL => have := LMc11.out; omega); intro v370 w13 ho hb hg hat; rw [<- Ny369.out] at ho; have n0_ := Asd.mk (Kd.R_over' (by (with_reducible repeat (first | apply Kd.R_alloc | apply Kd.R_drewN | apply Kd.R_drew)); exact HO_5.out) (Kd.R_typed (by (with_reducible repeat (first | apply Kd.R_alloc | apply Kd.R_drewN | apply Kd.R_drew)); exact HO_4.out)) (by decide) hg); have n1_ := Asd.mk (hb); have n2_ := Asd.mk (ho); clear HO_5; clear HB; clear HO_4; have HO_5 := n0_; have HB := n1_; have HO371 := n2_; clear n0_ n1_ n2_; clear ho hb hg hat))
         go_roundg k1
         case measure => have := HK1.out; omega
         case rel => exact ⟨(y369), (wrap64 (x7_1 + 1)), (by first | rfl | (simp; done) | (simp [*]; done)), H', ⟨by have := HK1.out; omega⟩, ⟨by (with_reducible repeat (first | apply Kd.R_alloc | apply Kd.R_drewN | apply Kd.R_drew)); exact HO371.out⟩, ⟨by (with_reducible repeat (first | apply Kd.R_alloc | apply Kd.R_drewN | apply Kd.R_drew)); exact HO_5.out⟩, ⟨by repeat (first | (with_reducible first | exact HB.out | apply bal | apply pbN | apply bd1) | exact HB.out)⟩⟩
        ·rw [if_neg c11] at H
         exact absurd H (by simp)
       ·rw [if_neg c10] at H
        have c10b0 : (t367.toList == ([45] : List UInt8)) = false := beq_eq_false_iff_ne.mpr c10
        have c10b1 : (t367.toList != ([45] : List UInt8)) = true := bne_iff_ne.mpr c10
        by_cases c14 : x4_1.length < 2932031007402
        ·rw [if_pos c14] at H
         have LMc14 := Asd.mk c14
         clear c14
         obtain ⟨y372, hy372⟩ : ∃ y_ : List (S65), y_ = (x4_1 ++ [(⟨t368, (⟨#[]⟩ : ByteArray), t367⟩ : S65)]) := ⟨_, rfl⟩
         replace H : (q6_Pushed.l0 k1 l0 y372 t360 (wrap64 (x7_1 + 1))) = some (r1, r2) := by first | (rw [hy372]; with_reducible exact H) | (have H2_ := (Option.bind_some _ _).symm.trans H; rw [hy372]; with_reducible exact H2_) | (have H2_ := (Option.bind_some _ _).symm.trans H; with_reducible exact H2_) | with_reducible exact H | (rw [hy372]; exact H) | exact H
         have Ny372 := Asd.mk hy372
         clear hy372
         have H' := Asd.mk H
         clear H
         obtain ⟨Ao15, co15, eo15⟩ := Kd.R_slice HO_5.out
         subst eo15
         have p364 : 0 <= (x7_1 : Int) := of_decide_eq_true (by first | (with_reducible assumption) | assumption)
         have q364 : x7_1 < (t360.length : Int) := of_decide_eq_true (by first | (with_reducible assumption) | assumption)
         obtain ⟨ad364, e364, hx364_0⟩ := Kd.at_string (Kd.R_reads' HO_5.out).2.2 x7_1 p364 q364
         cases e364
         replace p364 := eq_true p364
         replace q364 := eq_true q364
         go_wp2_with (first | ((with_reducible refine gate_callee (f := 52) rfl ?_); refine goesL_ (some 32) rfl rfl Tryd.func52 (by kernel_rfl) rfl #[.string (rdOf ByteArray.empty t360 x7_1)] rfl (by (try simp only [List.map_toArray, List.map_cons, List.map_nil]); first | done | rfl | (simp only [List.length_drop, List.length_take]; rfl)) ?_; (with_reducible refine (q6_word.calls k1 (rdOf ByteArray.empty t360 x7_1) t365 t366 _ A7.out).mono ?_); rintro e w' ⟨rfl, ⟨nd, rfl⟩⟩; refine ⟨_, rfl, ?_⟩) | ((with_reducible refine gate_callee (f := 52) rfl ?_); refine goesL_ (some 37) rfl rfl Tryd.func52 (by kernel_rfl) rfl #[.string t366] rfl (by (try simp only [List.map_toArray, List.map_cons, List.map_nil]); first | done | rfl | (simp only [List.length_drop, List.length_take]; rfl)) ?_; (with_reducible refine (q6_word.calls k1 t366 t367 t368 _ A8.out).mono ?_); rintro e w' ⟨rfl, ⟨nd, rfl⟩⟩; refine ⟨_, rfl, ?_⟩) | ((with_reducible refine gate_builtin (b := .append) (xs := #[.tmp 44, .tmp 49]) rfl ?_); at_builtin; refine Kd.R_append k65 (w0 := w) w.heap.size rfl (.tmp 44) (.tmp 49) 26 65 (.agg #[(.string ⟨#[]⟩), (.string ⟨#[]⟩), (.string ⟨#[]⟩)]) 48 rfl Tryd.underlying26 info65 rfl (by decide) (by omega) u4 x4_1 (⟨t368, (⟨#[]⟩ : ByteArray), t367⟩ : S65) [.string t368, .string (⟨#[]⟩ : ByteArray), .string t367] (fun _ => True) (fun _ => False) rfl rfl ?aP (fun _ hk => hk.elim) ?aF ?aO ?aB ?aS ?aL ?_; (case aP => exact k65_mkM _ _ _ (⟨t368, (⟨#[]⟩ : ByteArray), t367⟩ : S65)); (case aB => exact (by repeat (first | (with_reducible first | exact HB.out | apply bal | apply pbN | apply bd1) | exact HB.out))); (case aF => exact (fun _ _ => trivial)); (case aO => exact (by (with_reducible repeat (first | apply Kd.R_alloc | apply Kd.R_drewN | apply Kd.R_drew)); exact HO_4.out)); (case aS => exact (below_size (by repeat (first | (with_reducible first | exact HB.out | apply bal | apply pbN | apply bd1) | exact HB.out)))); (case aL => have := LMc14.out; omega); intro v373 w16 ho hb hg hat; rw [<- Ny372.out] at ho; have n0_ := Asd.mk (Kd.R_over' (by (with_reducible repeat (first | apply Kd.R_alloc | apply Kd.R_drewN | apply Kd.R_drew)); exact HO_5.out) (Kd.R_typed (by (with_reducible repeat (first | apply Kd.R_alloc | apply Kd.R_drewN | apply Kd.R_drew)); exact HO_4.out)) (by decide) hg); have n1_ := Asd.mk (hb); have n2_ := Asd.mk (ho); clear HO_5; clear HB; clear HO_4; have HO_5 := n0_; have HB := n1_; have HO374 := n2_; clear n0_ n1_ n2_; clear ho hb hg hat))
         go_roundg k1
         case measure => have := HK1.out; omega
         case rel => exact ⟨(y372), (wrap64 (x7_1 + 1)), (by first | rfl | (simp; done) | (simp [*]; done)), H', ⟨by have := HK1.out; omega⟩, ⟨by (with_reducible repeat (first | apply Kd.R_alloc | apply Kd.R_drewN | apply Kd.R_drew)); exact HO374.out⟩, ⟨by (with_reducible repeat (first | apply Kd.R_alloc | apply Kd.R_drewN | apply Kd.R_drew)); exact HO_5.out⟩, ⟨by repeat (first | (with_reducible first | exact HB.out | apply bal | apply pbN | apply bd1) | exact HB.out)⟩⟩
        ·rw [if_neg c14] at H
         exact absurd H (by simp)
      ·rw [if_neg c9] at H
       have c9b0 : (t365.toList == ([45] : List UInt8)) = false := beq_eq_false_iff_ne.mpr c9
       have c9b1 : (t365.toList != ([45] : List UInt8)) = true := bne_iff_ne.mpr c9
       by_cases c17 : t367.toList = ([45] : List UInt8)
       ·rw [if_pos c17] at H
        have c17b0 : (t367.toList == ([45] : List UInt8)) = true := beq_iff_eq.mpr c17
        have c17b1 : (t367.toList != ([45] : List UInt8)) = false := bne_eq_false_iff_eq.mpr c17
        clear c17
        by_cases c18 : x4_1.length < 2932031007402
        ·rw [if_pos c18] at H
         have LMc18 := Asd.mk c18
         clear c18
         obtain ⟨y375, hy375⟩ : ∃ y_ : List (S65), y_ = (x4_1 ++ [(⟨t368, t365, (⟨#[]⟩ : ByteArray)⟩ : S65)]) := ⟨_, rfl⟩
         replace H : (q6_Pushed.l0 k1 l0 y375 t360 (wrap64 (x7_1 + 1))) = some (r1, r2) := by first | (rw [hy375]; with_reducible exact H) | (have H2_ := (Option.bind_some _ _).symm.trans H; rw [hy375]; with_reducible exact H2_) | (have H2_ := (Option.bind_some _ _).symm.trans H; with_reducible exact H2_) | with_reducible exact H | (rw [hy375]; exact H) | exact H
         have Ny375 := Asd.mk hy375
         clear hy375
         have H' := Asd.mk H
         clear H
         obtain ⟨Ao19, co19, eo19⟩ := Kd.R_slice HO_5.out
         subst eo19
         have p364 : 0 <= (x7_1 : Int) := of_decide_eq_true (by first | (with_reducible assumption) | assumption)
         have q364 : x7_1 < (t360.length : Int) := of_decide_eq_true (by first | (with_reducible assumption) | assumption)
         obtain ⟨ad364, e364, hx364_0⟩ := Kd.at_string (Kd.R_reads' HO_5.out).2.2 x7_1 p364 q364
         cases e364
         replace p364 := eq_true p364
         replace q364 := eq_true q364
         go_wp2_with (first | ((with_reducible refine gate_callee (f := 52) rfl ?_); refine goesL_ (some 32) rfl rfl Tryd.func52 (by kernel_rfl) rfl #[.string (rdOf ByteArray.empty t360 x7_1)] rfl (by (try simp only [List.map_toArray, List.map_cons, List.map_nil]); first | done | rfl | (simp only [List.length_drop, List.length_take]; rfl)) ?_; (with_reducible refine (q6_word.calls k1 (rdOf ByteArray.empty t360 x7_1) t365 t366 _ A7.out).mono ?_); rintro e w' ⟨rfl, ⟨nd, rfl⟩⟩; refine ⟨_, rfl, ?_⟩) | ((with_reducible refine gate_callee (f := 52) rfl ?_); refine goesL_ (some 37) rfl rfl Tryd.func52 (by kernel_rfl) rfl #[.string t366] rfl (by (try simp only [List.map_toArray, List.map_cons, List.map_nil]); first | done | rfl | (simp only [List.length_drop, List.length_take]; rfl)) ?_; (with_reducible refine (q6_word.calls k1 t366 t367 t368 _ A8.out).mono ?_); rintro e w' ⟨rfl, ⟨nd, rfl⟩⟩; refine ⟨_, rfl, ?_⟩) | ((with_reducible refine gate_builtin (b := .append) (xs := #[.tmp 44, .tmp 49]) rfl ?_); at_builtin; refine Kd.R_append k65 (w0 := w) w.heap.size rfl (.tmp 44) (.tmp 49) 26 65 (.agg #[(.string ⟨#[]⟩), (.string ⟨#[]⟩), (.string ⟨#[]⟩)]) 48 rfl Tryd.underlying26 info65 rfl (by decide) (by omega) u4 x4_1 (⟨t368, t365, (⟨#[]⟩ : ByteArray)⟩ : S65) [.string t368, .string t365, .string (⟨#[]⟩ : ByteArray)] (fun _ => True) (fun _ => False) rfl rfl ?aP (fun _ hk => hk.elim) ?aF ?aO ?aB ?aS ?aL ?_; (case aP => exact k65_mkM _ _ _ (⟨t368, t365, (⟨#[]⟩ : ByteArray)⟩ : S65)); (case aB => exact (by repeat (first | (with_reducible first | exact HB.out | apply bal | apply pbN | apply bd1) | exact HB.out))); (case aF => exact (fun _ _ => trivial)); (case aO => exact (by (with_reducible repeat (first | apply Kd.R_alloc | apply Kd.R_drewN | apply Kd.R_drew)); exact HO_4.out)); (case aS => exact (below_size (by repeat (first | (with_reducible first | exact HB.out | apply bal | apply pbN | apply bd1) | exact HB.out)))); (case aL => have := LMc18.out; omega); intro v376 w20 ho hb hg hat; rw [<- Ny375.out] at ho; have n0_ := Asd.mk (Kd.R_over' (by (with_reducible repeat (first | apply Kd.R_alloc | apply Kd.R_drewN | apply Kd.R_drew)); exact HO_5.out) (Kd.R_typed (by (with_reducible repeat (first | apply Kd.R_alloc | apply Kd.R_drewN | apply Kd.R_drew)); exact HO_4.out)) (by decide) hg); have n1_ := Asd.mk (hb); have n2_ := Asd.mk (ho); clear HO_5; clear HB; clear HO_4; have HO_5 := n0_; have HB := n1_; have HO377 := n2_; clear n0_ n1_ n2_; clear ho hb hg hat))
         go_roundg k1
         case measure => have := HK1.out; omega
         case rel => exact ⟨(y375), (wrap64 (x7_1 + 1)), (by first | rfl | (simp; done) | (simp [*]; done)), H', ⟨by have := HK1.out; omega⟩, ⟨by (with_reducible repeat (first | apply Kd.R_alloc | apply Kd.R_drewN | apply Kd.R_drew)); exact HO377.out⟩, ⟨by (with_reducible repeat (first | apply Kd.R_alloc | apply Kd.R_drewN | apply Kd.R_drew)); exact HO_5.out⟩, ⟨by repeat (first | (with_reducible first | exact HB.out | apply bal | apply pbN | apply bd1) | exact HB.out)⟩⟩
        ·rw [if_neg c18] at H
         exact absurd H (by simp)
       ·rw [if_neg c17] at H
        have c17b0 : (t367.toList == ([45] : List UInt8)) = false := beq_eq_false_iff_ne.mpr c17
        have c17b1 : (t367.toList != ([45] : List UInt8)) = true := bne_iff_ne.mpr c17
        by_cases c21 : x4_1.length < 2932031007402
        ·rw [if_pos c21] at H
         have LMc21 := Asd.mk c21
         clear c21
         obtain ⟨y378, hy378⟩ : ∃ y_ : List (S65), y_ = (x4_1 ++ [(⟨t368, t365, t367⟩ : S65)]) := ⟨_, rfl⟩
         replace H : (q6_Pushed.l0 k1 l0 y378 t360 (wrap64 (x7_1 + 1))) = some (r1, r2) := by first | (rw [hy378]; with_reducible exact H) | (have H2_ := (Option.bind_some _ _).symm.trans H; rw [hy378]; with_reducible exact H2_) | (have H2_ := (Option.bind_some _ _).symm.trans H; with_reducible exact H2_) | with_reducible exact H | (rw [hy378]; exact H) | exact H
         have Ny378 := Asd.mk hy378
         clear hy378
         have H' := Asd.mk H
         clear H
         obtain ⟨Ao22, co22, eo22⟩ := Kd.R_slice HO_5.out
         subst eo22
         have p364 : 0 <= (x7_1 : Int) := of_decide_eq_true (by first | (with_reducible assumption) | assumption)
         have q364 : x7_1 < (t360.length : Int) := of_decide_eq_true (by first | (with_reducible assumption) | assumption)
         obtain ⟨ad364, e364, hx364_0⟩ := Kd.at_string (Kd.R_reads' HO_5.out).2.2 x7_1 p364 q364
         cases e364
         replace p364 := eq_true p364
         replace q364 := eq_true q364
         go_wp2_with (first | ((with_reducible refine gate_callee (f := 52) rfl ?_); refine goesL_ (some 32) rfl rfl Tryd.func52 (by kernel_rfl) rfl #[.string (rdOf ByteArray.empty t360 x7_1)] rfl (by (try simp only [List.map_toArray, List.map_cons, List.map_nil]); first | done | rfl | (simp only [List.length_drop, List.length_take]; rfl)) ?_; (with_reducible refine (q6_word.calls k1 (rdOf ByteArray.empty t360 x7_1) t365 t366 _ A7.out).mono ?_); rintro e w' ⟨rfl, ⟨nd, rfl⟩⟩; refine ⟨_, rfl, ?_⟩) | ((with_reducible refine gate_callee (f := 52) rfl ?_); refine goesL_ (some 37) rfl rfl Tryd.func52 (by kernel_rfl) rfl #[.string t366] rfl (by (try simp only [List.map_toArray, List.map_cons, List.map_nil]); first | done | rfl | (simp only [List.length_drop, List.length_take]; rfl)) ?_; (with_reducible refine (q6_word.calls k1 t366 t367 t368 _ A8.out).mono ?_); rintro e w' ⟨rfl, ⟨nd, rfl⟩⟩; refine ⟨_, rfl, ?_⟩) | ((with_reducible refine gate_builtin (b := .append) (xs := #[.tmp 44, .tmp 49]) rfl ?_); at_builtin; refine Kd.R_append k65 (w0 := w) w.heap.size rfl (.tmp 44) (.tmp 49) 26 65 (.agg #[(.string ⟨#[]⟩), (.string ⟨#[]⟩), (.string ⟨#[]⟩)]) 48 rfl Tryd.underlying26 info65 rfl (by decide) (by omega) u4 x4_1 (⟨t368, t365, t367⟩ : S65) [.string t368, .string t365, .string t367] (fun _ => True) (fun _ => False) rfl rfl ?aP (fun _ hk => hk.elim) ?aF ?aO ?aB ?aS ?aL ?_; (case aP => exact k65_mkM _ _ _ (⟨t368, t365, t367⟩ : S65)); (case aB => exact (by repeat (first | (with_reducible first | exact HB.out | apply bal | apply pbN | apply bd1) | exact HB.out))); (case aF => exact (fun _ _ => trivial)); (case aO => exact (by (with_reducible repeat (first | apply Kd.R_alloc | apply Kd.R_drewN | apply Kd.R_drew)); exact HO_4.out)); (case aS => exact (below_size (by repeat (first | (with_reducible first | exact HB.out | apply bal | apply pbN | apply bd1) | exact HB.out)))); (case aL => have := LMc21.out; omega); intro v379 w23 ho hb hg hat; rw [<- Ny378.out] at ho; have n0_ := Asd.mk (Kd.R_over' (by (with_reducible repeat (first | apply Kd.R_alloc | apply Kd.R_drewN | apply Kd.R_drew)); exact HO_5.out) (Kd.R_typed (by (with_reducible repeat (first | apply Kd.R_alloc | apply Kd.R_drewN | apply Kd.R_drew)); exact HO_4.out)) (by decide) hg); have n1_ := Asd.mk (hb); have n2_ := Asd.mk (ho); clear HO_5; clear HB; clear HO_4; have HO_5 := n0_; have HB := n1_; have HO380 := n2_; clear n0_ n1_ n2_; clear ho hb hg hat))
         go_roundg k1
         case measure => have := HK1.out; omega
         case rel => exact ⟨(y378), (wrap64 (x7_1 + 1)), (by first | rfl | (simp; done) | (simp [*]; done)), H', ⟨by have := HK1.out; omega⟩, ⟨by (with_reducible repeat (first | apply Kd.R_alloc | apply Kd.R_drewN | apply Kd.R_drew)); exact HO380.out⟩, ⟨by (with_reducible repeat (first | apply Kd.R_alloc | apply Kd.R_drewN | apply Kd.R_drew)); exact HO_5.out⟩, ⟨by repeat (first | (with_reducible first | exact HB.out | apply bal | apply pbN | apply bd1) | exact HB.out)⟩⟩
        ·rw [if_neg c21] at H
         exact absurd H (by simp)
     ·rw [if_neg c6] at H
      exact absurd H (by simp)
    ·rw [if_neg c5] at H
     have c5b0 : decide (x7_1 < (t360.length : Int)) = false := decide_eq_false c5
     clear c5
     replace H := Option.bind_eq_some_iff.mp H
     obtain ⟨⟨t381, t382⟩, A240, H⟩ := H
     replace H : (if t382 = true then ((q5_Same.f k1 t381 l0).bind fun t385 => (if t385 = true then (some (x4_1, true)) else (some (([] : List (S65)), false)))) else (some (([] : List (S65)), false))) = some (r1, r2) := H
     have A24 := Asd.mk A240
     clear A240
     by_cases c25 : t382 = true
     ·subst c25
      have H1 : ((q5_Same.f k1 t381 l0).bind fun t385 => (if t385 = true then (some (x4_1, true)) else (some (([] : List (S65)), false)))) = some (r1, r2) := by rw [if_pos rfl] at H; exact H
      clear H
      have H := H1
      clear H1
      replace H := Option.bind_eq_some_iff.mp H
      obtain ⟨t385, A260, H⟩ := H
      replace H : (if t385 = true then (some (x4_1, true)) else (some (([] : List (S65)), false))) = some (r1, r2) := H
      have A26 := Asd.mk A260
      clear A260
      by_cases c27 : t385 = true
      ·subst c27
       have H1 : (some (x4_1, true)) = some (r1, r2) := by rw [if_pos rfl] at H; exact H
       clear H
       have H := H1
       clear H1
       simp only [Option.some.injEq, Prod.mk.injEq] at H
       obtain ⟨rfl, rfl⟩ := H
       obtain ⟨Ao28, co28, eo28⟩ := Kd.R_slice HO_5.out
       subst eo28
       obtain ⟨Ao29, co29, eo29⟩ := Kd.R_slice HO_4.out
       subst eo29
       go_wp2_with (first | ((with_reducible refine gate_callee (f := 18) rfl ?_); refine goesL_ (some 53) rfl rfl Tryd.func18 (by kernel_rfl) rfl #[.slice Ao29 x4_1.length co29] rfl (by (try simp only [List.map_toArray, List.map_cons, List.map_nil]); first | done | rfl | (simp only [List.length_drop, List.length_take]; rfl)) ?_; (with_reducible refine (q6_Push.calls k1 _ _ x4_1 t381 true _ ?side1 ?side2 A24.out).mono ?_); (case side1 => repeat (first | exact (Kd.R_reads' HO_4.out).2.2 | (with_reducible refine Kd.C_alloc ?_ _) | (with_reducible refine Kd.C_drewN ?_ _) | (with_reducible refine Kd.C_drew ?_))); (case side2 => exact (Kd.R_reads' HO_4.out).2.1); rintro e w30 ⟨v383, rfl, ho0, hb⟩; refine ⟨_, rfl, ?_⟩; have n0_ := Asd.mk (Kd.R_below (by (with_reducible repeat (first | apply Kd.R_alloc | apply Kd.R_drewN | apply Kd.R_drew)); exact HO_4.out) hb); have n1_ := Asd.mk (Kd.R_below (by (with_reducible repeat (first | apply Kd.R_alloc | apply Kd.R_drewN | apply Kd.R_drew)); exact HO_5.out) hb); have n2_ := Asd.mk (Kd.R_lower ho0 (below_size (by repeat (first | (with_reducible first | exact HB.out | apply bal | apply pbN | apply bd1) | exact HB.out)))); have n3_ := Asd.mk (below_step (by repeat (first | (with_reducible first | exact HB.out | apply bal | apply pbN | apply bd1) | exact HB.out)) hb); clear HO_4; clear HO_5; clear HB; have HO_4 := n0_; have HO_5 := n1_; have HO384 := n2_; have HB := n3_; clear n0_ n1_ n2_ n3_; (try clear hb); (try clear hb2); (try clear hk); (try clear hi); (try clear ho0); obtain ⟨Ao31, co31, eo31⟩ := Kd.R_slice HO384.out; subst eo31) | (go_at_call 19; (with_reducible refine (q5_Same.calls k1 _ _ t381 _ _ l0 true _ ?side1 ?side2 ?side3 ?side4 A26.out).mono ?_); (case side1 => repeat (first | exact (Kd.R_reads' HO384.out).2.2 | (with_reducible refine Kd.C_alloc ?_ _) | (with_reducible refine Kd.C_drewN ?_ _) | (with_reducible refine Kd.C_drew ?_))); (case side2 => exact (Kd.R_reads' HO384.out).2.1); (case side3 => repeat (first | exact (Kd.C_below HR0.out HB.out) | (with_reducible refine Kd.C_alloc ?_ _) | (with_reducible refine Kd.C_drewN ?_ _) | (with_reducible refine Kd.C_drew ?_))); (case side4 => exact HC0.out); rintro e w' ⟨rfl, ⟨nd, rfl⟩⟩))
       go_ret2
       exact ⟨_, by first | rfl | (simp [errW_none, errW_some] <;> rfl) | (simp [*, errW_none, errW_some] <;> rfl), by (with_reducible repeat (first | apply Kd.R_alloc | apply Kd.R_drewN | apply Kd.R_drew)); exact HO_4.out, by repeat (first | (with_reducible first | exact HB.out | apply bal | apply pbN | apply bd1) | exact HB.out)⟩
      ·replace c27 := Bool.eq_false_iff.mpr c27
       subst c27
       have H1 : (some (([] : List (S65)), false)) = some (r1, r2) := by rw [if_neg (show ¬ (false = true) by decide)] at H; exact H
       clear H
       have H := H1
       clear H1
       simp only [Option.some.injEq, Prod.mk.injEq] at H
       obtain ⟨rfl, rfl⟩ := H
       obtain ⟨Ao32, co32, eo32⟩ := Kd.R_slice HO_5.out
       subst eo32
       obtain ⟨Ao33, co33, eo33⟩ := Kd.R_slice HO_4.out
       subst eo33
       go_wp2_with (first | ((with_reducible refine gate_callee (f := 18) rfl ?_); refine goesL_ (some 53) rfl rfl Tryd.func18 (by kernel_rfl) rfl #[.slice Ao33 x4_1.length co33] rfl (by (try simp only [List.map_toArray, List.map_cons, List.map_nil]); first | done | rfl | (simp only [List.length_drop, List.length_take]; rfl)) ?_; (with_reducible refine (q6_Push.calls k1 _ _ x4_1 t381 true _ ?side1 ?side2 A24.out).mono ?_); (case side1 => repeat (first | exact (Kd.R_reads' HO_4.out).2.2 | (with_reducible refine Kd.C_alloc ?_ _) | (with_reducible refine Kd.C_drewN ?_ _) | (with_reducible refine Kd.C_drew ?_))); (case side2 => exact (Kd.R_reads' HO_4.out).2.1); rintro e w34 ⟨v383, rfl, ho0, hb⟩; refine ⟨_, rfl, ?_⟩; have n0_ := Asd.mk (Kd.R_below (by (with_reducible repeat (first | apply Kd.R_alloc | apply Kd.R_drewN | apply Kd.R_drew)); exact HO_4.out) hb); have n1_ := Asd.mk (Kd.R_below (by (with_reducible repeat (first | apply Kd.R_alloc | apply Kd.R_drewN | apply Kd.R_drew)); exact HO_5.out) hb); have n2_ := Asd.mk (Kd.R_lower ho0 (below_size (by repeat (first | (with_reducible first | exact HB.out | apply bal | apply pbN | apply bd1) | exact HB.out)))); have n3_ := Asd.mk (below_step (by repeat (first | (with_reducible first | exact HB.out | apply bal | apply pbN | apply bd1) | exact HB.out)) hb); clear HO_4; clear HO_5; clear HB; have HO_4 := n0_; have HO_5 := n1_; have HO384 := n2_; have HB := n3_; clear n0_ n1_ n2_ n3_; (try clear hb); (try clear hb2); (try clear hk); (try clear hi); (try clear ho0); obtain ⟨Ao35, co35, eo35⟩ := Kd.R_slice HO384.out; subst eo35) | (go_at_call 19; (with_reducible refine (q5_Same.calls k1 _ _ t381 _ _ l0 false _ ?side1 ?side2 ?side3 ?side4 A26.out).mono ?_); (case side1 => repeat (first | exact (Kd.R_reads' HO384.out).2.2 | (with_reducible refine Kd.C_alloc ?_ _) | (with_reducible refine Kd.C_drewN ?_ _) | (with_reducible refine Kd.C_drew ?_))); (case side2 => exact (Kd.R_reads' HO384.out).2.1); (case side3 => repeat (first | exact (Kd.C_below HR0.out HB.out) | (with_reducible refine Kd.C_alloc ?_ _) | (with_reducible refine Kd.C_drewN ?_ _) | (with_reducible refine Kd.C_drew ?_))); (case side4 => exact HC0.out); rintro e w' ⟨rfl, ⟨nd, rfl⟩⟩))
       go_ret2
       exact ⟨_, by first | rfl | (simp [errW_none, errW_some] <;> rfl) | (simp [*, errW_none, errW_some] <;> rfl), by first | exact Kd.R_nil _ _ _ _ _ | exact Kd.N_nil _ _ _ _ _ | exact Kd.V_nil _ _ _ _ _ | exact Kd.Q_nil _ _ _ _ _ | exact Kd.S_nil _ _ _ _ _, by repeat (first | (with_reducible first | exact HB.out | apply bal | apply pbN | apply bd1) | exact HB.out)⟩
     ·replace c25 := Bool.eq_false_iff.mpr c25
      subst c25
      have H1 : (some (([] : List (S65)), false)) = some (r1, r2) := by rw [if_neg (show ¬ (false = true) by decide)] at H; exact H
      clear H
      have H := H1
      clear H1
      simp only [Option.some.injEq, Prod.mk.injEq] at H
      obtain ⟨rfl, rfl⟩ := H
      obtain ⟨Ao36, co36, eo36⟩ := Kd.R_slice HO_5.out
      subst eo36
      obtain ⟨Ao37, co37, eo37⟩ := Kd.R_slice HO_4.out
      subst eo37
      go_wp2_with (first | ((with_reducible refine gate_callee (f := 18) rfl ?_); refine goesL_ (some 53) rfl rfl Tryd.func18 (by kernel_rfl) rfl #[.slice Ao37 x4_1.length co37] rfl (by (try simp only [List.map_toArray, List.map_cons, List.map_nil]); first | done | rfl | (simp only [List.length_drop, List.length_take]; rfl)) ?_; (with_reducible refine (q6_Push.calls k1 _ _ x4_1 t381 false _ ?side1 ?side2 A24.out).mono ?_); (case side1 => repeat (first | exact (Kd.R_reads' HO_4.out).2.2 | (with_reducible refine Kd.C_alloc ?_ _) | (with_reducible refine Kd.C_drewN ?_ _) | (with_reducible refine Kd.C_drew ?_))); (case side2 => exact (Kd.R_reads' HO_4.out).2.1); rintro e w38 ⟨v383, rfl, ho0, hb⟩; refine ⟨_, rfl, ?_⟩; have n0_ := Asd.mk (Kd.R_below (by (with_reducible repeat (first | apply Kd.R_alloc | apply Kd.R_drewN | apply Kd.R_drew)); exact HO_4.out) hb); have n1_ := Asd.mk (Kd.R_below (by (with_reducible repeat (first | apply Kd.R_alloc | apply Kd.R_drewN | apply Kd.R_drew)); exact HO_5.out) hb); have n2_ := Asd.mk (Kd.R_lower ho0 (below_size (by repeat (first | (with_reducible first | exact HB.out | apply bal | apply pbN | apply bd1) | exact HB.out)))); have n3_ := Asd.mk (below_step (by repeat (first | (with_reducible first | exact HB.out | apply bal | apply pbN | apply bd1) | exact HB.out)) hb); clear HO_4; clear HO_5; clear HB; have HO_4 := n0_; have HO_5 := n1_; have HO384 := n2_; have HB := n3_; clear n0_ n1_ n2_ n3_; (try clear hb); (try clear hb2); (try clear hk); (try clear hi); (try clear ho0)))
      go_ret2
      exact ⟨_, by first | rfl | (simp [errW_none, errW_some] <;> rfl) | (simp [*, errW_none, errW_some] <;> rfl), by first | exact Kd.R_nil _ _ _ _ _ | exact Kd.N_nil _ _ _ _ _ | exact Kd.V_nil _ _ _ _ _ | exact Kd.Q_nil _ _ _ _ _ | exact Kd.S_nil _ _ _ _ _, by repeat (first | (with_reducible first | exact HB.out | apply bal | apply pbN | apply bd1) | exact HB.out)⟩
 ·replace c3 := Bool.eq_false_iff.mpr c3
  subst c3
  have H1 : (some (([] : List (S65)), false)) = some (r1, r2) := by rw [if_neg (show ¬ (false = true) by decide)] at H; exact H
  clear H
  have H := H1
  clear H1
  simp only [Option.some.injEq, Prod.mk.injEq] at H
  obtain ⟨rfl, rfl⟩ := H
  go_enter Tryd.func25, Tryd.ntmps25
  go_wp2_with (first | ((with_reducible refine gate_callee (f := 50) rfl ?_); refine goesL_ (some 16) rfl rfl Tryd.func50 (by kernel_rfl) rfl #[.slice A0 l0.length c0] rfl (by (try simp only [List.map_toArray, List.map_cons, List.map_nil]); first | done | rfl | (simp only [List.length_drop, List.length_take]; rfl)) ?_; (with_reducible refine (q6_texts.calls k _ _ l0 t360 false _ ?side1 ?side2 A2.out).mono ?_); (case side1 => repeat (first | exact HR0.out | (with_reducible refine Kd.C_alloc ?_ _) | (with_reducible refine Kd.C_drewN ?_ _) | (with_reducible refine Kd.C_drew ?_))); (case side2 => exact HC0.out); rintro e w39 ⟨v362, rfl, ho0, hb⟩; refine ⟨_, rfl, ?_⟩; have n0_ := Asd.mk (Kd.R_lower ho0 (below_size (by repeat (first | (with_reducible first | exact HB.out | apply bal | apply pbN | apply bd1) | exact HB.out)))); have n1_ := Asd.mk (below_step (by repeat (first | (with_reducible first | exact HB.out | apply bal | apply pbN | apply bd1) | exact HB.out)) hb); clear HB; have HO363 := n0_; have HB := n1_; clear n0_ n1_; (try clear hb); (try clear hb2); (try clear hk); (try clear hi); (try clear ho0)))
  go_ret2
  exact ⟨_, by first | rfl | (simp [errW_none, errW_some] <;> rfl) | (simp [*, errW_none, errW_some] <;> rfl), by first | exact Kd.R_nil _ _ _ _ _ | exact Kd.N_nil _ _ _ _ _ | exact Kd.V_nil _ _ _ _ _ | exact Kd.Q_nil _ _ _ _ _ | exact Kd.S_nil _ _ _ _ _, by repeat (first | (with_reducible first | exact HB.out | apply bal | apply pbN | apply bd1) | exact HB.out)⟩
end Go.Proofs.YtmmionafcmnfoaaDoor.Print
