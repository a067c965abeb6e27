/- Functions of the program as plain functions, and proofs that the program's calls tell what these tell. Written by a program. -/
import Derived.Test.YtaadhjpcdnbbeaaGreatDoorPrint0
namespace Go.Proofs.YtaadhjpcdnbbeaaGreatDoor.Print
open Go.RowKit Go.Proofs.YtaadhjpcdnbbeaaGreatDoorW.PrintWords Go.Proofs.YtaadhjpcdnbbeaaGreatDoorW.PrintLast Go.Proofs.YtaadhjpcdnbbeaaGreatDoorW.PrintMore Go.Proofs.YtaadhjpcdnbbeaaGreatDoor.Conv
attribute [local go_sem] max2_int min2_int max_two min_two max_three min_three max_four min_four
set_option linter.unusedVariables false
set_option linter.unusedSimpArgs false
def hello_ended.l0 : Nat -> List (S60) -> List ByteArray -> Int -> Int -> Option ((List (S60)))
 | 0, _, _, _, _ => none
 | k + 1, x3, x6, x7, x8 => if x8 < x7 then (if 0 <= x8 then (if x8 < (x6.length : Int) then (if (rdOf ByteArray.empty x6 x8).size + 1 <= 9223372036854775807 then (if x3.length < 5864062014805 then (hello_ended.l0 k (x3 ++ [(⟨false, (rdOf ByteArray.empty x6 x8) ++ (⟨#[10]⟩ : ByteArray)⟩ : S60)]) x6 x7 (wrap64 (x8 + 1))) else (none)) else (none)) else (none)) else (none)) else (if x3.length < 5864062014805 then (some (x3 ++ [(⟨true, (⟨#[]⟩ : ByteArray)⟩ : S60)])) else (none))
def hello_ended.f (k : Nat) (l0 : List ByteArray) : Option ((List (S60))) := hello_ended.l0 k ([] : List (S60)) l0 (l0.length : Int) 0
set_option maxHeartbeats 8000000 in
set_option maxRecDepth 100000 in
theorem hello_ended.calls (k : Nat) (A0 : Option Addr) (c0 : Nat) (l0 : List ByteArray) (r : List (S60)) (w : World) (hr0 : Kd.C Kd.string w A0 l0.length l0) (hc0 : l0.length <= c0) (h : hello_ended.f k l0 = some r) :
  Calls Tryz.prog 30 #[.slice A0 l0.length c0] w fun e w' => ∃ v0_ : Value, e = .returned (v0_) /\ Kd.R k60 60 w' w.heap.size (fun _ => True) v0_ r /\ Below w.heap.size w w' := by
 have hu60 := Tryz.underlying60
 have HR0 := Asd.mk hr0
 have HC0 := Asd.mk hc0
 clear hr0 hc0
 have HB := Asd.mk (Below.refl w.heap.size w)
 have H : (hello_ended.l0 k ([] : List (S60)) l0 (l0.length : Int) 0) = some r := h
 clear h
 have H' := Asd.mk H
 clear H
 go_enter Tryz.func30, Tryz.ntmps30
 go_wp2
 go_loopg [3, 8] k (fun kq v3 v8 w' => ∃ (x3_1 : List (S60)) (x8_1 : Int), v8 = .int .i64 x8_1 /\ Asd (hello_ended.l0 kq x3_1 l0 (l0.length : Int) x8_1 = some r) /\ Asd (kq <= k) /\ Asd (Kd.R k60 60 w' w.heap.size (fun _ => True) v3 x3_1) /\ Asd (Below w.heap.size w w'))
 case atStart => exact ⟨(([] : List (S60))), (0), (by first | rfl | (simp; done) | (simp [*]; done)), H', ⟨Nat.le_refl _⟩, ⟨by first | exact Kd.R_nil _ _ _ _ _ | exact Kd.N_nil _ _ _ _ _ | exact Kd.V_nil _ _ _ _ _ | exact Kd.Q_nil _ _ _ _ _ | exact Kd.S_nil _ _ _ _ _⟩, ⟨by repeat (first | (with_reducible first | exact HB.out | apply bal | apply pbN | apply bd1) | exact HB.out)⟩⟩
 case round =>
  clear H'
  obtain ⟨x3_1, x8_1, rfl, HA, HK1, HO_3, HB⟩ := hrel
  cases gk with
  | zero => exact absurd HA.out (by simp [hello_ended.l0])
  | succ k1 =>
   have H := HA.out
   clear HA
   simp only [hello_ended.l0] at H
   by_cases c2 : x8_1 < (l0.length : Int)
   ·rw [if_pos c2] at H
    have c2b0 : decide (x8_1 < (l0.length : Int)) = true := decide_eq_true c2
    clear c2
    by_cases c3 : 0 <= x8_1
    ·rw [if_pos c3] at H
     have c3b0 : decide (0 <= x8_1) = true := decide_eq_true c3
     clear c3
     by_cases c4 : x8_1 < (l0.length : Int)
     ·rw [if_pos c4] at H
      have c4b0 : decide (x8_1 < (l0.length : Int)) = true := decide_eq_true c4
      clear c4
      by_cases c5 : (rdOf ByteArray.empty l0 x8_1).size + 1 <= 9223372036854775807
      ·rw [if_pos c5] at H
       have c5b0 := eq_true c5
       have c5b1 : decide ((rdOf ByteArray.empty l0 x8_1).size + 1 <= 9223372036854775807) = true := decide_eq_true c5
       try have c5b2 : (9223372036854775807 < (rdOf ByteArray.empty l0 x8_1).size + 1) = False := eq_false (Nat.not_lt.2 c5)
       by_cases c6 : x3_1.length < 5864062014805
       ·rw [if_pos c6] at H
        have LMc6 := Asd.mk c6
        clear c6
        obtain ⟨y102, hy102⟩ : ∃ y_ : List (S60), y_ = (x3_1 ++ [(⟨false, (rdOf ByteArray.empty l0 x8_1) ++ (⟨#[10]⟩ : ByteArray)⟩ : S60)]) := ⟨_, rfl⟩
        replace H : (hello_ended.l0 k1 y102 l0 (l0.length : Int) (wrap64 (x8_1 + 1))) = some r := by first | (rw [hy102]; with_reducible exact H) | (have H2_ := (Option.bind_some _ _).symm.trans H; rw [hy102]; with_reducible exact H2_) | (have H2_ := (Option.bind_some _ _).symm.trans H; with_reducible exact H2_) | with_reducible exact H | (rw [hy102]; exact H) | exact H
        have Ny102 := Asd.mk hy102
        clear hy102
        have H' := Asd.mk H
        clear H
        have p101 : 0 <= (x8_1 : Int) := of_decide_eq_true (by first | (with_reducible assumption) | assumption)
        have q101 : x8_1 < (l0.length : Int) := of_decide_eq_true (by first | (with_reducible assumption) | assumption)
        obtain ⟨ad101, e101, hx101_0⟩ := Kd.at_string HR0.out x8_1 p101 q101
        cases e101
        replace hx101_0 := (HB.out.cell (World.block_lt_of_cell? w _ hx101_0)).trans hx101_0
        replace p101 := eq_true p101
        replace q101 := eq_true q101
        go_wp2_with (first | ((with_reducible refine gate_builtin (b := .append) (xs := #[.tmp 12, .tmp 16]) rfl ?_); at_builtin; refine Kd.R_append k60 (w0 := w) w.heap.size rfl (.tmp 12) (.tmp 16) 37 60 (.agg #[(.bool false), (.string ⟨#[]⟩)]) 24 rfl Tryz.underlying37 info60 rfl (by decide) (by omega) u3 x3_1 (⟨false, (rdOf ByteArray.empty l0 x8_1) ++ (⟨#[10]⟩ : ByteArray)⟩ : S60) [.bool false, .string ((rdOf ByteArray.empty l0 x8_1) ++ (⟨#[10]⟩ : ByteArray))] (fun _ => True) (fun _ => False) rfl rfl ?aP (fun _ hk => hk.elim) ?aF ?aO ?aB ?aS ?aL ?_; (case aP => exact k60_mkM _ _ _ (⟨false, (rdOf ByteArray.empty l0 x8_1) ++ (⟨#[10]⟩ : ByteArray)⟩ : S60)); (case aB => exact (by repeat (first | (with_reducible first | exact HB.out | apply bal | apply pbN | apply bd1) | exact HB.out))); (case aF => exact (fun _ _ => trivial)); (case aO => exact (by (with_reducible repeat (first | apply Kd.R_alloc | apply Kd.R_drewN | apply Kd.R_drew)); exact HO_3.out)); (case aS => exact (below_size (by repeat (first | (with_reducible first | exact HB.out | apply bal | apply pbN | apply bd1) | exact HB.out)))); (case aL => have := LMc6.out; omega); intro v103 w7 ho hb hg hat; rw [<- Ny102.out] at ho; have n0_ := Asd.mk (hb); have n1_ := Asd.mk (ho); clear HB; clear HO_3; have HB := n0_; have HO104 := n1_; clear n0_ n1_; clear ho hb hg hat))
        go_roundg k1
        case measure => have := HK1.out; omega
        case rel => exact ⟨(y102), (wrap64 (x8_1 + 1)), (by first | rfl | (simp; done) | (simp [*]; done)), H', ⟨by have := HK1.out; omega⟩, ⟨by (with_reducible repeat (first | apply Kd.R_alloc | apply Kd.R_drewN | apply Kd.R_drew)); exact HO104.out⟩, ⟨by repeat (first | (with_reducible first | exact HB.out | apply bal | apply pbN | apply bd1) | exact HB.out)⟩⟩
       ·rw [if_neg c6] at H
        exact absurd H (by simp)
      ·rw [if_neg c5] at H
       exact absurd H (by simp)
     ·rw [if_neg c4] at H
      exact absurd H (by simp)
    ·rw [if_neg c3] at H
     exact absurd H (by simp)
   ·rw [if_neg c2] at H
    have c2b0 : decide (x8_1 < (l0.length : Int)) = false := decide_eq_false c2
    clear c2
    by_cases c8 : x3_1.length < 5864062014805
    ·rw [if_pos c8] at H
     have LMc8 := Asd.mk c8
     clear c8
     obtain ⟨y105, hy105⟩ : ∃ y_ : List (S60), y_ = (x3_1 ++ [(⟨true, (⟨#[]⟩ : ByteArray)⟩ : S60)]) := ⟨_, rfl⟩
     replace H : (some y105) = some r := by first | (rw [hy105]; with_reducible exact H) | (have H2_ := (Option.bind_some _ _).symm.trans H; rw [hy105]; with_reducible exact H2_) | (have H2_ := (Option.bind_some _ _).symm.trans H; with_reducible exact H2_) | with_reducible exact H | (rw [hy105]; exact H) | exact H
     have Ny105 := Asd.mk hy105
     clear hy105
     obtain rfl := Option.some.inj H
     go_wp2_with (first | ((with_reducible refine gate_builtin (b := .append) (xs := #[.tmp 19, .tmp 21]) rfl ?_); at_builtin; refine Kd.R_append k60 (w0 := w) w.heap.size rfl (.tmp 19) (.tmp 21) 37 60 (.agg #[(.bool false), (.string ⟨#[]⟩)]) 24 rfl Tryz.underlying37 info60 rfl (by decide) (by omega) u3 x3_1 (⟨true, (⟨#[]⟩ : ByteArray)⟩ : S60) [.bool true, .string (⟨#[]⟩ : ByteArray)] (fun _ => True) (fun _ => False) rfl rfl ?aP (fun _ hk => hk.elim) ?aF ?aO ?aB ?aS ?aL ?_; (case aP => exact k60_mkM _ _ _ (⟨true, (⟨#[]⟩ : ByteArray)⟩ : S60)); (case aB => exact (by repeat (first | (with_reducible first | exact HB.out | apply bal | apply pbN | apply bd1) | exact HB.out))); (case aF => exact (fun _ _ => trivial)); (case aO => exact (by (with_reducible repeat (first | apply Kd.R_alloc | apply Kd.R_drewN | apply Kd.R_drew)); exact HO_3.out)); (case aS => exact (below_size (by repeat (first | (with_reducible first | exact HB.out | apply bal | apply pbN | apply bd1) | exact HB.out)))); (case aL => have := LMc8.out; omega); intro v106 w9 ho hb hg hat; rw [<- Ny105.out] at ho; have n0_ := Asd.mk (hb); have n1_ := Asd.mk (ho); clear HB; clear HO_3; have HB := n0_; have HO107 := n1_; clear n0_ n1_; clear ho hb hg hat))
     go_ret
     exact ⟨_, by first | rfl | (simp [errW_none, errW_some] <;> rfl) | (simp [*, errW_none, errW_some] <;> rfl), by (with_reducible repeat (first | apply Kd.R_alloc | apply Kd.R_drewN | apply Kd.R_drew)); exact HO107.out, by repeat (first | (with_reducible first | exact HB.out | apply bal | apply pbN | apply bd1) | exact HB.out)⟩
    ·rw [if_neg c8] at H
     exact absurd H (by simp)
def digest_Named.l0 : Nat -> ByteArray -> Int -> Int -> Option (Bool)
 | 0, _, _, _ => none
 | k + 1, x0, x6, x7 => if x7 < x6 then (if 0 <= x7 then (if x7 < (x0.size : Int) then (if (bt x0 x7) < 48 then (if (bt x0 x7) < 97 then (some false) else (if (bt x0 x7) > 102 then (some false) else (digest_Named.l0 k x0 x6 (wrap64 (x7 + 1))))) else (if (bt x0 x7) > 57 then (if (bt x0 x7) < 97 then (some false) else (if (bt x0 x7) > 102 then (some false) else (digest_Named.l0 k x0 x6 (wrap64 (x7 + 1))))) else (digest_Named.l0 k x0 x6 (wrap64 (x7 + 1))))) else (none)) else (none)) else (some ((x0.size : Int) == 64))
def digest_Named.f (k : Nat) (a0 : ByteArray) : Option (Bool) := digest_Named.l0 k a0 (a0.size : Int) 0
set_option maxHeartbeats 8000000 in
set_option maxRecDepth 100000 in
theorem digest_Named.calls (k : Nat) (a0 : ByteArray) (r : Bool) (w : World) (h : digest_Named.f k a0 = some r) :
  Calls Tryz.prog 48 #[.string a0] w fun e w' => e = .returned (.bool r) /\ Drawn0 w w' := by
 have H : (digest_Named.l0 k a0 (a0.size : Int) 0) = some r := h
 clear h
 have H' := Asd.mk H
 clear H
 go_enter Tryz.func48, Tryz.ntmps48
 go_wp2
 go_loopg [7] k (fun kq v7 w' => ∃ (x7_1 : Int), v7 = .int .i64 x7_1 /\ Asd (digest_Named.l0 kq a0 (a0.size : Int) x7_1 = some r) /\ Asd (kq <= k) /\ Drawn0 w w')
 case atStart => exact ⟨(0), (by first | rfl | (simp; done) | (simp [*]; done)), H', ⟨Nat.le_refl _⟩, by repeat (first | exact Drawn0.refl _ | apply Drawn0.step)⟩
 case round =>
  clear H'
  obtain ⟨x7_1, rfl, HA, HK1, ⟨m1, rfl⟩⟩ := hrel
  cases gk with
  | zero => exact absurd HA.out (by simp [digest_Named.l0])
  | succ k1 =>
   have H := HA.out
   clear HA
   simp only [digest_Named.l0] at H
   by_cases c2 : x7_1 < (a0.size : Int)
   ·rw [if_pos c2] at H
    have c2b0 : decide (x7_1 < (a0.size : Int)) = true := decide_eq_true c2
    clear c2
    by_cases c3 : 0 <= x7_1
    ·rw [if_pos c3] at H
     have c3b0 : decide (0 <= x7_1) = true := decide_eq_true c3
     clear c3
     by_cases c4 : x7_1 < (a0.size : Int)
     ·rw [if_pos c4] at H
      have c4b0 : decide (x7_1 < (a0.size : Int)) = true := decide_eq_true c4
      clear c4
      by_cases c6 : (bt a0 x7_1) < 48
      ·rw [if_pos c6] at H
       have c6b0 : decide ((bt a0 x7_1) < 48) = true := decide_eq_true c6
       clear c6
       by_cases c7 : (bt a0 x7_1) < 97
       ·rw [if_pos c7] at H
        have c7b0 : decide ((bt a0 x7_1) < 97) = true := decide_eq_true c7
        clear c7
        obtain rfl := Option.some.inj H
        have p5 : 0 <= (x7_1 : Int) := of_decide_eq_true (by first | (with_reducible assumption) | assumption)
        have q5 : x7_1 < (a0.size : Int) := of_decide_eq_true (by first | (with_reducible assumption) | assumption)
        have hx5 := bt_at a0 x7_1
        replace p5 := eq_true p5
        replace q5 := eq_true q5
        go_wp2
        go_ret
        exact ⟨by first | rfl | (simp; done) | (simp [*]; done), by repeat (first | exact Drawn0.refl _ | apply Drawn0.step)⟩
       ·rw [if_neg c7] at H
        have c7b0 : decide ((bt a0 x7_1) < 97) = false := decide_eq_false c7
        clear c7
        by_cases c8 : (bt a0 x7_1) > 102
        ·rw [if_pos c8] at H
         have c8b0 : decide (102 < (bt a0 x7_1)) = true := decide_eq_true c8
         clear c8
         obtain rfl := Option.some.inj H
         have p5 : 0 <= (x7_1 : Int) := of_decide_eq_true (by first | (with_reducible assumption) | assumption)
         have q5 : x7_1 < (a0.size : Int) := of_decide_eq_true (by first | (with_reducible assumption) | assumption)
         have hx5 := bt_at a0 x7_1
         replace p5 := eq_true p5
         replace q5 := eq_true q5
         go_wp2
         go_ret
         exact ⟨by first | rfl | (simp; done) | (simp [*]; done), by repeat (first | exact Drawn0.refl _ | apply Drawn0.step)⟩
        ·rw [if_neg c8] at H
         have c8b0 : decide (102 < (bt a0 x7_1)) = false := decide_eq_false c8
         clear c8
         have H' := Asd.mk H
         clear H
         have p5 : 0 <= (x7_1 : Int) := of_decide_eq_true (by first | (with_reducible assumption) | assumption)
         have q5 : x7_1 < (a0.size : Int) := of_decide_eq_true (by first | (with_reducible assumption) | assumption)
         have hx5 := bt_at a0 x7_1
         replace p5 := eq_true p5
         replace q5 := eq_true q5
         go_wp2
         go_roundg k1
         case measure => have := HK1.out; omega
         case rel => exact ⟨(wrap64 (x7_1 + 1)), (by first | rfl | (simp; done) | (simp [*]; done)), H', ⟨by have := HK1.out; omega⟩, by repeat (first | exact Drawn0.refl _ | apply Drawn0.step)⟩
      ·rw [if_neg c6] at H
       have c6b0 : decide ((bt a0 x7_1) < 48) = false := decide_eq_false c6
       clear c6
       by_cases c9 : (bt a0 x7_1) > 57
       ·rw [if_pos c9] at H
        have c9b0 : decide (57 < (bt a0 x7_1)) = true := decide_eq_true c9
        clear c9
        by_cases c10 : (bt a0 x7_1) < 97
        ·rw [if_pos c10] at H
         have c10b0 : decide ((bt a0 x7_1) < 97) = true := decide_eq_true c10
         clear c10
         obtain rfl := Option.some.inj H
         have p5 : 0 <= (x7_1 : Int) := of_decide_eq_true (by first | (with_reducible assumption) | assumption)
         have q5 : x7_1 < (a0.size : Int) := of_decide_eq_true (by first | (with_reducible assumption) | assumption)
         have hx5 := bt_at a0 x7_1
         replace p5 := eq_true p5
         replace q5 := eq_true q5
         go_wp2
         go_ret
         exact ⟨by first | rfl | (simp; done) | (simp [*]; done), by repeat (first | exact Drawn0.refl _ | apply Drawn0.step)⟩
        ·rw [if_neg c10] at H
         have c10b0 : decide ((bt a0 x7_1) < 97) = false := decide_eq_false c10
         clear c10
         by_cases c11 : (bt a0 x7_1) > 102
         ·rw [if_pos c11] at H
          have c11b0 : decide (102 < (bt a0 x7_1)) = true := decide_eq_true c11
          clear c11
          obtain rfl := Option.some.inj H
          have p5 : 0 <= (x7_1 : Int) := of_decide_eq_true (by first | (with_reducible assumption) | assumption)
          have q5 : x7_1 < (a0.size : Int) := of_decide_eq_true (by first | (with_reducible assumption) | assumption)
          have hx5 := bt_at a0 x7_1
          replace p5 := eq_true p5
          replace q5 := eq_true q5
          go_wp2
          go_ret
          exact ⟨by first | rfl | (simp; done) | (simp [*]; done), by repeat (first | exact Drawn0.refl _ | apply Drawn0.step)⟩
         ·rw [if_neg c11] at H
          have c11b0 : decide (102 < (bt a0 x7_1)) = false := decide_eq_false c11
          clear c11
          have H' := Asd.mk H
          clear H
          have p5 : 0 <= (x7_1 : Int) := of_decide_eq_true (by first | (with_reducible assumption) | assumption)
          have q5 : x7_1 < (a0.size : Int) := of_decide_eq_true (by first | (with_reducible assumption) | assumption)
          have hx5 := bt_at a0 x7_1
          replace p5 := eq_true p5
          replace q5 := eq_true q5
          go_wp2
          go_roundg k1
          case measure => have := HK1.out; omega
          case rel => exact ⟨(wrap64 (x7_1 + 1)), (by first | rfl | (simp; done) | (simp [*]; done)), H', ⟨by have := HK1.out; omega⟩, by repeat (first | exact Drawn0.refl _ | apply Drawn0.step)⟩
       ·rw [if_neg c9] at H
        have c9b0 : decide (57 < (bt a0 x7_1)) = false := decide_eq_false c9
        clear c9
        have H' := Asd.mk H
        clear H
        have p5 : 0 <= (x7_1 : Int) := of_decide_eq_true (by first | (with_reducible assumption) | assumption)
        have q5 : x7_1 < (a0.size : Int) := of_decide_eq_true (by first | (with_reducible assumption) | assumption)
        have hx5 := bt_at a0 x7_1
        replace p5 := eq_true p5
        replace q5 := eq_true q5
        go_wp2
        go_roundg k1
        case measure => have := HK1.out; omega
        case rel => exact ⟨(wrap64 (x7_1 + 1)), (by first | rfl | (simp; done) | (simp [*]; done)), H', ⟨by have := HK1.out; omega⟩, by repeat (first | exact Drawn0.refl _ | apply Drawn0.step)⟩
     ·rw [if_neg c4] at H
      exact absurd H (by simp)
    ·rw [if_neg c3] at H
     exact absurd H (by simp)
   ·rw [if_neg c2] at H
    have c2b0 : decide (x7_1 < (a0.size : Int)) = false := decide_eq_false c2
    clear c2
    obtain rfl := Option.some.inj H
    go_wp2
    go_ret
    exact ⟨by first | rfl | (simp; done) | (simp [*]; done), by repeat (first | exact Drawn0.refl _ | apply Drawn0.step)⟩
def hello_named_1.f (k : Nat) : List ByteArray -> Option (Bool)
 | [] => some false
 | x :: t => (digest_Named.f k x).bind fun b => if b = true then hello_named_1.f k t else some true
theorem hello_named_1.one (k : Nat) (x : ByteArray) (b : Bool) (w : World) (h : digest_Named.f k x = some b) : Calls Tryz.prog 47 #[.string x] w fun e w' => e = .returned (.bool (!b)) /\ Drawn0 w w' := by
 have H := Asd.mk h
 clear h
 go_enter Tryz.func47, Tryz.ntmps47
 go_wp2_with (go_at_call 48; refine (digest_Named.calls k x b _ H.out).mono ?_; rintro e w' ⟨rfl, ⟨nd, rfl⟩⟩)
 go_ret
 exact ⟨rfl, ⟨_, rfl⟩⟩
theorem hello_named_1.index (k : Nat) (A0 : Option Addr) (c0 : Nat) (l0 : List ByteArray) (r : Bool) (w : World) (hr0 : Kd.C Kd.string w A0 l0.length l0) (hc0 : l0.length <= c0) (h : hello_named_1.f k l0 = some r) :
  Calls Tryz.prog 65 #[.slice A0 l0.length c0, .func (.func 47) #[] #[]] w fun e w' => ∃ j : Int, e = .returned (.int .i64 j) /\ decide (0 <= j) = r /\ Drawn0 w w' := by
 have HR := Asd.mk hr0
 have hmax : l0.length <= 9223372036854775807 := hr0.2.1
 have HF := Asd.mk h
 clear hr0 h
 go_enter Tryz.func65, Tryz.ntmps65
 go_wp2
 go_loopg [5, 8] l0.length (fun gg _ s8 wr => ∃ kk : Nat, kk <= l0.length /\ l0.length - kk <= gg /\ s8 = .int .i64 kk /\ Asd (∃ m, wr = w.drewN m) /\ Asd (hello_named_1.f k (l0.drop kk) = some r))
 case atStart => exact ⟨0, Nat.zero_le _, by omega, rfl, ⟨0, rfl⟩, HF⟩
 case round =>
  obtain ⟨kk, hkk, hg, rfl, ⟨BW⟩, ⟨A⟩⟩ := hrel
  by_cases hlt : kk < l0.length
  ·have hltz : (kk : Int) < (l0.length : Int) := by omega
   obtain ⟨m, rfl⟩ := BW
   obtain ⟨ad, rfl, hc⟩ := (Kd.reads_of_C (enc := Value.string) (d := ByteArray.empty) (h1 := fun _ => rfl) (Kd.C_drewN HR.out m)).2.2 (by omega)
   have hcell := hc kk hlt
   clear hc
   have hx : l0.getD kk ByteArray.empty = l0[kk] := by rw [List.getD_eq_getElem?_getD, List.getElem?_eq_getElem hlt]; rfl
   rw [hx] at hcell
   rw [List.drop_eq_getElem_cons hlt] at A
   simp only [hello_named_1.f] at A
   obtain ⟨b, hb, A⟩ := Option.bind_eq_some_iff.1 A
   generalize l0[kk] = x at hcell hb
   have HB := Asd.mk hb
   have HA := Asd.mk A
   clear hb A hx
   cases b with
   | true =>
    go_wp2_with (go_at_call 47; refine (hello_named_1.one k x true _ HB.out).mono ?_; rintro e w' ⟨rfl, ⟨nd, rfl⟩⟩)
    go_roundg (l0.length - (kk + 1))
    case measure => omega
    case rel => exact ⟨kk + 1, by omega, by omega, by go_num, ⟨_, rfl⟩, ⟨by simpa using HA.out⟩⟩
   | false =>
    go_wp2_with (go_at_call 47; refine (hello_named_1.one k x false _ HB.out).mono ?_; rintro e w' ⟨rfl, ⟨nd, rfl⟩⟩)
    go_ret
    exact ⟨kk, rfl, by have := HA.out; simp at this; rw [this]; simp, ⟨_, rfl⟩⟩
  ·have hltz : ¬ (kk : Int) < (l0.length : Int) := by omega
   obtain rfl : kk = l0.length := by omega
   rw [List.drop_length] at A
   have hr : false = r := Option.some.inj A
   subst hr
   obtain ⟨m, rfl⟩ := BW
   go_wp2
   go_ret
   exact ⟨-1, rfl, by decide, ⟨_, rfl⟩⟩
theorem hello_named_1.calls (k : Nat) (A0 : Option Addr) (c0 : Nat) (l0 : List ByteArray) (r : Bool) (w : World) (hr0 : Kd.C Kd.string w A0 l0.length l0) (hc0 : l0.length <= c0) (h : hello_named_1.f k l0 = some r) :
  Calls Tryz.prog 46 #[.slice A0 l0.length c0, .func (.func 47) #[] #[]] w fun e w' => e = .returned (.bool r) /\ Drawn0 w w' := by
 have C := Asd.mk (hello_named_1.index k A0 c0 l0 r w hr0 hc0 h)
 clear hr0 h
 go_enter Tryz.func46, Tryz.ntmps46
 go_wp2_with (go_at_call 65; refine C.out.mono ?_; rintro e w' ⟨j, rfl, hj, ⟨nd, rfl⟩⟩)
 go_ret
 exact ⟨by rw [<- hj]; rfl, ⟨_, rfl⟩⟩
def strings_Split.f (a0 : ByteArray) (a1 : ByteArray) : Option (List ByteArray) := if a1.size = 1 /\ a0.size < 4294967281 then some (Lib.splitB a1 0 (Lib.countB a0 a1) a0) else none
theorem split_one (s : ByteArray) (c : UInt8) (w : World) (hs : s.size < 4294967281) :
  Calls Tryz.prog 53 #[.string s, .string ⟨#[c]⟩] w fun e w' => e = .returned (.slice (some ⟨w.heap.size, 0, none⟩) (Lib.countB s ⟨#[c]⟩ + 1) (Lib.countB s ⟨#[c]⟩ + 1)) /\
   w' = w.alloc (.cells ((Lib.splitB ⟨#[c]⟩ 0 (Lib.countB s ⟨#[c]⟩) s).map Value.string).toArray 9) := by
 have h1 : 1 <= (⟨#[c]⟩ : ByteArray).size := Nat.le_refl 1
 have hle := Lib.countB_le ⟨#[c]⟩ h1 s.size s (Nat.le_refl _)
 have hlen := Lib.splitB_all ⟨#[c]⟩ h1 0 _ s rfl
 have C := Any.strings_genSplit_core (P := Tryz.prog) Go.Proofs.Tryz.lays221 (by kernel_rfl) s ⟨#[c]⟩ 0 (-1) (Lib.countB s ⟨#[c]⟩ + 1) w hs h1 (Nat.zero_le _)
  (fun x cs hx => (Go.Proofs.Tryz.strings_Index_one x c _).mono fun e w' ⟨he, hw⟩ => ⟨by rw [he]; show _ = Ending.returned (Value.int .i64 (Lib.index x.data.toList [c])); rw [Lib.index_one], hw⟩)
  ((Go.Proofs.Tryz.strings_Count_one s c w).mono fun e w' ⟨he, hw⟩ => ⟨by rw [he]; show _ = Ending.returned (Value.int .i64 ((Lib.count s.data.toList [c] : Nat) : Int)); rw [Lib.count_one]; rfl, hw⟩)
  (by decide) (by decide) (by rw [if_pos (by decide)]; omega)
 rw [Nat.add_sub_cancel, hlen] at C
 have e2 : Lib.cellsOf (Lib.splitB ⟨#[c]⟩ 0 (Lib.countB s ⟨#[c]⟩) s) (Lib.countB s ⟨#[c]⟩ + 1) = ((Lib.splitB ⟨#[c]⟩ 0 (Lib.countB s ⟨#[c]⟩) s).map Value.string).toArray := by rw [<- hlen]; exact Lib.cellsOf_full _
 rw [e2] at C
 have CA := Asd.mk C
 clear C e2 hlen hle
 go_enter Tryz.func53, Tryz.ntmps53
 go_wp2_with (go_at_call 69; refine CA.out.mono ?_; rintro e w' ⟨rfl, rfl⟩)
 go_ret
 exact ⟨rfl, rfl⟩
theorem strings_Split.calls (a0 : ByteArray) (a1 : ByteArray) (r : List ByteArray) (w : World) (h : strings_Split.f a0 a1 = some r) :
  Calls Tryz.prog 53 #[.string a0, .string a1] w fun e w' => ∃ v0_ : Value, e = .returned (v0_) /\ Kd.R Kd.string 9 w' w.heap.size (fun _ => True) v0_ r /\ Below w.heap.size w w' := by
 unfold strings_Split.f at h
 split at h
 case isFalse => cases h
 case isTrue hlen =>
 obtain rfl := Option.some.inj h
 obtain ⟨c, rfl⟩ := Lib.one_byte a1 hlen.1
 refine (split_one a0 c w hlen.2).mono ?_
 rintro e w' ⟨rfl, rfl⟩
 have hl := Lib.splitB_all ⟨#[c]⟩ (Nat.le_refl 1) 0 _ a0 rfl
 have hle := Lib.countB_le ⟨#[c]⟩ (Nat.le_refl 1) a0.size a0 (Nat.le_refl _)
 refine ⟨_, rfl, ?_, bal (Below.refl _ _) _⟩
 rw [<- hl]
 generalize Lib.splitB ⟨#[c]⟩ 0 (Lib.countB a0 ⟨#[c]⟩) a0 = ps at hl ⊢
 have h1 := World.ownsRow_lit (base := w.heap.size) (e := 9) (size := 1) w (ps.map Value.string).toArray ps.length (Nat.le_refl _) (by simp [maxLen]; omega) (by simp)
 refine ⟨fun _ _ => trivial, _, h1, ?_⟩
 show Reps _ 1 ps (ps.map Value.string)
 clear h1 hl
 induction ps with
 | nil => exact Reps.none _ _
 | cons p ps ih => exact Reps.one rfl ih
def refs_letters.l0 : Nat -> ByteArray -> Int -> Int -> Option (Bool)
 | 0, _, _, _ => none
 | k + 1, x0, x6, x7 => if x7 < x6 then (if 0 <= x7 then (if x7 < (x0.size : Int) then (if (bt x0 x7) = 46 then (refs_letters.l0 k x0 x6 (wrap64 (x7 + 1))) else (if (bt x0 x7) = 45 then (refs_letters.l0 k x0 x6 (wrap64 (x7 + 1))) else (if (bt x0 x7) = 95 then (refs_letters.l0 k x0 x6 (wrap64 (x7 + 1))) else (if (bt x0 x7) < 97 then (if (bt x0 x7) < 48 then (some false) else (if (bt x0 x7) > 57 then (some false) else (refs_letters.l0 k x0 x6 (wrap64 (x7 + 1))))) else (if (bt x0 x7) > 122 then (if (bt x0 x7) < 48 then (some false) else (if (bt x0 x7) > 57 then (some false) else (refs_letters.l0 k x0 x6 (wrap64 (x7 + 1))))) else (refs_letters.l0 k x0 x6 (wrap64 (x7 + 1)))))))) else (none)) else (none)) else (if x0.toList = ([] : List UInt8) then (some false) else (if (x0.size : Int) <= 30 then (if 0 < (x0.size : Int) then (some ((bt x0 0) != 46)) else (none)) else (some false)))
def refs_letters.f (k : Nat) (a0 : ByteArray) : Option (Bool) := refs_letters.l0 k a0 (a0.size : Int) 0
set_option maxHeartbeats 8000000 in
set_option maxRecDepth 100000 in
theorem refs_letters.calls (k : Nat) (a0 : ByteArray) (r : Bool) (w : World) (h : refs_letters.f k a0 = some r) :
  Calls Tryz.prog 55 #[.string a0] w fun e w' => e = .returned (.bool r) /\ Drawn0 w w' := by
 have H : (refs_letters.l0 k a0 (a0.size : Int) 0) = some r := h
 clear h
 have H' := Asd.mk H
 clear H
 go_enter Tryz.func55, Tryz.ntmps55
 go_wp2
 go_loopg [7] k (fun kq v7 w' => ∃ (x7_1 : Int), v7 = .int .i64 x7_1 /\ Asd (refs_letters.l0 kq a0 (a0.size : Int) x7_1 = some r) /\ Asd (kq <= k) /\ Drawn0 w w')
 case atStart => exact ⟨(0), (by first | rfl | (simp; done) | (simp [*]; done)), H', ⟨Nat.le_refl _⟩, by repeat (first | exact Drawn0.refl _ | apply Drawn0.step)⟩
 case round =>
  clear H'
  obtain ⟨x7_1, rfl, HA, HK1, ⟨m1, rfl⟩⟩ := hrel
  cases gk with
  | zero => exact absurd HA.out (by simp [refs_letters.l0])
  | succ k1 =>
   have H := HA.out
   clear HA
   simp only [refs_letters.l0] at H
   by_cases c2 : x7_1 < (a0.size : Int)
   ·rw [if_pos c2] at H
    have c2b0 : decide (x7_1 < (a0.size : Int)) = true := decide_eq_true c2
    clear c2
    by_cases c3 : 0 <= x7_1
    ·rw [if_pos c3] at H
     have c3b0 : decide (0 <= x7_1) = true := decide_eq_true c3
     clear c3
     by_cases c4 : x7_1 < (a0.size : Int)
     ·rw [if_pos c4] at H
      have c4b0 : decide (x7_1 < (a0.size : Int)) = true := decide_eq_true c4
      clear c4
      by_cases c6 : (bt a0 x7_1) = 46
      ·rw [if_pos c6] at H
       have c6b0 : ((bt a0 x7_1) == 46) = true := beq_iff_eq.mpr c6
       have c6b1 : ((bt a0 x7_1) != 46) = false := bne_eq_false_iff_eq.mpr c6
       clear c6
       have H' := Asd.mk H
       clear H
       have p5 : 0 <= (x7_1 : Int) := of_decide_eq_true (by first | (with_reducible assumption) | assumption)
       have q5 : x7_1 < (a0.size : Int) := of_decide_eq_true (by first | (with_reducible assumption) | assumption)
       have hx5 := bt_at a0 x7_1
       replace p5 := eq_true p5
       replace q5 := eq_true q5
       go_wp2
       go_roundg k1
       case measure => have := HK1.out; omega
       case rel => exact ⟨(wrap64 (x7_1 + 1)), (by first | rfl | (simp; done) | (simp [*]; done)), H', ⟨by have := HK1.out; omega⟩, by repeat (first | exact Drawn0.refl _ | apply Drawn0.step)⟩
      ·rw [if_neg c6] at H
       have c6b0 : ((bt a0 x7_1) == 46) = false := beq_eq_false_iff_ne.mpr c6
       have c6b1 : ((bt a0 x7_1) != 46) = true := bne_iff_ne.mpr c6
       by_cases c7 : (bt a0 x7_1) = 45
       ·rw [if_pos c7] at H
        have c7b0 : ((bt a0 x7_1) == 45) = true := beq_iff_eq.mpr c7
        have c7b1 : ((bt a0 x7_1) != 45) = false := bne_eq_false_iff_eq.mpr c7
        clear c7
        have H' := Asd.mk H
        clear H
        have p5 : 0 <= (x7_1 : Int) := of_decide_eq_true (by first | (with_reducible assumption) | assumption)
        have q5 : x7_1 < (a0.size : Int) := of_decide_eq_true (by first | (with_reducible assumption) | assumption)
        have hx5 := bt_at a0 x7_1
        replace p5 := eq_true p5
        replace q5 := eq_true q5
        go_wp2
        go_roundg k1
        case measure => have := HK1.out; omega
        case rel => exact ⟨(wrap64 (x7_1 + 1)), (by first | rfl | (simp; done) | (simp [*]; done)), H', ⟨by have := HK1.out; omega⟩, by repeat (first | exact Drawn0.refl _ | apply Drawn0.step)⟩
       ·rw [if_neg c7] at H
        have c7b0 : ((bt a0 x7_1) == 45) = false := beq_eq_false_iff_ne.mpr c7
        have c7b1 : ((bt a0 x7_1) != 45) = true := bne_iff_ne.mpr c7
        by_cases c8 : (bt a0 x7_1) = 95
        ·rw [if_pos c8] at H
         have c8b0 : ((bt a0 x7_1) == 95) = true := beq_iff_eq.mpr c8
         have c8b1 : ((bt a0 x7_1) != 95) = false := bne_eq_false_iff_eq.mpr c8
         clear c8
         have H' := Asd.mk H
         clear H
         have p5 : 0 <= (x7_1 : Int) := of_decide_eq_true (by first | (with_reducible assumption) | assumption)
         have q5 : x7_1 < (a0.size : Int) := of_decide_eq_true (by first | (with_reducible assumption) | assumption)
         have hx5 := bt_at a0 x7_1
         replace p5 := eq_true p5
         replace q5 := eq_true q5
         go_wp2
         go_roundg k1
         case measure => have := HK1.out; omega
         case rel => exact ⟨(wrap64 (x7_1 + 1)), (by first | rfl | (simp; done) | (simp [*]; done)), H', ⟨by have := HK1.out; omega⟩, by repeat (first | exact Drawn0.refl _ | apply Drawn0.step)⟩
        ·rw [if_neg c8] at H
         have c8b0 : ((bt a0 x7_1) == 95) = false := beq_eq_false_iff_ne.mpr c8
         have c8b1 : ((bt a0 x7_1) != 95) = true := bne_iff_ne.mpr c8
         by_cases c9 : (bt a0 x7_1) < 97
         ·rw [if_pos c9] at H
          have c9b0 : decide ((bt a0 x7_1) < 97) = true := decide_eq_true c9
          clear c9
          by_cases c10 : (bt a0 x7_1) < 48
          ·rw [if_pos c10] at H
           have c10b0 : decide ((bt a0 x7_1) < 48) = true := decide_eq_true c10
           clear c10
           obtain rfl := Option.some.inj H
           have p5 : 0 <= (x7_1 : Int) := of_decide_eq_true (by first | (with_reducible assumption) | assumption)
           have q5 : x7_1 < (a0.size : Int) := of_decide_eq_true (by first | (with_reducible assumption) | assumption)
           have hx5 := bt_at a0 x7_1
           replace p5 := eq_true p5
           replace q5 := eq_true q5
           go_wp2
           go_ret
           exact ⟨by first | rfl | (simp; done) | (simp [*]; done), by repeat (first | exact Drawn0.refl _ | apply Drawn0.step)⟩
          ·rw [if_neg c10] at H
           have c10b0 : decide ((bt a0 x7_1) < 48) = false := decide_eq_false c10
           clear c10
           by_cases c11 : (bt a0 x7_1) > 57
           ·rw [if_pos c11] at H
            have c11b0 : decide (57 < (bt a0 x7_1)) = true := decide_eq_true c11
            clear c11
            obtain rfl := Option.some.inj H
            have p5 : 0 <= (x7_1 : Int) := of_decide_eq_true (by first | (with_reducible assumption) | assumption)
            have q5 : x7_1 < (a0.size : Int) := of_decide_eq_true (by first | (with_reducible assumption) | assumption)
            have hx5 := bt_at a0 x7_1
            replace p5 := eq_true p5
            replace q5 := eq_true q5
            go_wp2
            go_ret
            exact ⟨by first | rfl | (simp; done) | (simp [*]; done), by repeat (first | exact Drawn0.refl _ | apply Drawn0.step)⟩
           ·rw [if_neg c11] at H
            have c11b0 : decide (57 < (bt a0 x7_1)) = false := decide_eq_false c11
            clear c11
            have H' := Asd.mk H
            clear H
            have p5 : 0 <= (x7_1 : Int) := of_decide_eq_true (by first | (with_reducible assumption) | assumption)
            have q5 : x7_1 < (a0.size : Int) := of_decide_eq_true (by first | (with_reducible assumption) | assumption)
            have hx5 := bt_at a0 x7_1
            replace p5 := eq_true p5
            replace q5 := eq_true q5
            go_wp2
            go_roundg k1
            case measure => have := HK1.out; omega
            case rel => exact ⟨(wrap64 (x7_1 + 1)), (by first | rfl | (simp; done) | (simp [*]; done)), H', ⟨by have := HK1.out; omega⟩, by repeat (first | exact Drawn0.refl _ | apply Drawn0.step)⟩
         ·rw [if_neg c9] at H
          have c9b0 : decide ((bt a0 x7_1) < 97) = false := decide_eq_false c9
          clear c9
          by_cases c12 : (bt a0 x7_1) > 122
          ·rw [if_pos c12] at H
           have c12b0 : decide (122 < (bt a0 x7_1)) = true := decide_eq_true c12
           clear c12
           by_cases c13 : (bt a0 x7_1) < 48
           ·rw [if_pos c13] at H
            have c13b0 : decide ((bt a0 x7_1) < 48) = true := decide_eq_true c13
            clear c13
            obtain rfl := Option.some.inj H
            have p5 : 0 <= (x7_1 : Int) := of_decide_eq_true (by first | (with_reducible assumption) | assumption)
            have q5 : x7_1 < (a0.size : Int) := of_decide_eq_true (by first | (with_reducible assumption) | assumption)
            have hx5 := bt_at a0 x7_1
            replace p5 := eq_true p5
            replace q5 := eq_true q5
            go_wp2
            go_ret
            exact ⟨by first | rfl | (simp; done) | (simp [*]; done), by repeat (first | exact Drawn0.refl _ | apply Drawn0.step)⟩
           ·rw [if_neg c13] at H
            have c13b0 : decide ((bt a0 x7_1) < 48) = false := decide_eq_false c13
            clear c13
            by_cases c14 : (bt a0 x7_1) > 57
            ·rw [if_pos c14] at H
             have c14b0 : decide (57 < (bt a0 x7_1)) = true := decide_eq_true c14
             clear c14
             obtain rfl := Option.some.inj H
             have p5 : 0 <= (x7_1 : Int) := of_decide_eq_true (by first | (with_reducible assumption) | assumption)
             have q5 : x7_1 < (a0.size : Int) := of_decide_eq_true (by first | (with_reducible assumption) | assumption)
             have hx5 := bt_at a0 x7_1
             replace p5 := eq_true p5
             replace q5 := eq_true q5
             go_wp2
             go_ret
             exact ⟨by first | rfl | (simp; done) | (simp [*]; done), by repeat (first | exact Drawn0.refl _ | apply Drawn0.step)⟩
            ·rw [if_neg c14] at H
             have c14b0 : decide (57 < (bt a0 x7_1)) = false := decide_eq_false c14
             clear c14
             have H' := Asd.mk H
             clear H
             have p5 : 0 <= (x7_1 : Int) := of_decide_eq_true (by first | (with_reducible assumption) | assumption)
             have q5 : x7_1 < (a0.size : Int) := of_decide_eq_true (by first | (with_reducible assumption) | assumption)
             have hx5 := bt_at a0 x7_1
             replace p5 := eq_true p5
             replace q5 := eq_true q5
             go_wp2
             go_roundg k1
             case measure => have := HK1.out; omega
             case rel => exact ⟨(wrap64 (x7_1 + 1)), (by first | rfl | (simp; done) | (simp [*]; done)), H', ⟨by have := HK1.out; omega⟩, by repeat (first | exact Drawn0.refl _ | apply Drawn0.step)⟩
          ·rw [if_neg c12] at H
           have c12b0 : decide (122 < (bt a0 x7_1)) = false := decide_eq_false c12
           clear c12
           have H' := Asd.mk H
           clear H
           have p5 : 0 <= (x7_1 : Int) := of_decide_eq_true (by first | (with_reducible assumption) | assumption)
           have q5 : x7_1 < (a0.size : Int) := of_decide_eq_true (by first | (with_reducible assumption) | assumption)
           have hx5 := bt_at a0 x7_1
           replace p5 := eq_true p5
           replace q5 := eq_true q5
           go_wp2
           go_roundg k1
           case measure => have := HK1.out; omega
           case rel => exact ⟨(wrap64 (x7_1 + 1)), (by first | rfl | (simp; done) | (simp [*]; done)), H', ⟨by have := HK1.out; omega⟩, by repeat (first | exact Drawn0.refl _ | apply Drawn0.step)⟩
     ·rw [if_neg c4] at H
      exact absurd H (by simp)
    ·rw [if_neg c3] at H
     exact absurd H (by simp)
   ·rw [if_neg c2] at H
    have c2b0 : decide (x7_1 < (a0.size : Int)) = false := decide_eq_false c2
    clear c2
    by_cases c15 : a0.toList = ([] : List UInt8)
    ·rw [if_pos c15] at H
     have c15b0 : (a0.toList == ([] : List UInt8)) = true := beq_iff_eq.mpr c15
     have c15b1 : (a0.toList != ([] : List UInt8)) = false := bne_eq_false_iff_eq.mpr c15
     clear c15
     obtain rfl := Option.some.inj H
     go_wp2
     go_ret
     exact ⟨by first | rfl | (simp; done) | (simp [*]; done), by repeat (first | exact Drawn0.refl _ | apply Drawn0.step)⟩
    ·rw [if_neg c15] at H
     have c15b0 : (a0.toList == ([] : List UInt8)) = false := beq_eq_false_iff_ne.mpr c15
     have c15b1 : (a0.toList != ([] : List UInt8)) = true := bne_iff_ne.mpr c15
     by_cases c16 : (a0.size : Int) <= 30
     ·rw [if_pos c16] at H
      have c16b0 : decide ((a0.size : Int) <= 30) = true := decide_eq_true c16
      have c16b1 : decide (a0.size <= 30) = true := decide_eq_true (by omega)
      clear c16
      by_cases c17 : 0 < (a0.size : Int)
      ·rw [if_pos c17] at H
       have c17b0 : decide (0 < (a0.size : Int)) = true := decide_eq_true c17
       have c17b1 : decide (0 < a0.size) = true := decide_eq_true (by omega)
       clear c17
       obtain rfl := Option.some.inj H
       have p18 : 0 <= (0 : Int) := (by omega)
       have q18 : 0 < a0.size := (by have : (0 : Int) < (a0.size : Int) := of_decide_eq_true (by first | (with_reducible assumption) | assumption); omega)
       have hx18 : ∀ h : 0 < a0.size, ((a0[0]'h).toNat : Int) = bt a0 0 := bt_at a0 0
       clear p18
       have qi18 : (0 < (a0.size : Int)) = True := eq_true (of_decide_eq_true (by first | (with_reducible assumption) | assumption))
       replace q18 := eq_true q18
       go_wp2
       go_ret
       exact ⟨by first | rfl | (simp; done) | (simp [*]; done), by repeat (first | exact Drawn0.refl _ | apply Drawn0.step)⟩
      ·rw [if_neg c17] at H
       exact absurd H (by simp)
     ·rw [if_neg c16] at H
      have c16b0 : decide ((a0.size : Int) <= 30) = false := decide_eq_false c16
      have c16b1 : decide (a0.size <= 30) = false := decide_eq_false (by omega)
      clear c16
      obtain rfl := Option.some.inj H
      go_wp2
      go_ret
      exact ⟨by first | rfl | (simp; done) | (simp [*]; done), by repeat (first | exact Drawn0.refl _ | apply Drawn0.step)⟩
def refs_Named_1.f (k : Nat) : List ByteArray -> Option (Bool)
 | [] => some false
 | x :: t => (refs_letters.f k x).bind fun b => if b = true then refs_Named_1.f k t else some true
theorem refs_Named_1.one (k : Nat) (x : ByteArray) (b : Bool) (w : World) (h : refs_letters.f k x = some b) : Calls Tryz.prog 54 #[.string x] w fun e w' => e = .returned (.bool (!b)) /\ Drawn0 w w' := by
 have H := Asd.mk h
 clear h
 go_enter Tryz.func54, Tryz.ntmps54
 go_wp2_with (go_at_call 55; refine (refs_letters.calls k x b _ H.out).mono ?_; rintro e w' ⟨rfl, ⟨nd, rfl⟩⟩)
 go_ret
 exact ⟨rfl, ⟨_, rfl⟩⟩
theorem refs_Named_1.index (k : Nat) (A0 : Option Addr) (c0 : Nat) (l0 : List ByteArray) (r : Bool) (w : World) (hr0 : Kd.C Kd.string w A0 l0.length l0) (hc0 : l0.length <= c0) (h : refs_Named_1.f k l0 = some r) :
  Calls Tryz.prog 65 #[.slice A0 l0.length c0, .func (.func 54) #[] #[]] w fun e w' => ∃ j : Int, e = .returned (.int .i64 j) /\ decide (0 <= j) = r /\ Drawn0 w w' := by
 have HR := Asd.mk hr0
 have hmax : l0.length <= 9223372036854775807 := hr0.2.1
 have HF := Asd.mk h
 clear hr0 h
 go_enter Tryz.func65, Tryz.ntmps65
 go_wp2
 go_loopg [5, 8] l0.length (fun gg _ s8 wr => ∃ kk : Nat, kk <= l0.length /\ l0.length - kk <= gg /\ s8 = .int .i64 kk /\ Asd (∃ m, wr = w.drewN m) /\ Asd (refs_Named_1.f k (l0.drop kk) = some r))
 case atStart => exact ⟨0, Nat.zero_le _, by omega, rfl, ⟨0, rfl⟩, HF⟩
 case round =>
  obtain ⟨kk, hkk, hg, rfl, ⟨BW⟩, ⟨A⟩⟩ := hrel
  by_cases hlt : kk < l0.length
  ·have hltz : (kk : Int) < (l0.length : Int) := by omega
   obtain ⟨m, rfl⟩ := BW
   obtain ⟨ad, rfl, hc⟩ := (Kd.reads_of_C (enc := Value.string) (d := ByteArray.empty) (h1 := fun _ => rfl) (Kd.C_drewN HR.out m)).2.2 (by omega)
   have hcell := hc kk hlt
   clear hc
   have hx : l0.getD kk ByteArray.empty = l0[kk] := by rw [List.getD_eq_getElem?_getD, List.getElem?_eq_getElem hlt]; rfl
   rw [hx] at hcell
   rw [List.drop_eq_getElem_cons hlt] at A
   simp only [refs_Named_1.f] at A
   obtain ⟨b, hb, A⟩ := Option.bind_eq_some_iff.1 A
   generalize l0[kk] = x at hcell hb
   have HB := Asd.mk hb
   have HA := Asd.mk A
   clear hb A hx
   cases b with
   | true =>
    go_wp2_with (go_at_call 54; refine (refs_Named_1.one k x true _ HB.out).mono ?_; rintro e w' ⟨rfl, ⟨nd, rfl⟩⟩)
    go_roundg (l0.length - (kk + 1))
    case measure => omega
    case rel => exact ⟨kk + 1, by omega, by omega, by go_num, ⟨_, rfl⟩, ⟨by simpa using HA.out⟩⟩
   | false =>
    go_wp2_with (go_at_call 54; refine (refs_Named_1.one k x false _ HB.out).mono ?_; rintro e w' ⟨rfl, ⟨nd, rfl⟩⟩)
    go_ret
    exact ⟨kk, rfl, by have := HA.out; simp at this; rw [this]; simp, ⟨_, rfl⟩⟩
  ·have hltz : ¬ (kk : Int) < (l0.length : Int) := by omega
   obtain rfl : kk = l0.length := by omega
   rw [List.drop_length] at A
   have hr : false = r := Option.some.inj A
   subst hr
   obtain ⟨m, rfl⟩ := BW
   go_wp2
   go_ret
   exact ⟨-1, rfl, by decide, ⟨_, rfl⟩⟩
theorem refs_Named_1.calls (k : Nat) (A0 : Option Addr) (c0 : Nat) (l0 : List ByteArray) (r : Bool) (w : World) (hr0 : Kd.C Kd.string w A0 l0.length l0) (hc0 : l0.length <= c0) (h : refs_Named_1.f k l0 = some r) :
  Calls Tryz.prog 46 #[.slice A0 l0.length c0, .func (.func 54) #[] #[]] w fun e w' => e = .returned (.bool r) /\ Drawn0 w w' := by
 have C := Asd.mk (refs_Named_1.index k A0 c0 l0 r w hr0 hc0 h)
 clear hr0 h
 go_enter Tryz.func46, Tryz.ntmps46
 go_wp2_with (go_at_call 65; refine C.out.mono ?_; rintro e w' ⟨j, rfl, hj, ⟨nd, rfl⟩⟩)
 go_ret
 exact ⟨by rw [<- hj]; rfl, ⟨_, rfl⟩⟩
end Go.Proofs.YtaadhjpcdnbbeaaGreatDoor.Print
