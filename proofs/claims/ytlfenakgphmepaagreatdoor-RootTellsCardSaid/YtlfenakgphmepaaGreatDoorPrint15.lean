/- Functions of the program as plain functions, and proofs that the program's calls tell what these tell. Written by a program. -/
import Derived.Test.YtlfenakgphmepaaGreatDoorPrint0
import Derived.Test.YtlfenakgphmepaaGreatDoorPrint13
namespace Go.Proofs.YtlfenakgphmepaaGreatDoor.Print
open Go.RowKit YtlfenakgphmepaaGreatDoorW.PrintWords YtlfenakgphmepaaGreatDoorW.PrintLast YtlfenakgphmepaaGreatDoorW.PrintMore YtlfenakgphmepaaGreatDoor.Conv
attribute [local go_sem] max2_int min2_int max_two min_two max_three min_three max_four min_four
set_option linter.unusedVariables false
set_option linter.unusedSimpArgs false
def sacristyref03_Text.l0 : Nat -> Int -> ByteArray -> Option (ByteArray)
 | 0, _, _ => none
 | k + 1, x0, x3 => if x0 > 0 then ((some (([(wrap64 (48 + (Int.tmod x0 10))) % 256] : List Int) : List Int)).bind fun y197 => (if (strOfNums y197).size + x3.size <= 9223372036854775807 then (sacristyref03_Text.l0 k (wrap64 (Int.tdiv x0 10)) ((strOfNums y197) ++ x3)) else (none))) else (some x3)
def sacristyref03_Text.f (k : Nat) (a0 : Int) : Option (ByteArray) := if a0 < 0 then (some (⟨#[]⟩ : ByteArray)) else (sacristyref03_Text.l0 k (wrap64 (Int.tdiv a0 10)) (strOfNums (([(wrap64 (48 + (Int.tmod a0 10))) % 256] : List Int))))
set_option maxHeartbeats 8000000 in
set_option maxRecDepth 100000 in
theorem sacristyref03_Text.calls (k : Nat) (a0 : Int) (r : ByteArray) (w : World) (h : sacristyref03_Text.f k a0 = some r) :
  Calls Tryz.prog 27 #[.int .i64 a0] w fun e w' => e = .returned (.string r) /\ Below w.heap.size w w' := by
 have HB := am (Below.refl w.heap.size w)
 have H : (if a0 < 0 then (some (⟨#[]⟩ : ByteArray)) else (sacristyref03_Text.l0 k (wrap64 (Int.tdiv a0 10)) (strOfNums (([(wrap64 (48 + (Int.tmod a0 10))) % 256] : List Int))))) = some r := h
 clear h
 by_cases c2 : a0 < 0
 ·rw [if_pos c2] at H
  have c2b0 : decide (a0 < 0) = true := dt c2
  clear c2
  obtain rfl := Option.some.inj H
  go_enter Tryz.func27, Tryz.ntmps27
  go_wp2
  go_ret
  exact ⟨ey, bz HB.out⟩
 ·rw [if_neg c2] at H
  have c2b0 : decide (a0 < 0) = false := df c2
  clear c2
  obtain ⟨y194, hy194⟩ : ∃ y_ : List Int, y_ = (([(wrap64 (48 + (Int.tmod a0 10))) % 256] : List Int)) := ⟨_, rfl⟩
  replace H : (sacristyref03_Text.l0 k (wrap64 (Int.tdiv a0 10)) (strOfNums y194)) = some r := by first | (rw [hy194]; with_reducible exact H) | (have H2_ := (Option.bind_some _ _).symm.trans H; rw [hy194]; with_reducible exact H2_) | (have H2_ := (Option.bind_some _ _).symm.trans H; with_reducible exact H2_) | with_reducible exact H | (rw [hy194]; exact H) | exact H
  have Ny194 := am hy194
  clear hy194
  have H' := am H
  clear H
  go_enter Tryz.func27, Tryz.ntmps27
  go_wp2_with (first | ((with_reducible refine gate_dst (N := 10) rfl ?_); refine Kd.R_lit (Kd.int .u8) _ 5 ?hg (N := 10) ?hd (xs := ([(wrap64 (48 + (Int.tmod a0 10))) % 256] : List Int)) (inner := [.int .u8 ((wrap64 (48 + (Int.tmod a0 10))) % 256)]) (ok := fun _ => True) (okp := fun _ => True) ?hr ?hp (fun _ hk => hk) trivial (Below.refl _ _) (Nat.le_refl _) (by simp) ?_; (case hd => rfl); (case hg => rfl); (case hr => first | (go_simp; done) | (go_simp; rfl)); (case hp => exact (Reps.one (show Kd.M (Kd.int .u8) _ _ _ ((wrap64 (48 + (Int.tmod a0 10))) % 256) [.int .u8 ((wrap64 (48 + (Int.tmod a0 10))) % 256)] from rfl) (Reps.none _ _))); intro v195 w3 ho4 hb hg_ hnew_; clear hg_ hnew_; (first | rw [<- Ny194.out] at ho4 | (simp only [Int.reduceToNat] at ho4; rw [<- Ny194.out] at ho4)); have n0_ := am (Kd.R_lower ho4 (qZ (bz HB.out))); have n1_ := am (qW (bz HB.out) hb); clear HB; have HO196 := n0_; have HB := n1_; clear n0_ n1_; clear hb ho4; have hcv5 := own_string (P := Tryz.prog) Tryz.underlying26 Tryz.underlying5 Tryz.underlying9 (Kd.own_of_R HO196.out)))
  go_loopg [0, 3] k (fun kq v0 v3 w' => ∃ (x0_1 : Int) (x3_1 : ByteArray), v0 = .int .i64 x0_1 /\ v3 = .string x3_1 /\ Asd (sacristyref03_Text.l0 kq x0_1 x3_1 = some r) /\ Asd (kq <= k) /\ Asd (Below w.heap.size w w'))
  case atStart => exact ⟨(wrap64 (Int.tdiv a0 10)), (strOfNums y194), (ez), (ez), H', ⟨Nat.le_refl _⟩, ⟨bz HB.out⟩⟩
  case round =>
   clear H'
   obtain ⟨x0_1, x3_1, rfl, rfl, HA, HK1, HB⟩ := hrel
   cases gk with
   | zero => exact absurd HA.out (by simp [sacristyref03_Text.l0])
   | succ k1 =>
    have H := HA.out
    clear HA
    simp only [sacristyref03_Text.l0] at H
    by_cases c6 : x0_1 > 0
    ·rw [if_pos c6] at H
     have c6b0 : decide (0 < x0_1) = true := dt c6
     clear c6
     obtain ⟨y197, hy197⟩ : ∃ y_ : List Int, y_ = (([(wrap64 (48 + (Int.tmod x0_1 10))) % 256] : List Int)) := ⟨_, rfl⟩
     replace H : (if (strOfNums y197).size + x3_1.size <= 9223372036854775807 then (sacristyref03_Text.l0 k1 (wrap64 (Int.tdiv x0_1 10)) ((strOfNums y197) ++ x3_1)) else (none)) = some r := by first | (rw [hy197]; with_reducible exact H) | (have H2_ := (Option.bind_some _ _).symm.trans H; rw [hy197]; with_reducible exact H2_) | (have H2_ := (Option.bind_some _ _).symm.trans H; with_reducible exact H2_) | with_reducible exact H | (rw [hy197]; exact H) | exact H
     have Ny197 := am hy197
     clear hy197
     by_cases c7 : (strOfNums y197).size + x3_1.size <= 9223372036854775807
     ·rw [if_pos c7] at H
      have c7b0 := eq_true c7
      have c7b1 : decide ((strOfNums y197).size + x3_1.size <= 9223372036854775807) = true := dt c7
      try have c7b2 : (9223372036854775807 < (strOfNums y197).size + x3_1.size) = False := eq_false (Nat.not_lt.2 c7)
      have H' := am H
      clear H
      go_wp2_with (first | ((with_reducible refine gate_dst (N := 22) rfl ?_); refine Kd.R_lit (Kd.int .u8) _ 5 ?hg (N := 22) ?hd (xs := ([(wrap64 (48 + (Int.tmod x0_1 10))) % 256] : List Int)) (inner := [.int .u8 ((wrap64 (48 + (Int.tmod x0_1 10))) % 256)]) (ok := fun _ => True) (okp := fun _ => True) ?hr ?hp (fun _ hk => hk) trivial (Below.refl _ _) (Nat.le_refl _) (by simp) ?_; (case hd => rfl); (case hg => rfl); (case hr => first | (go_simp; done) | (go_simp; rfl)); (case hp => exact (Reps.one (show Kd.M (Kd.int .u8) _ _ _ ((wrap64 (48 + (Int.tmod x0_1 10))) % 256) [.int .u8 ((wrap64 (48 + (Int.tmod x0_1 10))) % 256)] from rfl) (Reps.none _ _))); intro v198 w8 ho9 hb hg_ hnew_; clear hg_ hnew_; (first | rw [<- Ny197.out] at ho9 | (simp only [Int.reduceToNat] at ho9; rw [<- Ny197.out] at ho9)); have n0_ := am (Kd.R_lower ho9 (qZ (bz HB.out))); have n1_ := am (qW (bz HB.out) hb); clear HB; have HO199 := n0_; have HB := n1_; clear n0_ n1_; clear hb ho9; have hcv10 := own_string (P := Tryz.prog) Tryz.underlying26 Tryz.underlying5 Tryz.underlying9 (Kd.own_of_R HO199.out)))
      go_roundg k1
      case measure => have := HK1.out; omega
      case rel => exact ⟨(wrap64 (Int.tdiv x0_1 10)), ((strOfNums y197) ++ x3_1), (ez), (ez), H', ⟨by have := HK1.out; omega⟩, ⟨bz HB.out⟩⟩
     ·rw [if_neg c7] at H
      exact absurd H (by simp)
    ·rw [if_neg c6] at H
     have c6b0 : decide (0 < x0_1) = false := df c6
     clear c6
     obtain rfl := Option.some.inj H
     go_wp2
     go_ret
     exact ⟨ey, bz HB.out⟩
def sacristyref10_rows.l0 : Nat -> List ByteArray -> ByteArray -> Int -> Option (ByteArray)
 | 0, _, _, _ => none
 | k + 1, x0, x3, x4 => if x4 < (x0.length : Int) then (if 0 <= x4 then (if x3.size + (rdOf ByteArray.empty x0 x4).size <= 9223372036854775807 then (if (x3 ++ (rdOf ByteArray.empty x0 x4)).size + 1 <= 9223372036854775807 then (sacristyref10_rows.l0 k x0 ((x3 ++ (rdOf ByteArray.empty x0 x4)) ++ (⟨#[10]⟩ : ByteArray)) (wrap64 (x4 + 1))) else (none)) else (none)) else (none)) else (some x3)
def sacristyref10_rows.f (k : Nat) (l0 : List ByteArray) : Option (ByteArray) := sacristyref10_rows.l0 k l0 (⟨#[]⟩ : ByteArray) 0
set_option maxHeartbeats 8000000 in
set_option maxRecDepth 100000 in
theorem sacristyref10_rows.calls (k : Nat) (A0 : Option Addr) (c0 : Nat) (l0 : List ByteArray) (r : ByteArray) (w : World) (hr0 : Kd.C Kd.string w A0 l0.length l0) (hc0 : l0.length <= c0) (h : sacristyref10_rows.f k l0 = some r) :
  Calls Tryz.prog 28 #[.slice A0 l0.length c0] w fun e w' => e = .returned (.string r) /\ Drawn0 w w' := by
 have HR0 := am hr0
 have HC0 := am hc0
 clear hr0 hc0
 have H : (sacristyref10_rows.l0 k l0 (⟨#[]⟩ : ByteArray) 0) = some r := h
 clear h
 have H' := am H
 clear H
 go_enter Tryz.func28, Tryz.ntmps28
 go_wp2
 go_loopg [3, 4] k (fun kq v3 v4 w' => ∃ (x3_1 : ByteArray) (x4_1 : Int), v3 = .string x3_1 /\ v4 = .int .i64 x4_1 /\ Asd (sacristyref10_rows.l0 kq l0 x3_1 x4_1 = some r) /\ Asd (kq <= k) /\ Drawn0 w w')
 case atStart => exact ⟨((⟨#[]⟩ : ByteArray)), (0), (ez), (ez), H', ⟨Nat.le_refl _⟩, wz⟩
 case round =>
  clear H'
  obtain ⟨x3_1, x4_1, rfl, rfl, HA, HK1, ⟨m1, rfl⟩⟩ := hrel
  cases gk with
  | zero => exact absurd HA.out (by simp [sacristyref10_rows.l0])
  | succ k1 =>
   have H := HA.out
   clear HA
   simp only [sacristyref10_rows.l0] at H
   by_cases c2 : x4_1 < (l0.length : Int)
   ·rw [if_pos c2] at H
    have c2b0 : decide (x4_1 < (l0.length : Int)) = true := dt c2
    clear c2
    by_cases c3 : 0 <= x4_1
    ·rw [if_pos c3] at H
     have c3b0 : decide (0 <= x4_1) = true := dt c3
     clear c3
     by_cases c4 : x3_1.size + (rdOf ByteArray.empty l0 x4_1).size <= 9223372036854775807
     ·rw [if_pos c4] at H
      have c4b0 := eq_true c4
      have c4b1 : decide (x3_1.size + (rdOf ByteArray.empty l0 x4_1).size <= 9223372036854775807) = true := dt c4
      try have c4b2 : (9223372036854775807 < x3_1.size + (rdOf ByteArray.empty l0 x4_1).size) = False := eq_false (Nat.not_lt.2 c4)
      by_cases c5 : (x3_1 ++ (rdOf ByteArray.empty l0 x4_1)).size + 1 <= 9223372036854775807
      ·rw [if_pos c5] at H
       have c5b0 := eq_true c5
       have c5b1 : decide ((x3_1 ++ (rdOf ByteArray.empty l0 x4_1)).size + 1 <= 9223372036854775807) = true := dt c5
       try have c5b2 : (9223372036854775807 < (x3_1 ++ (rdOf ByteArray.empty l0 x4_1)).size + 1) = False := eq_false (Nat.not_lt.2 c5)
       try have c5b3 : (9223372036854775807 < x3_1.size + (rdOf ByteArray.empty l0 x4_1).size + 1) = False := eq_false (Nat.not_lt.2 (by have e_ := c5; simp only [ByteArray.size_append] at e_; exact e_))
       have H' := am H
       clear H
       have p200 : 0 <= (x4_1 : Int) := dz
       have q200 : x4_1 < (l0.length : Int) := dz
       obtain ⟨ad200, e200, hx200_0⟩ := Kd.at_string HR0.out x4_1 p200 q200
       cases e200
       replace p200 := eq_true p200
       replace q200 := eq_true q200
       go_wp2
       go_roundg k1
       case measure => have := HK1.out; omega
       case rel => exact ⟨((x3_1 ++ (rdOf ByteArray.empty l0 x4_1)) ++ (⟨#[10]⟩ : ByteArray)), (wrap64 (x4_1 + 1)), (ez), (ez), H', ⟨by have := HK1.out; omega⟩, wz⟩
      ·rw [if_neg c5] at H
       exact absurd H (by simp)
     ·rw [if_neg c4] at H
      exact absurd H (by simp)
    ·rw [if_neg c3] at H
     exact absurd H (by simp)
   ·rw [if_neg c2] at H
    have c2b0 : decide (x4_1 < (l0.length : Int)) = false := df c2
    clear c2
    obtain rfl := Option.some.inj H
    go_wp2
    go_ret
    exact ⟨ez, wz⟩
def q9_Put.l0 : Nat -> List (S83) -> ByteArray -> Int -> Option (ByteArray × Bool)
 | 0, _, _, _ => none
 | k + 1, x0, x4, x5 => if x5 < (x0.length : Int) then (if 0 <= x5 then (if x4.size + ((rd_T83 x0 x5).f1).size <= 9223372036854775807 then (if (x4 ++ ((rd_T83 x0 x5).f1)).size + 1 <= 9223372036854775807 then (if ((x4 ++ ((rd_T83 x0 x5).f1)) ++ (⟨#[32]⟩ : ByteArray)).size + ((rd_T83 x0 x5).f0).size <= 9223372036854775807 then (if (((x4 ++ ((rd_T83 x0 x5).f1)) ++ (⟨#[32]⟩ : ByteArray)) ++ ((rd_T83 x0 x5).f0)).size + 1 <= 9223372036854775807 then (q9_Put.l0 k x0 ((((x4 ++ ((rd_T83 x0 x5).f1)) ++ (⟨#[32]⟩ : ByteArray)) ++ ((rd_T83 x0 x5).f0)) ++ (⟨#[10]⟩ : ByteArray)) (wrap64 (x5 + 1))) else (none)) else (none)) else (none)) else (none)) else (none)) else (some (x4, true))
def q9_Put.f (k : Nat) (l0 : List (S83)) : Option (ByteArray × Bool) := (q9_Right.f k l0).bind fun t201 => (if t201 = true then (q9_Put.l0 k l0 (⟨#[]⟩ : ByteArray) 0) else (some ((⟨#[]⟩ : ByteArray), false)))
set_option maxHeartbeats 8000000 in
set_option maxRecDepth 100000 in
theorem q9_Put.calls (k : Nat) (A0 : Option Addr) (c0 : Nat) (l0 : List (S83)) (r1 : ByteArray) (r2 : Bool) (w : World) (hr0 : Kd.C k83 w A0 l0.length l0) (hc0 : l0.length <= c0) (h : q9_Put.f k l0 = some (r1, r2)) :
  Calls Tryz.prog 29 #[.slice A0 l0.length c0] w fun e w' => e = .returned (.tuple #[.string r1, .bool r2]) /\ Below w.heap.size w w' := by
 have HR0 := am hr0
 have HC0 := am hc0
 clear hr0 hc0
 have HB := am (Below.refl w.heap.size w)
 have H : ((q9_Right.f k l0).bind fun t201 => (if t201 = true then (q9_Put.l0 k l0 (⟨#[]⟩ : ByteArray) 0) else (some ((⟨#[]⟩ : ByteArray), false)))) = some (r1, r2) := h
 clear h
 replace H := Option.bind_eq_some_iff.mp H
 obtain ⟨t201, A20, H⟩ := H
 replace H : (if t201 = true then (q9_Put.l0 k l0 (⟨#[]⟩ : ByteArray) 0) else (some ((⟨#[]⟩ : ByteArray), false))) = some (r1, r2) := H
 have A2 := am A20
 by_cases c3 : t201 = true
 ·subst c3
  have H1 : (q9_Put.l0 k l0 (⟨#[]⟩ : ByteArray) 0) = some (r1, r2) := by rw [if_pos rfl] at H; exact H
  clear H
  have H := H1
  clear H1
  have H' := am H
  clear H
  go_enter Tryz.func29, Tryz.ntmps29
  go_wp2_with (first | (go_at_call 43; (with_reducible refine (q9_Right.calls k _ _ l0 true _ ?side1 ?side2 A2.out).mono ?_); (case side1 => repeat (first | exact HR0.out | (with_reducible refine Kd.C_alloc ?_ _) | (with_reducible refine Kd.C_drewN ?_ _) | (with_reducible refine Kd.C_drew ?_))); (case side2 => exact HC0.out); rintro e w4 ⟨rfl, hb⟩; have n0_ := am (qW (bz HB.out) hb); clear HB; have HB := n0_; clear n0_; (try clear hb); (try clear hb2); (try clear hk); (try clear hi)))
  repeat (go_quiet (first | (go_at_call 43; (with_reducible refine (q9_Right.calls k _ _ l0 true _ ?side1 ?side2 A2.out).mono ?_); (case side1 => repeat (first | exact HR0.out | (with_reducible refine Kd.C_alloc ?_ _) | (with_reducible refine Kd.C_drewN ?_ _) | (with_reducible refine Kd.C_drew ?_))); (case side2 => exact HC0.out); rintro e w4 ⟨rfl, hb⟩; have n0_ := am (qW (bz HB.out) hb); clear HB; have HB := n0_; clear n0_; (try clear hb); (try clear hb2); (try clear hk); (try clear hi))); try go_wp2_with (first | (go_at_call 43; (with_reducible refine (q9_Right.calls k _ _ l0 true _ ?side1 ?side2 A2.out).mono ?_); (case side1 => repeat (first | exact HR0.out | (with_reducible refine Kd.C_alloc ?_ _) | (with_reducible refine Kd.C_drewN ?_ _) | (with_reducible refine Kd.C_drew ?_))); (case side2 => exact HC0.out); rintro e w4 ⟨rfl, hb⟩; have n0_ := am (qW (bz HB.out) hb); clear HB; have HB := n0_; clear n0_; (try clear hb); (try clear hb2); (try clear hk); (try clear hi))))
  go_loopg [4, 5] k (fun kq v4 v5 w' => ∃ (x4_1 : ByteArray) (x5_1 : Int), v4 = .string x4_1 /\ v5 = .int .i64 x5_1 /\ Asd (q9_Put.l0 kq l0 x4_1 x5_1 = some (r1, r2)) /\ Asd (kq <= k) /\ Asd (Below w.heap.size w w'))
  case atStart => exact ⟨((⟨#[]⟩ : ByteArray)), (0), (ez), (ez), H', ⟨Nat.le_refl _⟩, ⟨bz HB.out⟩⟩
  case round =>
   clear H'
   obtain ⟨x4_1, x5_1, rfl, rfl, HA, HK1, HB⟩ := hrel
   cases gk with
   | zero => exact absurd HA.out (by simp [q9_Put.l0])
   | succ k1 =>
    have H := HA.out
    clear HA
    simp only [q9_Put.l0] at H
    by_cases c5 : x5_1 < (l0.length : Int)
    ·rw [if_pos c5] at H
     have c5b0 : decide (x5_1 < (l0.length : Int)) = true := dt c5
     clear c5
     by_cases c6 : 0 <= x5_1
     ·rw [if_pos c6] at H
      have c6b0 : decide (0 <= x5_1) = true := dt c6
      clear c6
      by_cases c7 : x4_1.size + ((rd_T83 l0 x5_1).f1).size <= 9223372036854775807
      ·rw [if_pos c7] at H
       have c7b0 := eq_true c7
       have c7b1 : decide (x4_1.size + ((rd_T83 l0 x5_1).f1).size <= 9223372036854775807) = true := dt c7
       try have c7b2 : (9223372036854775807 < x4_1.size + ((rd_T83 l0 x5_1).f1).size) = False := eq_false (Nat.not_lt.2 c7)
       by_cases c8 : (x4_1 ++ ((rd_T83 l0 x5_1).f1)).size + 1 <= 9223372036854775807
       ·rw [if_pos c8] at H
        have c8b0 := eq_true c8
        have c8b1 : decide ((x4_1 ++ ((rd_T83 l0 x5_1).f1)).size + 1 <= 9223372036854775807) = true := dt c8
        try have c8b2 : (9223372036854775807 < (x4_1 ++ ((rd_T83 l0 x5_1).f1)).size + 1) = False := eq_false (Nat.not_lt.2 c8)
        try have c8b3 : (9223372036854775807 < x4_1.size + ((rd_T83 l0 x5_1).f1).size + 1) = False := eq_false (Nat.not_lt.2 (by have e_ := c8; simp only [ByteArray.size_append] at e_; exact e_))
        by_cases c9 : ((x4_1 ++ ((rd_T83 l0 x5_1).f1)) ++ (⟨#[32]⟩ : ByteArray)).size + ((rd_T83 l0 x5_1).f0).size <= 9223372036854775807
        ·rw [if_pos c9] at H
         have c9b0 := eq_true c9
         have c9b1 : decide (((x4_1 ++ ((rd_T83 l0 x5_1).f1)) ++ (⟨#[32]⟩ : ByteArray)).size + ((rd_T83 l0 x5_1).f0).size <= 9223372036854775807) = true := dt c9
         try have c9b2 : (9223372036854775807 < ((x4_1 ++ ((rd_T83 l0 x5_1).f1)) ++ (⟨#[32]⟩ : ByteArray)).size + ((rd_T83 l0 x5_1).f0).size) = False := eq_false (Nat.not_lt.2 c9)
         try have c9b3 : (9223372036854775807 < x4_1.size + ((rd_T83 l0 x5_1).f1).size + 1 + ((rd_T83 l0 x5_1).f0).size) = False := eq_false (Nat.not_lt.2 (by have e_ := c9; simp only [ByteArray.size_append] at e_; exact e_))
         by_cases c10 : (((x4_1 ++ ((rd_T83 l0 x5_1).f1)) ++ (⟨#[32]⟩ : ByteArray)) ++ ((rd_T83 l0 x5_1).f0)).size + 1 <= 9223372036854775807
         ·rw [if_pos c10] at H
          have c10b0 := eq_true c10
          have c10b1 : decide ((((x4_1 ++ ((rd_T83 l0 x5_1).f1)) ++ (⟨#[32]⟩ : ByteArray)) ++ ((rd_T83 l0 x5_1).f0)).size + 1 <= 9223372036854775807) = true := dt c10
          try have c10b2 : (9223372036854775807 < (((x4_1 ++ ((rd_T83 l0 x5_1).f1)) ++ (⟨#[32]⟩ : ByteArray)) ++ ((rd_T83 l0 x5_1).f0)).size + 1) = False := eq_false (Nat.not_lt.2 c10)
          try have c10b3 : (9223372036854775807 < x4_1.size + ((rd_T83 l0 x5_1).f1).size + 1 + ((rd_T83 l0 x5_1).f0).size + 1) = False := eq_false (Nat.not_lt.2 (by have e_ := c10; simp only [ByteArray.size_append] at e_; exact e_))
          have H' := am H
          clear H
          have p202 : 0 <= (x5_1 : Int) := dz
          have q202 : x5_1 < (l0.length : Int) := dz
          obtain ⟨ad202, e202, hx202_0, hx202_1⟩ := at_T83 HR0.out x5_1 p202 q202
          cases e202
          replace hx202_0 := hZc HB.out hx202_0
          replace hx202_1 := hZc HB.out hx202_1
          replace p202 := eq_true p202
          replace q202 := eq_true q202
          have p203 : 0 <= (x5_1 : Int) := dz
          have q203 : x5_1 < (l0.length : Int) := dz
          obtain ⟨ad203, e203, hx203_0, hx203_1⟩ := at_T83 HR0.out x5_1 p203 q203
          obtain rfl : ad202 = ad203 := (by injection e203)
          replace hx203_0 := hZc HB.out hx203_0
          replace hx203_1 := hZc HB.out hx203_1
          replace p203 := eq_true p203
          replace q203 := eq_true q203
          go_wp2
          repeat (go_quiet (fail); try go_wp2)
          go_roundg k1
          case measure => have := HK1.out; omega
          case rel => exact ⟨((((x4_1 ++ ((rd_T83 l0 x5_1).f1)) ++ (⟨#[32]⟩ : ByteArray)) ++ ((rd_T83 l0 x5_1).f0)) ++ (⟨#[10]⟩ : ByteArray)), (wrap64 (x5_1 + 1)), (ez), (ez), H', ⟨by have := HK1.out; omega⟩, ⟨bz HB.out⟩⟩
         ·rw [if_neg c10] at H
          exact absurd H (by simp)
        ·rw [if_neg c9] at H
         exact absurd H (by simp)
       ·rw [if_neg c8] at H
        exact absurd H (by simp)
      ·rw [if_neg c7] at H
       exact absurd H (by simp)
     ·rw [if_neg c6] at H
      exact absurd H (by simp)
    ·rw [if_neg c5] at H
     have c5b0 : decide (x5_1 < (l0.length : Int)) = false := df c5
     clear c5
     simp only [Option.some.injEq, Prod.mk.injEq] at H
     obtain ⟨rfl, rfl⟩ := H
     go_wp2
     repeat (go_quiet (fail); try go_wp2)
     go_ret2
     exact ⟨ey, bz HB.out⟩
 ·replace c3 := Bool.eq_false_iff.mpr c3
  subst c3
  have H1 : (some ((⟨#[]⟩ : ByteArray), false)) = some (r1, r2) := by rw [if_neg (show ¬ (false = true) by decide)] at H; exact H
  clear H
  have H := H1
  clear H1
  simp only [Option.some.injEq, Prod.mk.injEq] at H
  obtain ⟨rfl, rfl⟩ := H
  go_enter Tryz.func29, Tryz.ntmps29
  go_wp2_with (first | (go_at_call 43; (with_reducible refine (q9_Right.calls k _ _ l0 false _ ?side1 ?side2 A2.out).mono ?_); (case side1 => repeat (first | exact HR0.out | (with_reducible refine Kd.C_alloc ?_ _) | (with_reducible refine Kd.C_drewN ?_ _) | (with_reducible refine Kd.C_drew ?_))); (case side2 => exact HC0.out); rintro e w11 ⟨rfl, hb⟩; have n0_ := am (qW (bz HB.out) hb); clear HB; have HB := n0_; clear n0_; (try clear hb); (try clear hb2); (try clear hk); (try clear hi)))
  repeat (go_quiet (first | (go_at_call 43; (with_reducible refine (q9_Right.calls k _ _ l0 false _ ?side1 ?side2 A2.out).mono ?_); (case side1 => repeat (first | exact HR0.out | (with_reducible refine Kd.C_alloc ?_ _) | (with_reducible refine Kd.C_drewN ?_ _) | (with_reducible refine Kd.C_drew ?_))); (case side2 => exact HC0.out); rintro e w11 ⟨rfl, hb⟩; have n0_ := am (qW (bz HB.out) hb); clear HB; have HB := n0_; clear n0_; (try clear hb); (try clear hb2); (try clear hk); (try clear hi))); try go_wp2_with (first | (go_at_call 43; (with_reducible refine (q9_Right.calls k _ _ l0 false _ ?side1 ?side2 A2.out).mono ?_); (case side1 => repeat (first | exact HR0.out | (with_reducible refine Kd.C_alloc ?_ _) | (with_reducible refine Kd.C_drewN ?_ _) | (with_reducible refine Kd.C_drew ?_))); (case side2 => exact HC0.out); rintro e w11 ⟨rfl, hb⟩; have n0_ := am (qW (bz HB.out) hb); clear HB; have HB := n0_; clear n0_; (try clear hb); (try clear hb2); (try clear hk); (try clear hi))))
  go_ret2
  exact ⟨ey, bz HB.out⟩
end Go.Proofs.YtlfenakgphmepaaGreatDoor.Print
