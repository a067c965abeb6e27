/- Functions of the program as plain functions, and proofs that the program's calls tell what these tell. Written by a program. -/
import Derived.Test.YtlfenakgphmepaaGreatDoorPrint0
import Derived.Test.YtlfenakgphmepaaGreatDoorPrint2
namespace Go.Proofs.YtlfenakgphmepaaGreatDoor.Print
open Go.RowKit YtlfenakgphmepaaGreatDoorW.PrintWords YtlfenakgphmepaaGreatDoorW.PrintLast YtlfenakgphmepaaGreatDoorW.PrintMore YtlfenakgphmepaaGreatDoor.Conv
attribute [local go_sem] max2_int min2_int max_two min_two max_three min_three max_four min_four
set_option linter.unusedVariables false
set_option linter.unusedSimpArgs false
def refs_Named_1.f (k : Nat) : List ByteArray -> Option (Bool)
 | [] => some false
 | x :: t => (refs_letters.f k x).bind fun b => if b = true then refs_Named_1.f k t else some true
theorem refs_Named_1.one (k : Nat) (x : ByteArray) (b : Bool) (w : World) (h : refs_letters.f k x = some b) : Calls Tryz.prog 80 #[.string x] w fun e w' => e = .returned (.bool (!b)) /\ Drawn0 w w' := by
 have H := am h
 clear h
 go_enter Tryz.func80, Tryz.ntmps80
 go_wp2_with (go_at_call 81; refine (refs_letters.calls k x b _ H.out).mono ?_; rintro e w' ⟨rfl, ⟨nd, rfl⟩⟩)
 go_ret
 exact ⟨rfl, ⟨_, rfl⟩⟩
theorem refs_Named_1.index (k : Nat) (A0 : Option Addr) (c0 : Nat) (l0 : List ByteArray) (r : Bool) (w : World) (hr0 : Kd.C Kd.string w A0 l0.length l0) (hc0 : l0.length <= c0) (h : refs_Named_1.f k l0 = some r) :
  Calls Tryz.prog 95 #[.slice A0 l0.length c0, .func (.func 80) #[] #[]] w fun e w' => ∃ j : Int, e = .returned (.int .i64 j) /\ decide (0 <= j) = r /\ Drawn0 w w' := by
 have HR := am hr0
 have hmax : l0.length <= 9223372036854775807 := hr0.2.1
 have HF := am h
 clear hr0 h
 go_enter Tryz.func95, Tryz.ntmps95
 go_wp2
 go_loopg [5, 8] l0.length (fun gg _ s8 wr => ∃ kk : Nat, kk <= l0.length /\ l0.length - kk <= gg /\ s8 = .int .i64 kk /\ Asd (∃ m, wr = w.drewN m) /\ Asd (refs_Named_1.f k (l0.drop kk) = some r))
 case atStart => exact ⟨0, Nat.zero_le _, by omega, rfl, ⟨0, rfl⟩, HF⟩
 case round =>
  obtain ⟨kk, hkk, hg, rfl, ⟨BW⟩, ⟨A⟩⟩ := hrel
  by_cases hlt : kk < l0.length
  ·have hltz : (kk : Int) < (l0.length : Int) := by omega
   obtain ⟨m, rfl⟩ := BW
   obtain ⟨ad, rfl, hc⟩ := (Kd.reads_of_C (enc := Value.string) (d := ByteArray.empty) (h1 := fun _ => rfl) (Kd.C_drewN HR.out m)).2.2 (by omega)
   have hcell := hc kk hlt
   clear hc
   have hx : l0.getD kk ByteArray.empty = l0[kk] := by rw [List.getD_eq_getElem?_getD, List.getElem?_eq_getElem hlt]; rfl
   rw [hx] at hcell
   rw [List.drop_eq_getElem_cons hlt] at A
   simp only [refs_Named_1.f] at A
   obtain ⟨b, hb, A⟩ := Option.bind_eq_some_iff.1 A
   generalize l0[kk] = x at hcell hb
   have HB := am hb
   have HA := am A
   clear hb A hx
   cases b with
   | true =>
    go_wp2_with (go_at_call 80; refine (refs_Named_1.one k x true _ HB.out).mono ?_; rintro e w' ⟨rfl, ⟨nd, rfl⟩⟩)
    go_roundg (l0.length - (kk + 1))
    case measure => omega
    case rel => exact ⟨kk + 1, by omega, by omega, by go_num, ⟨_, rfl⟩, ⟨by simpa using HA.out⟩⟩
   | false =>
    go_wp2_with (go_at_call 80; refine (refs_Named_1.one k x false _ HB.out).mono ?_; rintro e w' ⟨rfl, ⟨nd, rfl⟩⟩)
    go_ret
    exact ⟨kk, rfl, by have := HA.out; simp at this; rw [this]; simp, ⟨_, rfl⟩⟩
  ·have hltz : ¬ (kk : Int) < (l0.length : Int) := by omega
   obtain rfl : kk = l0.length := by omega
   rw [List.drop_length] at A
   have hr : false = r := Option.some.inj A
   subst hr
   obtain ⟨m, rfl⟩ := BW
   go_wp2
   go_ret
   exact ⟨-1, rfl, by decide, ⟨_, rfl⟩⟩
theorem refs_Named_1.calls (k : Nat) (A0 : Option Addr) (c0 : Nat) (l0 : List ByteArray) (r : Bool) (w : World) (hr0 : Kd.C Kd.string w A0 l0.length l0) (hc0 : l0.length <= c0) (h : refs_Named_1.f k l0 = some r) :
  Calls Tryz.prog 79 #[.slice A0 l0.length c0, .func (.func 80) #[] #[]] w fun e w' => e = .returned (.bool r) /\ Drawn0 w w' := by
 have C := am (refs_Named_1.index k A0 c0 l0 r w hr0 hc0 h)
 clear hr0 h
 go_enter Tryz.func79, Tryz.ntmps79
 go_wp2_with (go_at_call 95; refine C.out.mono ?_; rintro e w' ⟨j, rfl, hj, ⟨nd, rfl⟩⟩)
 go_ret
 exact ⟨by rw [<- hj]; rfl, ⟨_, rfl⟩⟩
def refs_Named.f (k : Nat) (a0 : ByteArray) : Option (Bool) := (strings_Split.f a0 (⟨#[47]⟩ : ByteArray)).bind fun t101 => (if (a0.size : Int) > 80 then (some false) else (if (t101.length : Int) < 2 then (some false) else (if (t101.length : Int) > 4 then (some false) else (if 0 < (t101.length : Int) then (if (rdOf ByteArray.empty t101 0).toList = ([104, 101, 97, 100, 115] : List UInt8) then (if 1 <= (t101.length : Int) then ((refs_Named_1.f k (t101.drop 1)).bind fun t109 => (some (!t109))) else (none)) else (if (rdOf ByteArray.empty t101 0).toList = ([116, 97, 103, 115] : List UInt8) then (if 1 <= (t101.length : Int) then ((refs_Named_1.f k (t101.drop 1)).bind fun t115 => (some (!t115))) else (none)) else (some false))) else (none)))))
set_option maxHeartbeats 8000000 in
set_option maxRecDepth 100000 in
theorem refs_Named.calls (k : Nat) (a0 : ByteArray) (r : Bool) (w : World) (h : refs_Named.f k a0 = some r) :
  Calls Tryz.prog 62 #[.string a0] w fun e w' => e = .returned (.bool r) /\ Below w.heap.size w w' := by
 have HB := am (Below.refl w.heap.size w)
 have H : ((strings_Split.f a0 (⟨#[47]⟩ : ByteArray)).bind fun t101 => (if (a0.size : Int) > 80 then (some false) else (if (t101.length : Int) < 2 then (some false) else (if (t101.length : Int) > 4 then (some false) else (if 0 < (t101.length : Int) then (if (rdOf ByteArray.empty t101 0).toList = ([104, 101, 97, 100, 115] : List UInt8) then (if 1 <= (t101.length : Int) then ((refs_Named_1.f k (t101.drop 1)).bind fun t109 => (some (!t109))) else (none)) else (if (rdOf ByteArray.empty t101 0).toList = ([116, 97, 103, 115] : List UInt8) then (if 1 <= (t101.length : Int) then ((refs_Named_1.f k (t101.drop 1)).bind fun t115 => (some (!t115))) else (none)) else (some false))) else (none)))))) = some r := h
 clear h
 replace H := Option.bind_eq_some_iff.mp H
 obtain ⟨t101, A20, H⟩ := H
 replace H : (if (a0.size : Int) > 80 then (some false) else (if (t101.length : Int) < 2 then (some false) else (if (t101.length : Int) > 4 then (some false) else (if 0 < (t101.length : Int) then (if (rdOf ByteArray.empty t101 0).toList = ([104, 101, 97, 100, 115] : List UInt8) then (if 1 <= (t101.length : Int) then ((refs_Named_1.f k (t101.drop 1)).bind fun t109 => (some (!t109))) else (none)) else (if (rdOf ByteArray.empty t101 0).toList = ([116, 97, 103, 115] : List UInt8) then (if 1 <= (t101.length : Int) then ((refs_Named_1.f k (t101.drop 1)).bind fun t115 => (some (!t115))) else (none)) else (some false))) else (none))))) = some r := H
 have A2 := am A20
 by_cases c3 : (a0.size : Int) > 80
 ·rw [if_pos c3] at H
  have c3b0 : decide (80 < (a0.size : Int)) = true := dt c3
  have c3b1 : decide (80 < a0.size) = true := dt (by omega)
  clear c3
  obtain rfl := Option.some.inj H
  go_enter Tryz.func62, Tryz.ntmps62
  go_wp2_with (first | ((with_reducible refine gate_callee (f := 30) rfl ?_); refine goesL_ (some 5) rfl rfl Tryz.func30 (by kernel_rfl) rfl #[.string a0, .string (⟨#[47]⟩ : ByteArray)] rfl mz ?_; (with_reducible refine (strings_Split.calls a0 (⟨#[47]⟩ : ByteArray) t101 _ A2.out).mono ?_); rintro e w4 ⟨v102, rfl, ho0, hb⟩; refine ⟨_, rfl, ?_⟩; have n0_ := am (Kd.R_lower ho0 (qZ (bz HB.out))); have n1_ := am (qW (bz HB.out) hb); clear HB; have HO103 := n0_; have HB := n1_; clear n0_ n1_; (try clear hb); (try clear hb2); (try clear hk); (try clear hi); (try clear ho0)))
  go_ret
  exact ⟨ey, bz HB.out⟩
 ·rw [if_neg c3] at H
  have c3b0 : decide (80 < (a0.size : Int)) = false := df c3
  have c3b1 : decide (80 < a0.size) = false := df (by omega)
  clear c3
  by_cases c5 : (t101.length : Int) < 2
  ·rw [if_pos c5] at H
   have c5b0 : decide ((t101.length : Int) < 2) = true := dt c5
   have c5b1 : decide (t101.length < 2) = true := dt (by omega)
   clear c5
   obtain rfl := Option.some.inj H
   go_enter Tryz.func62, Tryz.ntmps62
   go_wp2_with (first | ((with_reducible refine gate_callee (f := 30) rfl ?_); refine goesL_ (some 5) rfl rfl Tryz.func30 (by kernel_rfl) rfl #[.string a0, .string (⟨#[47]⟩ : ByteArray)] rfl mz ?_; (with_reducible refine (strings_Split.calls a0 (⟨#[47]⟩ : ByteArray) t101 _ A2.out).mono ?_); rintro e w6 ⟨v102, rfl, ho0, hb⟩; refine ⟨_, rfl, ?_⟩; have n0_ := am (Kd.R_lower ho0 (qZ (bz HB.out))); have n1_ := am (qW (bz HB.out) hb); clear HB; have HO103 := n0_; have HB := n1_; clear n0_ n1_; (try clear hb); (try clear hb2); (try clear hk); (try clear hi); (try clear ho0); obtain ⟨Ao7, co7, eo7⟩ := Kd.R_slice HO103.out; subst eo7))
   go_ret
   exact ⟨ey, bz HB.out⟩
  ·rw [if_neg c5] at H
   have c5b0 : decide ((t101.length : Int) < 2) = false := df c5
   have c5b1 : decide (t101.length < 2) = false := df (by omega)
   clear c5
   by_cases c8 : (t101.length : Int) > 4
   ·rw [if_pos c8] at H
    have c8b0 : decide (4 < (t101.length : Int)) = true := dt c8
    have c8b1 : decide (4 < t101.length) = true := dt (by omega)
    clear c8
    obtain rfl := Option.some.inj H
    go_enter Tryz.func62, Tryz.ntmps62
    go_wp2_with (first | ((with_reducible refine gate_callee (f := 30) rfl ?_); refine goesL_ (some 5) rfl rfl Tryz.func30 (by kernel_rfl) rfl #[.string a0, .string (⟨#[47]⟩ : ByteArray)] rfl mz ?_; (with_reducible refine (strings_Split.calls a0 (⟨#[47]⟩ : ByteArray) t101 _ A2.out).mono ?_); rintro e w9 ⟨v102, rfl, ho0, hb⟩; refine ⟨_, rfl, ?_⟩; have n0_ := am (Kd.R_lower ho0 (qZ (bz HB.out))); have n1_ := am (qW (bz HB.out) hb); clear HB; have HO103 := n0_; have HB := n1_; clear n0_ n1_; (try clear hb); (try clear hb2); (try clear hk); (try clear hi); (try clear ho0); obtain ⟨Ao10, co10, eo10⟩ := Kd.R_slice HO103.out; subst eo10))
    go_ret
    exact ⟨ey, bz HB.out⟩
   ·rw [if_neg c8] at H
    have c8b0 : decide (4 < (t101.length : Int)) = false := df c8
    have c8b1 : decide (4 < t101.length) = false := df (by omega)
    clear c8
    by_cases c11 : 0 < (t101.length : Int)
    ·rw [if_pos c11] at H
     have c11b0 : decide (0 < (t101.length : Int)) = true := dt c11
     have c11b1 : decide (0 < t101.length) = true := dt (by omega)
     clear c11
     by_cases c12 : (rdOf ByteArray.empty t101 0).toList = ([104, 101, 97, 100, 115] : List UInt8)
     ·rw [if_pos c12] at H
      have c12b0 : ((rdOf ByteArray.empty t101 0).toList == ([104, 101, 97, 100, 115] : List UInt8)) = true := beq_iff_eq.mpr c12
      have c12b1 : ((rdOf ByteArray.empty t101 0).toList != ([104, 101, 97, 100, 115] : List UInt8)) = false := bne_eq_false_iff_eq.mpr c12
      clear c12
      by_cases c13 : 1 <= (t101.length : Int)
      ·rw [if_pos c13] at H
       have c13b0 := eq_true c13
       have c13b1 : decide (1 <= (t101.length : Int)) = true := dt c13
       clear c13
       obtain ⟨y105, hy105⟩ : ∃ y_ : List ByteArray, y_ = (t101.drop 1) := ⟨_, rfl⟩
       replace H : ((refs_Named_1.f k y105).bind fun t109 => (some (!t109))) = some r := by first | (rw [hy105]; with_reducible exact H) | (have H2_ := (Option.bind_some _ _).symm.trans H; rw [hy105]; with_reducible exact H2_) | (have H2_ := (Option.bind_some _ _).symm.trans H; with_reducible exact H2_) | with_reducible exact H | (rw [hy105]; exact H) | exact H
       have Ny105 := am hy105
       clear hy105
       replace H := Option.bind_eq_some_iff.mp H
       obtain ⟨t109, A140, H⟩ := H
       replace H : (some (!t109)) = some r := H
       have A14 := am A140
       obtain rfl := Option.some.inj H
       go_enter Tryz.func62, Tryz.ntmps62
       go_wp2_with (first | ((with_reducible refine gate_callee (f := 30) rfl ?_); refine goesL_ (some 5) rfl rfl Tryz.func30 (by kernel_rfl) rfl #[.string a0, .string (⟨#[47]⟩ : ByteArray)] rfl mz ?_; (with_reducible refine (strings_Split.calls a0 (⟨#[47]⟩ : ByteArray) t101 _ A2.out).mono ?_); rintro e w15 ⟨v102, rfl, ho0, hb⟩; refine ⟨_, rfl, ?_⟩; have n0_ := am (Kd.R_lower ho0 (qZ (bz HB.out))); have n1_ := am (qW (bz HB.out) hb); clear HB; have HO103 := n0_; have HB := n1_; clear n0_ n1_; (try clear hb); (try clear hb2); (try clear hk); (try clear hi); (try clear ho0); obtain ⟨Ao16, co16, eo16⟩ := Kd.R_slice HO103.out; subst eo16; have p104 : 0 <= (0 : Int) := (by omega); have q104 : 0 < (t101.length : Int) := dz; obtain ⟨ad104, e104, hx104_0⟩ := Kd.at_string (Kd.R_reads' HO103.out).2.2 0 p104 q104; cases e104; have qi104 : (0 < t101.length) = True := eq_true (by omega); (try rw [show ((0 : Int)).toNat = 0 from rfl] at hx104_0); (try rw [Addr.add_zero'] at hx104_0); replace p104 := eq_true p104; replace q104 := eq_true q104; have q17 : (1 : Int) <= ((t101.length : Int) : Int) := dz; obtain ⟨i017, hi017, _, hsz17, _⟩ := info_parts info9; have hroom17 : t101.length <= co16 := (Kd.R_reads' HO103.out).2.1; have hC17 : Kd.C Kd.string _ (some ad104) t101.length t101 := (Kd.R_reads' HO103.out).2.2; have hcut17 := cut_from (P := Tryz.prog) 22 9 .i64 Tryz.underlying22 hi017 1 hsz17 (some ad104) t101.length co16 1 (by omega) q17; have hr17 := Kd.C_drop (m := (1 : Int).toNat) (c := co16) hC17 (by omega) hroom17; obtain ⟨A17, hA17⟩ : ∃ A1, A1 = (if co16 = (1 : Int).toNat then (some ad104) else ((some ad104) : Option Addr).map (·.add ((1 : Int).toNat * 1))) := ⟨_, rfl⟩; obtain ⟨c17, hc17⟩ : ∃ c1, c1 = co16 - (1 : Int).toNat := ⟨_, rfl⟩; have hy17 : y105.length = t101.length - (1 : Int).toNat := (by rw [Ny105.out, List.length_drop] <;> omega); rw [show (t101).drop (1 : Int).toNat = y105 from Ny105.out.symm] at hr17; replace hr17 : Kd.C Kd.string _ A17 y105.length y105 := (by rw [hA17]; exact hr17); rw [<- hy17, <- hA17, <- hc17] at hcut17; have HR108 := am hr17; have HC108 := am (show y105.length <= c17 from by rw [hy17, hc17]; exact Nat.sub_le_sub_right hroom17 _); clear hr17 hC17 hroom17 hi017 hsz17 hc17; have KY17 := am hy17; have KA17 := am hA17; clear hy17 hA17; have KL17 := am (show 1 <= t101.length from by omega); replace q17 := eq_true q17) | ((with_reducible refine gate_callee (f := 79) rfl ?_); refine goesL_ (some 33) rfl rfl Tryz.func79 (by kernel_rfl) rfl #[.slice A17 y105.length c17, .func (.func 80) #[] #[]] rfl mz ?_; (with_reducible refine (refs_Named_1.calls k _ _ y105 t109 _ ?side1 ?side2 A14.out).mono ?_); (case side1 => repeat (first | exact (by repeat (first | (with_reducible exact HR108.out) | (with_reducible refine Kd.C_alloc ?_ _) | (with_reducible refine Kd.C_drewN ?_ _) | (with_reducible refine Kd.C_drew ?_) | exact HR108.out)) | (with_reducible refine Kd.C_alloc ?_ _) | (with_reducible refine Kd.C_drewN ?_ _) | (with_reducible refine Kd.C_drew ?_))); (case side2 => exact HC108.out); rintro e w' ⟨rfl, ⟨nd, rfl⟩⟩; refine ⟨_, rfl, ?_⟩))
       go_ret
       exact ⟨ey, bz HB.out⟩
      ·rw [if_neg c13] at H
       exact absurd H (by simp)
     ·rw [if_neg c12] at H
      have c12b0 : ((rdOf ByteArray.empty t101 0).toList == ([104, 101, 97, 100, 115] : List UInt8)) = false := beq_eq_false_iff_ne.mpr c12
      have c12b1 : ((rdOf ByteArray.empty t101 0).toList != ([104, 101, 97, 100, 115] : List UInt8)) = true := bne_iff_ne.mpr c12
      by_cases c18 : (rdOf ByteArray.empty t101 0).toList = ([116, 97, 103, 115] : List UInt8)
      ·rw [if_pos c18] at H
       have c18b0 : ((rdOf ByteArray.empty t101 0).toList == ([116, 97, 103, 115] : List UInt8)) = true := beq_iff_eq.mpr c18
       have c18b1 : ((rdOf ByteArray.empty t101 0).toList != ([116, 97, 103, 115] : List UInt8)) = false := bne_eq_false_iff_eq.mpr c18
       clear c18
       by_cases c19 : 1 <= (t101.length : Int)
       ·rw [if_pos c19] at H
        have c19b0 := eq_true c19
        have c19b1 : decide (1 <= (t101.length : Int)) = true := dt c19
        clear c19
        obtain ⟨y111, hy111⟩ : ∃ y_ : List ByteArray, y_ = (t101.drop 1) := ⟨_, rfl⟩
        replace H : ((refs_Named_1.f k y111).bind fun t115 => (some (!t115))) = some r := by first | (rw [hy111]; with_reducible exact H) | (have H2_ := (Option.bind_some _ _).symm.trans H; rw [hy111]; with_reducible exact H2_) | (have H2_ := (Option.bind_some _ _).symm.trans H; with_reducible exact H2_) | with_reducible exact H | (rw [hy111]; exact H) | exact H
        have Ny111 := am hy111
        clear hy111
        replace H := Option.bind_eq_some_iff.mp H
        obtain ⟨t115, A200, H⟩ := H
        replace H : (some (!t115)) = some r := H
        have A20 := am A200
        obtain rfl := Option.some.inj H
        go_enter Tryz.func62, Tryz.ntmps62
        go_wp2_with (first | ((with_reducible refine gate_callee (f := 30) rfl ?_); refine goesL_ (some 5) rfl rfl Tryz.func30 (by kernel_rfl) rfl #[.string a0, .string (⟨#[47]⟩ : ByteArray)] rfl mz ?_; (with_reducible refine (strings_Split.calls a0 (⟨#[47]⟩ : ByteArray) t101 _ A2.out).mono ?_); rintro e w21 ⟨v102, rfl, ho0, hb⟩; refine ⟨_, rfl, ?_⟩; have n0_ := am (Kd.R_lower ho0 (qZ (bz HB.out))); have n1_ := am (qW (bz HB.out) hb); clear HB; have HO103 := n0_; have HB := n1_; clear n0_ n1_; (try clear hb); (try clear hb2); (try clear hk); (try clear hi); (try clear ho0); obtain ⟨Ao22, co22, eo22⟩ := Kd.R_slice HO103.out; subst eo22; have p104 : 0 <= (0 : Int) := (by omega); have q104 : 0 < (t101.length : Int) := dz; obtain ⟨ad104, e104, hx104_0⟩ := Kd.at_string (Kd.R_reads' HO103.out).2.2 0 p104 q104; cases e104; have qi104 : (0 < t101.length) = True := eq_true (by omega); (try rw [show ((0 : Int)).toNat = 0 from rfl] at hx104_0); (try rw [Addr.add_zero'] at hx104_0); replace p104 := eq_true p104; replace q104 := eq_true q104; have p110 : 0 <= (0 : Int) := (by omega); have q110 : 0 < (t101.length : Int) := dz; obtain ⟨ad110, e110, hx110_0⟩ := Kd.at_string (Kd.R_reads' HO103.out).2.2 0 p110 q110; obtain rfl : ad104 = ad110 := (by injection e110); have qi110 : (0 < t101.length) = True := eq_true (by omega); (try rw [show ((0 : Int)).toNat = 0 from rfl] at hx110_0); (try rw [Addr.add_zero'] at hx110_0); replace p110 := eq_true p110; replace q110 := eq_true q110; have q23 : (1 : Int) <= ((t101.length : Int) : Int) := dz; obtain ⟨i023, hi023, _, hsz23, _⟩ := info_parts info9; have hroom23 : t101.length <= co22 := (Kd.R_reads' HO103.out).2.1; have hC23 : Kd.C Kd.string _ (some ad104) t101.length t101 := (Kd.R_reads' HO103.out).2.2; have hcut23 := cut_from (P := Tryz.prog) 22 9 .i64 Tryz.underlying22 hi023 1 hsz23 (some ad104) t101.length co22 1 (by omega) q23; have hr23 := Kd.C_drop (m := (1 : Int).toNat) (c := co22) hC23 (by omega) hroom23; obtain ⟨A23, hA23⟩ : ∃ A1, A1 = (if co22 = (1 : Int).toNat then (some ad104) else ((some ad104) : Option Addr).map (·.add ((1 : Int).toNat * 1))) := ⟨_, rfl⟩; obtain ⟨c23, hc23⟩ : ∃ c1, c1 = co22 - (1 : Int).toNat := ⟨_, rfl⟩; have hy23 : y111.length = t101.length - (1 : Int).toNat := (by rw [Ny111.out, List.length_drop] <;> omega); rw [show (t101).drop (1 : Int).toNat = y111 from Ny111.out.symm] at hr23; replace hr23 : Kd.C Kd.string _ A23 y111.length y111 := (by rw [hA23]; exact hr23); rw [<- hy23, <- hA23, <- hc23] at hcut23; have HR114 := am hr23; have HC114 := am (show y111.length <= c23 from by rw [hy23, hc23]; exact Nat.sub_le_sub_right hroom23 _); clear hr23 hC23 hroom23 hi023 hsz23 hc23; have KY23 := am hy23; have KA23 := am hA23; clear hy23 hA23; have KL23 := am (show 1 <= t101.length from by omega); replace q23 := eq_true q23) | ((with_reducible refine gate_callee (f := 79) rfl ?_); refine goesL_ (some 33) rfl rfl Tryz.func79 (by kernel_rfl) rfl #[.slice A23 y111.length c23, .func (.func 80) #[] #[]] rfl mz ?_; (with_reducible refine (refs_Named_1.calls k _ _ y111 t115 _ ?side1 ?side2 A20.out).mono ?_); (case side1 => repeat (first | exact (by repeat (first | (with_reducible exact HR114.out) | (with_reducible refine Kd.C_alloc ?_ _) | (with_reducible refine Kd.C_drewN ?_ _) | (with_reducible refine Kd.C_drew ?_) | exact HR114.out)) | (with_reducible refine Kd.C_alloc ?_ _) | (with_reducible refine Kd.C_drewN ?_ _) | (with_reducible refine Kd.C_drew ?_))); (case side2 => exact HC114.out); rintro e w' ⟨rfl, ⟨nd, rfl⟩⟩; refine ⟨_, rfl, ?_⟩))
        go_ret
        exact ⟨ey, bz HB.out⟩
       ·rw [if_neg c19] at H
        exact absurd H (by simp)
      ·rw [if_neg c18] at H
       have c18b0 : ((rdOf ByteArray.empty t101 0).toList == ([116, 97, 103, 115] : List UInt8)) = false := beq_eq_false_iff_ne.mpr c18
       have c18b1 : ((rdOf ByteArray.empty t101 0).toList != ([116, 97, 103, 115] : List UInt8)) = true := bne_iff_ne.mpr c18
       obtain rfl := Option.some.inj H
       go_enter Tryz.func62, Tryz.ntmps62
       go_wp2_with (first | ((with_reducible refine gate_callee (f := 30) rfl ?_); refine goesL_ (some 5) rfl rfl Tryz.func30 (by kernel_rfl) rfl #[.string a0, .string (⟨#[47]⟩ : ByteArray)] rfl mz ?_; (with_reducible refine (strings_Split.calls a0 (⟨#[47]⟩ : ByteArray) t101 _ A2.out).mono ?_); rintro e w24 ⟨v102, rfl, ho0, hb⟩; refine ⟨_, rfl, ?_⟩; have n0_ := am (Kd.R_lower ho0 (qZ (bz HB.out))); have n1_ := am (qW (bz HB.out) hb); clear HB; have HO103 := n0_; have HB := n1_; clear n0_ n1_; (try clear hb); (try clear hb2); (try clear hk); (try clear hi); (try clear ho0); obtain ⟨Ao25, co25, eo25⟩ := Kd.R_slice HO103.out; subst eo25; have p104 : 0 <= (0 : Int) := (by omega); have q104 : 0 < (t101.length : Int) := dz; obtain ⟨ad104, e104, hx104_0⟩ := Kd.at_string (Kd.R_reads' HO103.out).2.2 0 p104 q104; cases e104; have qi104 : (0 < t101.length) = True := eq_true (by omega); (try rw [show ((0 : Int)).toNat = 0 from rfl] at hx104_0); (try rw [Addr.add_zero'] at hx104_0); replace p104 := eq_true p104; replace q104 := eq_true q104; have p110 : 0 <= (0 : Int) := (by omega); have q110 : 0 < (t101.length : Int) := dz; obtain ⟨ad110, e110, hx110_0⟩ := Kd.at_string (Kd.R_reads' HO103.out).2.2 0 p110 q110; obtain rfl : ad104 = ad110 := (by injection e110); have qi110 : (0 < t101.length) = True := eq_true (by omega); (try rw [show ((0 : Int)).toNat = 0 from rfl] at hx110_0); (try rw [Addr.add_zero'] at hx110_0); replace p110 := eq_true p110; replace q110 := eq_true q110))
       go_ret
       exact ⟨ey, bz HB.out⟩
    ·rw [if_neg c11] at H
     exact absurd H (by simp)
def sl_HasPrefix.f (a0 : ByteArray) (a1 : ByteArray) : Option (Bool) := if (a0.size : Int) >= (a1.size : Int) then (if 0 <= (a1.size : Int) then (if (a1.size : Int) <= (a0.size : Int) then (some ((a0.extract 0 ((a1.size : Int) : Int).toNat).toList == a1.toList)) else (none)) else (none)) else (some false)
set_option maxHeartbeats 8000000 in
set_option maxRecDepth 100000 in
theorem sl_HasPrefix.calls (a0 : ByteArray) (a1 : ByteArray) (r : Bool) (w : World) (h : sl_HasPrefix.f a0 a1 = some r) :
  Calls Tryz.prog 82 #[.string a0, .string a1] w fun e w' => e = .returned (.bool r) /\ Drawn0 w w' := by
 have H : (if (a0.size : Int) >= (a1.size : Int) then (if 0 <= (a1.size : Int) then (if (a1.size : Int) <= (a0.size : Int) then (some ((a0.extract 0 ((a1.size : Int) : Int).toNat).toList == a1.toList)) else (none)) else (none)) else (some false)) = some r := h
 clear h
 by_cases c3 : (a0.size : Int) >= (a1.size : Int)
 ·rw [if_pos c3] at H
  have c3b0 : decide ((a1.size : Int) <= (a0.size : Int)) = true := dt c3
  have c3b1 : decide (a1.size <= a0.size) = true := dt (Int.ofNat_le.mp c3)
  clear c3
  by_cases c4 : 0 <= (a1.size : Int)
  ·rw [if_pos c4] at H
   have c4b0 := eq_true c4
   have c4b1 : decide (0 <= (a1.size : Int)) = true := dt c4
   clear c4
   by_cases c5 : (a1.size : Int) <= (a0.size : Int)
   ·rw [if_pos c5] at H
    have c5b0 := eq_true c5
    have c5b1 : decide ((a1.size : Int) <= (a0.size : Int)) = true := dt c5
    clear c5
    obtain rfl := Option.some.inj H
    go_enter Tryz.func82, Tryz.ntmps82
    go_wp2
    go_ret
    exact ⟨ez, wz⟩
   ·rw [if_neg c5] at H
    exact absurd H (by simp)
  ·rw [if_neg c4] at H
   exact absurd H (by simp)
 ·rw [if_neg c3] at H
  have c3b0 : decide ((a1.size : Int) <= (a0.size : Int)) = false := df c3
  have c3b1 : decide (a1.size <= a0.size) = false := df (fun h => c3 (Int.ofNat_le.mpr h))
  clear c3
  obtain rfl := Option.some.inj H
  go_enter Tryz.func82, Tryz.ntmps82
  go_wp2
  go_ret
  exact ⟨ez, wz⟩
def strings_HasPrefix.f (a0 : ByteArray) (a1 : ByteArray) : Option (Bool) := (sl_HasPrefix.f a0 a1).bind fun t116 => (some t116)
set_option maxHeartbeats 8000000 in
set_option maxRecDepth 100000 in
theorem strings_HasPrefix.calls (a0 : ByteArray) (a1 : ByteArray) (r : Bool) (w : World) (h : strings_HasPrefix.f a0 a1 = some r) :
  Calls Tryz.prog 63 #[.string a0, .string a1] w fun e w' => e = .returned (.bool r) /\ Drawn0 w w' := by
 have H : ((sl_HasPrefix.f a0 a1).bind fun t116 => (some t116)) = some r := h
 clear h
 replace H := Option.bind_eq_some_iff.mp H
 obtain ⟨t116, A30, H⟩ := H
 replace H : (some t116) = some r := H
 have A3 := am A30
 obtain rfl := Option.some.inj H
 go_enter Tryz.func63, Tryz.ntmps63
 go_wp2_with (first | ((with_reducible refine gate_callee (f := 82) rfl ?_); refine goesL_ (some 7) rfl rfl Tryz.func82 (by kernel_rfl) rfl #[.string a0, .string a1] rfl mz ?_; (with_reducible refine (sl_HasPrefix.calls a0 a1 t116 _ A3.out).mono ?_); rintro e w' ⟨rfl, ⟨nd, rfl⟩⟩; refine ⟨_, rfl, ?_⟩))
 go_ret
 exact ⟨ez, wz⟩
def refs_above.f (a0 : ByteArray) (a1 : ByteArray) : Option (Bool) := if a0.size + 1 <= 9223372036854775807 then ((strings_HasPrefix.f a1 (a0 ++ (⟨#[47]⟩ : ByteArray))).bind fun t117 => (some t117)) else (none)
set_option maxHeartbeats 8000000 in
set_option maxRecDepth 100000 in
theorem refs_above.calls (a0 : ByteArray) (a1 : ByteArray) (r : Bool) (w : World) (h : refs_above.f a0 a1 = some r) :
  Calls Tryz.prog 74 #[.string a0, .string a1] w fun e w' => e = .returned (.bool r) /\ Drawn0 w w' := by
 have H : (if a0.size + 1 <= 9223372036854775807 then ((strings_HasPrefix.f a1 (a0 ++ (⟨#[47]⟩ : ByteArray))).bind fun t117 => (some t117)) else (none)) = some r := h
 clear h
 by_cases c3 : a0.size + 1 <= 9223372036854775807
 ·rw [if_pos c3] at H
  have c3b0 := eq_true c3
  have c3b1 : decide (a0.size + 1 <= 9223372036854775807) = true := dt c3
  try have c3b2 : (9223372036854775807 < a0.size + 1) = False := eq_false (Nat.not_lt.2 c3)
  replace H := Option.bind_eq_some_iff.mp H
  obtain ⟨t117, A40, H⟩ := H
  replace H : (some t117) = some r := H
  have A4 := am A40
  obtain rfl := Option.some.inj H
  go_enter Tryz.func74, Tryz.ntmps74
  go_wp2_with (first | ((with_reducible refine gate_callee (f := 63) rfl ?_); refine goesL_ (some 8) rfl rfl Tryz.func63 (by kernel_rfl) rfl #[.string a1, .string (a0 ++ (⟨#[47]⟩ : ByteArray))] rfl mz ?_; (with_reducible refine (strings_HasPrefix.calls a1 (a0 ++ (⟨#[47]⟩ : ByteArray)) t117 _ A4.out).mono ?_); rintro e w' ⟨rfl, ⟨nd, rfl⟩⟩; refine ⟨_, rfl, ?_⟩))
  go_ret
  exact ⟨ez, wz⟩
 ·rw [if_neg c3] at H
  exact absurd H (by simp)
end Go.Proofs.YtlfenakgphmepaaGreatDoor.Print
