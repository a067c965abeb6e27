/- Functions of the program as plain functions, and proofs that the program's calls tell what these tell. Written by a program. -/
import Derived.Test.YtlfenakgphmepaaGreatDoorPrint0
import Derived.Test.YtlfenakgphmepaaGreatDoorPrint4
namespace Go.Proofs.YtlfenakgphmepaaGreatDoor.Print
open Go.RowKit YtlfenakgphmepaaGreatDoorW.PrintWords YtlfenakgphmepaaGreatDoorW.PrintLast YtlfenakgphmepaaGreatDoorW.PrintMore YtlfenakgphmepaaGreatDoor.Conv
attribute [local go_sem] max2_int min2_int max_two min_two max_three min_three max_four min_four
set_option linter.unusedVariables false
set_option linter.unusedSimpArgs false
def refs_Put.g : ByteArray -> List (S83) -> Option (ByteArray × Bool)
 | acc, [] => some (acc, true)
 | acc, x :: t => if acc.size + (x.f1.size + 1 + x.f0.size + 1) <= 140737488355328 then refs_Put.g (acc ++ (((x.f1 ++ (⟨#[32]⟩ : ByteArray)) ++ x.f0) ++ (⟨#[10]⟩ : ByteArray))) t else none
def refs_Put.f (k : Nat) (l0 : List (S83)) : Option (ByteArray × Bool) := (refs_Right.f k l0).bind fun b => if b = true then refs_Put.g (⟨#[]⟩ : ByteArray) l0 else some ((⟨#[]⟩ : ByteArray), false)
theorem refs_Put.g_true : ∀ (l : List (S83)) acc r1 r2, refs_Put.g acc l = some (r1, r2) -> r2 = true
 | [], acc, r1, r2, h => by
  simp only [refs_Put.g] at h
  injection h with h
  injection h with _ h
  exact h.symm
 | x :: t, acc, r1, r2, h => by
  simp only [refs_Put.g] at h
  split at h
  ·exact refs_Put.g_true t _ _ _ h
  ·cases h
set_option maxRecDepth 100000 in
set_option maxHeartbeats 4000000 in
theorem refs_Put.calls (k : Nat) (A0 : Option Addr) (c0 : Nat) (l0 : List (S83)) (r1 : ByteArray) (r2 : Bool) (w : World) (hr0 : Kd.C k83 w A0 l0.length l0) (hc0 : l0.length <= c0) (h : refs_Put.f k l0 = some (r1, r2)) :
  Calls Tryz.prog 25 #[.slice A0 l0.length c0] w fun e w' => e = .returned (.tuple #[.string r1, .bool r2]) /\ Below w.heap.size w w' := by
 obtain ⟨b, hb, h⟩ := Option.bind_eq_some_iff.1 h
 have HR := am hr0
 have HC := am hc0
 have HB := am hb
 have hmax : l0.length <= 9223372036854775807 := hr0.2.1
 cases b with
 | false =>
  have h' : some ((⟨#[]⟩ : ByteArray), false) = some (r1, r2) := h
  injection h' with h'
  injection h' with h1 h2
  subst h1
  subst h2
  clear h hb hr0 hc0
  go_enter Tryz.func25, Tryz.ntmps25
  go_wp2_with (go_at_call 54; refine (refs_Right.calls k A0 c0 l0 false _ HR.out HC.out HB.out).mono ?_; rintro e w' ⟨rfl, hb⟩; have HB1 := am hb; clear hb)
  go_ret2
  exact ⟨rfl, HB1.out⟩
 | true =>
  have h' : refs_Put.g (⟨#[]⟩ : ByteArray) l0 = some (r1, r2) := h
  obtain rfl := refs_Put.g_true _ _ _ _ h'
  have HF := am h'
  clear h h' hb hr0 hc0
  go_enter Tryz.func25, Tryz.ntmps25
  go_wp2_with (go_at_call 54; refine (refs_Right.calls k A0 c0 l0 true _ HR.out HC.out HB.out).mono ?_; rintro e w1 ⟨rfl, hb⟩; have HB1 := am hb; clear hb)
  have hI := Build.IsBd.new w1
  have hW : Below w.heap.size w (w1.alloc (.cells #[.pointer none, .slice none 0 0] 45)) := bal HB1.out _
  have hN : ∀ k, k = w1.heap.size -> w.heap.size <= k := fun k e => by rw [e]; exact HB1.out.size
  generalize w1.alloc (.cells #[.pointer none, .slice none 0 0] 45) = W2 at hI hW ⊢
  generalize w1.heap.size = bb at hI hN ⊢
  have HI := am hI
  have HW := am hW
  have HN := am hN
  clear hI hW hN HB1 HB
  go_loopg [12] l0.length (fun gg s12 wr => ∃ kk : Nat, kk <= l0.length /\ l0.length - kk <= gg /\ s12 = .int .i64 kk /\ Asd (∃ own acc, Build.IsBd wr own bb acc /\ Build.Goes W2 wr (fun k => k = bb) own /\ refs_Put.g acc (l0.drop kk) = some (r1, true)))
  case atStart => exact ⟨0, Nat.zero_le _, by omega, rfl, ⟨_, _, HI.out, Build.Goes.refl _ _, HF.out⟩⟩
  case round =>
   obtain ⟨kk, hkk, hg, rfl, ⟨own, acc, hI, hG, A⟩⟩ := hrel
   have hBW := Build.below_goes HW.out hG HN.out
   have HBW := am hBW
   have HI1 := am hI
   have HG1 := am hG
   clear hI hG HI
   by_cases hlt : kk < l0.length
   ·have hltz : (kk : Int) < (l0.length : Int) := by omega
    obtain ⟨ad, rfl, k0, k1⟩ := at_T83 (Kd.C_below HR.out hBW) (kk : Int) (by omega) hltz
    have hx : rd_T83 l0 (kk : Int) = l0[kk] := by
     unfold rd_T83
     rw [Int.toNat_natCast, List.getD_eq_getElem?_getD, List.getElem?_eq_getElem hlt]; rfl
    rw [hx, Int.toNat_natCast] at k0 k1
    rw [List.drop_eq_getElem_cons hlt] at A
    generalize l0[kk] = x at k0 k1 A
    obtain ⟨nm, id⟩ := x
    simp only [refs_Put.g] at A
    split at A
    case isFalse => cases A
    case isTrue hs =>
    have HA := am A
    have HS := am hs
    have hz1 : id.size + 1 <= 9223372036854775807 := by omega
    have hz2 : id.size + 1 + nm.size <= 9223372036854775807 := by omega
    have hz3 : id.size + 1 + nm.size + 1 <= 9223372036854775807 := by omega
    have HZ : Asd (acc.size + (((id ++ (⟨#[32]⟩ : ByteArray)) ++ nm) ++ (⟨#[10]⟩ : ByteArray)).size <= 140737488355328) := ⟨by rw [ByteArray.size_append, ByteArray.size_append, ByteArray.size_append]; show acc.size + (id.size + 1 + nm.size + 1) <= _; omega⟩
    clear A hBW hx hs HF
    go_wp2_with (go_at_call 21; refine (Build.write_calls (HI1.out.below (bal (Below.refl _ _) _)) _ HZ.out).mono ?_; rintro e w4 ⟨rfl, own4, hi4, hg4⟩; have HI4 := am hi4; have HG4 := am hg4; clear hi4 hg4)
    go_roundg (l0.length - (kk + 1))
    case measure => omega
    case rel => exact ⟨kk + 1, by omega, by omega, by go_num, ⟨own4, _, HI4.out, (HG1.out.trans (Build.Goes.below (bal (Below.refl _ _) _))).trans HG4.out, HA.out⟩⟩
   ·obtain rfl : kk = l0.length := by omega
    rw [List.drop_length] at A
    have hr : acc = r1 := by
     injection A with A
     injection A
    subst hr
    have HS := am (Build.string_calls HI1.out (B := w.heap.size) (Build.goes_new HG1.out HW.out.size HN.out))
    clear A hBW HF
    go_wp2_with (go_at_call 26; refine HS.out.mono ?_; rintro e w4 ⟨rfl, hb4⟩; have HB4 := am hb4; clear hb4)
    go_ret2
    exact ⟨rfl, Below.trans HBW.out HB4.out⟩
def sl_Index.f (a0 : ByteArray) (a1 : ByteArray) : Option (Int) := if a1.size = 1 then some (Lib.indexByte a0.data.toList (a1.data.getD 0 0)) else none
theorem one_byte {s : ByteArray} (h : s.size = 1) : s = ⟨#[s.data.getD 0 0]⟩ := by
 obtain ⟨⟨l⟩⟩ := s
 match l, h with
 | [c], _ => rfl
theorem sl_Index.calls (a0 : ByteArray) (a1 : ByteArray) (r : Int) (w : World) (h : sl_Index.f a0 a1 = some r) :
  Calls Tryz.prog 93 #[.string a0, .string a1] w fun e w' => e = .returned (.int .i64 r) /\ Drawn0 w w' := by
 unfold sl_Index.f at h
 split at h
 case isFalse => cases h
 case isTrue hlen =>
 obtain rfl := Option.some.inj h
 rw [one_byte hlen]
 refine (Go.Proofs.Tryz.stringslite_Index_one a0 (a1.data.getD 0 0) w).mono ?_
 rintro e w' ⟨rfl, rfl⟩
 exact ⟨rfl, Drawn0.refl _⟩
def sl_Cut.f (a0 : ByteArray) (a1 : ByteArray) : Option (ByteArray × ByteArray × Bool) := (sl_Index.f a0 a1).bind fun t134 => (if t134 >= 0 then (if 0 <= t134 then (if t134 <= (a0.size : Int) then (if 0 <= (wrap64 (t134 + (a1.size : Int))) then (if (wrap64 (t134 + (a1.size : Int))) <= (a0.size : Int) then (some (a0.extract 0 (t134 : Int).toNat, a0.extract ((wrap64 (t134 + (a1.size : Int))) : Int).toNat a0.size, true)) else (none)) else (none)) else (none)) else (none)) else (some (a0, (⟨#[]⟩ : ByteArray), false)))
set_option maxHeartbeats 8000000 in
set_option maxRecDepth 100000 in
theorem sl_Cut.calls (a0 : ByteArray) (a1 : ByteArray) (r1 : ByteArray) (r2 : ByteArray) (r3 : Bool) (w : World) (h : sl_Cut.f a0 a1 = some (r1, r2, r3)) :
  Calls Tryz.prog 94 #[.string a0, .string a1] w fun e w' => e = .returned (.tuple #[.string r1, .string r2, .bool r3]) /\ Drawn0 w w' := by
 have H : ((sl_Index.f a0 a1).bind fun t134 => (if t134 >= 0 then (if 0 <= t134 then (if t134 <= (a0.size : Int) then (if 0 <= (wrap64 (t134 + (a1.size : Int))) then (if (wrap64 (t134 + (a1.size : Int))) <= (a0.size : Int) then (some (a0.extract 0 (t134 : Int).toNat, a0.extract ((wrap64 (t134 + (a1.size : Int))) : Int).toNat a0.size, true)) else (none)) else (none)) else (none)) else (none)) else (some (a0, (⟨#[]⟩ : ByteArray), false)))) = some (r1, r2, r3) := h
 clear h
 replace H := Option.bind_eq_some_iff.mp H
 obtain ⟨t134, A30, H⟩ := H
 replace H : (if t134 >= 0 then (if 0 <= t134 then (if t134 <= (a0.size : Int) then (if 0 <= (wrap64 (t134 + (a1.size : Int))) then (if (wrap64 (t134 + (a1.size : Int))) <= (a0.size : Int) then (some (a0.extract 0 (t134 : Int).toNat, a0.extract ((wrap64 (t134 + (a1.size : Int))) : Int).toNat a0.size, true)) else (none)) else (none)) else (none)) else (none)) else (some (a0, (⟨#[]⟩ : ByteArray), false))) = some (r1, r2, r3) := H
 have A3 := am A30
 by_cases c4 : t134 >= 0
 ·rw [if_pos c4] at H
  have c4b0 : decide (0 <= t134) = true := dt c4
  clear c4
  by_cases c5 : 0 <= t134
  ·rw [if_pos c5] at H
   have c5b0 := eq_true c5
   have c5b1 : decide (0 <= t134) = true := dt c5
   clear c5
   by_cases c6 : t134 <= (a0.size : Int)
   ·rw [if_pos c6] at H
    have c6b0 := eq_true c6
    have c6b1 : decide (t134 <= (a0.size : Int)) = true := dt c6
    clear c6
    obtain ⟨ji7, hji7⟩ : ∃ j_ : Int, (wrap64 (t134 + (a1.size : Int))) = j_ := ⟨_, rfl⟩
    replace H : (if 0 <= (ji7) then (if (ji7) <= (a0.size : Int) then (some (a0.extract 0 (t134 : Int).toNat, a0.extract ((ji7) : Int).toNat a0.size, true)) else (none)) else (none)) = some (r1, r2, r3) := by first | (rw [hji7] at H; exact H) | (simp only [hji7] at H ⊢; exact H)
    (try rw [hji7] at A3)
    have hji7w : (IntKind.i64.wrap (t134 + (a1.size : Int))) = ji7 := (i64_w _).trans hji7
    by_cases c8 : 0 <= (ji7)
    ·rw [if_pos c8] at H
     have c8b0 := eq_true c8
     have c8b1 : decide (0 <= (ji7)) = true := dt c8
     clear c8
     by_cases c9 : (ji7) <= (a0.size : Int)
     ·rw [if_pos c9] at H
      have c9b0 := eq_true c9
      have c9b1 : decide ((ji7) <= (a0.size : Int)) = true := dt c9
      clear c9
      simp only [Option.some.injEq, Prod.mk.injEq] at H
      obtain ⟨rfl, rfl, rfl⟩ := H
      go_enter Tryz.func94, Tryz.ntmps94
      go_wp2_with (first | (go_at_call 93; (with_reducible refine (sl_Index.calls a0 a1 t134 _ A3.out).mono ?_); rintro e w' ⟨rfl, ⟨nd, rfl⟩⟩; (try first | exact ⟨rfl, _, World.drewN_drewN _ _ _⟩ | exact ⟨rfl, _, Eq.trans (World.drewN_drewN _ _ _) (congrArg (World.drewN _) (Nat.add_assoc _ _ _))⟩)))
      repeat (go_quiet (first | (go_at_call 93; (with_reducible refine (sl_Index.calls a0 a1 t134 _ A3.out).mono ?_); rintro e w' ⟨rfl, ⟨nd, rfl⟩⟩; (try first | exact ⟨rfl, _, World.drewN_drewN _ _ _⟩ | exact ⟨rfl, _, Eq.trans (World.drewN_drewN _ _ _) (congrArg (World.drewN _) (Nat.add_assoc _ _ _))⟩))); try go_wp2_with (first | (go_at_call 93; (with_reducible refine (sl_Index.calls a0 a1 t134 _ A3.out).mono ?_); rintro e w' ⟨rfl, ⟨nd, rfl⟩⟩; (try first | exact ⟨rfl, _, World.drewN_drewN _ _ _⟩ | exact ⟨rfl, _, Eq.trans (World.drewN_drewN _ _ _) (congrArg (World.drewN _) (Nat.add_assoc _ _ _))⟩))))
      go_ret3
      exact ⟨by first | rfl | (simp; done) | (simp only [<- hji7] <;> (first | rfl | simp)) | (simp [*]; done), wz⟩
     ·rw [if_neg c9] at H
      exact absurd H (by simp)
    ·rw [if_neg c8] at H
     exact absurd H (by simp)
   ·rw [if_neg c6] at H
    exact absurd H (by simp)
  ·rw [if_neg c5] at H
   exact absurd H (by simp)
 ·rw [if_neg c4] at H
  have c4b0 : decide (0 <= t134) = false := df c4
  clear c4
  simp only [Option.some.injEq, Prod.mk.injEq] at H
  obtain ⟨rfl, rfl, rfl⟩ := H
  go_enter Tryz.func94, Tryz.ntmps94
  go_wp2_with (first | (go_at_call 93; (with_reducible refine (sl_Index.calls a0 a1 t134 _ A3.out).mono ?_); rintro e w' ⟨rfl, ⟨nd, rfl⟩⟩; (try first | exact ⟨rfl, _, World.drewN_drewN _ _ _⟩ | exact ⟨rfl, _, Eq.trans (World.drewN_drewN _ _ _) (congrArg (World.drewN _) (Nat.add_assoc _ _ _))⟩)))
  repeat (go_quiet (first | (go_at_call 93; (with_reducible refine (sl_Index.calls a0 a1 t134 _ A3.out).mono ?_); rintro e w' ⟨rfl, ⟨nd, rfl⟩⟩; (try first | exact ⟨rfl, _, World.drewN_drewN _ _ _⟩ | exact ⟨rfl, _, Eq.trans (World.drewN_drewN _ _ _) (congrArg (World.drewN _) (Nat.add_assoc _ _ _))⟩))); try go_wp2_with (first | (go_at_call 93; (with_reducible refine (sl_Index.calls a0 a1 t134 _ A3.out).mono ?_); rintro e w' ⟨rfl, ⟨nd, rfl⟩⟩; (try first | exact ⟨rfl, _, World.drewN_drewN _ _ _⟩ | exact ⟨rfl, _, Eq.trans (World.drewN_drewN _ _ _) (congrArg (World.drewN _) (Nat.add_assoc _ _ _))⟩))))
  go_ret3
  exact ⟨ez, wz⟩
def strings_Cut.f (a0 : ByteArray) (a1 : ByteArray) : Option (ByteArray × ByteArray × Bool) := (sl_Cut.f a0 a1).bind fun bt135 => (some (bt135.1, bt135.2.1, bt135.2.2))
set_option maxHeartbeats 8000000 in
set_option maxRecDepth 100000 in
theorem strings_Cut.calls (a0 : ByteArray) (a1 : ByteArray) (r1 : ByteArray) (r2 : ByteArray) (r3 : Bool) (w : World) (h : strings_Cut.f a0 a1 = some (r1, r2, r3)) :
  Calls Tryz.prog 78 #[.string a0, .string a1] w fun e w' => e = .returned (.tuple #[.string r1, .string r2, .bool r3]) /\ Drawn0 w w' := by
 have H : ((sl_Cut.f a0 a1).bind fun bt135 => (some (bt135.1, bt135.2.1, bt135.2.2))) = some (r1, r2, r3) := h
 clear h
 replace H := Option.bind_eq_some_iff.mp H
 obtain ⟨⟨t135, t136, t137⟩, A30, H⟩ := H
 replace H : (some (t135, t136, t137)) = some (r1, r2, r3) := H
 have A3 := am A30
 simp only [Option.some.injEq, Prod.mk.injEq] at H
 obtain ⟨rfl, rfl, rfl⟩ := H
 go_enter Tryz.func78, Tryz.ntmps78
 go_wp2_with (first | ((with_reducible refine gate_callee (f := 94) rfl ?_); refine goesL_ (some 9) rfl rfl Tryz.func94 (by kernel_rfl) rfl #[.string a0, .string a1] rfl mz ?_; (with_reducible refine (sl_Cut.calls a0 a1 t135 t136 t137 _ A3.out).mono ?_); rintro e w' ⟨rfl, ⟨nd, rfl⟩⟩; refine ⟨_, rfl, ?_⟩))
 go_ret3
 exact ⟨ez, wz⟩
def refs_Get.l0 : Nat -> ByteArray -> List (S83) -> ByteArray -> Option ((List (S83)) × Bool)
 | 0, _, _, _ => none
 | k + 1, x0, x4, x5 => if x5.toList = ([] : List UInt8) then ((refs_Put.f k x4).bind fun bt138 => (if bt138.2 = true then (if bt138.1.toList = x0.toList then (some (x4, true)) else (some (([] : List (S83)), false))) else (some (([] : List (S83)), false)))) else ((strings_Cut.f x5 (⟨#[10]⟩ : ByteArray)).bind fun bt140 => ((strings_Cut.f bt140.1 (⟨#[32]⟩ : ByteArray)).bind fun bt143 => (if x4.length < 4398046511104 then (refs_Get.l0 k x0 (x4 ++ [(⟨bt143.2.1, bt143.1⟩ : S83)]) bt140.2.1) else (none))))
def refs_Get.f (k : Nat) (a0 : ByteArray) : Option ((List (S83)) × Bool) := refs_Get.l0 k a0 ([] : List (S83)) a0
set_option maxHeartbeats 8000000 in
set_option maxRecDepth 100000 in
theorem refs_Get.calls (k : Nat) (a0 : ByteArray) (r1 : List (S83)) (r2 : Bool) (w : World) (h : refs_Get.f k a0 = some (r1, r2)) :
  Calls Tryz.prog 58 #[.string a0] w fun e w' => ∃ v0_ : Value, e = .returned (.tuple #[v0_, .bool r2]) /\ Kd.R k83 83 w' w.heap.size (fun _ => True) v0_ r1 /\ Below w.heap.size w w' := by
 have hu83 := Tryz.underlying83
 have HB := am (Below.refl w.heap.size w)
 have H : (refs_Get.l0 k a0 ([] : List (S83)) a0) = some (r1, r2) := h
 clear h
 have H' := am H
 clear H
 go_enter Tryz.func58, Tryz.ntmps58
 go_wp2
 go_loopg [4, 5] k (fun kq v4 v5 w' => ∃ (x4_1 : List (S83)) (x5_1 : ByteArray), v5 = .string x5_1 /\ Asd (refs_Get.l0 kq a0 x4_1 x5_1 = some (r1, r2)) /\ Asd (kq <= k) /\ Asd (Kd.R k83 83 w' w.heap.size (fun _ => True) v4 x4_1) /\ Asd (Below w.heap.size w w'))
 case atStart => exact ⟨(([] : List (S83))), (a0), (ez), H', ⟨Nat.le_refl _⟩, ⟨by first | exact Kd.R_nil _ _ _ _ _ | exact Kd.N_nil _ _ _ _ _ | exact Kd.V_nil _ _ _ _ _ | exact Kd.Q_nil _ _ _ _ _ | exact Kd.S_nil _ _ _ _ _⟩, ⟨bz HB.out⟩⟩
 case round =>
  clear H'
  obtain ⟨x4_1, x5_1, rfl, HA, HK1, HO_4, HB⟩ := hrel
  cases gk with
  | zero => exact absurd HA.out (by simp [refs_Get.l0])
  | succ k1 =>
   have H := HA.out
   clear HA
   simp only [refs_Get.l0] at H
   by_cases c2 : x5_1.toList = ([] : List UInt8)
   ·rw [if_pos c2] at H
    have c2b0 : (x5_1.toList == ([] : List UInt8)) = true := beq_iff_eq.mpr c2
    have c2b1 : (x5_1.toList != ([] : List UInt8)) = false := bne_eq_false_iff_eq.mpr c2
    clear c2
    replace H := Option.bind_eq_some_iff.mp H
    obtain ⟨⟨t138, t139⟩, A30, H⟩ := H
    replace H : (if t139 = true then (if t138.toList = a0.toList then (some (x4_1, true)) else (some (([] : List (S83)), false))) else (some (([] : List (S83)), false))) = some (r1, r2) := H
    have A3 := am A30
    by_cases c4 : t139 = true
    ·subst c4
     have H1 : (if t138.toList = a0.toList then (some (x4_1, true)) else (some (([] : List (S83)), false))) = some (r1, r2) := by rw [if_pos rfl] at H; exact H
     clear H
     have H := H1
     clear H1
     by_cases c5 : t138.toList = a0.toList
     ·rw [if_pos c5] at H
      have c5b0 : (t138.toList == a0.toList) = true := beq_iff_eq.mpr c5
      have c5b1 : (t138.toList != a0.toList) = false := bne_eq_false_iff_eq.mpr c5
      clear c5
      simp only [Option.some.injEq, Prod.mk.injEq] at H
      obtain ⟨rfl, rfl⟩ := H
      obtain ⟨Ao6, co6, eo6⟩ := Kd.R_slice HO_4.out
      subst eo6
      go_wp2_with (first | ((with_reducible refine gate_callee (f := 25) rfl ?_); refine goesL_ (some 38) rfl rfl Tryz.func25 (by kernel_rfl) rfl #[.slice Ao6 x4_1.length co6] rfl mz ?_; (with_reducible refine (refs_Put.calls k1 _ _ x4_1 t138 true _ ?side1 ?side2 A3.out).mono ?_); (case side1 => repeat (first | exact (Kd.R_reads' HO_4.out).2.2 | (with_reducible refine Kd.C_alloc ?_ _) | (with_reducible refine Kd.C_drewN ?_ _) | (with_reducible refine Kd.C_drew ?_))); (case side2 => exact (Kd.R_reads' HO_4.out).2.1); rintro e w7 ⟨rfl, hb⟩; refine ⟨_, rfl, ?_⟩; have n0_ := am (Kd.R_below (by (with_reducible repeat (first | apply Kd.R_alloc | apply Kd.R_drewN | apply Kd.R_drew)); exact HO_4.out) hb); have n1_ := am (qW (bz HB.out) hb); clear HO_4; clear HB; have HO_4 := n0_; have HB := n1_; clear n0_ n1_; (try clear hb); (try clear hb2); (try clear hk); (try clear hi)))
      go_ret2
      exact ⟨_, ey, by (with_reducible repeat (first | apply Kd.R_alloc | apply Kd.R_drewN | apply Kd.R_drew)); exact HO_4.out, bz HB.out⟩
     ·rw [if_neg c5] at H
      have c5b0 : (t138.toList == a0.toList) = false := beq_eq_false_iff_ne.mpr c5
      have c5b1 : (t138.toList != a0.toList) = true := bne_iff_ne.mpr c5
      simp only [Option.some.injEq, Prod.mk.injEq] at H
      obtain ⟨rfl, rfl⟩ := H
      obtain ⟨Ao8, co8, eo8⟩ := Kd.R_slice HO_4.out
      subst eo8
      go_wp2_with (first | ((with_reducible refine gate_callee (f := 25) rfl ?_); refine goesL_ (some 38) rfl rfl Tryz.func25 (by kernel_rfl) rfl #[.slice Ao8 x4_1.length co8] rfl mz ?_; (with_reducible refine (refs_Put.calls k1 _ _ x4_1 t138 true _ ?side1 ?side2 A3.out).mono ?_); (case side1 => repeat (first | exact (Kd.R_reads' HO_4.out).2.2 | (with_reducible refine Kd.C_alloc ?_ _) | (with_reducible refine Kd.C_drewN ?_ _) | (with_reducible refine Kd.C_drew ?_))); (case side2 => exact (Kd.R_reads' HO_4.out).2.1); rintro e w9 ⟨rfl, hb⟩; refine ⟨_, rfl, ?_⟩; have n0_ := am (Kd.R_below (by (with_reducible repeat (first | apply Kd.R_alloc | apply Kd.R_drewN | apply Kd.R_drew)); exact HO_4.out) hb); have n1_ := am (qW (bz HB.out) hb); clear HO_4; clear HB; have HO_4 := n0_; have HB := n1_; clear n0_ n1_; (try clear hb); (try clear hb2); (try clear hk); (try clear hi)))
      go_ret2
      exact ⟨_, ey, by first | exact Kd.R_nil _ _ _ _ _ | exact Kd.N_nil _ _ _ _ _ | exact Kd.V_nil _ _ _ _ _ | exact Kd.Q_nil _ _ _ _ _ | exact Kd.S_nil _ _ _ _ _, bz HB.out⟩
    ·replace c4 := Bool.eq_false_iff.mpr c4
     subst c4
     have H1 : (some (([] : List (S83)), false)) = some (r1, r2) := by rw [if_neg (show ¬ (false = true) by decide)] at H; exact H
     clear H
     have H := H1
     clear H1
     simp only [Option.some.injEq, Prod.mk.injEq] at H
     obtain ⟨rfl, rfl⟩ := H
     obtain ⟨Ao10, co10, eo10⟩ := Kd.R_slice HO_4.out
     subst eo10
     go_wp2_with (first | ((with_reducible refine gate_callee (f := 25) rfl ?_); refine goesL_ (some 38) rfl rfl Tryz.func25 (by kernel_rfl) rfl #[.slice Ao10 x4_1.length co10] rfl mz ?_; (with_reducible refine (refs_Put.calls k1 _ _ x4_1 t138 false _ ?side1 ?side2 A3.out).mono ?_); (case side1 => repeat (first | exact (Kd.R_reads' HO_4.out).2.2 | (with_reducible refine Kd.C_alloc ?_ _) | (with_reducible refine Kd.C_drewN ?_ _) | (with_reducible refine Kd.C_drew ?_))); (case side2 => exact (Kd.R_reads' HO_4.out).2.1); rintro e w11 ⟨rfl, hb⟩; refine ⟨_, rfl, ?_⟩; have n0_ := am (Kd.R_below (by (with_reducible repeat (first | apply Kd.R_alloc | apply Kd.R_drewN | apply Kd.R_drew)); exact HO_4.out) hb); have n1_ := am (qW (bz HB.out) hb); clear HO_4; clear HB; have HO_4 := n0_; have HB := n1_; clear n0_ n1_; (try clear hb); (try clear hb2); (try clear hk); (try clear hi)))
     go_ret2
     exact ⟨_, ey, by first | exact Kd.R_nil _ _ _ _ _ | exact Kd.N_nil _ _ _ _ _ | exact Kd.V_nil _ _ _ _ _ | exact Kd.Q_nil _ _ _ _ _ | exact Kd.S_nil _ _ _ _ _, bz HB.out⟩
   ·rw [if_neg c2] at H
    have c2b0 : (x5_1.toList == ([] : List UInt8)) = false := beq_eq_false_iff_ne.mpr c2
    have c2b1 : (x5_1.toList != ([] : List UInt8)) = true := bne_iff_ne.mpr c2
    replace H := Option.bind_eq_some_iff.mp H
    obtain ⟨⟨t140, t141, t142⟩, A120, H⟩ := H
    replace H : ((strings_Cut.f t140 (⟨#[32]⟩ : ByteArray)).bind fun bt143 => (if x4_1.length < 4398046511104 then (refs_Get.l0 k1 a0 (x4_1 ++ [(⟨bt143.2.1, bt143.1⟩ : S83)]) t141) else (none))) = some (r1, r2) := H
    have A12 := am A120
    replace H := Option.bind_eq_some_iff.mp H
    obtain ⟨⟨t143, t144, t145⟩, A130, H⟩ := H
    replace H : (if x4_1.length < 4398046511104 then (refs_Get.l0 k1 a0 (x4_1 ++ [(⟨t144, t143⟩ : S83)]) t141) else (none)) = some (r1, r2) := H
    have A13 := am A130
    by_cases c14 : x4_1.length < 4398046511104
    ·rw [if_pos c14] at H
     have LMc14 := am c14
     clear c14
     obtain ⟨y146, hy146⟩ : ∃ y_ : List (S83), y_ = (x4_1 ++ [(⟨t144, t143⟩ : S83)]) := ⟨_, rfl⟩
     replace H : (refs_Get.l0 k1 a0 y146 t141) = some (r1, r2) := by first | (rw [hy146]; with_reducible exact H) | (have H2_ := (Option.bind_some _ _).symm.trans H; rw [hy146]; with_reducible exact H2_) | (have H2_ := (Option.bind_some _ _).symm.trans H; with_reducible exact H2_) | with_reducible exact H | (rw [hy146]; exact H) | exact H
     have Ny146 := am hy146
     clear hy146
     have H' := am H
     clear H
     go_wp2_with (first | ((with_reducible refine gate_callee (f := 78) rfl ?_); refine goesL_ (some 19) rfl rfl Tryz.func78 (by kernel_rfl) rfl #[.string x5_1, .string (⟨#[10]⟩ : ByteArray)] rfl mz ?_; (with_reducible refine (strings_Cut.calls x5_1 (⟨#[10]⟩ : ByteArray) t140 t141 t142 _ A12.out).mono ?_); rintro e w' ⟨rfl, ⟨nd, rfl⟩⟩; refine ⟨_, rfl, ?_⟩) | ((with_reducible refine gate_callee (f := 78) rfl ?_); refine goesL_ (some 25) rfl rfl Tryz.func78 (by kernel_rfl) rfl #[.string t140, .string (⟨#[32]⟩ : ByteArray)] rfl mz ?_; (with_reducible refine (strings_Cut.calls t140 (⟨#[32]⟩ : ByteArray) t143 t144 t145 _ A13.out).mono ?_); rintro e w' ⟨rfl, ⟨nd, rfl⟩⟩; refine ⟨_, rfl, ?_⟩) | ((with_reducible refine gate_builtin (b := .append) (xs := #[.tmp 29, .tmp 33]) rfl ?_); at_builtin; refine Kd.R_append k83 (w0 := w) w.heap.size rfl (.tmp 29) (.tmp 33) 37 83 (.agg #[(.string ⟨#[]⟩), (.string ⟨#[]⟩)]) 32 rfl Tryz.underlying37 info83 rfl (by decide) (by omega) u4 x4_1 (⟨t144, t143⟩ : S83) [.string t144, .string t143] (fun _ => True) (fun _ => False) rfl rfl ?aP (fun _ hk => hk.elim) ?aF ?aO ?aB ?aS ?aL ?_; (case aP => exact k83_mkM _ _ _ (⟨t144, t143⟩ : S83)); (case aB => exact (bz HB.out)); (case aF => exact (fun _ _ => trivial)); (case aO => exact (by (with_reducible repeat (first | apply Kd.R_alloc | apply Kd.R_drewN | apply Kd.R_drew)); exact HO_4.out)); (case aS => exact (qZ (bz HB.out))); (case aL => have := LMc14.out; omega); intro v147 w15 ho hb hg hat; rw [<- Ny146.out] at ho; have n0_ := am (hb); have n1_ := am (ho); clear HB; clear HO_4; have HB := n0_; have HO148 := n1_; clear n0_ n1_; clear ho hb hg hat))
     go_roundg k1
     case measure => have := HK1.out; omega
     case rel => exact ⟨(y146), (t141), (ez), H', ⟨by have := HK1.out; omega⟩, ⟨by (with_reducible repeat (first | apply Kd.R_alloc | apply Kd.R_drewN | apply Kd.R_drew)); exact HO148.out⟩, ⟨bz HB.out⟩⟩
    ·rw [if_neg c14] at H
     exact absurd H (by simp)
def root_Find.pos (s : ByteArray) : List (S39) -> Option Nat
 | [] => none
 | x :: t => if x.f0.toList = s.toList then some 0 else (root_Find.pos s t).map (· + 1)
def root_Find.ix (s : ByteArray) (l : List (S39)) : Int := match root_Find.pos s l with | none => -1 | some i => (i : Int)
def root_Find.f (a0_0 : Int) (l0_1 : List ByteArray) (l0_2 : List (S39)) (a1 : ByteArray) : Option (Int) := some (root_Find.ix a1 l0_2)
set_option maxRecDepth 100000 in
theorem root_Find.one (s : ByteArray) (y : S39) (A3 : Option Addr) (n3 c3 : Nat) (A4 : Option Addr) (n4 c4 : Nat) (b : Bool) (W : World) (g : Nat) (hg : g < W.heap.size) (hc : W.cell? ⟨g, 0, none⟩ = some (.string s)) (h : decide (y.f0.toList = s.toList) = b) :
  Calls Tryz.prog 48 #[.agg #[.string y.f0, .bool y.f1, .string y.f2, .slice A3 n3 c3, .slice A4 n4 c4], .pointer (some ⟨g, 0, none⟩)] W fun e w' => e = .returned (.bool b) /\ Below W.heap.size W w' := by
 have hc2 : (W.alloc (.cells #[.string y.f0, .bool y.f1, .string y.f2, .slice A3 n3 c3, .slice A4 n4 c4] 39)).cell? ⟨g, 0, none⟩ = some (.string s) := by rw [World.cell?_alloc_lt _ _ _ hg]; exact hc
 subst h
 obtain ⟨x0, x1, x2, x3, x4⟩ := y
 go_enter Tryz.func48, Tryz.ntmps48
 go_wp2
 go_ret
 refine ⟨?_, bal (Below.refl _ _) _⟩
 by_cases e : x0.toList = s.toList
 ·rw [dt e, beq_iff_eq.2 e]
  rfl
 ·rw [df e, beq_eq_false_iff_ne.2 e]
  rfl
set_option maxRecDepth 100000 in
set_option maxHeartbeats 4000000 in
theorem root_Find.index (s : ByteArray) (g : Nat) (A0 : Option Addr) (c0 : Nat) (l0 : List (S39)) (w : World) (hr0 : Kd.C k39 w A0 l0.length l0) (hc0 : l0.length <= c0) (hg : g < w.heap.size) (hx : w.cell? ⟨g, 0, none⟩ = some (.string s)) :
  Calls Tryz.prog 47 #[.slice A0 l0.length c0, .func (.func 48) #[] #[.pointer (some ⟨g, 0, none⟩)]] w fun e w' => e = .returned (.int .i64 (root_Find.ix s l0)) /\ Below w.heap.size w w' := by
 have HR := am hr0
 have HX := am hx
 have hmax : l0.length <= 9223372036854775807 := hr0.2.1
 have HF : Asd (root_Find.pos s l0 = (root_Find.pos s (l0.drop 0)).map (· + 0)) := ⟨by simp⟩
 clear hr0 hx
 go_enter Tryz.func47, Tryz.ntmps47
 go_wp2
 go_loopg [5, 8] l0.length (fun gg _ s8 wr => ∃ kk : Nat, kk <= l0.length /\ l0.length - kk <= gg /\ s8 = .int .i64 kk /\ Asd (Below w.heap.size w wr) /\ Asd (root_Find.pos s l0 = (root_Find.pos s (l0.drop kk)).map (· + kk)))
 case atStart => exact ⟨0, Nat.zero_le _, by omega, rfl, ⟨Below.refl _ _⟩, HF⟩
 case round =>
  obtain ⟨kk, hkk, hgg, rfl, BW, ⟨A⟩⟩ := hrel
  by_cases hlt : kk < l0.length
  ·have hltz : (kk : Int) < (l0.length : Int) := by omega
   obtain ⟨ad, A3, c3, A4, c4, rfl, hc1, hc2, hc3, hc4, hc5, _, _, _, _⟩ := at_T39 (Kd.C_below HR.out BW.out) (kk : Int) (by omega) (by omega)
   have hrd : qT l0 (kk : Int) = l0[kk] := by
    unfold qT
    rw [Int.toNat_natCast, List.getD_eq_getElem?_getD, List.getElem?_eq_getElem hlt]; rfl
   rw [hrd, Int.toNat_natCast] at hc1 hc2 hc3 hc4 hc5
   have hgw := am (Nat.lt_of_lt_of_le hg (qZ BW.out))
   have hxw := am ((BW.out.cell (p := ⟨g, 0, none⟩) hg).trans HX.out)
   rw [List.drop_eq_getElem_cons hlt] at A
   simp only [root_Find.pos] at A
   clear hrd
   generalize l0[kk] = y at hc1 hc2 hc3 hc4 hc5 A
   obtain ⟨b, hb⟩ : ∃ b, decide (y.f0.toList = s.toList) = b := ⟨_, rfl⟩
   have HB := am hb
   have HA := am A
   clear hb A
   cases b with
   | false =>
    go_wp2_with (go_at_call 48; refine (root_Find.one s y A3 _ c3 A4 _ c4 false _ g hgw.out hxw.out HB.out).mono ?_; rintro e w' ⟨rfl, hb'⟩; have BW' := am (qW BW.out hb'); clear hb')
    go_roundg (l0.length - (kk + 1))
    case measure => omega
    case rel =>
     refine ⟨kk + 1, by omega, by omega, by go_num, BW', ⟨?_⟩⟩
     rw [HA.out, if_neg (of_decide_eq_false HB.out)]
     cases root_Find.pos s (l0.drop (kk + 1)) with
     | none => rfl
     | some j =>
      show some (j + 1 + kk) = some (j + (kk + 1))
      congr 1
      omega
   | true =>
    go_wp2_with (go_at_call 48; refine (root_Find.one s y A3 _ c3 A4 _ c4 true _ g hgw.out hxw.out HB.out).mono ?_; rintro e w' ⟨rfl, hb'⟩; have BW' := am (qW BW.out hb'); clear hb')
    go_ret
    refine ⟨?_, BW'.out⟩
    have e : root_Find.ix s l0 = (kk : Int) := by
     unfold root_Find.ix
     rw [HA.out, if_pos (of_decide_eq_true HB.out)]
     simp
    rw [e]
    rfl
  ·have hltz : ¬ (kk : Int) < (l0.length : Int) := by omega
   obtain rfl : kk = l0.length := by omega
   rw [List.drop_length] at A
   have HA := am A
   clear A
   go_wp2
   go_ret
   refine ⟨?_, BW.out⟩
   have e : root_Find.ix s l0 = -1 := by
    unfold root_Find.ix
    rw [HA.out]
    rfl
   rw [e]
   rfl
set_option maxRecDepth 100000 in
set_option maxHeartbeats 400000 in
theorem root_Find.calls (a0_0 : Int) (A0_1 : Option Addr) (c0_1 : Nat) (l0_1 : List ByteArray) (A0_2 : Option Addr) (c0_2 : Nat) (l0_2 : List (S39)) (a1 : ByteArray) (r : Int) (w : World) (hr0_1 : Kd.C Kd.string w A0_1 l0_1.length l0_1) (hc0_1 : l0_1.length <= c0_1) (hr0_2 : Kd.C k39 w A0_2 l0_2.length l0_2) (hc0_2 : l0_2.length <= c0_2) (h : root_Find.f a0_0 l0_1 l0_2 a1 = some r) :
  Calls Tryz.prog 16 #[.agg #[.int .i64 a0_0, .slice A0_1 l0_1.length c0_1, .slice A0_2 l0_2.length c0_2], .string a1] w fun e w' => e = .returned (.int .i64 r) /\ Below w.heap.size w w' := by
 obtain rfl := Option.some.inj h
 have HR := am hr0_2
 have HC := am hc0_2
 have h1 := heap_alloc_new (w.alloc (.cells #[.int .i64 a0_0, .slice A0_1 l0_1.length c0_1, .slice A0_2 l0_2.length c0_2] 25)) (.cells #[.string a1] 9)
 have e1 : (w.alloc (.cells #[.int .i64 a0_0, .slice A0_1 l0_1.length c0_1, .slice A0_2 l0_2.length c0_2] 25)).heap.size = w.heap.size + 1 := Array.size_push _
 rw [e1] at h1
 have HG := am (Array.getElem?_eq_some_iff.1 h1).1
 have hx := cell_of_row _ _ 0 _ _ _ h1
 replace hx := hx.trans (show _ = some (Value.string a1) from rfl)
 have HX := am hx
 have HR2 := am (Kd.C_alloc (Kd.C_alloc hr0_2 (.cells #[.int .i64 a0_0, .slice A0_1 l0_1.length c0_1, .slice A0_2 l0_2.length c0_2] 25)) (.cells #[.string a1] 9))
 clear hr0_1 hr0_2 hc0_1 hc0_2 h h1 hx e1
 go_enter Tryz.func16, Tryz.ntmps16
 go_wp2_with (go_at_call 47; with_reducible refine (root_Find.index a1 _ A0_2 c0_2 l0_2 _ HR2.out HC.out HG.out HX.out).mono ?_; rintro e w' ⟨rfl, hb'⟩; have HB := am hb'; clear hb')
 go_ret
 exact ⟨rfl, qW (bal (bal (Below.refl _ _) _) _) HB.out⟩
def w9_Great.l0 : Nat -> List (S83) -> Int -> Int -> Option (Bool)
 | 0, _, _, _ => none
 | k + 1, x0, x3, x4 => if x4 < (x0.length : Int) then (if x3 < 20000 then (if 0 <= x4 then (w9_Great.l0 k x0 (wrap64 ((wrap64 (x3 + (mn (((rd_T83 x0 x4).f0).size : Int) 20000))) + (mn (((rd_T83 x0 x4).f1).size : Int) 20000))) (wrap64 (x4 + 1))) else (none)) else (if x3 >= 20000 then (some true) else (some (decide ((x0.length : Int) > 100))))) else (if x3 >= 20000 then (some true) else (some (decide ((x0.length : Int) > 100))))
def w9_Great.f (k : Nat) (l0 : List (S83)) : Option (Bool) := w9_Great.l0 k l0 (l0.length : Int) 0
theorem w9_Great.mono_l : ∀ k, (∀ y0 y1 y2, LeO (w9_Great.l0 k y0 y1 y2) (w9_Great.l0 (k + 1) y0 y1 y2))
 | 0 => fun _ _ _ r h => by simp [w9_Great.l0] at h
 | k + 1 => by
  have ih0 := w9_Great.mono_l k
  ·intro y0 y1 y2
   unfold w9_Great.l0
   repeat' first
   | (with_reducible exact ih0 _ _ _)
   | (with_reducible exact LeO.refl _)
   | (with_reducible exact LeO.none _)
   | (with_reducible refine LeO.ite ?_ ?_)
   | (with_reducible refine LeO.bind ?_ (fun _ => ?_))
   | exact ih0 _ _ _
   | exact LeO.none _
   | refine LeO.ite ?_ ?_
   | refine LeO.bind ?_ (fun _ => ?_)
theorem w9_Great.mono : ∀ a0 k, LeO (w9_Great.f k a0) (w9_Great.f (k + 1) a0) := by
 intro a0 k
 have ih0 := w9_Great.mono_l k
 unfold w9_Great.f
 repeat' first
   | (with_reducible exact ih0 _ _ _)
   | (with_reducible exact LeO.refl _)
   | (with_reducible exact LeO.none _)
   | (with_reducible refine LeO.ite ?_ ?_)
   | (with_reducible refine LeO.bind ?_ (fun _ => ?_))
   | exact ih0 _ _ _
   | exact LeO.none _
   | refine LeO.ite ?_ ?_
   | refine LeO.bind ?_ (fun _ => ?_)
set_option maxHeartbeats 8000000 in
set_option maxRecDepth 100000 in
theorem w9_Great.calls (k : Nat) (A0 : Option Addr) (c0 : Nat) (l0 : List (S83)) (r : Bool) (w : World) (hr0 : Kd.C k83 w A0 l0.length l0) (hc0 : l0.length <= c0) (h : w9_Great.f k l0 = some r) :
  Calls Tryz.prog 19 #[.slice A0 l0.length c0] w fun e w' => e = .returned (.bool r) /\ Below w.heap.size w w' := by
 have HR0 := am hr0
 have HC0 := am hc0
 clear hr0 hc0
 have HB := am (Below.refl w.heap.size w)
 have H : (w9_Great.l0 k l0 (l0.length : Int) 0) = some r := h
 clear h
 have H' := am H
 clear H
 go_enter Tryz.func19, Tryz.ntmps19
 go_wp2
 repeat (go_quiet (fail); try go_wp2)
 go_loopg [3, 4] k (fun kq v3 v4 w' => ∃ (x3_1 : Int) (x4_1 : Int), v3 = .int .i64 x3_1 /\ v4 = .int .i64 x4_1 /\ Asd (w9_Great.l0 kq l0 x3_1 x4_1 = some r) /\ Asd (kq <= k) /\ Asd (Below w.heap.size w w'))
 case atStart => exact ⟨((l0.length : Int)), (0), (ez), (ez), H', ⟨Nat.le_refl _⟩, ⟨bz HB.out⟩⟩
 case round =>
  clear H'
  obtain ⟨x3_1, x4_1, rfl, rfl, HA, HK1, HB⟩ := hrel
  cases gk with
  | zero => exact absurd HA.out (by simp [w9_Great.l0])
  | succ k1 =>
   have H := HA.out
   clear HA
   simp only [w9_Great.l0] at H
   by_cases c2 : x4_1 < (l0.length : Int)
   ·rw [if_pos c2] at H
    have c2b0 : decide (x4_1 < (l0.length : Int)) = true := dt c2
    clear c2
    by_cases c3 : x3_1 < 20000
    ·rw [if_pos c3] at H
     have c3b0 : decide (x3_1 < 20000) = true := dt c3
     clear c3
     by_cases c4 : 0 <= x4_1
     ·rw [if_pos c4] at H
      have c4b0 : decide (0 <= x4_1) = true := dt c4
      clear c4
      obtain ⟨ji5, hji5⟩ : ∃ j_ : Int, (mn (((rd_T83 l0 x4_1).f0).size : Int) 20000) = j_ := ⟨_, rfl⟩
      replace H : (w9_Great.l0 k1 l0 (wrap64 ((wrap64 (x3_1 + (ji5))) + (mn (((rd_T83 l0 x4_1).f1).size : Int) 20000))) (wrap64 (x4_1 + 1))) = some r := by first | (rw [hji5] at H; exact H) | (simp only [hji5] at H ⊢; exact H)
      have hji5_ : (if 20000 < (((rd_T83 l0 x4_1).f0).size : Int) then 20000 else (((rd_T83 l0 x4_1).f0).size : Int)) = ji5 := hji5
      obtain ⟨ji6, hji6⟩ : ∃ j_ : Int, (mn (((rd_T83 l0 x4_1).f1).size : Int) 20000) = j_ := ⟨_, rfl⟩
      replace H : (w9_Great.l0 k1 l0 (wrap64 ((wrap64 (x3_1 + (ji5))) + (ji6))) (wrap64 (x4_1 + 1))) = some r := by first | (rw [hji6] at H; exact H) | (simp only [hji6] at H ⊢; exact H)
      have hji6_ : (if 20000 < (((rd_T83 l0 x4_1).f1).size : Int) then 20000 else (((rd_T83 l0 x4_1).f1).size : Int)) = ji6 := hji6
      have H' := am H
      clear H
      have p155 : 0 <= (x4_1 : Int) := dz
      have q155 : x4_1 < (l0.length : Int) := dz
      obtain ⟨ad155, e155, hx155_0, hx155_1⟩ := at_T83 HR0.out x4_1 p155 q155
      cases e155
      replace hx155_0 := hZc HB.out hx155_0
      replace hx155_1 := hZc HB.out hx155_1
      replace p155 := eq_true p155
      replace q155 := eq_true q155
      have p156 : 0 <= (x4_1 : Int) := dz
      have q156 : x4_1 < (l0.length : Int) := dz
      obtain ⟨ad156, e156, hx156_0, hx156_1⟩ := at_T83 HR0.out x4_1 p156 q156
      obtain rfl : ad155 = ad156 := (by injection e156)
      replace hx156_0 := hZc HB.out hx156_0
      replace hx156_1 := hZc HB.out hx156_1
      replace p156 := eq_true p156
      replace q156 := eq_true q156
      go_wp2
      repeat (go_quiet (fail); try go_wp2)
      go_roundg k1
      case measure => have := HK1.out; omega
      case rel => exact ⟨(wrap64 ((wrap64 (x3_1 + (ji5))) + (ji6))), (wrap64 (x4_1 + 1)), (by first | rfl | (simp; done) | (simp only [<- hji5, <- hji6] <;> (first | rfl | simp)) | (simp [*]; done)), (ez), H', ⟨by have := HK1.out; omega⟩, ⟨bz HB.out⟩⟩
     ·rw [if_neg c4] at H
      exact absurd H (by simp)
    ·rw [if_neg c3] at H
     have c3b0 : decide (x3_1 < 20000) = false := df c3
     clear c3
     by_cases c7 : x3_1 >= 20000
     ·rw [if_pos c7] at H
      have c7b0 : decide (20000 <= x3_1) = true := dt c7
      clear c7
      obtain rfl := Option.some.inj H
      go_wp2
      repeat (go_quiet (fail); try go_wp2)
      go_ret
      exact ⟨ey, bz HB.out⟩
     ·rw [if_neg c7] at H
      have c7b0 : decide (20000 <= x3_1) = false := df c7
      clear c7
      obtain rfl := Option.some.inj H
      go_wp2
      repeat (go_quiet (fail); try go_wp2)
      go_ret
      exact ⟨ey, bz HB.out⟩
   ·rw [if_neg c2] at H
    have c2b0 : decide (x4_1 < (l0.length : Int)) = false := df c2
    clear c2
    by_cases c8 : x3_1 >= 20000
    ·rw [if_pos c8] at H
     have c8b0 : decide (20000 <= x3_1) = true := dt c8
     clear c8
     obtain rfl := Option.some.inj H
     go_wp2
     repeat (go_quiet (fail); try go_wp2)
     go_ret
     exact ⟨ey, bz HB.out⟩
    ·rw [if_neg c8] at H
     have c8b0 : decide (20000 <= x3_1) = false := df c8
     clear c8
     obtain rfl := Option.some.inj H
     go_wp2
     repeat (go_quiet (fail); try go_wp2)
     go_ret
     exact ⟨ey, bz HB.out⟩
end Go.Proofs.YtlfenakgphmepaaGreatDoor.Print
