/- What an error's number is told by, and heard as: of all bytes' numbers. -/
import Derived.Test.YtaadhjpcdnbbeaaGreatDoorServeC
import Derived.Lib.AppendIntMem
namespace Go.Proofs.YtaadhjpcdnbbeaaGreatDoor.Serve
open Go.RowKit Go.Proofs.YtaadhjpcdnbbeaaGreatDoorW.PrintWords Go.Proofs.YtaadhjpcdnbbeaaGreatDoorW.PrintLast Go.Proofs.YtaadhjpcdnbbeaaGreatDoorW.PrintMore Go.Proofs.YtaadhjpcdnbbeaaGreatDoor.Conv Go.Proofs.YtaadhjpcdnbbeaaGreatDoor.Print
set_option linter.unusedVariables false
set_option linter.unusedSimpArgs false
def Tb (W : World) : Prop := Lib.TabBelow Tryz.prog W.heap.size W "internal/strconv.uint64pow10" .u64 Lib.pow10Tab
theorem Tb.below {W W' : World} (h : Tb W) (hb : Below W.heap.size W W') : Tb W' := fun w' h' => h w' (below_step hb h')
def itoaB (n : Int) : ByteArray := ⟨(Lib.itoa n).toArray⟩
theorem text_big (n : Int) (h0 : 0 <= n) (h1 : n <= 9223372036854775807) {W : World} (hT : Tb W) : Calls Tryz.prog 39 #[.int .i64 n] W fun e w' => e = .returned (.string (itoaB n)) /\ Below W.heap.size W w' := by
 have HT := Asd.mk hT
 have hn : ¬ n < 0 := by omega
 have hd : decide (n < 0) = false := decide_eq_false hn
 clear hT
 go_enter Tryz.func39, Tryz.ntmps39
 go_wp2_with (go_at_call 60; refine (Go.Proofs.Tryz.strconv_Itoa n (by omega) h1 _ HT.out.here).mono ?_; rintro e w' ⟨rfl, k, os, rfl⟩)
 go_ret
 exact ⟨rfl, Lib.below_grow _ _ (Nat.le_refl _) _ _⟩
def dec0 : Nat -> ByteArray -> Int -> Int -> Option Int
 | 0, _, _, _ => none
 | k + 1, s, x, i => if 0 <= x /\ x <= 100000 /\ 0 <= i then (if i < (s.size : Int) then (if 48 <= bt s i /\ bt s i <= 57 /\ i < 13 then dec0 k s (10 * x + (bt s i - 48)) (i + 1) else none) else some x) else none
set_option maxHeartbeats 8000000 in
set_option maxRecDepth 100000 in
theorem decimal_big (k : Nat) (n : Int) (hd : dec0 k (itoaB n) 0 0 = some n) {W : World} (hT : Tb W) :
  Calls Tryz.prog 52 #[.string (itoaB n)] W fun e w' => e = .returned (.tuple #[.int .i64 n, .bool true]) /\ Below W.heap.size W w' := by
 have HT := Asd.mk hT
 have H' := Asd.mk hd
 obtain ⟨a0, ha⟩ : ∃ a0, a0 = itoaB n := ⟨_, rfl⟩
 rw [<- ha] at H' ⊢
 have HA0 := Asd.mk ha
 clear hT hd ha
 go_enter Tryz.func52, Tryz.ntmps52
 go_wp2
 go_loopg [4, 8] k (fun kq v4 v8 w' => ∃ (x4_1 : Int) (x8_1 : Int), v4 = .int .i64 x4_1 /\ v8 = .int .i64 x8_1 /\ Asd (dec0 kq a0 x4_1 x8_1 = some n) /\ Asd (kq <= k) /\ Drawn0 W w')
 case atStart => exact ⟨(0), (0), (by first | rfl | (simp; done) | (simp [*]; done)), (by first | rfl | (simp; done) | (simp [*]; done)), H', ⟨Nat.le_refl _⟩, by repeat (first | exact Drawn0.refl _ | apply Drawn0.step)⟩
 case round =>
  clear H'
  obtain ⟨x4_1, x8_1, rfl, rfl, HA, HK1, ⟨m1, rfl⟩⟩ := hrel
  cases gk with
  | zero => exact absurd HA.out (by simp [dec0])
  | succ k1 =>
   have H := HA.out
   clear HA
   simp only [dec0] at H
   split at H
   case isFalse => cases H
   case isTrue hx =>
   by_cases c2 : x8_1 < (a0.size : Int)
   ·rw [if_pos c2] at H
    split at H
    case isFalse => cases H
    case isTrue hy =>
    have H' := Asd.mk H
    have c2b0 : decide (x8_1 < (a0.size : Int)) = true := decide_eq_true c2
    have c6b0 : decide ((bt a0 x8_1) < 48) = false := decide_eq_false (by omega)
    have c8b0 : decide (57 < (bt a0 x8_1)) = false := decide_eq_false (by omega)
    have c9b0 : (x8_1 == 13) = false := beq_eq_false_iff_ne.mpr (by omega)
    have c9b1 : (x8_1 != 13) = true := bne_iff_ne.mpr (by omega)
    have e1 : wrap64 ((wrap64 (10 * x4_1)) + (((bt a0 x8_1) - 48) % 256)) = 10 * x4_1 + (bt a0 x8_1 - 48) := by
     rw [Line.w64 (x := 10 * x4_1) (by omega) (by omega), Int.emod_eq_of_lt (by omega) (by omega), Line.w64 (by omega) (by omega)]
    have e2 : wrap64 (x8_1 + 1) = x8_1 + 1 := Line.w64 (by omega) (by omega)
    have E1 := Asd.mk e1
    have E2 := Asd.mk e2
    have p5 : 0 <= (x8_1 : Int) := hx.2.2
    have q5 : x8_1 < (a0.size : Int) := c2
    have hx5 := bt_at a0 x8_1
    replace p5 := eq_true p5
    replace q5 := eq_true q5
    clear H e1 e2 hx hy c2
    go_wp2
    go_roundg k1
    case measure => have := HK1.out; omega
    case rel =>
     refine ⟨(wrap64 ((wrap64 (10 * x4_1)) + (((bt a0 x8_1) - 48) % 256))), (wrap64 (x8_1 + 1)), (by first | rfl | (simp; done) | (simp [*]; done)), (by first | rfl | (simp; done) | (simp [*]; done)), ?_, ⟨by have := HK1.out; omega⟩, by repeat (first | exact Drawn0.refl _ | apply Drawn0.step)⟩
     rw [E1.out, E2.out]
     exact H'
   ·rw [if_neg c2] at H
    have c2b0 : decide (x8_1 < (a0.size : Int)) = false := decide_eq_false c2
    have hn : x4_1 = n := Option.some.inj H
    subst hn
    have c11b0 : decide (1099511627776 < x4_1) = false := decide_eq_false (by omega)
    have h0 := hx.1
    have h1 := hx.2.1
    have HB := Asd.mk (pbN (Below.refl W.heap.size W) m1)
    have HTX := Asd.mk (text_big x4_1 h0 (by omega) (HT.out.below HB.out))
    clear H hx c2 h0 h1
    go_wp2_with (go_at_call 39; (with_reducible refine HTX.out.mono ?_); rintro e w' ⟨rfl, hb⟩; have HB2 := Asd.mk hb; clear hb; have c13b0 : ((itoaB x4_1).toList == a0.toList) = true := beq_iff_eq.mpr (by rw [HA0.out]); have c13b1 : ((itoaB x4_1).toList != a0.toList) = false := bne_eq_false_iff_eq.mpr (by rw [HA0.out]))
    go_ret2
    exact ⟨by first | rfl | (simp; done) | (simp [*]; done), below_step HB.out HB2.out⟩
def okErr (n : Nat) : Bool := decide ((itoaB n).size <= 3) && dec0 100 (itoaB n) 0 0 == some (n : Int) && decide (strings_CutPrefix.f (errL (itoaB n)).f1 (⟨#[101, 114, 114, 111, 114, 32]⟩ : ByteArray) = some (itoaB n ++ (⟨#[10]⟩ : ByteArray), true)) && decide (strings_CutSuffix.f (itoaB n ++ (⟨#[10]⟩ : ByteArray)) (⟨#[10]⟩ : ByteArray) = some (itoaB n, true))
theorem okErr_all : ((List.range 255).all fun i => okErr (i + 1)) = true := by kernel_rfl
theorem okErr_at {n : Int} (h0 : 1 <= n) (h1 : n <= 255) : okErr n.toNat = true := by
 have h := List.all_eq_true.1 okErr_all (n.toNat - 1) (List.mem_range.2 (by omega))
 rw [show n.toNat - 1 + 1 = n.toNat by omega] at h
 exact h
structure Errs (n : Int) (t : ByteArray) : Prop where
 size : t.size <= 3
 text : ∀ {W : World}, Tb W -> Calls Tryz.prog 39 #[.int .i64 n] W fun e w' => e = .returned (.string t) /\ Below W.heap.size W w'
 dec : ∀ {W : World}, Tb W -> Calls Tryz.prog 52 #[.string t] W fun e w' => e = .returned (.tuple #[.int .i64 n, .bool true]) /\ Below W.heap.size W w'
 pre : strings_CutPrefix.f (errL t).f1 (⟨#[101, 114, 114, 111, 114, 32]⟩ : ByteArray) = some (t ++ (⟨#[10]⟩ : ByteArray), true)
 suf : strings_CutSuffix.f (t ++ (⟨#[10]⟩ : ByteArray)) (⟨#[10]⟩ : ByteArray) = some (t, true)
theorem errs_big {n : Int} (h0 : 1 <= n) (h1 : n <= 255) : Errs n (itoaB n) := by
 have h := okErr_at h0 h1
 unfold okErr at h
 rw [show ((n.toNat : Nat) : Int) = n by omega] at h
 simp only [Bool.and_eq_true, beq_iff_eq, decide_eq_true_eq] at h
 exact ⟨by omega, fun hT => text_big n (by omega) (by omega) hT, fun hT => decimal_big 100 n h.1.1.2 hT, h.1.2, h.2⟩
set_option maxHeartbeats 8000000 in
set_option maxRecDepth 100000 in
theorem failure_big {n : Int} {t : ByteArray} (h : Errs n t) {W : World} (hT : Tb W) :
  Calls Tryz.prog 34 #[.string (errL t).f1] W fun e w' => e = .returned (.int .i64 n) /\ Below W.heap.size W w' := by
 have H := Asd.mk h
 have HT := Asd.mk hT
 clear h hT
 obtain ⟨a0, ha⟩ : ∃ a0, a0 = (errL t).f1 := ⟨_, rfl⟩
 have HP := Asd.mk (show strings_CutPrefix.f a0 (⟨#[101, 114, 114, 111, 114, 32]⟩ : ByteArray) = some (t ++ (⟨#[10]⟩ : ByteArray), true) by rw [ha]; exact H.out.pre)
 rw [<- ha]
 clear ha
 go_enter Tryz.func34, Tryz.ntmps34
 go_wp2_with (first
  | (go_at_call 50; refine (strings_CutPrefix.calls _ _ _ _ _ HP.out).mono ?_; rintro e w' ⟨rfl, ⟨nd, rfl⟩⟩; have HB1 := Asd.mk (pbN (Below.refl W.heap.size W) nd))
  | (go_at_call 51; refine (strings_CutSuffix.calls _ _ _ _ _ H.out.suf).mono ?_; rintro e w' ⟨rfl, ⟨nd2, rfl⟩⟩; have HB2 := Asd.mk (pbN (Below.refl W.heap.size W) (nd + nd2)))
  | (go_at_call 52; with_reducible refine (H.out.dec (HT.out.below HB2.out)).mono ?_; rintro e w' ⟨rfl, hb⟩; have HB3 := Asd.mk (below_step HB2.out hb); clear hb))
 go_ret
 exact ⟨rfl, HB3.out⟩
set_option maxHeartbeats 8000000 in
set_option maxRecDepth 100000 in
theorem got_big {n : Int} {t : ByteArray} (h : Errs n t) (h0 : n ≠ 0) {W : World} (hT : Tb W) (A : Option Addr) (c : Nat) (hr : Kd.C (Kd.int .u8) W A (errB t).length (errB t)) (hc : (errB t).length <= c) :
  Calls Tryz.prog 17 #[.slice A (errB t).length c] W fun e w' => e = .returned (.tuple #[.slice none 0 0, .int .i64 n, .bool true]) /\ Below W.heap.size W w' := by
 have hz : t.size <= 1000 := by have := h.size; omega
 have hok := err_ok hz
 have he := err_eq hz
 have hlen : (errB t).length <= 8008 := putF_len [errL t, ⟨true, ⟨#[]⟩⟩]
 have hcut := Line.cut_eq (errB t) (by rw [he]; exact Line.enc_bytes hok) (by omega) (k := 100001) (by omega)
 rw [show Line.cutF (errB t) = ([errL t, (⟨true, ⟨#[]⟩⟩ : Line.Ln)], [], 0) by rw [he]; exact Line.cutF_enc _ hok] at hcut
 have hn : ¬ ((errL t).f1.toList = ([112, 97, 99, 107, 10] : List UInt8)) := fun e => by
  rw [Lib.toList_data] at e
  have h3 : (errL t).f1.data.toList = [101, 114, 114, 111, 114, 32] ++ t.data.toList ++ [10] := by
   show (((⟨#[101, 114, 114, 111, 114, 32]⟩ : ByteArray) ++ t) ++ (⟨#[10]⟩ : ByteArray)).data.toList = _
   simp [ByteArray.data_append]
  rw [h3] at e
  simp at e
 have H := Asd.mk h
 have HT := Asd.mk hT
 have HR := Asd.mk hr
 have HC := Asd.mk hc
 have HCUT := Asd.mk hcut
 have hn0 : ¬ n = 0 := h0
 have HN := Asd.mk hn
 clear h hT hr hc hcut hz hok he hlen hn
 generalize errB t = bs at HR HC HCUT ⊢
 go_enter Tryz.func17, Tryz.ntmps17
 go_upto_region 2 with (go_at_call 23; with_reducible refine (line_Cut.calls 100001 A c bs [errL t, (⟨true, ⟨#[]⟩⟩ : Line.Ln)] [] 0 _ HR.out HC.out HCUT.out).mono ?_; rintro e W1 ⟨vl, vr, rfl, ho, ho2, hb⟩; obtain ⟨Al, cl, rfl⟩ := Kd.R_slice ho; obtain ⟨Ar, cr, rfl⟩ := Kd.R_slice ho2; have HL := Asd.mk (Kd.R_reads' ho).2.2; have HLc := Asd.mk (Kd.R_reads' ho).2.1; have HB := Asd.mk hb; clear ho ho2 hb)
 obtain ⟨ad, had, k0, k1⟩ := at_T60 HL.out 0 (by decide) (by simp)
 obtain ⟨ad2, had2, k2, k3⟩ := at_T60 HL.out 1 (by decide) (by simp)
 subst had
 obtain rfl : ad = ad2 := Option.some.inj had2
 have e0 : rd_T60 [errL t, (⟨true, ⟨#[]⟩⟩ : Line.Ln)] 0 = errL t := rfl
 have e1 : rd_T60 [errL t, (⟨true, ⟨#[]⟩⟩ : Line.Ln)] 1 = (⟨true, ⟨#[]⟩⟩ : Line.Ln) := rfl
 rw [e0] at k0 k1
 rw [e1] at k2 k3
 have c13b0 : ((errL t).f1.toList == ([112, 97, 99, 107, 10] : List UInt8)) = false := beq_eq_false_iff_ne.mpr HN.out
 simp only [Int.toNat_zero, Nat.zero_mul, Hello.add0_block, Hello.add0_off] at k0 k1
 simp only [show (1 : Int).toNat = 1 from rfl, Nat.reduceMul, Nat.reduceEqDiff, Go.Addr.add, ↓reduceIte] at k2
 clear e0 e1 k3
 go_wp2_with (go_at_call 34; with_reducible refine (failure_big H.out (HT.out.below HB.out)).mono ?_; rintro e W2 ⟨rfl, hb⟩; have k4 := (hb.cell (World.block_lt_of_cell? _ _ k2)).trans k2; have HB2 := Asd.mk (below_step HB.out hb); clear hb)
 go_ret3
 exact ⟨rfl, HB2.out⟩
end Go.Proofs.YtaadhjpcdnbbeaaGreatDoor.Serve
