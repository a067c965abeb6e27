/- Numbers as decimals: told, and heard. -/
import Derived.Test.YtlfenakgphmepaaGreatDoorPrint
import Derived.Test.YtlfenakgphmepaaGreatDoorBuild
import Derived.Lib.AppendIntMem
namespace Go.Proofs.YtlfenakgphmepaaGreatDoor.Root
open Go.RowKit Go.Proofs.YtlfenakgphmepaaGreatDoorW.PrintWords Go.Proofs.YtlfenakgphmepaaGreatDoorW.PrintLast Go.Proofs.YtlfenakgphmepaaGreatDoorW.PrintMore Go.Proofs.YtlfenakgphmepaaGreatDoor.Conv Go.Proofs.YtlfenakgphmepaaGreatDoor.Print Go.Proofs.YtlfenakgphmepaaGreatDoor.Build
set_option linter.unusedVariables false
set_option linter.unusedSimpArgs false
theorem w64 {x : Int} (h0 : -9223372036854775808 <= x) (h1 : x <= 9223372036854775807) : wrap64 x = x := by unfold wrap64; omega
def Tb (W : World) : Prop := Lib.TabBelow Tryz.prog W.heap.size W "internal/strconv.uint64pow10" .u64 Lib.pow10Tab
theorem Tb.below {W W' : World} (h : Tb W) (hb : Below W.heap.size W W') : Tb W' := fun w' h' => h w' (below_step hb h')
def itoaB (n : Int) : ByteArray := ⟨(Lib.itoa n).toArray⟩
theorem text_calls (n : Int) (h0 : 0 <= n) (h1 : n <= 9223372036854775807) {W : World} (hT : Tb W) : Calls Tryz.prog 24 #[.int .i64 n] W fun e w' => e = .returned (.string (itoaB n)) /\ Below W.heap.size W w' := by
 have HT := Asd.mk hT
 have hn : ¬ n < 0 := by omega
 have hd : decide (n < 0) = false := decide_eq_false hn
 clear hT
 go_enter Tryz.func24, Tryz.ntmps24
 go_wp2_with (go_at_call 53; refine (Go.Proofs.Tryz.strconv_Itoa n (by omega) h1 _ HT.out.here).mono ?_; rintro e w' ⟨rfl, k, os, rfl⟩)
 go_ret
 exact ⟨rfl, Lib.below_grow _ _ (Nat.le_refl _) _ _⟩
def decR (s : ByteArray) : Nat -> Nat -> Int -> Option Int
 | 0, _, n => some n
 | d + 1, i, n => if 48 <= bt s (i : Int) /\ bt s (i : Int) <= 57 /\ i ≠ 13 then decR s d (i + 1) (10 * n + (bt s (i : Int) - 48)) else none
def decF (s : ByteArray) : Int × Bool := match decR s s.size 0 0 with
 | none => (0, false)
 | some n => if n <= 1099511627776 /\ (itoaB n).toList = s.toList then (n, true) else (0, false)
theorem dec_none {s : ByteArray} (h : decR s s.size 0 0 = none) : decF s = (0, false) := by unfold decF; rw [h]
theorem dec_some {s : ByteArray} {n : Int} (h : decR s s.size 0 0 = some n) : decF s = if n <= 1099511627776 /\ (itoaB n).toList = s.toList then (n, true) else (0, false) := by unfold decF; rw [h]
theorem pow10_le {i : Nat} (h : i <= 13) : (10 : Int) ^ i <= 10000000000000 := by
 have h1 : 10 ^ i <= 10 ^ 13 := Nat.pow_le_pow_right (by decide) h
 have h2 : ((10 ^ i : Nat) : Int) <= ((10 ^ 13 : Nat) : Int) := Int.ofNat_le.2 h1
 simpa using h2
theorem decR_bd (s : ByteArray) : ∀ d i n m, decR s d i n = some m -> 0 <= n -> n + 1 <= 10 ^ i -> i <= 13 -> 0 <= m /\ m <= 9999999999999
 | 0, i, n, m, h, h0, h1, h2 => by
  obtain rfl := Option.some.inj h
  have := pow10_le h2
  omega
 | d + 1, i, n, m, h, h0, h1, h2 => by
  simp only [decR] at h
  split at h
  case isFalse => cases h
  case isTrue hc => exact decR_bd s d (i + 1) _ m h (by omega) (by rw [Int.pow_succ]; omega) (by omega)
theorem decF_bd (s : ByteArray) : 0 <= (decF s).1 /\ (decF s).1 <= 1099511627776 := by
 unfold decF
 split
 ·exact ⟨by decide, by decide⟩
 ·rename_i n h
  have := decR_bd s _ 0 0 n h (by decide) (by decide) (by decide)
  split
  ·rename_i hc
   exact ⟨this.1, hc.1⟩
  ·exact ⟨by decide, by decide⟩
set_option maxHeartbeats 8000000 in
set_option maxRecDepth 100000 in
theorem decimal_calls (a0 : ByteArray) (hl : a0.size <= 9223372036854775806) {W : World} (hT : Tb W) :
  Calls Tryz.prog 56 #[.string a0] W fun e w' => e = .returned (.tuple #[.int .i64 (decF a0).1, .bool (decF a0).2]) /\ Below W.heap.size W w' := by
 obtain ⟨r1, r2, hrr⟩ : ∃ r1 r2, decF a0 = (r1, r2) := ⟨_, _, rfl⟩
 rw [hrr]
 have HRR := Asd.mk hrr
 clear hrr
 have HT := Asd.mk hT
 have HL := Asd.mk hl
 clear hT hl
 go_enter Tryz.func56, Tryz.ntmps56
 go_wp2
 go_loopg [4, 8] a0.size (fun kq v4 v8 w' => ∃ (n : Int) (x : Int) (i : Nat), v4 = .int .i64 n /\ v8 = .int .i64 x /\ Asd (x = (i : Int)) /\ i <= a0.size /\ a0.size - i <= kq /\ Asd (decR a0 (a0.size - i) i n = decR a0 a0.size 0 0) /\ Asd (0 <= n /\ n + 1 <= 10 ^ i /\ i <= 13) /\ Asd (Below W.heap.size W w'))
 case atStart => exact ⟨0, 0, 0, rfl, rfl, ⟨rfl⟩, Nat.zero_le _, Nat.le_refl _, ⟨rfl⟩, ⟨by decide⟩, ⟨Below.refl _ _⟩⟩
 case round =>
  obtain ⟨n, x, i, rfl, rfl, HX, hi, hg, ⟨hd⟩, ⟨hn0, hn1, hn2⟩, hB⟩ := hrel
  have hp := pow10_le hn2
  have hx := HX.out
  by_cases hlt : i < a0.size
  ·have c2b0 : decide (x < (a0.size : Int)) = true := decide_eq_true (by omega)
   have p5 : 0 <= x := by omega
   have q5 : x < (a0.size : Int) := by omega
   have hx5 := bt_at a0 x
   have p5' := p5
   have q5' := q5
   replace p5 := eq_true p5
   replace q5 := eq_true q5
   have hstep : decR a0 (a0.size - i) i n = if 48 <= bt a0 x /\ bt a0 x <= 57 /\ i ≠ 13 then decR a0 (a0.size - (i + 1)) (i + 1) (10 * n + (bt a0 x - 48)) else none := by
    rw [show a0.size - i = (a0.size - (i + 1)) + 1 by omega, hx]
    rfl
   rw [hstep] at hd
   by_cases hc : 48 <= bt a0 x /\ bt a0 x <= 57 /\ i ≠ 13
   ·rw [if_pos hc] at hd
    have HD := Asd.mk hd
    have e1 : wrap64 ((wrap64 (10 * n)) + (((bt a0 x) - 48) % 256)) = 10 * n + (bt a0 x - 48) := by
     rw [w64 (x := 10 * n) (by omega) (by omega), Int.emod_eq_of_lt (by omega) (by omega), w64 (by omega) (by omega)]
    have e2 : wrap64 (x + 1) = x + 1 := by have := HL.out; exact w64 (by omega) (by omega)
    have E1 := Asd.mk e1
    have E2 := Asd.mk e2
    have HN : Asd (0 <= 10 * n + (bt a0 x - 48) /\ 10 * n + (bt a0 x - 48) + 1 <= 10 ^ (i + 1) /\ i + 1 <= 13) := ⟨by omega, by rw [Int.pow_succ]; omega, by omega⟩
    have c6b0 : decide ((bt a0 x) < 48) = false := decide_eq_false (by omega)
    have c8b0 : decide (57 < (bt a0 x)) = false := decide_eq_false (by omega)
    have c9b0 : (x == 13) = false := beq_eq_false_iff_ne.mpr (by omega)
    have c9b1 : (x != 13) = true := bne_iff_ne.mpr (by omega)
    clear hx hd hstep hc hn0 hn1 hn2 hp e1 e2 p5' q5'
    go_wp2
    go_roundg (a0.size - (i + 1))
    case measure => omega
    case rel =>
     refine ⟨wrap64 ((wrap64 (10 * n)) + (((bt a0 x) - 48) % 256)), wrap64 (x + 1), i + 1, (by first | rfl | (simp; done) | (simp [*]; done)), (by first | rfl | (simp; done) | (simp [*]; done)), ⟨by rw [E2.out, HX.out]; rfl⟩, by omega, Nat.le_refl _, ⟨by rw [E1.out]; exact HD.out⟩, ⟨by rw [E1.out]; exact HN.out⟩, hB⟩
   ·rw [if_neg hc] at hd
    have HE := dec_none hd.symm
    obtain ⟨rfl, rfl⟩ := Prod.mk.inj (HRR.out.symm.trans HE)
    have hB1 := hB
    by_cases c1 : bt a0 x < 48
    ·have c6b0 : decide ((bt a0 x) < 48) = true := decide_eq_true c1
     clear hx hd hstep hc hn0 hn1 hn2 hp p5' q5' c1 HE
     go_wp2
     go_ret2
     exact ⟨rfl, hB1.out⟩
    ·have c6b0 : decide ((bt a0 x) < 48) = false := decide_eq_false c1
     by_cases c3 : 57 < bt a0 x
     ·have c8b0 : decide (57 < (bt a0 x)) = true := decide_eq_true c3
      clear hx hd hstep hc hn0 hn1 hn2 hp p5' q5' c1 c3 HE
      go_wp2
      go_ret2
      exact ⟨rfl, hB1.out⟩
     ·have c8b0 : decide (57 < (bt a0 x)) = false := decide_eq_false c3
      have c13 : i = 13 := by
       by_cases h : i = 13
       ·exact h
       ·exact absurd ⟨by omega, by omega, h⟩ hc
      have c9b0 : (x == 13) = true := beq_iff_eq.mpr (by omega)
      have c9b1 : (x != 13) = false := bne_eq_false_iff_eq.mpr (by omega)
      clear hx hd hstep hc hn0 hn1 hn2 hp p5' q5' c1 c3 HE c13
      go_wp2
      go_ret2
      exact ⟨rfl, hB1.out⟩
  ·obtain rfl : i = a0.size := by omega
   rw [Nat.sub_self] at hd
   have hd' : some n = decR a0 a0.size 0 0 := hd
   have HE := dec_some hd'.symm
   have c2b0 : decide (x < (a0.size : Int)) = false := decide_eq_false (by omega)
   by_cases c : n <= 1099511627776
   ·have c11b0 : decide (1099511627776 < n) = false := decide_eq_false (by omega)
    have HTX := Asd.mk (text_calls n hn0 (by omega) (HT.out.below hB.out))
    by_cases e : (itoaB n).toList = a0.toList
    ·rw [if_pos ⟨c, e⟩] at HE
     obtain ⟨h1, rfl⟩ := Prod.mk.inj (HRR.out.symm.trans HE)
     rw [<- h1] at e HTX c11b0
     subst h1
     have EE := Asd.mk e
     clear hx hd hd' hn1 hp HE e
     go_wp2_with (go_at_call 24; (with_reducible refine HTX.out.mono ?_); rintro e w' ⟨rfl, hb⟩; have HB2 := Asd.mk hb; clear hb; have c13b0 : ((itoaB r1).toList == a0.toList) = true := beq_iff_eq.mpr EE.out; have c13b1 : ((itoaB r1).toList != a0.toList) = false := bne_eq_false_iff_eq.mpr EE.out)
     go_ret2
     exact ⟨by first | rfl | (simp; done) | (simp [*]; done), below_step hB.out HB2.out⟩
    ·rw [if_neg (fun h => e h.2)] at HE
     obtain ⟨rfl, rfl⟩ := Prod.mk.inj (HRR.out.symm.trans HE)
     have EE := Asd.mk e
     clear hx hd hd' hn1 hp HE e
     go_wp2_with (go_at_call 24; (with_reducible refine HTX.out.mono ?_); rintro e w' ⟨rfl, hb⟩; have HB2 := Asd.mk hb; clear hb; have c13b0 : ((itoaB n).toList == a0.toList) = false := beq_eq_false_iff_ne.mpr EE.out; have c13b1 : ((itoaB n).toList != a0.toList) = true := bne_iff_ne.mpr EE.out)
     go_ret2
     exact ⟨by first | rfl | (simp; done) | (simp [*]; done), below_step hB.out HB2.out⟩
   ·rw [if_neg (fun h => c h.1)] at HE
    obtain ⟨rfl, rfl⟩ := Prod.mk.inj (HRR.out.symm.trans HE)
    have c11b0 : decide (1099511627776 < n) = true := decide_eq_true (by omega)
    clear hx hd hd' hn1 hp HE c
    go_wp2
    go_ret2
    exact ⟨rfl, hB.out⟩
end Go.Proofs.YtlfenakgphmepaaGreatDoor.Root
