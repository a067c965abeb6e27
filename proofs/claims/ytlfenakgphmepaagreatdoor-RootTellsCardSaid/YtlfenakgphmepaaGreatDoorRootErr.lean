/- Parts of the proof. -/
import Derived.Test.YtlfenakgphmepaaGreatDoorPrint
import Derived.Test.YtlfenakgphmepaaGreatDoorBuild
import Derived.Lib.AppendIntMem
import Derived.Test.YtlfenakgphmepaaGreatDoorPrint0
import Derived.Deep.CutRange
import Derived.Deep.DeepCutAuto
import Derived.Deep.MidRow
import Derived.LaidEql
import Derived.Stop.Asserts
import Derived.Lib.IfaceEq
section
namespace Go.Proofs.YtlfenakgphmepaaGreatDoor.Root
open Go.RowKit YtlfenakgphmepaaGreatDoorW.PrintWords YtlfenakgphmepaaGreatDoorW.PrintLast YtlfenakgphmepaaGreatDoorW.PrintMore YtlfenakgphmepaaGreatDoor.Conv Print Build
set_option linter.unusedVariables false
set_option linter.unusedSimpArgs false
theorem w64 {x : Int} (h0 : -9223372036854775808 <= x) (h1 : x <= 9223372036854775807) : wrap64 x = x := by unfold wrap64; omega
def Tb (W : World) : Prop := Lib.TabBelow Tryz.prog W.heap.size W "internal/strconv.uint64pow10" .u64 Lib.pow10Tab
theorem Tb.below {W W' : World} (h : Tb W) (hb : Below W.heap.size W W') : Tb W' := fun w' h' => h w' (qW hb h')
def itoaB (n : Int) : ByteArray := ⟨(Lib.itoa n).toArray⟩
theorem text_calls (n : Int) (h0 : 0 <= n) (h1 : n <= 9223372036854775807) {W : World} (hT : Tb W) : Calls Tryz.prog 24 #[.int .i64 n] W fun e w' => e = .returned (.string (itoaB n)) /\ Below W.heap.size W w' := by
 have HT := am hT
 have hn : ¬ n < 0 := by omega
 have hd : decide (n < 0) = false := df hn
 clear hT
 go_enter Tryz.func24, Tryz.ntmps24
 go_wp2_with (go_at_call 53; refine (Go.Proofs.Tryz.strconv_Itoa n (by omega) h1 _ HT.out.here).mono ?_; rintro e w' ⟨rfl, k, os, rfl⟩)
 go_ret
 exact ⟨rfl, Lib.below_grow _ _ (Nat.le_refl _) _ _⟩
def decR (s : ByteArray) : Nat -> Nat -> Int -> Option Int
 | 0, _, n => some n
 | d + 1, i, n => if 48 <= bt s (i : Int) /\ bt s (i : Int) <= 57 /\ i ≠ 13 then decR s d (i + 1) (10 * n + (bt s (i : Int) - 48)) else none
def decF (s : ByteArray) : Int × Bool := match decR s s.size 0 0 with
 | none => (0, false)
 | some n => if n <= 1099511627776 /\ (itoaB n).toList = s.toList then (n, true) else (0, false)
theorem dec_none {s : ByteArray} (h : decR s s.size 0 0 = none) : decF s = (0, false) := by unfold decF; rw [h]
theorem dec_some {s : ByteArray} {n : Int} (h : decR s s.size 0 0 = some n) : decF s = if n <= 1099511627776 /\ (itoaB n).toList = s.toList then (n, true) else (0, false) := by unfold decF; rw [h]
theorem pow10_le {i : Nat} (h : i <= 13) : (10 : Int) ^ i <= 10000000000000 := by
 have h1 : 10 ^ i <= 10 ^ 13 := Nat.pow_le_pow_right (by decide) h
 have h2 : ((10 ^ i : Nat) : Int) <= ((10 ^ 13 : Nat) : Int) := Int.ofNat_le.2 h1
 simpa using h2
theorem decR_bd (s : ByteArray) : ∀ d i n m, decR s d i n = some m -> 0 <= n -> n + 1 <= 10 ^ i -> i <= 13 -> 0 <= m /\ m <= 9999999999999
 | 0, i, n, m, h, h0, h1, h2 => by
  obtain rfl := Option.some.inj h
  have := pow10_le h2
  omega
 | d + 1, i, n, m, h, h0, h1, h2 => by
  simp only [decR] at h
  split at h
  case isFalse => cases h
  case isTrue hc => exact decR_bd s d (i + 1) _ m h (by omega) (by rw [Int.pow_succ]; omega) (by omega)
theorem decF_bd (s : ByteArray) : 0 <= (decF s).1 /\ (decF s).1 <= 1099511627776 := by
 unfold decF
 split
 ·exact ⟨by decide, by decide⟩
 ·rename_i n h
  have := decR_bd s _ 0 0 n h (by decide) (by decide) (by decide)
  split
  ·rename_i hc
   exact ⟨this.1, hc.1⟩
  ·exact ⟨by decide, by decide⟩
set_option maxHeartbeats 8000000 in
set_option maxRecDepth 100000 in
theorem decimal_calls (a0 : ByteArray) (hl : a0.size <= 9223372036854775806) {W : World} (hT : Tb W) :
  Calls Tryz.prog 56 #[.string a0] W fun e w' => e = .returned (.tuple #[.int .i64 (decF a0).1, .bool (decF a0).2]) /\ Below W.heap.size W w' := by
 obtain ⟨r1, r2, hrr⟩ : ∃ r1 r2, decF a0 = (r1, r2) := ⟨_, _, rfl⟩
 rw [hrr]
 have HRR := am hrr
 clear hrr
 have HT := am hT
 have HL := am hl
 clear hT hl
 go_enter Tryz.func56, Tryz.ntmps56
 go_wp2
 go_loopg [4, 8] a0.size (fun kq v4 v8 w' => ∃ (n : Int) (x : Int) (i : Nat), v4 = .int .i64 n /\ v8 = .int .i64 x /\ Asd (x = (i : Int)) /\ i <= a0.size /\ a0.size - i <= kq /\ Asd (decR a0 (a0.size - i) i n = decR a0 a0.size 0 0) /\ Asd (0 <= n /\ n + 1 <= 10 ^ i /\ i <= 13) /\ Asd (Below W.heap.size W w'))
 case atStart => exact ⟨0, 0, 0, rfl, rfl, ⟨rfl⟩, Nat.zero_le _, Nat.le_refl _, ⟨rfl⟩, ⟨by decide⟩, ⟨Below.refl _ _⟩⟩
 case round =>
  obtain ⟨n, x, i, rfl, rfl, HX, hi, hg, ⟨hd⟩, ⟨hn0, hn1, hn2⟩, hB⟩ := hrel
  have hp := pow10_le hn2
  have hx := HX.out
  by_cases hlt : i < a0.size
  ·have c2b0 : decide (x < (a0.size : Int)) = true := dt (by omega)
   have p5 : 0 <= x := by omega
   have q5 : x < (a0.size : Int) := by omega
   have hx5 := bt_at a0 x
   have p5' := p5
   have q5' := q5
   replace p5 := eq_true p5
   replace q5 := eq_true q5
   have hstep : decR a0 (a0.size - i) i n = if 48 <= bt a0 x /\ bt a0 x <= 57 /\ i ≠ 13 then decR a0 (a0.size - (i + 1)) (i + 1) (10 * n + (bt a0 x - 48)) else none := by
    rw [show a0.size - i = (a0.size - (i + 1)) + 1 by omega, hx]
    rfl
   rw [hstep] at hd
   by_cases hc : 48 <= bt a0 x /\ bt a0 x <= 57 /\ i ≠ 13
   ·rw [if_pos hc] at hd
    have HD := am hd
    have e1 : wrap64 ((wrap64 (10 * n)) + (((bt a0 x) - 48) % 256)) = 10 * n + (bt a0 x - 48) := by
     rw [w64 (x := 10 * n) (by omega) (by omega), Int.emod_eq_of_lt (by omega) (by omega), w64 (by omega) (by omega)]
    have e2 : wrap64 (x + 1) = x + 1 := by have := HL.out; exact w64 (by omega) (by omega)
    have E1 := am e1
    have E2 := am e2
    have HN : Asd (0 <= 10 * n + (bt a0 x - 48) /\ 10 * n + (bt a0 x - 48) + 1 <= 10 ^ (i + 1) /\ i + 1 <= 13) := ⟨by omega, by rw [Int.pow_succ]; omega, by omega⟩
    have c6b0 : decide ((bt a0 x) < 48) = false := df (by omega)
    have c8b0 : decide (57 < (bt a0 x)) = false := df (by omega)
    have c9b0 : (x == 13) = false := beq_eq_false_iff_ne.mpr (by omega)
    have c9b1 : (x != 13) = true := bne_iff_ne.mpr (by omega)
    clear hx hd hstep hc hn0 hn1 hn2 hp e1 e2 p5' q5'
    go_wp2
    go_roundg (a0.size - (i + 1))
    case measure => omega
    case rel =>
     refine ⟨wrap64 ((wrap64 (10 * n)) + (((bt a0 x) - 48) % 256)), wrap64 (x + 1), i + 1, (ez), (ez), ⟨by rw [E2.out, HX.out]; rfl⟩, by omega, Nat.le_refl _, ⟨by rw [E1.out]; exact HD.out⟩, ⟨by rw [E1.out]; exact HN.out⟩, hB⟩
   ·rw [if_neg hc] at hd
    have HE := dec_none hd.symm
    obtain ⟨rfl, rfl⟩ := Prod.mk.inj (HRR.out.symm.trans HE)
    have hB1 := hB
    by_cases c1 : bt a0 x < 48
    ·have c6b0 : decide ((bt a0 x) < 48) = true := dt c1
     clear hx hd hstep hc hn0 hn1 hn2 hp p5' q5' c1 HE
     go_wp2
     go_ret2
     exact ⟨rfl, hB1.out⟩
    ·have c6b0 : decide ((bt a0 x) < 48) = false := df c1
     by_cases c3 : 57 < bt a0 x
     ·have c8b0 : decide (57 < (bt a0 x)) = true := dt c3
      clear hx hd hstep hc hn0 hn1 hn2 hp p5' q5' c1 c3 HE
      go_wp2
      go_ret2
      exact ⟨rfl, hB1.out⟩
     ·have c8b0 : decide (57 < (bt a0 x)) = false := df c3
      have c13 : i = 13 := by
       by_cases h : i = 13
       ·exact h
       ·exact absurd ⟨by omega, by omega, h⟩ hc
      have c9b0 : (x == 13) = true := beq_iff_eq.mpr (by omega)
      have c9b1 : (x != 13) = false := bne_eq_false_iff_eq.mpr (by omega)
      clear hx hd hstep hc hn0 hn1 hn2 hp p5' q5' c1 c3 HE c13
      go_wp2
      go_ret2
      exact ⟨rfl, hB1.out⟩
  ·obtain rfl : i = a0.size := by omega
   rw [Nat.sub_self] at hd
   have hd' : some n = decR a0 a0.size 0 0 := hd
   have HE := dec_some hd'.symm
   have c2b0 : decide (x < (a0.size : Int)) = false := df (by omega)
   by_cases c : n <= 1099511627776
   ·have c11b0 : decide (1099511627776 < n) = false := df (by omega)
    have HTX := am (text_calls n hn0 (by omega) (HT.out.below hB.out))
    by_cases e : (itoaB n).toList = a0.toList
    ·rw [if_pos ⟨c, e⟩] at HE
     obtain ⟨h1, rfl⟩ := Prod.mk.inj (HRR.out.symm.trans HE)
     rw [<- h1] at e HTX c11b0
     subst h1
     have EE := am e
     clear hx hd hd' hn1 hp HE e
     go_wp2_with (go_at_call 24; (with_reducible refine HTX.out.mono ?_); rintro e w' ⟨rfl, hb⟩; have HB2 := am hb; clear hb; have c13b0 : ((itoaB r1).toList == a0.toList) = true := beq_iff_eq.mpr EE.out; have c13b1 : ((itoaB r1).toList != a0.toList) = false := bne_eq_false_iff_eq.mpr EE.out)
     go_ret2
     exact ⟨ez, qW hB.out HB2.out⟩
    ·rw [if_neg (fun h => e h.2)] at HE
     obtain ⟨rfl, rfl⟩ := Prod.mk.inj (HRR.out.symm.trans HE)
     have EE := am e
     clear hx hd hd' hn1 hp HE e
     go_wp2_with (go_at_call 24; (with_reducible refine HTX.out.mono ?_); rintro e w' ⟨rfl, hb⟩; have HB2 := am hb; clear hb; have c13b0 : ((itoaB n).toList == a0.toList) = false := beq_eq_false_iff_ne.mpr EE.out; have c13b1 : ((itoaB n).toList != a0.toList) = true := bne_iff_ne.mpr EE.out)
     go_ret2
     exact ⟨ez, qW hB.out HB2.out⟩
   ·rw [if_neg (fun h => c h.1)] at HE
    obtain ⟨rfl, rfl⟩ := Prod.mk.inj (HRR.out.symm.trans HE)
    have c11b0 : decide (1099511627776 < n) = true := dt (by omega)
    clear hx hd hd' hn1 hp HE c
    go_wp2
    go_ret2
    exact ⟨rfl, hB.out⟩
end Go.Proofs.YtlfenakgphmepaaGreatDoor.Root
end
section
namespace Go.Proofs.YtlfenakgphmepaaGreatDoor.Root
open Go.RowKit YtlfenakgphmepaaGreatDoorW.PrintWords YtlfenakgphmepaaGreatDoorW.PrintLast YtlfenakgphmepaaGreatDoorW.PrintMore YtlfenakgphmepaaGreatDoor.Conv Print Build
set_option linter.unusedVariables false
set_option linter.unusedSimpArgs false
theorem qx {W : World} {g : Nat} {cs : Array Value} {t : TypeId} (h : W.heap[g]? = some (.cells cs t (0, 0))) (j : Nat) {v : Value} (hv : cs[j]? = some v) : W.cell? ⟨g, j, none⟩ = some v /\ W.frozen? ⟨g, j, none⟩ = false := ⟨(cell_of_row W g j cs t (0, 0) h).trans hv, frozen_of_row W g j cs t h⟩
theorem lt_box {W : World} {b : Nat} {o : Obj} (hb : W.heap[b]? = some o) : b < W.heap.size := (Array.getElem?_eq_some_iff.1 hb).1
theorem qB {B W : World} {b : Nat} {o : Obj} (h : Below B.heap.size B W) (hb : B.heap[b]? = some o) : W.heap[b]? = some o := (h.block b (Array.getElem?_eq_some_iff.1 hb).1).trans hb
def IsErr (v : Value) (e : Bool) : Prop := (e = false /\ v = .nilIface) ∨ (e = true /\ ∃ b, v = .iface 87 (.pointer (some ⟨b, 0, none⟩)))
def Rd (W : World) (S : Nat -> Prop) (g : Nat) (l : List ByteArray) (e : Bool) : Prop := ∃ A c v, W.heap[g]? = some (.cells #[.slice A l.length c, v] 61 (0, 0)) /\ Kd.F Kd.string W S A l.length l /\ l.length <= c /\ IsErr v e /\ (∀ k, S k -> k ≠ g /\ k < W.heap.size)
def At (g : Nat) : Nat -> Prop := fun k => k = g
theorem Rd.lt {W : World} {S : Nat -> Prop} {g : Nat} {l : List ByteArray} {e : Bool} (h : Rd W S g l e) : g < W.heap.size := by
 obtain ⟨A, c, v, hb, _⟩ := h
 exact lt_box hb
theorem Rd.keeps {W W' : World} {S own2 : Nat -> Prop} {g : Nat} {l : List ByteArray} {e : Bool} (h : Rd W S g l e) (hk : Keeps W W' own2) (hg : ¬ own2 g) (hS : ∀ k, S k -> ¬ own2 k) : Rd W' S g l e := by
 obtain ⟨A, c, v, hb, hf, hc, he, hs⟩ := h
 exact ⟨A, c, v, (hk.block g (lt_box hb) hg).trans hb, Kd.F_mono (Kd.F_step (Kd.F_bound hf) (fun k e hl => hk.block k hl (hS k e.1))) (fun k e => e.1), hc, he, fun k e => ⟨(hs k e).1, Nat.lt_of_lt_of_le (hs k e).2 hk.size⟩⟩
theorem Rd.below {W W' : World} {S : Nat -> Prop} {g : Nat} {l : List ByteArray} {e : Bool} (h : Rd W S g l e) (hb : Below W.heap.size W W') : Rd W' S g l e := h.keeps (own2 := fun _ => False) (Keeps.of_below hb) (fun e => e) (fun _ _ e => e)
theorem Rd.fail {W : World} {S : Nat -> Prop} {g : Nat} {l : List ByteArray} {e : Bool} (h : Rd W S g l e) (b : Nat) : Rd (W.setCell ⟨g, 1, none⟩ (.iface 87 (.pointer (some ⟨b, 0, none⟩)))) S g l true /\ Keeps W (W.setCell ⟨g, 1, none⟩ (.iface 87 (.pointer (some ⟨b, 0, none⟩)))) (At g) := by
 obtain ⟨A, c, v, hb, hf, hc, he, hs⟩ := h
 refine ⟨⟨A, c, _, (heap_set_same W g 1 _ _ _ hb).trans rfl, Kd.F_mono (Kd.F_step (Kd.F_bound hf) (fun k e hl => Below.heap_setCell W ⟨g, 1, none⟩ _ k (hs k e.1).1)) (fun k e => e.1), hc, Or.inr ⟨rfl, b, rfl⟩, fun k e => ⟨(hs k e).1, by simpa [World.setCell] using (hs k e).2⟩⟩, Keeps.set rfl⟩
theorem Rd.cells {W : World} {S : Nat -> Prop} {g : Nat} {l : List ByteArray} {e : Bool} (h : Rd W S g l e) : ∃ A c v, W.cell? ⟨g, 0, none⟩ = some (.slice A l.length c) /\ W.cell? ⟨g, 1, none⟩ = some v /\ W.frozen? ⟨g, 0, none⟩ = false /\ W.frozen? ⟨g, 1, none⟩ = false /\ IsErr v e /\ Kd.F Kd.string W S A l.length l /\ l.length <= c := by
 obtain ⟨A, c, v, hb, hf, hc, he, hs⟩ := h
 exact ⟨A, c, v, (qx hb 0 rfl).1, (qx hb 1 rfl).1, (qx hb 0 rfl).2, (qx hb 1 rfl).2, he, hf, hc⟩
set_option maxHeartbeats 4000000 in
set_option maxRecDepth 100000 in
theorem number_calls {W : World} {S : Nat -> Prop} {g : Nat} {l : List ByteArray} {e : Bool} (h : Rd W S g l e) (s : ByteArray) (hs : s.size <= 1000000000) (hT : Tb W) :
  Calls Tryz.prog 31 #[.pointer (some ⟨g, 0, none⟩), .string s] W fun r w' => r = .returned (.int .i64 (decF s).1) /\ Rd w' S g l (e || !(decF s).2) /\ Keeps W w' (At g) := by
 have H := am h
 have HD := am (decimal_calls s (by omega) hT)
 clear hs hT h
 obtain ⟨r1, r2, hr⟩ : ∃ r1 r2, decF s = (r1, r2) := ⟨_, _, rfl⟩
 rw [hr] at HD ⊢
 clear hr
 cases r2 with
 | true =>
  go_enter Tryz.func31, Tryz.ntmps31
  go_wp2_with (go_at_call 56; with_reducible refine HD.out.mono ?_; rintro r w1 ⟨rfl, hb⟩; have HB := am hb; clear hb)
  go_ret
  exact ⟨rfl, by simpa using H.out.below HB.out, Keeps.of_below HB.out⟩
 | false =>
  go_enter Tryz.func31, Tryz.ntmps31
  go_wp2_with (go_at_call 56; with_reducible refine HD.out.mono ?_; rintro r w1 ⟨rfl, hb⟩; have HB := am (qW hb (bal (Below.refl _ _) (.cells #[.string s] 89))); have HS1 := am hb; clear hb; obtain ⟨A, c, v, k0, k1, f0, f1, he, hf, hc⟩ := (H.out.below HB.out).cells; clear k0 f0 he hf hc)
  go_ret
  have h2 := (H.out.below HB.out).fail w1.heap.size
  exact ⟨rfl, by simpa using h2.1, (Keeps.of_below HB.out).trans h2.2⟩
set_option maxHeartbeats 8000000 in
set_option maxRecDepth 100000 in
theorem clone_calls (A0 : Option Addr) (c0 : Nat) (l0 : List ByteArray) (w : World) (hr0 : Kd.C Kd.string w A0 l0.length l0) (hc0 : l0.length <= c0) (hlim : l0.length * 16 <= 140737488355328) :
  Calls Tryz.prog 57 #[.slice A0 l0.length c0] w fun e w' => ∃ v0_ : Value, e = .returned (v0_) /\ Kd.R Kd.string 9 w' w.heap.size (fun _ => True) v0_ l0 /\ Below w.heap.size w w' := by
 have HR0 := am hr0
 have HL := am hlim
 have HCc := am hc0
 have hnil := fun (W : World) (a : Option Addr) (n c : Nat) => Lib.run_eql_slice_nil (P := Tryz.prog) W 22 9 a n c 0 0 Tryz.underlying22
 rcases A0 with _ | ad
 ·have h0 : l0 = [] := by
   rcases Nat.eq_zero_or_pos l0.length with h0 | h0
   ·exact List.eq_nil_of_length_eq_zero h0
   ·obtain ⟨ad, h', _⟩ := hr0.2.2 h0
    cases h'
  subst h0
  clear hlim hr0 hc0
  go_enter Tryz.func57, Tryz.ntmps57
  go_wp2
  go_ret
  exact ⟨_, rfl, Kd.R_nil _ _ _ _ _, Below.refl _ _⟩
 ·clear hlim hr0 hc0
  have HB := am (Below.refl w.heap.size w)
  go_enter Tryz.func57, Tryz.ntmps57
  go_wp2_with (first | ((with_reducible refine gate_dst (N := 5) rfl ?_); refine Kd.R_lit Kd.string _ 9 ?hg (N := 5) ?hd (xs := ([] : List ByteArray)) (inner := []) (ok := fun _ => True) (okp := fun _ => True) ?hr ?hp (fun _ hk => hk) trivial (Below.refl _ _) (Nat.le_refl _) (by simp) ?_; (case hd => rfl); (case hg => rfl); (case hr => first | (go_simp; done) | (go_simp; rfl)); (case hp => exact (Reps.none _ _)); intro v1 w1 ho1 hb hg_ hnew_; clear hg_ hnew_; have HO1 := am ho1; have HB1 := am hb; clear ho1 hb) | ((with_reducible refine gate_builtin (b := .append) (xs := #[.tmp 5, .tmp 6]) rfl ?_); at_builtin; refine Kd.R_append_row Value.string ByteArray.empty (w0 := w) w.heap.size rfl (.tmp 5) (.tmp 6) 22 9 (.string ⟨#[]⟩) 16 rfl Tryz.underlying22 info9 rfl (by decide) v1 [] l0 (some ad) l0.length c0 (fun _ => True) rfl rfl (fun _ _ => trivial) HO1.out ?aR HB1.out ?aS ?aL ?_; (case aR => exact Kd.C_below HR0.out HB1.out); (case aS => exact HB1.out.size); (case aL => have := HL.out; simp; omega); intro v2 w2 ho2 hb hg hat; have HO2 := am ho2; have HB2 := am hb; clear hb hg hat ho2))
  go_ret
  exact ⟨_, rfl, HO2.out, HB2.out⟩
theorem Rd.cut {W : World} {S : Nat -> Prop} {g : Nat} {l : List ByteArray} {e : Bool} (h : Rd W S g l e) {A A2 : Option Addr} {c c2 : Nat} (k0 : W.cell? ⟨g, 0, none⟩ = some (.slice A l.length c)) (l2 : List ByteArray) (hf2 : ∀ W S, Kd.F Kd.string W S A l.length l -> Kd.F Kd.string W S A2 l2.length l2) (hc2 : l2.length <= c2) :
  Rd (W.setCell ⟨g, 0, none⟩ (.slice A2 l2.length c2)) S g l2 e /\ Keeps W (W.setCell ⟨g, 0, none⟩ (.slice A2 l2.length c2)) (At g) /\ Kd.F Kd.string (W.setCell ⟨g, 0, none⟩ (.slice A2 l2.length c2)) S A l.length l := by
 obtain ⟨A', c', v, hb, hf, hc, he, hs⟩ := h
 have hk := (qx hb 0 rfl).1
 rw [k0] at hk
 injection hk with hk
 injection hk with e1 e2 e3
 subst e1
 have hf' : Kd.F Kd.string (W.setCell ⟨g, 0, none⟩ (.slice A2 l2.length c2)) S A l.length l := Kd.F_mono (Kd.F_step (Kd.F_bound hf) (fun k e hl => Below.heap_setCell W ⟨g, 0, none⟩ _ k (hs k e.1).1)) (fun k e => e.1)
 exact ⟨⟨A2, c2, v, (heap_set_same W g 0 _ _ _ hb).trans rfl, hf2 _ _ hf', hc2, he, fun k e => ⟨(hs k e).1, by simpa [World.setCell] using (hs k e).2⟩⟩, Keeps.set rfl, hf'⟩
def someF (n : Nat) (l : List ByteArray) (e : Bool) : List ByteArray × List ByteArray × Bool := if l.length < n ∨ e = true then ([], l, true) else (l.take n, l.drop n, false)
theorem some_bad {n : Nat} {l : List ByteArray} {e : Bool} (h : l.length < n ∨ e = true) : someF n l e = ([], l, true) := if_pos h
theorem some_ok {n : Nat} {l : List ByteArray} (h : n <= l.length) : someF n l false = (l.take n, l.drop n, false) := if_neg (fun e => e.elim (fun e => by omega) (fun e => by cases e))
set_option maxRecDepth 100000 in
theorem cut_two (A : Option Addr) (c : Nat) (xs : List ByteArray) (hc : xs.length <= c) (j : Nat) (hj : j <= xs.length) :
  ∃ A2, (∀ W : World, (Instr.slice 22 (.slice A xs.length c) none (some (.int .i64 (j : Int))) none).run Tryz.prog W = .ok (.slice A j c) W) /\ (∀ W : World, (Instr.slice 22 (.slice A xs.length c) (some (.int .i64 (j : Int))) none none).run Tryz.prog W = .ok (.slice A2 (xs.length - j) (c - j)) W) /\
   (∀ W S, Kd.F Kd.string W S A xs.length xs -> Kd.F Kd.string W S A2 (xs.drop j).length (xs.drop j)) := by
 have hinf := info9
 obtain ⟨i, hi, hi2⟩ := Option.map_eq_some_iff.1 hinf
 have hsz : i.size = 1 := congrArg (fun x => x.2.1) hi2
 refine ⟨_, ?_, cut_from (P := Tryz.prog) 22 9 .i64 Tryz.underlying22 hi 1 hsz A xs.length c (j : Int) (by omega) (by omega), fun W S h => ?_⟩
 ·intro W
  have := cut_to (P := Tryz.prog) 22 9 .i64 Tryz.underlying22 hi A xs.length c (j : Int) (by omega) (by omega) hc W
  rw [Int.toNat_natCast] at this
  exact this
 ·rw [Int.toNat_natCast]
  exact Kd.F_cut h hj hc
set_option maxHeartbeats 8000000 in
set_option maxRecDepth 100000 in
theorem some_calls {W : World} {S : Nat -> Prop} {g : Nat} {l : List ByteArray} {e : Bool} (h : Rd W S g l e) (n : Nat) (hn : n <= 4611686018427387904) (hl : l.length <= 1000000000) :
  Calls Tryz.prog 33 #[.pointer (some ⟨g, 0, none⟩), .int .i64 n] W fun r w' => ∃ v, r = .returned v /\ Kd.R Kd.string 9 w' W.heap.size (fun _ => True) v (someF n l e).1 /\ Rd w' S g (someF n l e).2.1 (someF n l e).2.2 /\ Keeps W w' (At g) := by
 obtain ⟨A, c, v, k0, k1, f0, f1, he, hf, hc⟩ := h.cells
 have H := am h
 have HL := am hl
 by_cases hs : l.length < n
 ·rw [some_bad (Or.inl hs)]
  have hz : (l.length : Int) < (n : Int) := by omega
  have hx := (Rd.below h (bal (Below.refl _ _) (.cells #[.string ⟨#[116, 111, 111, 32, 102, 101, 119]⟩] 89))).cells
  obtain ⟨A2, c2, v2, k02, k12, f02, f12, _, _, _⟩ := hx
  clear h hn hl he hf hc k02 f02
  go_enter Tryz.func33, Tryz.ntmps33
  go_wp2
  go_ret
  have h2 := (Rd.below H.out (bal (Below.refl _ _) (.cells #[.string ⟨#[116, 111, 111, 32, 102, 101, 119]⟩] 89))).fail W.heap.size
  exact ⟨_, rfl, Kd.R_nil _ _ _ _ _, h2.1, (Keeps.of_below (bal (Below.refl _ _) _)).trans h2.2⟩
 ·have hz : ¬ (l.length : Int) < (n : Int) := by omega
  rcases he with ⟨rfl, rfl⟩ | ⟨rfl, b, rfl⟩
  ·rw [some_ok (by omega)]
   obtain ⟨A2, hc1, hc2, hF2⟩ := cut_two A c l hc n (by omega)
   have HF2 := am hF2
   have HF := am hf
   have HC := am hc
   have HN : Asd (n <= l.length) := ⟨by omega⟩
   have hlt : (l.take n).length = n := by rw [List.length_take]; omega
   have hd : (l.drop n).length = l.length - n := List.length_drop
   have hcut := h.cut (A2 := A2) (c2 := c - n) k0 (l.drop n) hF2 (by rw [hd]; omega)
   rw [hd] at hcut
   have HCUT := am hcut
   have hcl := clone_calls A c (l.take n) _ (Kd.C_take (Kd.F_now hcut.2.2) (m := n) (by omega)) (by rw [hlt]; omega) (by rw [hlt]; omega)
   rw [hlt] at hcl
   have HCL := am hcl
   clear h hn hl hf hc f1 hF2 hd hcut hcl hlt
   go_enter Tryz.func33, Tryz.ntmps33
   go_wp2_with (go_at_call 57; with_reducible refine HCL.out.mono ?_; rintro r w2 ⟨v, rfl, hr, hb⟩; have HRR := am hr; have HB := am hb; clear hr hb)
   go_ret
   exact ⟨_, rfl, Kd.R_lower HRR.out (by simp [World.setCell]), HCUT.out.1.below HB.out, HCUT.out.2.1.trans (Keeps.of_below HB.out)⟩
  ·rw [some_bad (Or.inr rfl)]
   have hx := (Rd.below h (bal (Below.refl _ _) (.cells #[.string ⟨#[116, 111, 111, 32, 102, 101, 119]⟩] 89))).cells
   obtain ⟨A2, c2, v2, k02, k12, f02, f12, _, _, _⟩ := hx
   clear h hn hl hf hc k02 f02
   go_enter Tryz.func33, Tryz.ntmps33
   go_wp2
   go_ret
   have h2 := (Rd.below H.out (bal (Below.refl _ _) (.cells #[.string ⟨#[116, 111, 111, 32, 102, 101, 119]⟩] 89))).fail W.heap.size
   exact ⟨_, rfl, Kd.R_nil _ _ _ _ _, h2.1, (Keeps.of_below (bal (Below.refl _ _) _)).trans h2.2⟩
end Go.Proofs.YtlfenakgphmepaaGreatDoor.Root
end
section
namespace Go.Proofs.YtlfenakgphmepaaGreatDoor.Root
open Go.RowKit YtlfenakgphmepaaGreatDoorW.PrintWords YtlfenakgphmepaaGreatDoorW.PrintLast YtlfenakgphmepaaGreatDoorW.PrintMore YtlfenakgphmepaaGreatDoor.Conv Print Build
set_option linter.unusedVariables false
set_option linter.unusedSimpArgs false
theorem some1_calls {W : World} {S : Nat -> Prop} {g : Nat} {l : List ByteArray} {e : Bool} (h : Rd W S g l e) (hl : l.length <= 1000000000) :
  Calls Tryz.prog 33 #[.pointer (some ⟨g, 0, none⟩), .int .i64 1] W fun r w' => ∃ v, r = .returned v /\ Kd.R Kd.string 9 w' W.heap.size (fun _ => True) v (someF 1 l e).1 /\ Rd w' S g (someF 1 l e).2.1 (someF 1 l e).2.2 /\ Keeps W w' (At g) := some_calls h 1 (by decide) hl
def cutsF (c : UInt8) (s : ByteArray) : List ByteArray := Lib.splitB ⟨#[c]⟩ 0 (Lib.countB s ⟨#[c]⟩) s
theorem split_eq (c : UInt8) (s : ByteArray) (h : s.size < 4294967281) : strings_Split.f s ⟨#[c]⟩ = some (cutsF c s) := if_pos ⟨rfl, h⟩
theorem cuts_len (c : UInt8) (s : ByteArray) : 0 < (cutsF c s).length := by
 unfold cutsF
 rw [Lib.splitB_all ⟨#[c]⟩ (Nat.le_refl 1) 0 _ s rfl]
 exact Nat.succ_pos _
def blanks (n : Nat) : List ByteArray := List.replicate n ⟨#[]⟩
def hd0 (l : List ByteArray) : ByteArray := l.getD 0 ByteArray.empty
def wordsF (first : ByteArray) (many : Nat) (l : List ByteArray) (e : Bool) : List ByteArray × List ByteArray × Bool :=
 if (someF 1 l e).2.2 = true then (blanks many, (someF 1 l e).2) else
 if (cutsF 32 (hd0 l)).length = many /\ (hd0 (cutsF 32 (hd0 l))).toList = first.toList then (cutsF 32 (hd0 l), (someF 1 l e).2) else (blanks many, (someF 1 l e).2.1, true)
theorem size_str : (Tryz.prog.info? 9).map (·.size) = some 1 := by kernel_rfl
theorem IsErr.no {v : Value} (h : IsErr v false) : v = .nilIface := h.elim (fun h => h.2) (fun h => Bool.noConfusion h.1)
theorem IsErr.is {v : Value} (h : IsErr v true) : ∃ b, v = .iface 87 (.pointer (some ⟨b, 0, none⟩)) := h.elim (fun h => Bool.noConfusion h.1) (fun h => h.2)
theorem R_keeps {α : Type} {d : Kd α} {ty : Nat} {W W' : World} {base g : Nat} {ok : Nat -> Prop} {v : Value} {xs : List α} (h : Kd.R d ty W base ok v xs) (hk : Keeps W W' (At g)) (hg : g < base) : Kd.R d ty W' base ok v xs :=
 Kd.R_mono (Kd.R_step (Kd.R_bound h) (fun k e hl => hk.block k hl (fun e2 => by have := e.2.1; have e3 : k = g := e2; omega))) (fun k e => e.1)
theorem cell0 {W : World} {base ty : Nat} {ok : Nat -> Prop} {v : Value} {xs : List ByteArray} (h : Kd.R Kd.string ty W base ok v xs) (hp : 0 < xs.length) : ∃ ad c, v = .slice (some ad) xs.length c /\ W.cell? (ad.add 0) = some (.string (hd0 xs)) /\ W.cell? ad = some (.string (hd0 xs)) := by
 obtain ⟨A, c, rfl⟩ := Kd.R_slice h
 obtain ⟨ad, rfl, hc⟩ := (Kd.reads_of_C (enc := Value.string) (d := ByteArray.empty) (h1 := fun _ => rfl) (Kd.R_reads' h).2.2).2.2 hp
 have h0 := hc 0 hp
 refine ⟨ad, c, rfl, h0, ?_⟩
 have e : ad.add 0 = ad := by simp [Addr.add]
 rw [e] at h0
 exact h0
theorem row_lt {W : World} {p : Addr} {v : Value} (h : W.cell? p = some v) : p.block < W.heap.size := by
 rcases Nat.lt_or_ge p.block W.heap.size with h' | h'
 ·exact h'
 ·simp [World.cell?, Array.getElem?_eq_none h'] at h
theorem cell1 {W : World} {base ty : Nat} {ok : Nat -> Prop} {v : Value} {s : ByteArray} (h : Kd.R Kd.string ty W base ok v [s]) : ∃ ad c, v = .slice (some ad) 1 c /\ W.cell? (ad.add 0) = some (.string s) /\ W.cell? ad = some (.string s) := cell0 h (Nat.succ_pos 0)
set_option maxHeartbeats 8000000 in
set_option maxRecDepth 100000 in
theorem words_calls {W : World} {S : Nat -> Prop} {g : Nat} {l : List ByteArray} {e : Bool} (h : Rd W S g l e) (first : ByteArray) (many : Nat) (hm0 : 0 < many) (hm : many <= 6) (hl : l.length <= 1000000000) (hs : ∀ s ∈ l, s.size <= 1000000000) :
  Calls Tryz.prog 32 #[.pointer (some ⟨g, 0, none⟩), .string first, .int .i64 many] W fun r w' => ∃ v, r = .returned v /\ Kd.R Kd.string 9 w' W.heap.size (fun _ => True) v (wordsF first many l e).1 /\ Rd w' S g (wordsF first many l e).2.1 (wordsF first many l e).2.2 /\ Keeps W w' (At g) := by
 have H := am h
 have HL := am hl
 have HM := am (And.intro hm0 hm)
 have HS := am (fun (W' : World) (hb : Below W.heap.size W W') => some1_calls (h.below hb) hl)
 have HBW := am (Below.refl W.heap.size W)
 by_cases hb : l.length < 1 ∨ e = true
 ·have e1 : wordsF first many l e = (blanks many, l, true) := by
   unfold wordsF
   rw [some_bad hb, if_pos rfl]
  rw [e1]
  have e2 := some_bad (n := 1) hb
  have E2 := am e2
  clear h hm0 hm hl hs e1 e2 hb
  go_enter Tryz.func32, Tryz.ntmps32
  go_wp2_with (first
   | ((with_reducible refine gate_dst (N := 11) rfl ?_); refine Kd.R_make Kd.string (w0 := W) W.heap.size 9 ?hg (N := 11) ?hd 22 (.tmp 10) (.tmp 10) ?ho (many : Int) ?hx ?hy Tryz.underlying22 (.string ⟨#[]⟩) 16 info9 rfl (by decide) (by decide) (⟨#[]⟩ : ByteArray) (ok := fun _ => True) (okp := fun _ => True) rfl (fun _ _ => trivial) trivial ?h0 ?hl HBW.out (Nat.le_refl _) ?_; (case hg => rfl); (case hd => rfl); (case ho => rfl); (case hx => rfl); (case hy => rfl); (case h0 => omega); (case hl => have := HM.out.2; omega); intro v1 w1 ho1 hb1 hg1 hat1; have HO1 := am ho1; have HB1 := am hb1; clear ho1 hb1 hg1 hat1)
   | (go_at_call 33; with_reducible refine (HS.out _ HB1.out).mono ?_; rintro r w2 ⟨v2, rfl, hr, hR, hK⟩; rw [E2.out] at hR; have HRD := am hR; have HK := am hK; obtain ⟨A2, c2, ve, k0, k1, f0, f1, he, hf, hc⟩ := hR.cells; obtain ⟨b, rfl⟩ := he.is; clear hr hR hK k0 f0 f1 hf hc))
  go_ret
  have hgl := H.out.lt
  exact ⟨_, rfl, R_keeps HO1.out HK.out hgl, HRD.out, (Keeps.of_below HB1.out).trans HK.out⟩
 ·obtain ⟨s, tl, rfl⟩ : ∃ s tl, l = s :: tl := by
   cases l with
   | nil => exact absurd (Or.inl (by simp)) hb
   | cons s tl => exact ⟨s, tl, rfl⟩
  obtain rfl : e = false := by
   cases e with
   | true => exact absurd (Or.inr rfl) hb
   | false => rfl
  have e2 : someF 1 (s :: tl) false = ([s], tl, false) := some_ok (n := 1) (by simp)
  have E2 := am e2
  have hss := hs s List.mem_cons_self
  have hcl := cuts_len 32 s
  have SP := am (fun W' => strings_Split.calls s ⟨#[32]⟩ _ W' (split_eq 32 s (by omega)))
  generalize hws : cutsF 32 s = ws at hcl SP
  have e1 : wordsF first many (s :: tl) false = if ws.length = many /\ (hd0 ws).toList = first.toList then (ws, tl, false) else (blanks many, tl, true) := by
   unfold wordsF
   rw [e2]
   have : hd0 (s :: tl) = s := rfl
   rw [this, hws]
   exact if_neg (fun e => Bool.noConfusion e)
  rw [e1]
  have HCL := am hcl
  have HGL := am h.lt
  by_cases c1 : ws.length = many
  ·by_cases c2 : (hd0 ws).toList = first.toList
   ·rw [if_pos ⟨c1, c2⟩]
    have q1 : ((ws.length : Int) == (many : Int)) = true := beq_iff_eq.2 (by omega)
    have q2 : ((ws.length : Int) != (many : Int)) = false := bne_eq_false_iff_eq.2 (by omega)
    have q3 : ((hd0 ws).toList == first.toList) = true := beq_iff_eq.2 c2
    have q4 : ((hd0 ws).toList != first.toList) = false := bne_eq_false_iff_eq.2 c2
    have C1 := am c1
    have z1 : (0 : Int) < (ws.length : Int) := by omega
    have z2 : 0 < ws.length := hcl
    clear h hm0 hm hl hs e1 e2 hb hws hss hcl c2 c1
    go_enter Tryz.func32, Tryz.ntmps32
    go_wp2_with (first
     | ((with_reducible refine gate_dst (N := 11) rfl ?_); refine Kd.R_make Kd.string (w0 := W) W.heap.size 9 ?hg (N := 11) ?hd 22 (.tmp 10) (.tmp 10) ?ho (many : Int) ?hx ?hy Tryz.underlying22 (.string ⟨#[]⟩) 16 info9 rfl (by decide) (by decide) (⟨#[]⟩ : ByteArray) (ok := fun _ => True) (okp := fun _ => True) rfl (fun _ _ => trivial) trivial ?h0 ?hl HBW.out (Nat.le_refl _) ?_; (case hg => rfl); (case hd => rfl); (case ho => rfl); (case hx => rfl); (case hy => rfl); (case h0 => omega); (case hl => have := HM.out.2; omega); intro v1 w1 ho1 hb1 hg1 hat1; have HO1 := am ho1; have HB1 := am hb1; clear ho1 hb1 hg1 hat1)
     | (go_at_call 33; with_reducible refine (HS.out _ HB1.out).mono ?_; rintro r w2 ⟨v2, rfl, hr, hR, hK⟩; rw [E2.out] at hR hr; have HRD := am hR; have HK := am hK; obtain ⟨A2, c2, ve, k0, k1, f0, f1, he, hf, hc⟩ := hR.cells; obtain rfl := he.no; obtain ⟨ad, cv, rfl, m0, m0'⟩ := cell1 hr; clear hr hR hK k0 f0 f1 hf hc)
     | (go_at_call 30; with_reducible refine (SP.out _).mono ?_; rintro r w3 ⟨v3, rfl, hr, hb3⟩; have HB3 := am hb3; obtain ⟨ad3, cw, rfl, m3, m3'⟩ := cell0 hr HCL.out; have HW := am (Kd.R_reads' hr).2.2; clear hr hb3)
     | ((with_reducible refine gate_builtin (b := .copy) (xs := #[.tmp 44, .tmp 45]) rfl ?_); refine Kd.R_copy (enc := Value.string) ByteArray.empty (w0 := w3) W.heap.size rfl (.tmp 44) (.tmp 45) 22 22 9 rfl Tryz.underlying22 size_str v1 _ ws (some ad3) ws.length cw (fun _ => True) rfl rfl (Kd.R_below (R_keeps HO1.out HK.out HGL.out) HB3.out) HW.out (Below.refl _ _) (Nat.le_trans HB1.out.size (Nat.le_trans HK.out.size HB3.out.size)) ?_; intro w4 ho4 hb4 hg4; have HO4 := am ho4; have HG4 := am hg4; clear ho4 hb4 hg4))
    go_ret
    have hrow : ∀ k, v1.ownBlock = some k -> W.heap.size <= k := Kd.R_base HO1.out
    have hk4 : Keeps w3 _ (fun k => v1.ownBlock = some k) := Keeps.of_grown HG4.out (fun k e => e)
    have hS : ∀ k, S k -> k < W.heap.size := fun k e => by
     obtain ⟨_, _, _, _, _, _, _, hs⟩ := H.out
     exact (hs k e).2
    refine ⟨_, rfl, ?_, (HRD.out.below HB3.out).keeps hk4 (fun e => by have := hrow g e; have := HGL.out; omega) (fun k e e2 => by have := hrow k e2; have := hS k e; omega), ?_⟩
    ·have e : (List.take (min ws.length (List.replicate (many : Int).toNat (⟨#[]⟩ : ByteArray)).length) ws ++ List.drop (min ws.length (List.replicate (many : Int).toNat (⟨#[]⟩ : ByteArray)).length) (List.replicate (many : Int).toNat (⟨#[]⟩ : ByteArray))) = ws := by
      rw [List.length_replicate, Int.toNat_natCast, C1.out, Nat.min_self, List.take_of_length_le (by rw [C1.out]; exact Nat.le_refl _), List.drop_of_length_le (by rw [List.length_replicate]; exact Nat.le_refl _), List.append_nil]
     have := HO4.out
     rw [e] at this
     exact this
    ·have hk3 := ((Keeps.of_below HB1.out).trans HK.out).trans (Keeps.of_below HB3.out)
     exact ⟨hk4.os.trans hk3.os, hk4.tape.trans hk3.tape, hk4.output.trans hk3.output, Nat.le_trans hk3.size hk4.size, fun k hk hn => (hk4.block k (Nat.lt_of_lt_of_le hk hk3.size) (fun e => by have := hrow k e; omega)).trans (hk3.block k hk hn)⟩
   ·rw [if_neg (fun e => c2 e.2)]
    have q1 : ((ws.length : Int) == (many : Int)) = true := beq_iff_eq.2 (by omega)
    have q2 : ((ws.length : Int) != (many : Int)) = false := bne_eq_false_iff_eq.2 (by omega)
    have q3 : ((hd0 ws).toList == first.toList) = false := beq_eq_false_iff_ne.2 c2
    have q4 : ((hd0 ws).toList != first.toList) = true := bne_iff_ne.2 c2
    have z1 : (0 : Int) < (ws.length : Int) := by omega
    have z2 : 0 < ws.length := hcl
    clear h hm0 hm hl hs e1 e2 hb hws hss hcl c2 c1
    go_enter Tryz.func32, Tryz.ntmps32
    go_wp2_with (first
     | ((with_reducible refine gate_dst (N := 11) rfl ?_); refine Kd.R_make Kd.string (w0 := W) W.heap.size 9 ?hg (N := 11) ?hd 22 (.tmp 10) (.tmp 10) ?ho (many : Int) ?hx ?hy Tryz.underlying22 (.string ⟨#[]⟩) 16 info9 rfl (by decide) (by decide) (⟨#[]⟩ : ByteArray) (ok := fun _ => True) (okp := fun _ => True) rfl (fun _ _ => trivial) trivial ?h0 ?hl HBW.out (Nat.le_refl _) ?_; (case hg => rfl); (case hd => rfl); (case ho => rfl); (case hx => rfl); (case hy => rfl); (case h0 => omega); (case hl => have := HM.out.2; omega); intro v1 w1 ho1 hb1 hg1 hat1; have HO1 := am ho1; have HB1 := am hb1; clear ho1 hb1 hg1 hat1)
     | (go_at_call 33; with_reducible refine (HS.out _ HB1.out).mono ?_; rintro r w2 ⟨v2, rfl, hr, hR, hK⟩; rw [E2.out] at hR hr; have HRD := am hR; have HK := am hK; obtain ⟨A2, c2, ve, k0, k1, f0, f1, he, hf, hc⟩ := hR.cells; obtain rfl := he.no; obtain ⟨ad, cv, rfl, m0, m0'⟩ := cell1 hr; clear hr hR hK k0 f0 f1 hf hc)
     | (go_at_call 30; with_reducible refine (SP.out _).mono ?_; rintro r w3 ⟨v3, rfl, hr, hb3⟩; have HB3 := am hb3; have HR3 := am (HRD.out.below hb3); have k1x := (hb3.cell (p := ⟨g, 1, none⟩) HRD.out.lt).trans k1; have HBX := am (bal hb3 (.cells #[.string s] 89)); obtain ⟨Az, cz, vz, k0z, k1z, f0z, f1z, hez, hfz, hcz⟩ := (HRD.out.below HBX.out).cells; have m0z := (hb3.cell (p := ad) (row_lt m0')).trans m0'; have m0y := (hb3.cell (p := ad.add 0) (row_lt m0)).trans m0; obtain ⟨ad3, cw, rfl, m3, m3'⟩ := cell0 hr HCL.out; have HW := am (Kd.R_reads' hr).2.2; clear hr hb3 k0z f0z hez hfz hcz k1x))
    go_ret
    have h2 := (HRD.out.below HBX.out).fail w3.heap.size
    have hk3 := ((Keeps.of_below HB1.out).trans HK.out).trans ((Keeps.of_below HBX.out).trans h2.2)
    exact ⟨_, rfl, R_keeps (Kd.R_below (R_keeps HO1.out HK.out HGL.out) HBX.out) h2.2 HGL.out, h2.1, hk3⟩
  ·rw [if_neg (fun e => c1 e.1)]
   have q1 : ((ws.length : Int) == (many : Int)) = false := beq_eq_false_iff_ne.2 (by omega)
   have q2 : ((ws.length : Int) != (many : Int)) = true := bne_iff_ne.2 (by omega)
   clear h hm0 hm hl hs e1 e2 hb hws hss hcl c1
   go_enter Tryz.func32, Tryz.ntmps32
   go_wp2_with (first
     | ((with_reducible refine gate_dst (N := 11) rfl ?_); refine Kd.R_make Kd.string (w0 := W) W.heap.size 9 ?hg (N := 11) ?hd 22 (.tmp 10) (.tmp 10) ?ho (many : Int) ?hx ?hy Tryz.underlying22 (.string ⟨#[]⟩) 16 info9 rfl (by decide) (by decide) (⟨#[]⟩ : ByteArray) (ok := fun _ => True) (okp := fun _ => True) rfl (fun _ _ => trivial) trivial ?h0 ?hl HBW.out (Nat.le_refl _) ?_; (case hg => rfl); (case hd => rfl); (case ho => rfl); (case hx => rfl); (case hy => rfl); (case h0 => omega); (case hl => have := HM.out.2; omega); intro v1 w1 ho1 hb1 hg1 hat1; have HO1 := am ho1; have HB1 := am hb1; clear ho1 hb1 hg1 hat1)
     | (go_at_call 33; with_reducible refine (HS.out _ HB1.out).mono ?_; rintro r w2 ⟨v2, rfl, hr, hR, hK⟩; rw [E2.out] at hR hr; have HRD := am hR; have HK := am hK; obtain ⟨A2, c2, ve, k0, k1, f0, f1, he, hf, hc⟩ := hR.cells; obtain rfl := he.no; obtain ⟨ad, cv, rfl, m0, m0'⟩ := cell1 hr; clear hr hR hK k0 f0 f1 hf hc)
     | (go_at_call 30; with_reducible refine (SP.out _).mono ?_; rintro r w3 ⟨v3, rfl, hr, hb3⟩; have HB3 := am hb3; have HR3 := am (HRD.out.below hb3); have k1x := (hb3.cell (p := ⟨g, 1, none⟩) HRD.out.lt).trans k1; have HBX := am (bal hb3 (.cells #[.string s] 89)); obtain ⟨Az, cz, vz, k0z, k1z, f0z, f1z, hez, hfz, hcz⟩ := (HRD.out.below HBX.out).cells; have m0z := (hb3.cell (p := ad) (row_lt m0')).trans m0'; have m0y := (hb3.cell (p := ad.add 0) (row_lt m0)).trans m0; obtain ⟨ad3, cw, rfl, m3, m3'⟩ := cell0 hr HCL.out; have HW := am (Kd.R_reads' hr).2.2; clear hr hb3 k0z f0z hez hfz hcz k1x))
   go_ret
   have h2 := (HRD.out.below HBX.out).fail w3.heap.size
   have hk3 := ((Keeps.of_below HB1.out).trans HK.out).trans ((Keeps.of_below HBX.out).trans h2.2)
   exact ⟨_, rfl, R_keeps (Kd.R_below (R_keeps HO1.out HK.out HGL.out) HBX.out) h2.2 HGL.out, h2.1, hk3⟩
end Go.Proofs.YtlfenakgphmepaaGreatDoor.Root
end
section
namespace Go.Proofs.YtlfenakgphmepaaGreatDoor.Root
open Go.RowKit YtlfenakgphmepaaGreatDoorW.PrintWords YtlfenakgphmepaaGreatDoorW.PrintLast YtlfenakgphmepaaGreatDoorW.PrintMore YtlfenakgphmepaaGreatDoor.Conv Print Build
set_option linter.unusedVariables false
set_option linter.unusedSimpArgs false
abbrev Fk := S39
abbrev Rf := S83
def joinA (acc : ByteArray) : List ByteArray -> ByteArray
 | [] => acc
 | s :: t => joinA (acc ++ (s ++ (⟨#[10]⟩ : ByteArray))) t
def sizeT (l : List ByteArray) : Nat := (l.map fun s => s.size + 1).sum
theorem qz (s : ByteArray) (l : List ByteArray) : sizeT (s :: l) = s.size + 1 + sizeT l := by simp [sizeT]
theorem sizeT_drop (n : Nat) (l : List ByteArray) : sizeT (l.drop n) <= sizeT l := by
 induction n generalizing l with
 | zero => exact Nat.le_refl _
 | succ n ih => cases l with
  | nil => exact Nat.le_refl _
  | cons s t => rw [List.drop_succ_cons, qz]; have := ih t; omega
theorem sizeT_take (n : Nat) (l : List ByteArray) : sizeT (l.take n) <= sizeT l := by
 induction n generalizing l with
 | zero => exact Nat.zero_le _
 | succ n ih => cases l with
  | nil => exact Nat.le_refl _
  | cons s t => rw [List.take_succ_cons, qz, qz]; have := ih t; omega
theorem sizeT_mem {s : ByteArray} : ∀ {l : List ByteArray}, s ∈ l -> s.size + 1 <= sizeT l
 | x :: t, h => by
  rw [qz]
  rcases List.mem_cons.1 h with rfl | h
  ·omega
  ·have := sizeT_mem h; omega
theorem sizeT_len (l : List ByteArray) : l.length <= sizeT l := by
 induction l with
 | nil => exact Nat.le_refl _
 | cons s t ih => rw [qz, List.length_cons]; omega
theorem nth_mem {l : List ByteArray} {i : Nat} (h : i < l.length) : l.getD i ByteArray.empty ∈ l := by
 rw [List.getD_eq_getElem?_getD, List.getElem?_eq_getElem h]
 exact List.getElem_mem h
def nth (l : List ByteArray) (i : Nat) : ByteArray := l.getD i ByteArray.empty
abbrev linkedT : ByteArray := ⟨#[108, 105, 110, 107, 101, 100]⟩
abbrev forkT : ByteArray := ⟨#[102, 111, 114, 107]⟩
theorem words6_calls {W : World} {S : Nat -> Prop} {g : Nat} {l : List ByteArray} {e : Bool} (h : Rd W S g l e) (first : ByteArray) (hl : l.length <= 1000000000) (hs : ∀ s ∈ l, s.size <= 1000000000) :
  Calls Tryz.prog 32 #[.pointer (some ⟨g, 0, none⟩), .string first, .int .i64 6] W fun r w' => ∃ v, r = .returned v /\ Kd.R Kd.string 9 w' W.heap.size (fun _ => True) v (wordsF first 6 l e).1 /\ Rd w' S g (wordsF first 6 l e).2.1 (wordsF first 6 l e).2.2 /\ Keeps W w' (At g) := words_calls h first 6 (by decide) (by decide) hl hs
theorem words2_calls {W : World} {S : Nat -> Prop} {g : Nat} {l : List ByteArray} {e : Bool} (h : Rd W S g l e) (first : ByteArray) (hl : l.length <= 1000000000) (hs : ∀ s ∈ l, s.size <= 1000000000) :
  Calls Tryz.prog 32 #[.pointer (some ⟨g, 0, none⟩), .string first, .int .i64 2] W fun r w' => ∃ v, r = .returned v /\ Kd.R Kd.string 9 w' W.heap.size (fun _ => True) v (wordsF first 2 l e).1 /\ Rd w' S g (wordsF first 2 l e).2.1 (wordsF first 2 l e).2.2 /\ Keeps W w' (At g) := words_calls h first 2 (by decide) (by decide) hl hs
theorem sizeT_split (n : Nat) (l : List ByteArray) : sizeT (l.take n) + sizeT (l.drop n) = sizeT l := by
 have : sizeT (l.take n ++ l.drop n) = sizeT (l.take n) + sizeT (l.drop n) := by
  unfold sizeT
  rw [List.map_append, List.sum_append]
 rw [<- this, List.take_append_drop]
theorem some_size (n : Nat) (l : List ByteArray) (e : Bool) : sizeT (someF n l e).1 + sizeT (someF n l e).2.1 <= sizeT l := by
 unfold someF
 split
 ·exact Nat.le_of_eq (Nat.zero_add _)
 ·exact Nat.le_of_eq (sizeT_split n l)
theorem joinA_size (l : List ByteArray) : ∀ acc : ByteArray, (joinA acc l).size = acc.size + sizeT l := by
 induction l with
 | nil => intro acc; rfl
 | cons s t ih =>
  intro acc
  rw [joinA, ih, qz, ByteArray.size_append, ByteArray.size_append]
  show acc.size + (s.size + 1) + sizeT t = _
  omega
def forkF (G : ByteArray -> List Rf × Bool) (l : List ByteArray) (e : Bool) : Fk × List ByteArray × Bool :=
 let w := wordsF forkT 6 l e
 let m := decF (nth w.1 4)
 let o := decF (nth w.1 5)
 let s := someF m.1.toNat w.2.1 ((w.2.2 || !m.2) || !o.2)
 let r := G (joinA ⟨#[]⟩ s.1)
 let p := someF o.1.toNat s.2.1 (s.2.2 || !r.2)
 (⟨nth w.1 1, (nth w.1 2).toList == [108, 105, 110, 107, 101, 100], nth w.1 3, r.1, p.1⟩, p.2)
theorem splitB_size (sep : ByteArray) : ∀ (k : Nat) (s : ByteArray), ∀ p ∈ Lib.splitB sep 0 k s, p.size <= s.size
 | 0, s, p, h => by
  rw [Lib.splitB_zero, List.mem_singleton] at h
  rw [h]; exact Nat.le_refl _
 | k + 1, s, p, h => by
  unfold Lib.splitB at h
  split at h
  ·rw [List.mem_singleton] at h
   rw [h]; exact Nat.le_refl _
  ·rcases List.mem_cons.1 h with rfl | h
   ·rw [ByteArray.size_extract]; omega
   ·have := splitB_size sep k _ p h
    rw [ByteArray.size_extract] at this
    omega
theorem words_left (first : ByteArray) (many : Nat) (l : List ByteArray) (e : Bool) : sizeT (wordsF first many l e).2.1 <= sizeT l := by
 have h := some_size 1 l e
 unfold wordsF
 split
 ·show sizeT (someF 1 l e).2.1 <= _
  omega
 ·split
  ·show sizeT (someF 1 l e).2.1 <= _
   omega
  ·show sizeT (someF 1 l e).2.1 <= _
   omega
theorem hd0_size (l : List ByteArray) : (hd0 l).size <= sizeT l := by
 cases l with
 | nil => exact Nat.zero_le _
 | cons s t =>
  rw [qz]
  show s.size <= _
  omega
theorem words_size (first : ByteArray) (many : Nat) (l : List ByteArray) (e : Bool) : ∀ s ∈ (wordsF first many l e).1, s.size <= sizeT l := by
 intro s hs
 unfold wordsF at hs
 split at hs
 ·rw [(List.mem_replicate.1 hs).2]
  exact Nat.zero_le _
 ·split at hs
  ·exact Nat.le_trans (splitB_size _ _ _ s hs) (hd0_size l)
  ·rw [(List.mem_replicate.1 hs).2]
   exact Nat.zero_le _
theorem words_len (first : ByteArray) (many : Nat) (l : List ByteArray) (e : Bool) : (wordsF first many l e).1.length = many := by
 unfold wordsF
 split
 ·exact List.length_replicate
 ·split
  ·rename_i h
   exact h.1
  ·exact List.length_replicate
theorem cells6 {W : World} {base ty : Nat} {ok : Nat -> Prop} {v : Value} {xs : List ByteArray} (h : Kd.R Kd.string ty W base ok v xs) (hp : xs.length = 6) : ∃ gb c, v = .slice (some ⟨gb, 0, none⟩) 6 c /\ base <= gb /\ ∀ i, i < 6 -> W.cell? ⟨gb, i, none⟩ = some (.string (nth xs i)) := by
 obtain ⟨gb, cap, rfl, hb, _, _⟩ := Kd.R_form h (by omega)
 rw [hp] at h
 obtain ⟨ad, e, hc⟩ := (Kd.reads_of_C (enc := Value.string) (d := ByteArray.empty) (h1 := fun _ => rfl) (Kd.R_reads' h).2.2).2.2 (by omega)
 injection e with e
 subst e
 refine ⟨gb, cap, by rw [hp], hb, fun i hi => ?_⟩
 have := hc i (by omega)
 rw [add_plain] at this
 exact this
theorem cell_keeps {W W' : World} {own : Nat -> Prop} {p : Addr} {v : Value} (h : W.cell? p = some v) (hk : Keeps W W' own) (hn : ¬ own p.block) : W'.cell? p = some v := by
 have := hk.block p.block (row_lt h) hn
 unfold World.cell? at h ⊢
 rw [this]
 exact h
theorem qb {W W' : World} {p : Addr} {v : Value} (h : W.cell? p = some v) (hb : Below W.heap.size W W') : W'.cell? p = some v := cell_keeps (own := fun _ => False) h (Keeps.of_below hb) (fun e => e)
theorem there5 {W : World} {b : Nat} {x0 x1 x2 x3 x4 : Value} {t : TypeId} (h : W.heap[b]? = some (.cells #[x0, x1, x2, x3, x4] t (0, 0))) : W.there b 0 5 := by
 intro j hj
 refine ⟨?_, frozen_of_row _ b _ _ _ h⟩
 rw [cell_of_row _ b (0 + j) _ _ _ h]
 have : j = 0 ∨ j = 1 ∨ j = 2 ∨ j = 3 ∨ j = 4 := by omega
 rcases this with rfl | rfl | rfl | rfl | rfl <;> rfl
theorem set5 {W : World} {b : Nat} {t : TypeId} {y0 y1 y2 y3 y4 : Value} (x0 x1 x2 x3 x4 : Value) (h : W.heap[b]? = some (.cells #[y0, y1, y2, y3, y4] t (0, 0))) : (W.setCells b 0 [x0, x1, x2, x3, x4]).heap[b]? = some (.cells #[x0, x1, x2, x3, x4] t (0, 0)) :=
 (heap_set_same _ b 4 _ _ x4 ((heap_set_same _ b 3 _ _ x3 ((heap_set_same _ b 2 _ _ x2 ((heap_set_same _ b 1 _ _ x1 ((heap_set_same _ b 0 _ _ x0 h).trans rfl)).trans rfl)).trans rfl)).trans rfl)).trans rfl
theorem keeps_sets {b : Nat} : ∀ (vs : List Value) (o : Nat) (W : World), Keeps W (W.setCells b o vs) (fun k => k = b)
 | [], o, W => Keeps.refl _ _
 | v :: vs, o, W => (show Keeps W (W.setCell ⟨b, o, none⟩ v) (fun k => k = b) from Keeps.set rfl).trans (keeps_sets vs (o + 1) _)
theorem sz_alloc (w : World) (o : Obj) : (w.alloc o).heap.size = w.heap.size + 1 := Array.size_push _
def Tbl (B : Nat) (W : World) : Prop := Lib.TabBelow Tryz.prog B W "internal/strconv.uint64pow10" .u64 Lib.pow10Tab
theorem below_less {B C : Nat} {W W' : World} (h : Below B W W') (hc : C <= B) : Below C W W' := ⟨h.os, h.tape, h.output, h.size, fun k hk => h.block k (Nat.lt_of_lt_of_le hk hc)⟩
theorem Tbl.tb {B : Nat} {W : World} (h : Tbl B W) (hB : B <= W.heap.size) : Tb W := fun w' h' => h w' (below_less h' hB)
theorem Tbl.below {B : Nat} {W W' : World} (h : Tbl B W) (hb : Below B W W') : Tbl B W' := fun w' h' => h w' (hb.trans h')
theorem below_keeps {B : Nat} {W W' : World} {own : Nat -> Prop} (hk : Keeps W W' own) (hB : B <= W.heap.size) (ho : ∀ k, own k -> B <= k) : Below B W W' := ⟨hk.os, hk.tape, hk.output, hk.size, fun k hk2 => hk.block k (by omega) (fun e => by have := ho k e; omega)⟩
theorem fork_mid {W W6 : World} {S : Nat -> Prop} {g bx : Nat} {l : List ByteArray} {e : Bool} {x0 x1 x2 x3 x4 y0 y1 y2 y3 y4 : Value} {t t' : TypeId} (hR : Rd W6 S g l e) (hxg : bx ≠ g) (hW : W.heap.size <= bx) (hb : W6.heap[bx]? = some (.cells #[x0, x1, x2, x3, x4] t (0, 0))) (hr : W6.heap[W.heap.size]? = some (.cells #[y0, y1, y2, y3, y4] t' (0, 0))) (hS : ∀ k, S k -> k < W.heap.size) (hne : bx ≠ W.heap.size) (A : Option Addr) (c n : Nat) :
  Rd (W6.setCell ⟨bx, 3, none⟩ (.slice A n c)) S g l e /\ (W6.setCell ⟨bx, 3, none⟩ (.slice A n c)).heap[bx]? = some (.cells #[x0, x1, x2, .slice A n c, x4] t (0, 0)) /\ (W6.setCell ⟨bx, 3, none⟩ (.slice A n c)).heap[W.heap.size]? = some (.cells #[y0, y1, y2, y3, y4] t' (0, 0)) :=
 ⟨hR.keeps (own2 := fun k => k = bx) (Keeps.set rfl) (fun e => hxg e.symm) (fun k e e2 => by have := hS k e; have e3 : k = bx := e2; omega), (heap_set_same W6 bx 3 _ _ _ hb).trans rfl, (Below.heap_setCell W6 ⟨bx, 3, none⟩ _ _ (fun e => hne e.symm)).trans hr⟩
theorem fork_end {W W7 w8 : World} {g bx : Nat} {x0 x1 x2 x3 x4 y0 y1 y2 y3 y4 : Value} {t t' : TypeId} (hxg : bx ≠ g) (hgW : g < W.heap.size) (hne : bx ≠ W.heap.size) (hb : W7.heap[bx]? = some (.cells #[x0, x1, x2, x3, x4] t (0, 0))) (hr : W7.heap[W.heap.size]? = some (.cells #[y0, y1, y2, y3, y4] t' (0, 0))) (hK : Keeps W7 w8 (At g)) (A : Option Addr) (c n : Nat) :
  w8.heap[bx]? = some (.cells #[x0, x1, x2, x3, x4] t (0, 0)) /\ (w8.setCell ⟨bx, 4, none⟩ (.slice A n c)).heap[bx]? = some (.cells #[x0, x1, x2, x3, .slice A n c] t (0, 0)) /\ (w8.setCell ⟨bx, 4, none⟩ (.slice A n c)).heap[W.heap.size]? = some (.cells #[y0, y1, y2, y3, y4] t' (0, 0)) := by
 have h8 := (hK.block bx (lt_box hb) hxg).trans hb
 have h9 := (hK.block W.heap.size (lt_box hr) (fun e => by have e2 : W.heap.size = g := e; omega)).trans hr
 exact ⟨h8, (heap_set_same w8 bx 4 _ _ _ h8).trans rfl, (Below.heap_setCell w8 ⟨bx, 4, none⟩ _ _ (fun e => hne e.symm)).trans h9⟩
theorem R_keepsO {α : Type} {d : Kd α} {ty : Nat} {W W' : World} {base : Nat} {own ok : Nat -> Prop} {v : Value} {xs : List α} (h : Kd.R d ty W base ok v xs) (hk : Keeps W W' own) (ho : ∀ k, own k -> k < base) : Kd.R d ty W' base ok v xs :=
 Kd.R_mono (Kd.R_step (Kd.R_bound h) (fun k e hl => hk.block k hl (fun e2 => by have := e.2.1; have := ho k e2; omega))) (fun k e => e.1)
theorem keeps_ext {W W5 W9 : World} {own own' : Nat -> Prop} (h : Keeps W W5 own) (k : Keeps W5 W9 own') (hx : ∀ k, own' k -> own k ∨ W.heap.size <= k) : Keeps W W9 own :=
 ⟨k.os.trans h.os, k.tape.trans h.tape, k.output.trans h.output, Nat.le_trans h.size k.size, fun i hi hn => (k.block i (Nat.lt_of_lt_of_le hi h.size) (fun e => (hx i e).elim hn (fun e => by omega))).trans (h.block i hi hn)⟩
theorem gate_store {P : Program} {ops : Array Oper} {rest : List Oper} {o : Oper} {a : Act} {Q : Exit -> Act -> World -> Prop} {W : World} (t : TypeId) (x y : Operand) (_ho : o.op = .store t x y) (h : wpList P ops Q (o :: rest) a W) : wpList P ops Q (o :: rest) a W := h
theorem drew_cell {W : World} {p : Addr} {v : Value} (h : W.cell? p = some v) : W.drew.cell? p = some v := h
theorem fork_fin {W W5 W6 w8 : World} {S : Nat -> Prop} {g bx : Nat} {l : List ByteArray} {e : Bool} {rl : List Rf} {pl : List ByteArray} {A6 A8 : Option Addr} {c6 c8 b8 : Nat} (vs : List Value) (hKW : Keeps W W5 (At g)) (hB6 : Below W5.heap.size W5 W6) (hxg : bx ≠ g) (hWb : W.heap.size <= bx) (hbl : bx < W5.heap.size) (hgW : g < W.heap.size) (hWl : W.heap.size < W5.heap.size) (hS : ∀ k, S k -> k < W.heap.size)
  (hr6 : Kd.R k83 83 W6 W5.heap.size (fun _ => True) (.slice A6 rl.length c6) rl) (hK68 : Keeps W6 w8 (fun k => k = bx ∨ k = g)) (hb8 : W5.heap.size <= b8) (hr8 : Kd.R Kd.string 9 w8 b8 (fun _ => True) (.slice A8 pl.length c8) pl) (hR8 : Rd w8 S g l e) (v : Value) :
  (Kd.R k83 83 ((w8.setCell ⟨bx, 4, none⟩ v).setCells W.heap.size 0 vs) W.heap.size (fun _ => True) (.slice A6 rl.length c6) rl /\ Kd.R Kd.string 9 ((w8.setCell ⟨bx, 4, none⟩ v).setCells W.heap.size 0 vs) W.heap.size (fun _ => True) (.slice A8 pl.length c8) pl) /\
   Rd ((w8.setCell ⟨bx, 4, none⟩ v).setCells W.heap.size 0 vs) S g l e /\ Keeps W ((w8.setCell ⟨bx, 4, none⟩ v).setCells W.heap.size 0 vs) (At g) := by
 have hk89 : Keeps w8 ((w8.setCell ⟨bx, 4, none⟩ v).setCells W.heap.size 0 vs) (fun k => k = bx ∨ k = W.heap.size) := (Keeps.set (Or.inl rfl)).trans ((keeps_sets vs 0 _).mono (fun _ e => Or.inr e))
 have hk69 : Keeps W6 ((w8.setCell ⟨bx, 4, none⟩ v).setCells W.heap.size 0 vs) (fun k => (k = bx ∨ k = g) ∨ k = W.heap.size) := (hK68.mono (fun _ e => Or.inl e)).trans (hk89.mono (fun _ e => e.elim (fun e => Or.inl (Or.inl e)) Or.inr))
 refine ⟨⟨Kd.R_lower (R_keepsO hr6 hk69 (fun k e => by rcases e with (e | e) | e <;> omega)) (by omega), Kd.R_lower (R_keepsO hr8 hk89 (fun k e => by rcases e with e | e <;> omega)) (by omega)⟩, hR8.keeps hk89 (fun e => by rcases e with e | e <;> omega) (fun k e e2 => by have := hS k e; rcases e2 with e2 | e2 <;> omega), ?_⟩
 exact (keeps_ext hKW ((Keeps.of_below (own := fun k => (k = bx ∨ k = g) ∨ k = W.heap.size) hB6).trans hk69) (fun k e => by rcases e with (e | e) | e; exact Or.inr (by omega); exact Or.inl e; exact Or.inr (by omega)))
theorem fork_fail {W W6 : World} {S : Nat -> Prop} {g bx : Nat} {l : List ByteArray} {e : Bool} {o1 o2 : Obj} (h : Rd W6 S g l e) (hb : W6.heap[bx]? = some o1) (hr : W6.heap[W.heap.size]? = some o2) (hxg : bx ≠ g) (hgW : g < W.heap.size) (s : ByteArray) :
  Rd ((W6.alloc (.cells #[.string s] 89)).setCell ⟨g, 1, none⟩ (.iface 87 (.pointer (some ⟨W6.heap.size, 0, none⟩)))) S g l true /\ Keeps W6 ((W6.alloc (.cells #[.string s] 89)).setCell ⟨g, 1, none⟩ (.iface 87 (.pointer (some ⟨W6.heap.size, 0, none⟩)))) (At g) /\
   ((W6.alloc (.cells #[.string s] 89)).setCell ⟨g, 1, none⟩ (.iface 87 (.pointer (some ⟨W6.heap.size, 0, none⟩)))).heap[bx]? = some o1 /\ ((W6.alloc (.cells #[.string s] 89)).setCell ⟨g, 1, none⟩ (.iface 87 (.pointer (some ⟨W6.heap.size, 0, none⟩)))).heap[W.heap.size]? = some o2 := by
 have h1 := (h.below (bal (Below.refl _ _) (.cells #[.string s] 89))).fail W6.heap.size
 have hk : Keeps W6 _ (At g) := (Keeps.of_below (bal (Below.refl _ _) (.cells #[.string s] 89))).trans h1.2
 exact ⟨h1.1, hk, (hk.block bx (lt_box hb) hxg).trans hb, (hk.block _ (lt_box hr) (fun e => by have e2 : W.heap.size = g := e; omega)).trans hr⟩
set_option maxHeartbeats 8000000 in
set_option maxRecDepth 100000 in
theorem fork_calls {W : World} {S : Nat -> Prop} {g : Nat} {l : List ByteArray} {e : Bool} (h : Rd W S g l e) (hz : sizeT l <= 1000000000) {B : Nat} (hT : Tbl B W) (hBg : B <= g) (G : ByteArray -> List Rf × Bool) (k : Nat) (hG : ∀ t : ByteArray, t.size <= sizeT l -> refs_Get.f k t = some (G t)) :
  Calls Tryz.prog 34 #[.pointer (some ⟨g, 0, none⟩)] W fun r w' => ∃ A3 c3 A4 c4, r = .returned (.agg #[.string (forkF G l e).1.f0, .bool (forkF G l e).1.f1, .string (forkF G l e).1.f2, .slice A3 (forkF G l e).1.f3.length c3, .slice A4 (forkF G l e).1.f4.length c4]) /\
   (Kd.R k83 83 w' W.heap.size (fun _ => True) (.slice A3 (forkF G l e).1.f3.length c3) (forkF G l e).1.f3 /\ Kd.R Kd.string 9 w' W.heap.size (fun _ => True) (.slice A4 (forkF G l e).1.f4.length c4) (forkF G l e).1.f4) /\ Rd w' S g (forkF G l e).2.1 (forkF G l e).2.2 /\ Keeps W w' (At g) := by
 have H := am h
 have HT := am hT
 have HG := am hG
 have HBG := am hBg
 have HZ := am hz
 have hll := sizeT_len l
 have HWD := am (fun (W' : World) (hb : Below W.heap.size W W') => words6_calls (h.below hb) forkT (by omega) (fun s hs => by have := sizeT_mem hs; omega))
 have hlen := words_len forkT 6 l e
 have hwz : ∀ s ∈ (wordsF forkT 6 l e).1, s.size <= 1000000000 := fun s hs => by have := words_size forkT 6 l e s hs; omega
 have hl1 : sizeT (wordsF forkT 6 l e).2.1 <= sizeT l := words_left forkT 6 l e
 obtain ⟨ws, l1, e1, hw⟩ : ∃ ws l1 e1, wordsF forkT 6 l e = (ws, l1, e1) := ⟨_, _, _, rfl⟩
 have hfk : forkF G l e = (⟨nth ws 1, (nth ws 2).toList == [108, 105, 110, 107, 101, 100], nth ws 3, (G (joinA ⟨#[]⟩ (someF (decF (nth ws 4)).1.toNat l1 ((e1 || !(decF (nth ws 4)).2) || !(decF (nth ws 5)).2)).1)).1, (someF (decF (nth ws 5)).1.toNat (someF (decF (nth ws 4)).1.toNat l1 ((e1 || !(decF (nth ws 4)).2) || !(decF (nth ws 5)).2)).2.1 ((someF (decF (nth ws 4)).1.toNat l1 ((e1 || !(decF (nth ws 4)).2) || !(decF (nth ws 5)).2)).2.2 || !(G (joinA ⟨#[]⟩ (someF (decF (nth ws 4)).1.toNat l1 ((e1 || !(decF (nth ws 4)).2) || !(decF (nth ws 5)).2)).1)).2)).1⟩, (someF (decF (nth ws 5)).1.toNat (someF (decF (nth ws 4)).1.toNat l1 ((e1 || !(decF (nth ws 4)).2) || !(decF (nth ws 5)).2)).2.1 ((someF (decF (nth ws 4)).1.toNat l1 ((e1 || !(decF (nth ws 4)).2) || !(decF (nth ws 5)).2)).2.2 || !(G (joinA ⟨#[]⟩ (someF (decF (nth ws 4)).1.toNat l1 ((e1 || !(decF (nth ws 4)).2) || !(decF (nth ws 5)).2)).1)).2)).2) := by
  unfold forkF
  rw [hw]
 rw [hfk]
 rw [hw] at hlen hwz hl1 HWD
 have hda := decF_bd (nth ws 4)
 have hdb := decF_bd (nth ws 5)
 obtain ⟨m, b1, hA⟩ : ∃ (m : Nat) (b : Bool), decF (nth ws 4) = ((m : Int), b) := ⟨(decF (nth ws 4)).1.toNat, (decF (nth ws 4)).2, Prod.ext (by show _ = _; rw [Int.toNat_of_nonneg hda.1]) rfl⟩
 obtain ⟨n, b2, hB⟩ : ∃ (m : Nat) (b : Bool), decF (nth ws 5) = ((m : Int), b) := ⟨(decF (nth ws 5)).1.toNat, (decF (nth ws 5)).2, Prod.ext (by show _ = _; rw [Int.toNat_of_nonneg hdb.1]) rfl⟩
 rw [hA] at hda ⊢
 rw [hB] at hdb ⊢
 simp only [Int.toNat_natCast] at hda hdb ⊢
 generalize hSA : someF m l1 ((e1 || !b1) || !b2) = sa
 obtain ⟨rl, ir, hRG⟩ : ∃ rl ir, G (joinA ⟨#[]⟩ sa.1) = (rl, ir) := ⟨_, _, rfl⟩
 rw [hRG]
 generalize hPB : someF n sa.2.1 (sa.2.2 || !ir) = pb
 have HMN : Asd (m <= 4611686018427387904 /\ n <= 4611686018427387904) := ⟨by omega⟩
 have HSA := am hSA
 have HRG := am hRG
 have HPB := am hPB
 have HAA := am (And.intro hA hB)
 have HW4 : Asd ((nth ws 4).size <= 1000000000) := ⟨hwz _ (nth_mem (by omega))⟩
 have HW5 : Asd ((nth ws 5).size <= 1000000000) := ⟨hwz _ (nth_mem (by omega))⟩
 clear h hz hT hG hfk hw hBg hda hdb hSA hRG hPB
 obtain ⟨W0, hW0, hb0, hs0, hr0⟩ : ∃ W0, W.alloc (.cells #[.string ⟨#[]⟩, .bool false, .string ⟨#[]⟩, .slice none 0 0, .slice none 0 0] 39) = W0 /\ Below W.heap.size W W0 /\ W0.heap.size = W.heap.size + 1 /\ W0.heap[W.heap.size]? = some (.cells #[.string ⟨#[]⟩, .bool false, .string ⟨#[]⟩, .slice none 0 0, .slice none 0 0] 39 (0, 0)) := ⟨_, rfl, bal (Below.refl _ _) _, sz_alloc _ _, heap_alloc_new _ _⟩
 have HW0 := am hW0
 have HB0 := am (And.intro hb0 (And.intro hs0 hr0))
 clear hW0 hb0 hs0 hr0
 go_enter Tryz.func34, Tryz.ntmps34
 go_wp2_with (go_at_call 32; with_reducible refine (HWD.out _ (bal (Below.refl _ _) _)).mono ?_)
 rintro r W1 v1 rfl hr hR hK
 rw [HW0.out] at hK
 obtain ⟨gb, cw, rfl, hbs, hc⟩ := cells6 hr hlen
 have c1 := hc 1 (by decide)
 have c2 := hc 2 (by decide)
 have c3 := hc 3 (by decide)
 have c4 := hc 4 (by decide)
 have c5 := hc 5 (by decide)
 have HR1 := am hR
 have HK1 := am hK
 have hab : gb ≠ g := by
  have := H.out.lt
  omega
 clear hr hR hK hc
 go_wp2
 refine start_ (n := 13) (S := fun w' => w'.cell? ⟨gb, 1, none⟩ = some (.string (nth ws 1)) /\ w'.cell? ⟨gb, 2, none⟩ = some (.string (nth ws 2)) /\ w'.cell? ⟨gb, 3, none⟩ = some (.string (nth ws 3))) (ds := [12]) (bA 13 0) (by kernel_rfl) rfl rfl ⟨(drew_cell c1), (drew_cell c2), (drew_cell c3)⟩ (fun hHeld => ?_)
 refine pz_ 0 14 (bA 13 1) (by kernel_rfl) ?_
 refine pz_ 1 15 (bA 13 3) (by kernel_rfl) ?_
 refine pz_ 3 17 (bA 13 11) (by kernel_rfl) ?_
 refine pz_ 4 18 (bA 13 27) (by kernel_rfl) ?_
 refine pz_ 7 21 (bA 13 155) (by kernel_rfl) ?_
 refine pz_ 8 22 (bA 13 411) (by kernel_rfl) ?_
 refine tz_ 2 16 (bA 13 415) (by kernel_rfl) hHeld ?_
 refine tz_ 5 19 (bA 13 447) (by kernel_rfl) hHeld ?_
 refine pz_ 6 20 (bA 13 511) (by kernel_rfl) ?_
 refine tz_ 9 23 (bA 13 1023) (by kernel_rfl) hHeld ?_
 refine pz_ 10 24 (bA 13 2047) (by kernel_rfl) ?_
 refine one_ (i := 11) (N := some 4) (bA 13 4095) rfl rfl (by kernel_rfl) (by decide) (fun K hK => ?_)
 refine value_ (w1 := ?_) (v := ?_) (by rfl) rfl ?_ ?_
 rotate_left 2
 ·go_simp
  constructor
  ·rfl
  ·rfl
 generalize hwx : World.alloc _ _ = wx
 have hx := heap_alloc_new W1 (.cells #[.string ⟨#[]⟩, .bool false, .string ⟨#[]⟩, .slice none 0 0, .slice none 0 0] 39)
 rw [hwx] at hx
 have hbx : Below W1.heap.size W1 wx := by rw [<- hwx]; exact bal (Below.refl _ _) _
 clear hwx
 refine hK.out _ _ ⟨(drew_cell (qb c1 hbx)), (drew_cell (qb c2 hbx)), (drew_cell (qb c3 hbx))⟩ (fun hHeld => ?_)
 clear hK K
 refine nz_ 4 ?_
 refine last_ (i := 12) (N := none) (bA 13 8191) rfl rfl (by kernel_rfl) (by decide) (fun K hK => ?_)
 rw [if_pos (by rfl)]
 refine wp_store_mid 39 (.tmp 4) (.tmp 24) (by rfl) W1.heap.size 0 #[.string (nth ws 1), .bool ((nth ws 2).toList == [108, 105, 110, 107, 101, 100]), .string (nth ws 3), .slice none 0 0, .slice none 0 0] (by rfl) (by rfl) (there5 (show wx.drew.heap[W1.heap.size]? = _ from hx)) (by kernel_rfl) (by simp [Value.oneCell']) ?_
 refine hK.out _ _ ?_
 refine norm_ (a' := ?_) ?_ ?_
 rotate_left
 ·show Act.put _ none _ = _
  simp only [Act.put, zA, zB, zC, i64_w, i32_w]
  rfl
 clear hK K
 refine done_ (by kernel_rfl) ?_
 have hx2 := set5 (.string (nth ws 1)) (.bool ((nth ws 2).toList == [108, 105, 110, 107, 101, 100])) (.string (nth ws 3)) (.slice none 0 0) (.slice none 0 0) (show wx.drew.heap[W1.heap.size]? = _ from hx)
 have hk2 := keeps_sets (b := W1.heap.size) [.string (nth ws 1), .bool ((nth ws 2).toList == [108, 105, 110, 107, 101, 100]), .string (nth ws 3), .slice none 0 0, .slice none 0 0] 0 wx.drew
 generalize hWA : World.setCells _ _ _ _ = WA
 rw [show World.setCells wx.drew W1.heap.size 0 [.string (nth ws 1), .bool ((nth ws 2).toList == [108, 105, 110, 107, 101, 100]), .string (nth ws 3), .slice none 0 0, .slice none 0 0] = WA from hWA] at hx2 hk2
 have hBA : Below W1.heap.size W1 WA := ⟨hk2.os.trans hbx.os, hk2.tape.trans hbx.tape, hk2.output.trans hbx.output, Nat.le_trans hbx.size hk2.size, fun k hk => (hk2.block k (Nat.lt_of_lt_of_le hk hbx.size) (fun e => by omega)).trans (hbx.block k hk)⟩
 have hlW := H.out.lt
 have hs0 := HB0.out.2.1
 have hk1s := HK1.out.size
 have hsz1 : W.heap.size <= W1.heap.size := by omega
 have hbg := HBG.out
 have hT0 : Tbl B W0 := HT.out.below (below_less HB0.out.1 (by omega))
 have hT1 : Tbl B W1 := hT0.below (below_keeps HK1.out (by omega) (fun k e => by have e2 : k = g := e; omega))
 have hTA : Tbl B WA := hT1.below (below_less hBA (by omega))
 have HTA := am hTA
 have HRA := am (HR1.out.below hBA)
 have HBX := am hx2
 have HBA := am hBA
 replace c4 := qb c4 hBA
 replace c5 := qb c5 hBA
 have HGA := am (Nat.le_trans HBG.out (Nat.le_of_lt (HR1.out.below hBA).lt))
 clear hx2 hk2 hBA hTA hT1 hT0 hWA hx hbx c1 c2 c3 hHeld
 have hD : Below WA.heap.size WA WA.drew := bd1 (Below.refl _ _)
 have hTD : Tbl B WA.drew := HTA.out.below (below_less hD HGA.out)
 have HTD := am hTD
 have HN4 := am (number_calls (HRA.out.below hD) (nth ws 4) HW4.out (hTD.tb (show B <= WA.drew.heap.size from HGA.out)))
 clear hD hTD
 go_wp2
 refine start_ (n := 12) (S := fun w' => w'.cell? ⟨gb, 4, none⟩ = some (.string (nth ws 4)) /\ w'.cell? ⟨gb, 5, none⟩ = some (.string (nth ws 5))) (ds := []) (bA 12 0) (by kernel_rfl) rfl rfl ⟨(drew_cell c4), (drew_cell c5)⟩ (fun hHeld => ?_)
 refine pz_ 0 25 (bA 12 1) (by kernel_rfl) ?_
 refine pz_ 1 26 (bA 12 3) (by kernel_rfl) ?_
 refine pz_ 2 27 (bA 12 7) (by kernel_rfl) ?_
 refine pz_ 5 30 (bA 12 39) (by kernel_rfl) ?_
 refine pz_ 6 31 (bA 12 103) (by kernel_rfl) ?_
 refine pz_ 7 32 (bA 12 231) (by kernel_rfl) ?_
 refine tz_ 3 28 (bA 12 239) (by kernel_rfl) hHeld ?_
 refine tz_ 8 33 (bA 12 495) (by kernel_rfl) hHeld ?_
 refine one_ (i := 4) (N := some 29) (bA 12 511) rfl rfl (by kernel_rfl) (by decide) (fun K hK => ?_)
 refine goes_ Tryz.func31 (by kernel_rfl) rfl #[.pointer (some ⟨g, 0, none⟩), .string (nth ws 4)] (by rfl) rfl rfl (by simp only [List.map_toArray, List.map_cons, List.map_nil]; rfl) ?_
 with_reducible refine (HN4.out).mono ?_
 rintro e w3 ⟨rfl, hR3, hK3⟩
 refine ⟨_, rfl, ?_⟩
 have HT3 := am (HTD.out.below (below_keeps hK3 (show B <= WA.drew.heap.size from HGA.out) (fun k e => by have e2 : k = g := e; rw [e2]; exact HBG.out)))
 have HN5 := am (number_calls hR3 (nth ws 5) HW5.out (HT3.out.tb (Nat.le_trans (show B <= WA.drew.heap.size from HGA.out) hK3.size)))
 have hC3 : w3.cell? ⟨gb, 4, none⟩ = some (.string (nth ws 4)) /\ w3.cell? ⟨gb, 5, none⟩ = some (.string (nth ws 5)) := ⟨cell_keeps (drew_cell c4) hK3 hab, cell_keeps (drew_cell c5) hK3 hab⟩
 refine hK.out _ _ ⟨hC3.1, hC3.2⟩ (fun hHeld => ?_)
 clear hK K
 refine nz_ 29 ?_
 refine one_ (i := 9) (N := some 34) (bA 12 1023) rfl rfl (by kernel_rfl) (by decide) (fun K hK => ?_)
 refine goes_ Tryz.func31 (by kernel_rfl) rfl #[.pointer (some ⟨g, 0, none⟩), .string (nth ws 5)] (by rfl) rfl rfl (by simp only [List.map_toArray, List.map_cons, List.map_nil]; rfl) ?_
 with_reducible refine (HN5.out).mono ?_
 rintro e w4 ⟨rfl, hR4, hK4⟩
 refine ⟨_, rfl, ?_⟩
 have hC4 : w4.cell? ⟨gb, 4, none⟩ = some (.string (nth ws 4)) /\ w4.cell? ⟨gb, 5, none⟩ = some (.string (nth ws 5)) := ⟨cell_keeps hC3.1 hK4 hab, cell_keeps hC3.2 hK4 hab⟩
 refine hK.out _ _ ⟨hC4.1, hC4.2⟩ (fun hHeld => ?_)
 clear hK K
 refine nz_ 34 ?_
 refine pz_ 10 5 (bA 12 2047) (by kernel_rfl) ?_
 refine pz_ 11 6 (bA 12 4095) (by kernel_rfl) ?_
 refine done_ (by kernel_rfl) ?_
 rw [HAA.out.1] at hR3
 rw [HAA.out.1, HAA.out.2] at hR4
 have hk3s : WA.heap.size <= w3.heap.size := hK3.size
 have hk4s := hK4.size
 have hkas := HBA.out.size
 have hxg : W1.heap.size ≠ g := by omega
 have hbox : w4.heap[W1.heap.size]? = WA.heap[W1.heap.size]? := (hK4.block _ (by have := lt_box HBX.out; omega) hxg).trans (hK3.block _ (lt_box HBX.out) hxg)
 have hres : w4.heap[W.heap.size]? = W0.heap[W.heap.size]? := (hK4.block _ (by omega) (fun e => by have e2 : W.heap.size = g := e; omega)).trans ((hK3.block _ (show W.heap.size < WA.heap.size by omega) (fun e => by have e2 : W.heap.size = g := e; omega)).trans ((HBA.out.block _ (by omega)).trans (HK1.out.block _ (by omega) (fun e => by have e2 : W.heap.size = g := e; omega))))
 rw [HBX.out] at hbox
 rw [HB0.out.2.2] at hres
 have hKW : Keeps W w4 (At g) := ((Keeps.of_below HB0.out.1).trans HK1.out).trans (((Keeps.of_below HBA.out).trans (Keeps.of_below (bd1 (Below.refl _ _)))).trans (hK3.trans hK4))
 have HBOX := am hbox
 have HRES := am hres
 have HKW := am hKW
 have HR4 := am hR4
 have hll1 := sizeT_len l1
 have HSM := am (some_calls hR4 m HMN.out.1 (by have := HZ.out; omega))
 rw [HSA.out] at HSM
 generalize W1.heap.size = bx at HBOX hxg hsz1 hk1s hkas HBX HBA ⊢
 have HBL := am (And.intro hxg (And.intro hsz1 (And.intro hlW hl1)))
 have HNE : Asd (bx ≠ W.heap.size) := ⟨by omega⟩
 have HSL : Asd (∀ k, S k -> k < W.heap.size) := ⟨fun k e => by
  obtain ⟨_, _, _, _, _, _, _, hs⟩ := H.out
  exact (hs k e).2⟩
 clear HBX HBA HTD HT3 HN4 HN5 hR3 hK3 hC3 hR4 hK4 hC4 hbox hres hKW hHeld hA hB c4 c5 hk3s hk4s hkas hk1s HWD HR1 HK1 HRA HTA HB0 HW0 hab hbs hwz hlen hll hll1
 clear hs0 hxg hsz1 hlW hl1 hbg HGA
 go_wp2_with (go_at_call 33; with_reducible refine HSM.out.mono ?_; rintro r w5 ⟨v5, rfl, hr5, hR5, hK5⟩; have HR5 := am hr5; have HRD5 := am hR5; have HK5 := am hK5; obtain ⟨A5, cw5, rfl⟩ := Kd.R_slice hr5; clear hr5 hR5 hK5)
 have hss := some_size m l1 ((e1 || !b1) || !b2)
 rw [HSA.out] at hss
 have HSS : Asd (sizeT sa.1 <= sizeT l /\ sizeT sa.2.1 <= sizeT l /\ sizeT l <= 1000000000) := ⟨by have := HBL.out.2.2.2; omega, by have := HBL.out.2.2.2; omega, HZ.out⟩
 have hmax : sa.1.length <= 9223372036854775807 := by have := sizeT_len sa.1; have := HSS.out; omega
 clear hss HSM
 go_loopg [7, 39] sa.1.length (fun gg s7 s39 wr => ∃ (kk : Nat) (acc : ByteArray), kk <= sa.1.length /\ sa.1.length - kk <= gg /\ s39 = .int .i64 kk /\ s7 = .string acc /\ Asd (joinA acc (sa.1.drop kk) = joinA ⟨#[]⟩ sa.1 /\ acc.size + sizeT (sa.1.drop kk) <= 1000000000) /\ wr = w5)
 case atStart => exact ⟨0, ⟨#[]⟩, Nat.zero_le _, by omega, rfl, rfl, ⟨rfl, by have := HSS.out; show 0 + sizeT sa.1 <= _; omega⟩, rfl⟩
 case round =>
  obtain ⟨kk, acc, hkk, hg, rfl, rfl, ⟨A, hac⟩, rfl⟩ := hrel
  by_cases hlt : kk < sa.1.length
  ·have hltz : (kk : Int) < (sa.1.length : Int) := by omega
   obtain ⟨ad, rfl, hc⟩ := (Kd.reads_of_C (enc := Value.string) (d := ByteArray.empty) (h1 := fun _ => rfl) (Kd.R_reads' HR5.out).2.2).2.2 (by omega)
   have hcell := hc kk hlt
   clear hc
   have hx : sa.1.getD kk ByteArray.empty = sa.1[kk] := by rw [List.getD_eq_getElem?_getD, List.getElem?_eq_getElem hlt]; rfl
   rw [hx] at hcell
   rw [List.drop_eq_getElem_cons hlt] at A hac
   rw [qz] at hac
   generalize sa.1[kk] = x at hcell A hac
   have z1 : x.size + 1 <= 9223372036854775807 := by omega
   have z2 : acc.size + x.size + 1 <= 9223372036854775807 := by omega
   have z3 : acc.size + (x.size + 1) <= 9223372036854775807 := by omega
   have z4 : acc.size + (x ++ (⟨#[10]⟩ : ByteArray)).size <= 9223372036854775807 := by rw [ByteArray.size_append]; show acc.size + (x.size + 1) <= _; omega
   have HA := am A
   have HAC := am hac
   clear A hac hx
   go_wp2
   go_roundg (sa.1.length - (kk + 1))
   case measure => omega
   case rel =>
    refine ⟨kk + 1, _, by omega, by omega, by go_num, rfl, ⟨HA.out, ?_⟩, rfl⟩
    have := HAC.out
    rw [ByteArray.size_append, ByteArray.size_append]
    show acc.size + (x.size + 1) + _ <= _
    omega
  ·obtain rfl : kk = sa.1.length := by omega
   rw [List.drop_length] at A hac
   have A' : acc = joinA ⟨#[]⟩ sa.1 := A
   have hgk := HG.out acc (by rw [A', joinA_size]; show 0 + sizeT sa.1 <= _; have := HSS.out; omega)
   rw [A', HRG.out] at hgk
   rw [<- A'] at hgk
   have HGK := am hgk
   clear A A' hac hgk
   cases ir with
   | true =>
    have HBX5 := am ((HK5.out.block _ (lt_box HBOX.out) HBL.out.1).trans HBOX.out)
    have HRS5 := am ((HK5.out.block _ (lt_box HRES.out) (fun e => by have e2 : W.heap.size = g := e; have := HBL.out.2.2.1; omega)).trans HRES.out)
    have HKW5 := am (HKW.out.trans HK5.out)
    have HPB1 : Asd (someF n sa.2.1 sa.2.2 = pb) := ⟨by simpa using HPB.out⟩
    have HNN : Asd (sa.2.1.length <= 1000000000) := ⟨by have := sizeT_len sa.2.1; have := HSS.out.2; omega⟩
    clear HBOX HRES HKW HK5 HR4
    go_wp2_with (first
     | (go_at_call 58; with_reducible refine (refs_Get.calls k acc rl true _ HGK.out).mono ?_; rintro r w6 ⟨v6, rfl, hr6, hb6⟩; obtain ⟨A6, c6, rfl⟩ := Kd.R_slice hr6; have HR6 := am hr6; have HB6 := am hb6; have HS := am (fork_mid (HRD5.out.below hb6) HBL.out.1 HBL.out.2.1 (qB hb6 HBX5.out) (qB hb6 HRS5.out) HSL.out HNE.out A6 c6 rl.length); have hsm := some_calls HS.out.1 n HMN.out.2 HNN.out; rw [HPB1.out] at hsm; have HSM := am hsm; clear hsm; obtain ⟨k3, f3⟩ := qx (qB hb6 HBX5.out) 3 rfl; clear hr6 hb6)
     | (go_at_call 33; with_reducible refine HSM.out.mono ?_; rintro r w8 ⟨v8, rfl, hr8, hR8, hK8⟩; obtain ⟨A8, c8, rfl⟩ := Kd.R_slice hr8; have HR8 := am hr8; have HRD8 := am hR8; have HK8 := am hK8; have HE := am (fork_end HBL.out.1 HBL.out.2.2.1 HNE.out HS.out.2.1 HS.out.2.2 hK8 A8 c8 pb.1.length); obtain ⟨k4, f4⟩ := qx HE.out.1 4 rfl; obtain ⟨m0, n0⟩ := qx HE.out.2.1 0 rfl; obtain ⟨m1, n1⟩ := qx HE.out.2.1 1 rfl; obtain ⟨m2, n2⟩ := qx HE.out.2.1 2 rfl; obtain ⟨m3, n3⟩ := qx HE.out.2.1 3 rfl; obtain ⟨m4, n4⟩ := qx HE.out.2.1 4 rfl; have HX9 := am (set5 (.string (nth ws 1)) (.bool ((nth ws 2).toList == [108, 105, 110, 107, 101, 100])) (.string (nth ws 3)) (.slice A6 rl.length c6) (.slice A8 pb.1.length c8) HE.out.2.2); clear hr8 hR8 hK8 k3 f3 n0 n1 n2 n3 n4)
     | ((with_reducible refine gate_store 39 (.tmp 2) (.tmp 67) rfl ?_); refine wpList_store_mid rfl 39 (.tmp 2) (.tmp 67) rfl W.heap.size 0 #[.string (nth ws 1), .bool ((nth ws 2).toList == [108, 105, 110, 107, 101, 100]), .string (nth ws 3), .slice A6 rl.length c6, .slice A8 pb.1.length c8] ?hx ?hy ?ht ?hi ?h1 ?_; (case hx => rfl); (case hy => rfl); (case ht => exact there5 HE.out.2.2); (case hi => kernel_rfl); (case h1 => simp [Value.oneCell'])))
    (try simp only [Exit.inBlock, Exit.then])
    refine bodyPost_ret (results_cell_row rfl _ _ W.heap.size 39 _ (0, 0) _ rfl HX9.out Tryz.underlying39 rfl (by kernel_rfl)) rfl ?_
    have h5l := lt_box HBX5.out
    have h5r := lt_box HRS5.out
    exact ⟨A6, c6, A8, c8, rfl, fork_fin _ HKW5.out HB6.out HBL.out.1 HBL.out.2.1 h5l HBL.out.2.2.1 h5r HSL.out HR6.out ((Keeps.set (Or.inl rfl)).trans (HK8.out.mono (fun _ e => Or.inr e))) (Nat.le_trans HB6.out.size (by simp [World.setCell])) HR8.out HRD8.out _⟩
   | false =>
    have HBX5 := am ((HK5.out.block _ (lt_box HBOX.out) HBL.out.1).trans HBOX.out)
    have HRS5 := am ((HK5.out.block _ (lt_box HRES.out) (fun e => by have e2 : W.heap.size = g := e; have := HBL.out.2.2.1; omega)).trans HRES.out)
    have HKW5 := am (HKW.out.trans HK5.out)
    have HPB1 : Asd (someF n sa.2.1 true = pb) := ⟨by simpa using HPB.out⟩
    have HNN : Asd (sa.2.1.length <= 1000000000) := ⟨by have := sizeT_len sa.2.1; have := HSS.out.2; omega⟩
    clear HBOX HRES HKW HK5 HR4
    go_wp2_with (first
     | (go_at_call 58; with_reducible refine (refs_Get.calls k acc rl false _ HGK.out).mono ?_; rintro r w6 ⟨v6, rfl, hr6, hb6⟩; obtain ⟨A6, c6, rfl⟩ := Kd.R_slice hr6; have HR6 := am hr6; have HB6 := am hb6; have HFL := am (fork_fail (HRD5.out.below hb6) (qB hb6 HBX5.out) (qB hb6 HRS5.out) HBL.out.1 HBL.out.2.2.1 ⟨#[114, 101, 102, 115]⟩); have HS := am (fork_mid HFL.out.1 HBL.out.1 HBL.out.2.1 HFL.out.2.2.1 HFL.out.2.2.2 HSL.out HNE.out A6 c6 rl.length); have hsm := some_calls HS.out.1 n HMN.out.2 HNN.out; rw [HPB1.out] at hsm; have HSM := am hsm; clear hsm; obtain ⟨k3, f3⟩ := qx HFL.out.2.2.1 3 rfl; obtain ⟨Ax, cx, vx, kx0, kx1, fx0, fx1, hex, hfx, hcx⟩ := ((HRD5.out.below hb6).below (bal (Below.refl _ _) (.cells #[.string ⟨#[114, 101, 102, 115]⟩] 89))).cells; clear hr6 hb6 kx0 fx0 hex hfx hcx)
     | (go_at_call 33; with_reducible refine HSM.out.mono ?_; rintro r w8 ⟨v8, rfl, hr8, hR8, hK8⟩; obtain ⟨A8, c8, rfl⟩ := Kd.R_slice hr8; have HR8 := am hr8; have HRD8 := am hR8; have HK8 := am hK8; have HE := am (fork_end HBL.out.1 HBL.out.2.2.1 HNE.out HS.out.2.1 HS.out.2.2 hK8 A8 c8 pb.1.length); obtain ⟨k4, f4⟩ := qx HE.out.1 4 rfl; obtain ⟨m0, n0⟩ := qx HE.out.2.1 0 rfl; obtain ⟨m1, n1⟩ := qx HE.out.2.1 1 rfl; obtain ⟨m2, n2⟩ := qx HE.out.2.1 2 rfl; obtain ⟨m3, n3⟩ := qx HE.out.2.1 3 rfl; obtain ⟨m4, n4⟩ := qx HE.out.2.1 4 rfl; have HX9 := am (set5 (.string (nth ws 1)) (.bool ((nth ws 2).toList == [108, 105, 110, 107, 101, 100])) (.string (nth ws 3)) (.slice A6 rl.length c6) (.slice A8 pb.1.length c8) HE.out.2.2); clear hr8 hR8 hK8 k3 f3 kx1 fx1 n0 n1 n2 n3 n4)
     | ((with_reducible refine gate_store 39 (.tmp 2) (.tmp 67) rfl ?_); refine wpList_store_mid rfl 39 (.tmp 2) (.tmp 67) rfl W.heap.size 0 #[.string (nth ws 1), .bool ((nth ws 2).toList == [108, 105, 110, 107, 101, 100]), .string (nth ws 3), .slice A6 rl.length c6, .slice A8 pb.1.length c8] ?hx ?hy ?ht ?hi ?h1 ?_; (case hx => rfl); (case hy => rfl); (case ht => exact there5 HE.out.2.2); (case hi => kernel_rfl); (case h1 => simp [Value.oneCell'])))
    (try simp only [Exit.inBlock, Exit.then])
    refine bodyPost_ret (results_cell_row rfl _ _ W.heap.size 39 _ (0, 0) _ rfl HX9.out Tryz.underlying39 rfl (by kernel_rfl)) rfl ?_
    have h5l := lt_box HBX5.out
    have h5r := lt_box HRS5.out
    exact ⟨A6, c6, A8, c8, rfl, fork_fin _ HKW5.out HB6.out HBL.out.1 HBL.out.2.1 h5l HBL.out.2.2.1 h5r HSL.out HR6.out (((HFL.out.2.1.mono (own' := fun k => k = bx ∨ k = g) (fun _ e => Or.inr e)).trans (Keeps.set (Or.inl rfl))).trans (HK8.out.mono (fun _ e => Or.inr e))) (Nat.le_trans HB6.out.size (Nat.le_trans HFL.out.2.1.size (by simp [World.setCell]))) HR8.out HRD8.out _⟩
end Go.Proofs.YtlfenakgphmepaaGreatDoor.Root
end
section
namespace Go.Proofs.YtlfenakgphmepaaGreatDoor.Root
open Go.RowKit YtlfenakgphmepaaGreatDoorW.PrintWords YtlfenakgphmepaaGreatDoorW.PrintLast YtlfenakgphmepaaGreatDoorW.PrintMore YtlfenakgphmepaaGreatDoor.Conv Print Build
set_option linter.unusedVariables false
set_option linter.unusedSimpArgs false
theorem is_nil (w : World) : Calls Tryz.prog 35 #[.nilIface, .iface 67 (.int .i64 3)] w fun e w' => e = .returned (.bool false) /\ Below w.heap.size w w' := by
 have hn := run_eql_iface_nil_left (P := Tryz.prog) w 67 (.int .i64 3) Tryz.underlying47
 go_enter Tryz.func35, Tryz.ntmps35
 go_wp2
 go_ret
 exact ⟨rfl, Below.refl _ _⟩
theorem isTypeOf (v : Value) (w : World) : (Extern.ReflectliteType.typeOf #[.iface 67 v]).run Tryz.prog w = .ok (.iface 110 (.agg #[.pointer (some ⟨Tryz.prog.globals.size, 67, none⟩)])) w := by kernel_rfl
def cmpX : Array Value -> Sem Value := Extern.ReflectliteType.method fun t => do Extern.Rtype.noPackHeld "Comparable" t; pure (.bool (<- typeInfo t).comparable)
theorem isComparable (w : World) : (cmpX #[.agg #[.pointer (some ⟨Tryz.prog.globals.size, 67, none⟩)]]).run Tryz.prog w = .ok (.bool true) w := by kernel_rfl
theorem isMethodComparable (n : Nat) (v : Value) (w : World) : (Go.method (n + 1) 110 v "Comparable").run Tryz.prog w = .ok (136, v) w := by kernel_rfl
theorem isComp : (Tryz.prog.info? 67).map (·.comparable) = some true := by kernel_rfl
theorem noIsW (v : Value) (xT : TypeId) (w : World) : (Instr.typeAssert (.iface 87 v) xT 112 true).run Tryz.prog w = .ok (.tuple #[.nilIface, .bool false]) w := run_typeAssert_lacksB Tryz.underlying112 (by kernel_rfl) (by kernel_rfl) v xT w
theorem hasUnwrapW (v : Value) (xT : TypeId) (w : World) : (Instr.typeAssert (.iface 87 v) xT 115 true).run Tryz.prog w = .ok (.tuple #[.iface 87 v, .bool true]) w := run_typeAssert_hasB Tryz.underlying115 (by kernel_rfl) v xT w
theorem methodUnwrap (n : Nat) (v : Value) (w : World) : (Go.method (n + 1) 87 v "Unwrap").run Tryz.prog w = .ok (132, v) w := by kernel_rfl
set_option maxRecDepth 100000 in
set_option maxHeartbeats 2000000 in
theorem is_bad (b : Nat) (w : World) : Calls Tryz.prog 35 #[.iface 87 (.pointer (some ⟨b, 0, none⟩)), .iface 67 (.int .i64 3)] w fun e w' => e = .returned (.bool true) /\ Below w.heap.size w w' := by
 have h8 := @run_callFunc_extern Tryz.prog 59 _ Extern.ReflectliteType.typeOf Tryz.func59 (by kernel_rfl) (by kernel_rfl) (by kernel_rfl) (by kernel_rfl)
 have h32 := @run_callFunc_extern Tryz.prog 136 _ cmpX Tryz.func136 (by kernel_rfl) (by kernel_rfl) (by kernel_rfl) (by kernel_rfl)
 have tT := isTypeOf
 have cT := isComparable
 have mR := isMethodComparable
 generalize Tryz.prog.globals.size = ng at tT cT
 have nW := noIsW
 have uW := hasUnwrapW
 have mU := methodUnwrap
 have heq := Lib.run_eql_iface_int (P := Tryz.prog) (k := .i64) w 3 3 Tryz.underlying47 isComp Tryz.underlying67
 have hty := run_eql_iface_types (P := Tryz.prog) 87 67 (.pointer (some ⟨b, 0, none⟩)) (.int .i64 3) Tryz.underlying47 (by decide) w
 go_enter Tryz.func35, Tryz.ntmps35
 go_wp2
 refine wp_loop_rounds 2 ?_
 rw [rounds_succ]
 go_wp2
 rw [rounds_succ]
 go_wp2
 go_ret
 exact ⟨rfl, Below.refl _ _⟩
end Go.Proofs.YtlfenakgphmepaaGreatDoor.Root
end
