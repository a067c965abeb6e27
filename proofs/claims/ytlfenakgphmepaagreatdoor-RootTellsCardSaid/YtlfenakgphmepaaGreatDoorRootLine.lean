/- Parts of the proof. -/
import Derived.Test.YtlfenakgphmepaaGreatDoorRootErr
section
namespace Go.Proofs.YtlfenakgphmepaaGreatDoor.Root
open Go.RowKit YtlfenakgphmepaaGreatDoorW.PrintWords YtlfenakgphmepaaGreatDoorW.PrintLast YtlfenakgphmepaaGreatDoorW.PrintMore YtlfenakgphmepaaGreatDoor.Conv Print Build
set_option linter.unusedVariables false
set_option linter.unusedSimpArgs false
set_option maxHeartbeats 2000000 in
set_option maxRecDepth 100000 in
theorem grow_calls (b n : Nat) (W : World) (hb : W.heap[b]? = some (.cells #[.pointer none, .slice none 0 0] 45 (0, 0))) (hlast : W.heap.size = b + 1) (hn : n <= 281474976710656) :
  Calls Tryz.prog 52 #[.pointer (some ⟨b, 0, none⟩), .int .i64 n] W fun e w' => e = .returned (.tuple #[]) /\ ∃ own, IsBd w' own b ⟨#[]⟩ /\ Goes W w' (fun k => k = b) own := by
 have HC := am (check_calls b _ _ W hb (Or.inl rfl))
 have HB := am hb
 have HN := am hn
 have HLS := am hlast
 clear hb hn hlast
 go_enter Tryz.func52, Tryz.ntmps52
 go_wp2_with (go_at_call 51; refine HC.out.mono ?_)
 rintro e W1 ⟨rfl, hw⟩
 have hb1 : W1.heap[b]? = some (.cells #[.pointer (some ⟨b, 0, none⟩), .slice none 0 0] 45 (0, 0)) := by
  rcases hw with ⟨_, h⟩ | rfl
  ·cases h
  ·exact (heap_set_same W b 0 _ _ _ HB.out).trans rfl
 have hk1 : Keeps W W1 (fun k => k = b) := by
  rcases hw with ⟨_, h⟩ | rfl
  ·cases h
  ·exact Keeps.set rfl
 have HK1 := am hk1
 have HB1 := am hb1
 clear hw HC hk1
 have c1 : W1.drew.cell? ⟨b, 1, none⟩ = some (.slice none 0 0) := drew_cell (qx hb1 1 rfl).1
 have c1' : W1.cell? ⟨b, 1, none⟩ = some (.slice none 0 0) := (qx hb1 1 rfl).1
 have hlb := lt_box hb1
 clear hb1
 have HG := am (Go.Proofs.Tryz.Builder_grow_fresh (min b W1.heap.size) b n W1.drew (Nat.min_le_left _ _) (show W1.drew.heap[b]? = _ from HB1.out) (Nat.min_le_right _ _) HN.out)
 go_wp2
 go_region
 all_goals go_wp2_with (go_at_call 70; with_reducible refine HG.out.mono ?_; rintro e w' ⟨rfl, h1, h2⟩; have H12 := am (And.intro h1 h2); clear h1 h2)
 ·go_end0
  obtain ⟨⟨hB, v, hb2, hown, hne⟩, hbl⟩ := H12.out
  have hs1 := HK1.out.size
  have hm : min b W1.heap.size = b := Nat.min_eq_left (Nat.le_of_lt hlb)
  rw [hm] at hbl
  have hbs : W1.heap.size <= _ := hbl.size
  refine ⟨rfl, fun k => b <= k /\ k < _, ⟨_, v, hb2, Or.inr rfl, ?_, ?_, ⟨Nat.le_refl _, lt_box hb2⟩, fun k e => e.2⟩, ⟨⟨hbl.os.trans HK1.out.os, hbl.tape.trans HK1.out.tape, hbl.output.trans HK1.out.output, Nat.le_trans hs1 hbs, fun k hk hn => ?_⟩, fun k e => ?_⟩⟩
  ·refine ⟨hown.1, ?_⟩
   rcases hown.2 with h | ⟨g, cap, cur, hv, h3, h4⟩
   ·exact Or.inl h
   ·exact Or.inr ⟨g, cap, cur, hv, Nat.zero_le _, h4⟩
  ·intro k e
   have h1 := hown.lt k e
   rw [hm] at h1
   exact ⟨h1, fun e2 => hne (by rw [e2] at e; exact e)⟩
  ·have hk2 : k < b := by have := HLS.out; omega
   exact (hbl.block k hk2).trans (HK1.out.block k hk hn)
  ·have := HLS.out
   omega
 ·go_end0
  refine ⟨rfl, fun k => k = b, ⟨_, _, show W1.drew.heap[b]? = _ from HB1.out, Or.inr rfl, World.ownsRow_nil _ _ _ _, fun k e => by simp [Value.ownBlock] at e, rfl, fun k e => by have e2 : k = b := e; rw [e2]; exact hlb⟩, ⟨HK1.out.trans (Keeps.of_below (bd1 (Below.refl _ _))), fun k e => Or.inl e⟩⟩
set_option maxRecDepth 100000 in
theorem cut_one (A : Option Addr) (c : Nat) (xs : List ByteArray) (hc : xs.length <= c) (hj : 1 <= xs.length) :
  ∃ A2, (∀ W : World, (Instr.slice 22 (.slice A xs.length c) (some (.int .i64 1)) none none).run Tryz.prog W = .ok (.slice A2 (xs.length - 1) (c - 1)) W) /\ (∀ W, Kd.C Kd.string W A xs.length xs -> Kd.C Kd.string W A2 (xs.drop 1).length (xs.drop 1)) := by
 have hinf := info9
 obtain ⟨i, hi, hi2⟩ := Option.map_eq_some_iff.1 hinf
 have hsz : i.size = 1 := congrArg (fun x => x.2.1) hi2
 exact ⟨_, cut_from (P := Tryz.prog) 22 9 .i64 Tryz.underlying22 hi 1 hsz A xs.length c 1 (by decide) (by omega), fun W h => Kd.C_drop h hj hc⟩
theorem empty_app (s : ByteArray) : (⟨#[]⟩ : ByteArray) ++ s = s := by
 apply ByteArray.ext
 rw [ByteArray.data_append]
 simp
def joinG (acc : ByteArray) : List ByteArray -> ByteArray
 | [] => acc
 | y :: t => joinG ((acc ++ (⟨#[32]⟩ : ByteArray)) ++ y) t
def joinS : List ByteArray -> ByteArray
 | [] => ⟨#[]⟩
 | x :: t => joinG x t
set_option maxHeartbeats 8000000 in
set_option maxRecDepth 100000 in
theorem join_calls (A : Option Addr) (c : Nat) (l : List ByteArray) (W : World) (hr : Kd.C Kd.string W A l.length l) (hc : l.length <= c) (hz : sizeT l <= 1000000000) :
  Calls Tryz.prog 22 #[.slice A l.length c, .string ⟨#[32]⟩] W fun e w' => e = .returned (.string (joinS l)) /\ Below W.heap.size W w' := by
 have HR := am hr
 have HZ := am hz
 have HC := am hc
 match l, hr, hc, hz with
 | [], hr, hc, hz =>
  clear hr hc hz
  go_enter Tryz.func22, Tryz.ntmps22
  go_wp2
  go_ret
  exact ⟨rfl, Below.refl _ _⟩
 | [x], hr, hc, hz =>
  obtain ⟨ad, rfl, hc2⟩ := (Kd.reads_of_C (enc := Value.string) (d := ByteArray.empty) (h1 := fun _ => rfl) hr).2.2 (Nat.succ_pos 0)
  have h0 : W.cell? (ad.add 0) = some (.string x) := hc2 0 (Nat.succ_pos 0)
  have h0' : W.cell? ad = some (.string x) := by
   have e : ad.add 0 = ad := by simp [Addr.add]
   rw [e] at h0
   exact h0
  clear hr hc hz hc2
  go_enter Tryz.func22, Tryz.ntmps22
  go_wp2
  go_ret
  exact ⟨rfl, Below.refl _ _⟩
 | x :: y :: t, hr, hc, hz =>
  generalize hl : x :: y :: t = l at HR HZ HC hr hc hz ⊢
  have hlen : l.length = t.length + 2 := by rw [<- hl]; rfl
  have hll := sizeT_len l
  have q1 : ¬ ((l.length : Int) = 0) := by omega
  have q2 : ¬ ((l.length : Int) = 1) := by omega
  have q3 : ((l.length : Int) == 0) = false := beq_eq_false_iff_ne.2 q1
  have q4 : ((l.length : Int) == 1) = false := beq_eq_false_iff_ne.2 q2
  have HLEN := am hlen
  have hmax : l.length <= 9223372036854775807 := by omega
  have e1 : wrap64 ((l.length : Int) - 1) = (l.length : Int) - 1 := w64 (by omega) (by omega)
  have q5 : ¬ ((l.length : Int) - 1 = 0) := by omega
  obtain ⟨q, hq⟩ : ∃ q, q = Int.tdiv 9223372036854775807 ((l.length : Int) - 1) := ⟨_, rfl⟩
  have hqb : 2 <= q /\ q <= 9223372036854775807 := by
   rw [hq, Int.tdiv_eq_ediv_of_nonneg (by decide)]
   exact ⟨(Int.le_ediv_iff_mul_le (by omega)).2 (by omega), Int.ediv_le_self _ (by decide)⟩
  have e3 : wrap64 (Int.tdiv 9223372036854775807 ((l.length : Int) - 1)) = q := by rw [<- hq]; exact w64 (by omega) (by omega)
  have e4 : decide (q <= 1) = false := df (by omega)
  have hqe : q = 9223372036854775807 / ((l.length : Int) - 1) := by rw [hq, Int.tdiv_eq_ediv_of_nonneg (by decide)]
  have e6 : decide (9223372036854775807 / ((l.length : Int) - 1) <= 1) = false := by rw [<- hqe]; exact e4
  have e5 : wrap64 (wrap64 ((l.length : Int) - 1)) = (l.length : Int) - 1 := by rw [e1, e1]
  have HNN : Asd (0 <= (l.length : Int) - 1 /\ (l.length : Int) - 1 <= 1000000000) := ⟨by omega⟩
  clear hr hc hz hlen hll hq hqb hqe e3 e4
  go_enter Tryz.func22, Tryz.ntmps22
  go_wp2
  have hst : Value.int .i64 ((l.length : Int) - 1) = .int .i64 ((l.length - 1 : Nat) : Int) := by
   have := HLEN.out
   congr 1
   omega
  have HST := am hst
  clear e1 e5 e6 q5 q1 q2 hst
  go_loopg [5, 41] l.length (fun gg s5 s41 wr => ∃ (nn kk : Nat), kk <= l.length /\ l.length - kk <= gg /\ s41 = .int .i64 kk /\ s5 = .int .i64 nn /\ Asd (nn + sizeT (l.drop kk) <= 2000000000) /\ wr = W)
  case atStart => exact ⟨l.length - 1, 0, Nat.zero_le _, by omega, rfl, by (congr 1; have := HLEN.out; first | omega | (rw [e1]; omega)), ⟨by have := HZ.out; have := HNN.out; show l.length - 1 + sizeT l <= _; omega⟩, rfl⟩
  case round =>
   obtain ⟨nn, kk, hkk, hg, rfl, rfl, ⟨hac⟩, hwr⟩ := hrel
   subst wr
   by_cases hlt : kk < l.length
   ·have hltz : (kk : Int) < (l.length : Int) := by omega
    obtain ⟨ad, rfl, hc⟩ := (Kd.reads_of_C (enc := Value.string) (d := ByteArray.empty) (h1 := fun _ => rfl) HR.out).2.2 (by omega)
    have hcell := hc kk hlt
    clear hc
    have hx : l.getD kk ByteArray.empty = l[kk] := by rw [List.getD_eq_getElem?_getD, List.getElem?_eq_getElem hlt]; rfl
    rw [hx] at hcell
    rw [List.drop_eq_getElem_cons hlt, qz] at hac
    clear hx
    generalize l[kk] = z at hcell hac
    have HAC : Asd (nn + z.size + sizeT (l.drop (kk + 1)) <= 2000000000) := ⟨by omega⟩
    have g1 : wrap64 (9223372036854775807 - (nn : Int)) = 9223372036854775807 - (nn : Int) := w64 (by omega) (by omega)
    have g2 : decide (9223372036854775807 - (nn : Int) < (z.size : Int)) = false := df (by omega)
    have g3 : wrap64 ((nn : Int) + (z.size : Int)) = (nn : Int) + (z.size : Int) := w64 (by omega) (by omega)
    have G3 := am g3
    clear hac
    go_wp2
    go_roundg (l.length - (kk + 1))
    case measure => omega
    case rel => exact ⟨nn + z.size, kk + 1, by omega, by omega, by go_num, by first | rfl | (rw [G3.out]; rfl) | go_num, HAC, rfl⟩
   ·obtain rfl : kk = l.length := by omega
    obtain ⟨ad, rfl, hc⟩ := (Kd.reads_of_C (enc := Value.string) (d := ByteArray.empty) (h1 := fun _ => rfl) HR.out).2.2 (by have := HLEN.out; omega)
    have hc0 : W.cell? (ad.add 0) = some (.string x) := (hc 0 (by have := HLEN.out; omega)).trans (by rw [<- hl]; rfl)
    have hc0' : W.cell? ad = some (.string x) := by
     have e : ad.add 0 = ad := by simp [Addr.add]
     rw [e] at hc0
     exact hc0
    obtain ⟨A2, hcut, hC2⟩ := cut_one (some ad) c l HC.out (by have := HLEN.out; omega)
    have hdl : (l.drop 1).length = l.length - 1 := List.length_drop
    rw [<- hdl] at hcut
    have hd : l.drop 1 = y :: t := by rw [<- hl]; rfl
    have hzz : x.size + 1 + sizeT (l.drop 1) = sizeT l := by rw [hd, <- hl, qz x]
    have hjs : joinS l = joinG x (l.drop 1) := by rw [hd, <- hl]; rfl
    have hdm : (l.drop 1).length <= 9223372036854775807 := by rw [hdl]; omega
    clear hd hdl
    generalize l.drop 1 = l2 at hcut hC2 hzz hjs hdm
    have HJ := am hjs
    have HZZ := am hzz
    have hlast : (W.alloc (.cells #[.pointer none, .slice none 0 0] 45)).heap.size = W.heap.size + 1 := sz_alloc _ _
    have hGr := grow_calls W.heap.size nn (W.alloc (.cells #[.pointer none, .slice none 0 0] 45)) (heap_alloc_new _ _) hlast (by rw [List.drop_length] at hac; have : sizeT ([] : List ByteArray) = 0 := rfl; omega)
    have HGR := am hGr
    have hb0 : Below W.heap.size W (W.alloc (.cells #[.pointer none, .slice none 0 0] 45)) := bal (Below.refl _ _) _
    have hc1 := qb hc0 hb0
    have hc1' := qb hc0' hb0
    have HB0 := am hb0
    have HC2 := am hC2
    have HX0 := am (And.intro hc0 hc0')
    clear hac hc hC2 hzz hjs hlast hGr hb0
    clear hc0 hc0' hc1 hc1'
    have z1 : 0 < l.length := by have := HLEN.out; omega
    have z2 : (0 : Int) < (l.length : Int) := by omega
    have z3 : (1 : Int) <= (l.length : Int) := by omega
    have HN0 := am (fun k (e : k = W.heap.size) => (Nat.le_of_eq e.symm : W.heap.size <= k))
    have HZX : Asd ((⟨#[]⟩ : ByteArray).size + x.size <= 140737488355328) := ⟨by show 0 + x.size <= _; have := HZZ.out; have := HZ.out; omega⟩
    go_wp2_with (first
     | (go_at_call 52; with_reducible refine HGR.out.mono ?_; rintro r w1 ⟨rfl, own1, hI1, hG1⟩; have HI1 := am hI1; have HG1 := am hG1; clear hI1 hG1; have hb1 := below_goes HB0.out HG1.out HN0.out; have k0 := qb HX0.out.1 hb1; have k0' := qb HX0.out.2 hb1; have HB1 := am hb1; clear hb1)
     | (go_at_call 21; with_reducible refine (write_calls HI1.out x HZX.out).mono ?_; rintro r w2 ⟨rfl, own2, hI2, hG2⟩; rw [empty_app] at hI2; have HI2 := am hI2; have HG2 := am (HG1.out.trans hG2); have HB2 := am (below_goes HB0.out (HG1.out.trans hG2) HN0.out); clear hI2 hG2 k0 k0'))
    clear HI1 HG1 HB1 HGR HX0
    go_loopg [65] l2.length (fun gg s65 w3 => ∃ kk : Nat, kk <= l2.length /\ l2.length - kk <= gg /\ s65 = .int .i64 kk /\ Asd (∃ own acc, IsBd w3 own W.heap.size acc /\ Goes w2 w3 own2 own /\ joinG acc (l2.drop kk) = joinS l /\ acc.size + sizeT (l2.drop kk) <= 1000000000))
    case atStart => exact ⟨0, Nat.zero_le _, by omega, rfl, ⟨own2, x, HI2.out, Goes.refl _ _, HJ.out.symm, by have := HZZ.out; have := HZ.out; show x.size + sizeT l2 <= _; omega⟩⟩
    case round =>
     obtain ⟨kk, hkk, hg, rfl, ⟨own, acc, hI, hG, hA, hac⟩⟩ := hrel
     have hB3 := below_goes HB2.out hG (goes_new HG2.out HB0.out.size HN0.out)
     have HB3 := am hB3
     have HI3 := am hI
     have HG3 := am hG
     clear hI hG
     by_cases hlt : kk < l2.length
     ·have hltz : (kk : Int) < (l2.length : Int) := by omega
      obtain ⟨ad2, rfl, hc⟩ := (Kd.reads_of_C (enc := Value.string) (d := ByteArray.empty) (h1 := fun _ => rfl) (HC2.out _ (Kd.C_below HR.out hB3))).2.2 (by omega)
      have hcell := hc kk hlt
      clear hc
      have hx : l2.getD kk ByteArray.empty = l2[kk] := by rw [List.getD_eq_getElem?_getD, List.getElem?_eq_getElem hlt]; rfl
      rw [hx] at hcell
      rw [List.drop_eq_getElem_cons hlt] at hA hac
      rw [qz] at hac
      clear hx
      generalize l2[kk] = z at hcell hA hac
      have HA := am hA
      have HAC : Asd (((acc ++ (⟨#[32]⟩ : ByteArray)) ++ z).size + sizeT (l2.drop (kk + 1)) <= 1000000000) := ⟨by rw [ByteArray.size_append, ByteArray.size_append]; show acc.size + 1 + z.size + _ <= _; omega⟩
      have HZ1 : Asd (acc.size + (⟨#[32]⟩ : ByteArray).size <= 140737488355328) := ⟨by show acc.size + 1 <= _; omega⟩
      have HZ2 : Asd ((acc ++ (⟨#[32]⟩ : ByteArray)).size + z.size <= 140737488355328) := ⟨by rw [ByteArray.size_append]; show acc.size + 1 + z.size <= _; omega⟩
      clear hA hac hB3
      go_wp2_with (first
       | (go_at_call 21; with_reducible refine (write_calls HI3.out ⟨#[32]⟩ HZ1.out).mono ?_; rintro r w4 ⟨rfl, own4, hI4, hG4⟩; have HI4 := am hI4; have HG4 := am hG4; clear hI4 hG4)
       | (go_at_call 21; with_reducible refine (write_calls HI4.out z HZ2.out).mono ?_; rintro r w5 ⟨rfl, own5, hI5, hG5⟩; have HI5 := am hI5; have HG5 := am hG5; clear hI5 hG5))
      go_roundg (l2.length - (kk + 1))
      case measure => omega
      case rel =>
       exact ⟨kk + 1, by omega, by omega, by go_num, ⟨own5, _, HI5.out, (HG3.out.trans HG4.out).trans HG5.out, HA.out, HAC.out⟩⟩
     ·obtain rfl : kk = l2.length := by omega
      rw [List.drop_length] at hA
      have hA' : acc = joinS l := hA
      subst hA'
      have HS := am (string_calls HI3.out (B := W.heap.size) (goes_new HG3.out HB2.out.size (goes_new HG2.out HB0.out.size HN0.out)))
      clear hac hB3 hA
      go_wp2_with (go_at_call 26; with_reducible refine HS.out.mono ?_; rintro r w4 ⟨rfl, hb4⟩; have HB4 := am hb4; clear hb4)
      go_ret
      exact ⟨rfl, Below.trans HB3.out HB4.out⟩
end Go.Proofs.YtlfenakgphmepaaGreatDoor.Root
end
section
namespace Go.Proofs.YtlfenakgphmepaaGreatDoor.Root
open Go.RowKit YtlfenakgphmepaaGreatDoorW.PrintWords YtlfenakgphmepaaGreatDoorW.PrintLast YtlfenakgphmepaaGreatDoorW.PrintMore YtlfenakgphmepaaGreatDoor.Conv Print Build
set_option linter.unusedVariables false
set_option linter.unusedSimpArgs false
def lineS (l : List ByteArray) : ByteArray := joinS l ++ (⟨#[10]⟩ : ByteArray)
theorem joinG_size (l : List ByteArray) : ∀ acc : ByteArray, (joinG acc l).size = acc.size + sizeT l := by
 induction l with
 | nil => intro acc; rfl
 | cons s t ih =>
  intro acc
  rw [joinG, ih, qz, ByteArray.size_append, ByteArray.size_append]
  show acc.size + 1 + s.size + sizeT t = _
  omega
theorem lineS_size (l : List ByteArray) : (lineS l).size <= sizeT l + 1 := by
 unfold lineS
 rw [ByteArray.size_append]
 show (joinS l).size + 1 <= _
 cases l with
 | nil => exact Nat.le_refl _
 | cons x t =>
  show (joinG x t).size + 1 <= _
  rw [joinG_size, qz]
  omega
theorem C_strs {W : World} {g : Nat} {t : TypeId} {fr : Nat × Nat} (xs : List ByteArray) (h : W.heap[g]? = some (.cells (xs.map Value.string).toArray t fr)) (hm : xs.length <= 9223372036854775807) : Kd.C Kd.string W (some ⟨g, 0, none⟩) xs.length xs :=
 Kd.C_of_reads (enc := Value.string) (d := ByteArray.empty) (h1 := fun _ => rfl) ⟨rfl, hm, fun _ => ⟨_, rfl, fun j hj => by
  rw [add_plain, cell_of_row W g j _ t fr h]
  simp [List.getD_eq_getElem?_getD, List.getElem?_eq_getElem hj]⟩⟩
set_option maxHeartbeats 2000000 in
set_option maxRecDepth 100000 in
theorem line_calls {W : World} {own : Nat -> Prop} {b : Nat} {s : ByteArray} (h : IsBd W own b s) (A : Option Addr) (c : Nat) (l : List ByteArray) (hr : Kd.C Kd.string W A l.length l) (hc : l.length <= c) (hz : sizeT l <= 1000000000) (hs : s.size <= 1000000000) :
  Calls Tryz.prog 20 #[.slice A l.length c, .pointer (some ⟨b, 0, none⟩)] W fun e w' => e = .returned (.tuple #[]) /\ ∃ own', IsBd w' own' b (s ++ lineS l) /\ Goes W w' own own' := by
 have HJ := am (join_calls A c l W hr hc hz)
 have HI := am h
 have hls := lineS_size l
 have hjs : (joinS l).size + 1 = (lineS l).size := by unfold lineS; rw [ByteArray.size_append]; rfl
 have z1 : (joinS l).size + 1 <= 9223372036854775807 := by omega
 have HZ : Asd (s.size + (lineS l).size <= 140737488355328) := ⟨by omega⟩
 clear hr hc hz hs h hls hjs
 go_enter Tryz.func20, Tryz.ntmps20
 go_wp2_with (first
  | (go_at_call 22; with_reducible refine HJ.out.mono ?_; rintro r w1 ⟨rfl, hb1⟩; have HI1 := am (HI.out.below hb1); have HB1 := am hb1; clear hb1)
  | (go_at_call 21; refine (write_calls HI1.out (lineS l) HZ.out).mono ?_; rintro r w2 ⟨rfl, own2, hI2, hG2⟩; have HI2 := am hI2; have HG2 := am hG2; clear hI2 hG2))
 first | go_end0 | ((try simp only [Exit.inBlock, Exit.then]); refine bodyPost_ret (results_none rfl _ _ _) rfl ?_)
 exact ⟨rfl, own2, HI2.out, (Goes.below HB1.out).trans HG2.out⟩
set_option maxHeartbeats 4000000 in
set_option maxRecDepth 100000 in
theorem each_calls {W : World} {own : Nat -> Prop} {b : Nat} {s : ByteArray} (h : IsBd W own b s) (q : Nat) (hq : W.heap[q]? = some (.cells #[.func (.func 20) #[] #[.pointer (some ⟨b, 0, none⟩)]] 51 (0, 0))) (hqo : ¬ own q) (A : Option Addr) (c : Nat) (l : List ByteArray) (hr : Kd.F Kd.string W (fun k => ¬ own k /\ k < W.heap.size) A l.length l) (hc : l.length <= c) (hz : s.size + sizeT l <= 900000000) :
  Calls Tryz.prog 23 #[.slice A l.length c, .pointer (some ⟨q, 0, none⟩)] W fun e w' => e = .returned (.tuple #[]) /\ ∃ own', IsBd w' own' b (joinA s l) /\ Goes W w' own own' := by
 have HI := am h
 have HQ := am hq
 have HQO := am hqo
 have HR := am hr
 have hmax : l.length <= 9223372036854775807 := by have := sizeT_len l; omega
 have HZ := am hz
 have HQL := am (lt_box hq)
 clear hr hc hz h hq hqo
 go_enter Tryz.func23, Tryz.ntmps23
 go_wp2
 go_loopg [7] l.length (fun gg s7 wr => ∃ kk : Nat, kk <= l.length /\ l.length - kk <= gg /\ s7 = .int .i64 kk /\ Asd (∃ own1 acc, IsBd wr own1 b acc /\ Goes W wr own own1 /\ joinA acc (l.drop kk) = joinA s l /\ acc.size + sizeT (l.drop kk) <= 900000000))
 case atStart => exact ⟨0, Nat.zero_le _, by omega, rfl, ⟨own, s, HI.out, Goes.refl _ _, rfl, HZ.out⟩⟩
 case round =>
  obtain ⟨kk, hkk, hg, rfl, ⟨own1, acc, hI, hG, hA, hac⟩⟩ := hrel
  by_cases hlt : kk < l.length
  ·have hltz : (kk : Int) < (l.length : Int) := by omega
   have hrow : Kd.F Kd.string wr (fun k => ¬ own k /\ k < W.heap.size) A l.length l := Kd.F_step HR.out (fun k e hl => hG.keeps.block k e.2 e.1)
   obtain ⟨ad2, rfl, hcc⟩ := (Kd.reads_of_C (enc := Value.string) (d := ByteArray.empty) (h1 := fun _ => rfl) (Kd.F_now hrow)).2.2 (by omega)
   have hcell := hcc kk hlt
   clear hcc hrow
   have hx : l.getD kk ByteArray.empty = l[kk] := by rw [List.getD_eq_getElem?_getD, List.getElem?_eq_getElem hlt]; rfl
   rw [hx] at hcell
   rw [List.drop_eq_getElem_cons hlt] at hA hac
   rw [qz] at hac
   clear hx
   generalize l[kk] = z at hcell hA hac
   have kq := (qx ((hG.keeps.block q HQL.out HQO.out).trans HQ.out) 0 rfl).1
   have HA := am hA
   have HI1 := am hI
   have HG1 := am hG
   have HAC : Asd ((acc ++ (z ++ (⟨#[10]⟩ : ByteArray))).size + sizeT (l.drop (kk + 1)) <= 900000000) := ⟨by rw [ByteArray.size_append, ByteArray.size_append]; show acc.size + (z.size + 1) + _ <= _; omega⟩
   have HZZ : Asd (sizeT [z] <= 1000000000 /\ acc.size <= 1000000000) := ⟨by rw [qz]; have : sizeT ([] : List ByteArray) = 0 := rfl; omega, by omega⟩
   have hL : Calls Tryz.prog 20 #[.slice (some ⟨wr.heap.size, 0, none⟩) 1 1, .pointer (some ⟨b, 0, none⟩)] (wr.alloc (.cells #[.string z] 9)) fun e w' => e = .returned (.tuple #[]) /\ ∃ own', IsBd w' own' b (acc ++ lineS [z]) /\ Goes (wr.alloc (.cells #[.string z] 9)) w' own1 own' := line_calls (hI.below (bal (Below.refl _ _) (.cells #[.string z] 9))) _ 1 [z] (C_strs [z] (heap_alloc_new wr (.cells #[.string z] 9)) (show 1 <= 9223372036854775807 by decide)) (Nat.le_refl _) HZZ.out.1 HZZ.out.2
   have HL := am hL
   clear hA hac hI hG hL
   go_wp2_with (go_at_call 20; with_reducible refine HL.out.mono ?_; rintro r w2 ⟨rfl, own2, hI2, hG2⟩; have HI2 := am hI2; have HG2 := am hG2; clear hI2 hG2)
   go_roundg (l.length - (kk + 1))
   case measure => omega
   case rel => exact ⟨kk + 1, by omega, by omega, by go_num, ⟨own2, _, HI2.out, (HG1.out.trans (Goes.below (bal (Below.refl _ _) _))).trans HG2.out, HA.out, HAC.out⟩⟩
  ·obtain rfl : kk = l.length := by omega
   rw [List.drop_length] at hA
   have hA' : acc = joinA s l := hA
   subst hA'
   have HI1 := am hI
   have HG1 := am hG
   clear hA hac hI hG
   go_wp2
   first | go_end0 | ((try simp only [Exit.inBlock, Exit.then]); refine bodyPost_ret (results_none rfl _ _ _) rfl ?_)
   exact ⟨rfl, own1, HI1.out, HG1.out⟩
end Go.Proofs.YtlfenakgphmepaaGreatDoor.Root
end
