/- Functions of the program as plain functions, and proofs that the program's calls tell what these tell. Written by a program. -/
import Derived.Test.YtaadhjpcdnbbeaaGreatDoorPrint0
import Derived.Test.YtaadhjpcdnbbeaaGreatDoorPrint3
import Derived.Test.YtaadhjpcdnbbeaaGreatDoorPrint5
import Derived.Test.YtaadhjpcdnbbeaaGreatDoorPrint6
import Derived.Test.YtaadhjpcdnbbeaaGreatDoorPrint7
namespace Go.Proofs.YtaadhjpcdnbbeaaGreatDoor.Print
open Go.RowKit Go.Proofs.YtaadhjpcdnbbeaaGreatDoorW.PrintWords Go.Proofs.YtaadhjpcdnbbeaaGreatDoorW.PrintLast Go.Proofs.YtaadhjpcdnbbeaaGreatDoorW.PrintMore Go.Proofs.YtaadhjpcdnbbeaaGreatDoor.Conv
attribute [local go_sem] max2_int min2_int max_two min_two max_three min_three max_four min_four
set_option linter.unusedVariables false
set_option linter.unusedSimpArgs false
section
attribute [local go_sem] Oper.semAt_some
theorem cut_three (A : Option Addr) (c : Nat) (xs : List Int) (a b : Int) (h0 : 0 <= a) (h1 : a < b) (hm : b <= xs.length) (hc : xs.length <= c) :
  ∃ A' : Option Addr, (∀ W : World, (Instr.slice 22 (.slice A xs.length c) (some (.int .i64 a)) (some (.int .i64 b)) (some (.int .i64 b))).run Tryz.prog W = .ok (.slice A' ((xs.take b.toNat).drop a.toNat).length ((xs.take b.toNat).drop a.toNat).length) W) /\
   (∀ w : World, ReadsOf (Value.int .u8) 0 w A xs.length xs -> ReadsOf (Value.int .u8) 0 w A' ((xs.take b.toNat).drop a.toNat).length ((xs.take b.toNat).drop a.toNat)) := by
 obtain ⟨i, hi, _, hsz, _⟩ := info_parts info5
 have hlt : (xs.take b.toNat).length = b.toNat := by rw [List.length_take]; omega
 have hl : ((xs.take b.toNat).drop a.toNat).length = b.toNat - a.toNat := by rw [List.length_drop, hlt]
 refine ⟨if b.toNat = a.toNat then A else A.map (·.add a.toNat), fun W => ?_, fun w h => ?_⟩
 ·have hel : Tryz.prog.elem 22 = 5 := by simp [Program.elem, Tryz.underlying22]
  have hu : Tryz.prog.underlying 22 = some (.slice (Tryz.prog.elem 22)) := by rw [hel]; exact Tryz.underlying22
  rw [run_slice_lhm W 22 A xs.length c hu .i64 .i64 .i64 a b b h0 (by omega) (by omega) (by omega), hel, hl]
  simp [sizeOf, typeInfo, hi, hsz, sliced, Result.andThen]
 ·have h2 := (h.take_ b.toNat (by omega)).drop_ (c := b.toNat) a.toNat (by omega) (by omega)
  rw [hl]
  exact h2
def pieces (b : List Int) : List (List Int) := (List.range ((b.length + 3999) / 4000)).map fun i => (b.drop (4000 * i)).take 4000
abbrev Piece (w : World) := { p : Option Addr × List Int // Kd.C (Kd.int .u8) w p.1 p.2.length p.2 }
def pval {w : World} (p : Piece w) : Array Value := #[.slice p.1.1 p.1.2.length p.1.2.length]
set_option maxRecDepth 100000 in
set_option maxHeartbeats 4000000 in
theorem line_chunks (b : List Int) (w w0 : World) (Bs Bn : Nat) (A : Option Addr) (c : Nat) (hsn : Bs ≠ Bn) (hBs : w.heap.size <= Bs) (hBn : w.heap.size <= Bn) (hw : Below w.heap.size w w0) (hlim : b.length < 140737488355328)
  (hS : w0.heap[Bs]? = some (.cells #[.slice A b.length c] 22 (0, 0))) (hN : w0.heap[Bn]? = some (.cells #[.int .i64 4000] 3 (0, 0))) (hC : Kd.C (Kd.int .u8) w A b.length b) (hc : b.length <= c) :
  Go.Sep.SeqSep Tryz.prog 66 #[.pointer (some ⟨Bs, 0, none⟩), .pointer (some ⟨Bn, 0, none⟩)] (pval (w := w)) (fun k => k < w.heap.size ∨ k = Bs ∨ k = Bn) (fun _ => False)
   (fun xs _ => xs.map (fun p => p.1.2) = pieces b) (fun _ _ => True) ((b.length + 3999) / 4000) w0 := by
 intro l J Jx Fp W hsz hFiW hdisj hFpl hSJ hSJx hround hJ0
 refine callsIn_of_wp Tryz.func66 rfl trivial ?_ rfl
 simp only [Tryz.ntmps66, List.size_toArray, List.length_cons, List.length_nil, Nat.reduceAdd, Nat.reduceSub, Array.replicate_succ, Array.replicate_zero, List.push_toArray, List.append_toArray, List.nil_append, List.cons_append]
 gi_wp2
 gi_loopw [4] (fun v4 wr => ∃ (Fq : Nat -> Prop) (pre : List (Piece w)) (q : Nat), v4 = .int .i64 q /\ Asd (q = 4000 * pre.length) /\ Asd (pre.map (fun p => p.1.2) = (List.range pre.length).map fun i => (b.drop (4000 * i)).take 4000) /\ Asd (q < b.length + 4000) /\ J Fq pre wr /\ Go.Sep.KeepEx Fp W wr /\ (∀ k, Fq k -> (Fp k ∨ W.heap.size <= k) /\ ¬ (k < w.heap.size ∨ k = Bs ∨ k = Bn) /\ k < wr.heap.size))
  (fun v4 _ => b.length + 4000 - (intOf v4).toNat)
 case atStart => exact ⟨Fp, [], 0, rfl, ⟨rfl⟩, ⟨rfl⟩, ⟨by omega⟩, hJ0, Go.Sep.KeepEx.refl _ _, fun k hk => ⟨.inl hk, hdisj k hk, hFpl k hk⟩⟩
 case round =>
  obtain ⟨Fq, pre, q, rfl, Hq, Hpre, Hqb, hJq, hkeep, hFq⟩ := hrel
  have hFi : ∀ k, (k < w.heap.size ∨ k = Bs ∨ k = Bn) -> wr.heap[k]? = w0.heap[k]? := fun k hk =>
   (hkeep.block k (by have := hw.size; have := (Array.getElem?_eq_some_iff.1 hS).1; have := (Array.getElem?_eq_some_iff.1 hN).1; omega) (fun h => hdisj k h hk)).trans (hFiW k hk)
  have hs0 : wr.cell? ⟨Bs, 0, none⟩ = some (.slice A b.length c) := (cell_of_row wr Bs 0 _ _ _ ((hFi Bs (.inr (.inl rfl))).trans hS)).trans rfl
  have hn0 : wr.cell? ⟨Bn, 0, none⟩ = some (.int .i64 4000) := (cell_of_row wr Bn 0 _ _ _ ((hFi Bn (.inr (.inr rfl))).trans hN)).trans rfl
  by_cases hlt : q < b.length
  ·have t1 : decide ((q : Int) < (b.length : Int)) = true := by simpa using hlt
   have t2 : decide (q < b.length) = true := by simpa using hlt
   obtain ⟨i0, hi0, _, hsz1, _⟩ := info_parts info5
   obtain ⟨A1, hcut1, _, _⟩ := print_drop_of (P := Tryz.prog) (Value.int .u8) 0 22 5 .i64 Tryz.underlying22 hi0 hsz1 A c b (q : Int) (by omega) (by omega) hc
   obtain ⟨e, he⟩ : ∃ e : Nat, e = min 4000 (b.length - q) := ⟨_, rfl⟩
   obtain ⟨A2, hcut2, hrd2⟩ := cut_three A c b (q : Int) ((q : Int) + (e : Int)) (by omega) (by omega) (by omega) hc
   have hy1 : (b.drop (q : Int).toNat).length = b.length - q := by simp
   generalize hyd : b.drop (q : Int).toNat = y1 at hcut1 hy1
   gi_wp2
   gi_region
   have hmin : (if ((b.length - q : Nat) : Int) < 4000 then ((b.length - q : Nat) : Int) else 4000) = (e : Int) := by split <;> omega
   rw [hmin]
   obtain ⟨W3, hW3⟩ : ∃ W3, W3 = wr.drew := ⟨_, rfl⟩
   rw [<- hW3]
   have hh3 : ∀ k : Nat, W3.heap[k]? = wr.heap[k]? := fun k => by rw [hW3]; rfl
   have hz3 : W3.heap.size = wr.heap.size := by rw [hW3]; rfl
   have hk3 : Go.Sep.KeepEx Fp W W3 := by rw [hW3]; exact hkeep.drew
   have hs3 : W3.cell? ⟨Bs, 0, none⟩ = some (.slice A b.length c) := by rw [hW3]; exact hs0
   have hj3 : J Fq pre W3 := hSJ _ _ _ _ hJq (fun k _ => hh3 k)
   have hC2 := Kd.C_of_reads (h1 := fun _ => rfl) (hrd2 _ (Kd.reads_of_C hC))
   have hyl : ((b.take ((q : Int) + (e : Int)).toNat).drop (q : Int).toNat) = (b.drop (4000 * pre.length)).take 4000 := by
    have := Hq.out
    have h1 : ((q : Int) + (e : Int)).toNat = q + e := by omega
    have h2 : (q : Int).toNat = q := by omega
    rw [h1, h2, <- this, List.drop_take]
    have h3 : q + e - q = e := by omega
    rw [h3]
    rcases Nat.le_total 4000 (b.length - q) with h | h
    ·rw [show e = 4000 by omega]
    ·rw [List.take_of_length_le (by simp; omega), List.take_of_length_le (by simp; omega)]
   generalize hy2 : ((b.take ((q : Int) + (e : Int)).toNat).drop (q : Int).toNat) = y2 at hC2 hcut2 hyl
   obtain ⟨fn, tmps, assign, body, hy3, hR⟩ := hround Fq pre ⟨(A2, y2), hC2⟩ W3 hj3 (by have := Hq.out; omega) (by have := hkeep.size; omega) (fun k hk => (hFq k hk).2.1) (fun k hk => by have := (hFq k hk).2.2; omega) (fun k h1 _ => (hh3 k).trans ((hFi k h1).trans (hFiW k h1).symm))
   simp only [pval] at hy3
   have HE := Asd.mk he
   have HY := Asd.mk hyl
   have b1 : (0 : Int) <= (e : Int) := by omega
   have b2 : (e : Int) <= 4000 := by omega
   have b3 : (q : Int) <= 140737488355328 := by omega
   clear hW3 hs0 hn0 hmin hy2 hyd hy1 hcut1 he hyl hrd2 hi0 hsz1
   gi_wp2
   refine ⟨rfl, hR.mono ?_⟩
   rintro e' W4 ⟨Fr, hk4, hFr, hor⟩
   have hn4 : W4.cell? ⟨Bn, 0, none⟩ = some (.int .i64 4000) := by
    have hb : W4.heap[Bn]? = some (.cells #[.int .i64 4000] 3 (0, 0)) := (hk4.block Bn (by rw [hz3]; have := hkeep.size; have := (Array.getElem?_eq_some_iff.1 hN).1; omega) (fun h => (hFq Bn h).2.1 (.inr (.inr rfl)))).trans ((hh3 Bn).trans ((hFi Bn (.inr (.inr rfl))).trans hN))
    exact (cell_of_row W4 Bn 0 _ _ _ hb).trans rfl
   have hk5 : Go.Sep.KeepEx Fp W W4 := hk3.trans hk4 (fun _ e => e) (fun k hk => (hFq k hk).1)
   have hFr5 : ∀ k, Fr k -> (Fp k ∨ W.heap.size <= k) /\ ¬ (k < w.heap.size ∨ k = Bs ∨ k = Bn) /\ k < W4.heap.size := fun k hk => by
    rcases (hFr k hk).1 with h | h
    ·exact ⟨(hFq k h).1, (hFq k h).2.1, (hFr k hk).2⟩
    ·have := hkeep.size; have := hw.size; have := (Array.getElem?_eq_some_iff.1 hS).1; have := (Array.getElem?_eq_some_iff.1 hN).1; exact ⟨.inr (by omega), fun h' => by omega, (hFr k hk).2⟩
   rcases hor with ⟨rfl, hj4⟩ | ⟨rfl, hj4⟩
   ·gi_wp2
    go_roundw
    case rel =>
     refine ⟨Fr, pre ++ [⟨(A2, y2), hC2⟩], q + 4000, by go_num, ⟨by have := Hq.out; simp; omega⟩, ⟨?_⟩, ⟨by omega⟩, hj4, hk5, hFr5⟩
     rw [List.length_append, List.length_singleton, List.range_succ, List.map_append, List.map_append, Hpre.out]
     simp only [List.map_cons, List.map_nil]
     rw [HY.out]
    case measure => simp [intOf]; omega
   ·gi_wp2
    refine bodyPost_ret (results_none rfl _ _ _) rfl ?_
    exact ⟨⟨_, rfl⟩, Fr, hk5.mono (fun i h => .inl (.inl h)), hFr5, .inr ⟨_, trivial, hj4⟩⟩
  ·have t1 : decide ((q : Int) < (b.length : Int)) = false := by simpa using hlt
   have t2 : decide (q < b.length) = false := by simpa using hlt
   gi_wp2
   go_end0
   refine ⟨⟨_, rfl⟩, Fq, hkeep.mono (fun i h => .inl (.inl h)), hFq, .inl ⟨pre, ?_, hJq⟩⟩
   rw [Hpre.out]
   unfold pieces
   rw [show (b.length + 3999) / 4000 = pre.length by have := Hq.out; have := Hqb.out; omega]
theorem line_chunk_any (A : Option Addr) (n c : Nat) (w : World) : Calls Tryz.prog 49 #[.slice A n c, .int .i64 4000] w fun e w' => e = .returned (.func (.func 66) #[] #[.pointer (some ⟨w.heap.size, 0, none⟩), .pointer (some ⟨w.heap.size + 1, 0, none⟩)]) /\ w' = (w.alloc (.cells #[.slice A n c] 22)).alloc (.cells #[.int .i64 4000] 3) := by
 go_enter Tryz.func49, Tryz.ntmps49
 go_wp2
 first
 | exact ⟨rfl, rfl⟩
 | (go_ret; exact ⟨rfl, rfl⟩)
def lineOf (p : List Int) : S60 := ⟨false, strOfNums p⟩
def line_Parts.f (l0 : List Int) : Option (List S60) := if l0.length < 140737488355328 then some ((pieces l0).map lineOf ++ [⟨true, ⟨#[]⟩⟩]) else none
set_option maxRecDepth 100000 in
set_option maxHeartbeats 4000000 in
theorem line_Parts.calls (A0 : Option Addr) (c0 : Nat) (l0 : List Int) (r : List S60) (w : World) (hr0 : Kd.C (Kd.int .u8) w A0 l0.length l0) (hc0 : l0.length <= c0) (h : line_Parts.f l0 = some r) :
  Calls Tryz.prog 31 #[.slice A0 l0.length c0] w fun e w' => ∃ v0_ : Value, e = .returned (v0_) /\ Kd.R k60 60 w' w.heap.size (fun _ => True) v0_ r /\ Below w.heap.size w w' := by
 unfold line_Parts.f at h
 split at h
 case isFalse => cases h
 case isTrue hlim =>
 obtain rfl := Option.some.inj h
 obtain ⟨i0, hi, hz0, hz1, hz2⟩ := info_parts infoL
 obtain ⟨W2, hW2⟩ : ∃ W2, W2 = ((w.alloc (.cells #[.slice none 0 0] 37)).alloc (.cells #[.slice A0 l0.length c0] 22)).alloc (.cells #[.int .i64 4000] 3) := ⟨_, rfl⟩
 have hz2' : W2.heap.size = w.heap.size + 3 := by rw [hW2]; simp
 have hb2 : Below w.heap.size w W2 := by rw [hW2]; exact bal (bal (bal (Below.refl _ _) _) _) _
 have hO2 : Boxed W2 w.heap.size 37 (.slice none 0 0) := by rw [hW2]; exact ((Boxed.new w 37 (.slice none 0 0)).alloc _).alloc _
 have hS2 : W2.heap[w.heap.size + 1]? = some (.cells #[.slice A0 l0.length c0] 22 (0, 0)) := by
  rw [hW2]; have := (Boxed.new (w.alloc (.cells #[.slice none 0 0] 37)) 22 (.slice A0 l0.length c0)).alloc (.cells #[.int .i64 4000] 3); rw [World.size_alloc] at this; exact this
 have hN2 : W2.heap[w.heap.size + 1 + 1]? = some (.cells #[.int .i64 4000] 3 (0, 0)) := by
  rw [hW2]; have := Boxed.new ((w.alloc (.cells #[.slice none 0 0] 37)).alloc (.cells #[.slice A0 l0.length c0] 22)) 3 (.int .i64 4000); rw [World.size_alloc, World.size_alloc] at this; exact this
 have hseq := line_chunks l0 w W2 (w.heap.size + 1) (w.heap.size + 1 + 1) A0 c0 (by omega) (by omega) (by omega) hb2 hlim hS2 hN2 hr0 hc0
 refine (callsIn_wide (n := 0)).1 (callsIn_of_wp_marks Tryz.func31 rfl trivial ?_ rfl)
 simp only [Tryz.ntmps31, List.size_toArray, List.length_cons, List.length_nil, Nat.reduceAdd, Nat.reduceSub, Array.replicate_succ, Array.replicate_zero, List.push_toArray, List.append_toArray, List.nil_append, List.cons_append]
 have HSEQ := Asd.mk hseq
 have HO := Asd.mk hO2
 have HZ := Asd.mk hz2'
 have HB := Asd.mk hb2
 have HW := Asd.mk hW2
 have HR0 := Asd.mk hr0
 clear hseq hO2 hz2' hb2 hW2 hS2 hN2 hr0
 gi_wp2_with (refine ⟨trivial, rfl, ?_⟩; gi_at_call 49; refine (callsIn_wide.2 (line_chunk_any _ _ _ _)).mono ?_; rintro e w' ⟨rfl, rfl⟩)
 rw [<- HW.out]
 refine Go.Sep.wpIn_rangeFunc_sep rfl (enters_of Tryz.func66 (by kernel_rfl) rfl) HSEQ.out (Nat.le_refl _) (fun k hk => rfl) (fun k hk => by have := HZ.out; omega) (fun _ => rfl) (fun _ _ _ h _ => h) (fun _ _ _ _ _ => trivial)
  (fun Fq pre W => ∃ v, Boxed W w.heap.size 37 v /\ W.ownsRow w.heap.size 60 2 v pre.length (lcells (pre.map fun p => lineOf p.1.2)) /\ Fq w.heap.size /\ ∀ k, v.ownBlock = some k -> Fq k)
  (fun _ _ _ _ => False) ?sI (fun _ _ _ _ _ h _ => h) (fun k => k = w.heap.size) ?d1 ?d2 ?h0
  (fun Fq p W => (∃ v, Boxed W w.heap.size 37 v /\ W.ownsRow w.heap.size 60 2 v p.1.length (lcells (p.1.map fun p => lineOf p.1.2)) /\ Fq w.heap.size /\ ∀ k, v.ownBlock = some k -> Fq k) /\ p.2.2 = { tmps := #[.slice A0 l0.length c0, undef, .slice none 0 0, .pointer (some ⟨w.heap.size, 0, none⟩), .slice p.2.1.1.1 p.2.1.1.2.length p.2.1.1.2.length, .slice A0 l0.length c0, .func (.func 66) #[] #[.pointer (some ⟨w.heap.size + 1, 0, none⟩), .pointer (some ⟨w.heap.size + 1 + 1, 0, none⟩)], .slice p.2.1.1.1 p.2.1.1.2.length p.2.1.1.2.length, undef, undef, undef, undef, undef, undef, undef, undef, undef, undef], defers := [] })
  ?sM ?assign ?body ?done ?stop
 case sI =>
  rintro Fq pre W W' ⟨v, hv, hr, hB, hb⟩ h
  exact ⟨v, (h _ hB).trans hv, own_move hr (fun k hk => h k (hb k hk)), hB, hb⟩
 case d1 =>
  rintro k rfl hk
  omega
 case d2 =>
  rintro k rfl
  have := HZ.out; omega
 case h0 => exact ⟨_, HO.out, World.ownsRow_nil _ _ _ _, rfl, by simp [Value.ownBlock]⟩
 case sM =>
  rintro Fq ⟨pre, x, a'⟩ W W' ⟨⟨v, hv, hr, hB, hb⟩, h3⟩ h
  exact ⟨⟨v, (h _ hB).trans hv, own_move hr (fun k hk => h k (hb k hk)), hB, hb⟩, h3⟩
 case assign =>
  rintro l Fq pre x W ⟨v, hv, hr, hB, hb⟩ hsz hFql hro
  simp only [pval, List.zip_toArray, List.zip_cons_cons, List.zip_nil_right, List.foldl_toArray', List.foldl_cons, List.foldl_nil]
  gi_wp2
  first
  | exact ⟨Fq, Go.Sep.KeepEx.refl _ _, fun k hk => ⟨.inl hk, hFql k hk⟩, ⟨v, hv, hr, hB, hb⟩, trivial⟩
  | exact ⟨Fq, Go.Sep.KeepEx.refl _ _, fun k hk => ⟨.inl hk, hFql k hk⟩, ⟨v, hv, hr, hB, hb⟩, rfl⟩
 case body =>
  rintro l Fq pre x a' W ⟨⟨v, hv, hr, hB, hb⟩, h3⟩ hlen hsz hFql hro
  dsimp only at hv hr h3
  subst h3
  have hc := hv.cell
  have hf := hv.frozen
  have hBs : w.heap.size <= W.heap.size := by have := HZ.out; omega
  have hCW : Kd.C (Kd.int .u8) W x.1.1 x.1.2.length x.1.2 := Kd.C_F (Kd.heap_int .u8) x.2 W (fun k hk _ => (hro k (.inl hk) (fun h => h)).trans (HB.out.block k hk))
  have hcv := Kd.C_string (P := Tryz.prog) (src := 22) (dst := 9) (c := x.1.2.length) Tryz.underlying22 Tryz.underlying5 Tryz.underlying9 hCW
  have hpl : (pre.length + 1) * 24 <= 140737488355328 := by omega
  have HROW := Asd.mk hr
  clear hCW hro
  gi_wp2_with (gi_at_builtin; refine wpListIn_append_own_at _ rfl _ _ 37 rfl w.heap.size 60 i0 _ 2 24 Tryz.underlying37 hi hz0 hz1 hz2 rfl (by decide) _ _ _ rfl (HROW.out.alloc _) ⟨W.heap.size, 0, none⟩ 1 1 [.bool false, .string (strOfNums x.1.2)] rfl rfl ?c1 ?c2 ?c3 ?c4 ?c5 ?_; (case c1 => exact cell_two_new _ _ _ _); (case c2 => simp [Value.oneCell']); (case c3 => unfold maxLen; omega); (case c4 => omega); (case c5 => simp; omega); intro v' w1 hown' hgrow _ hat; obtain ⟨g', cap', rfl⟩ := ownsRow_succ hown'; obtain ⟨hv1, hv2, hr2, hk2, hb2⟩ := hv.appended (by decide) HROW.out hBs (Nat.le_refl _) hown' hgrow; have hc1 := hv1.cell; have hf1 := hv1.frozen)
  have hg' : Fq g' ∨ W.heap.size <= g' := by
   rcases hat with h | h
   ·exact .inl (hb g' (Eq.symm h))
   ·exact .inr (by have h2 : some g' = some (W.alloc (.cells #[.bool false, .string (strOfNums x.1.2)] 60)).heap.size := h; simp at h2; omega)
  refine ⟨fun k => Fq k ∨ k = g', ((Go.Sep.KeepEx.refl Fq W).alloc _ |>.trans (Go.Sep.KeepEx.of_grownBy (Fp := Fq) hgrow (fun k e => .inl (hb k e))) (fun _ e => e) (fun _ e => .inl e)).setCell ⟨w.heap.size, 0, none⟩ _ (.inl hB), ?_, _, hv2, ?_, .inl hB, ?_⟩
  ·rintro k (hk | rfl)
   ·exact ⟨.inl hk, by have := hFql k hk; have := hk2.size; omega⟩
   ·exact ⟨hg', own_lt hr2 _ rfl⟩
  ·rw [List.map_append, List.map_singleton, lcells_snoc]; simpa [lineOf] using hr2
  ·intro k hk
   right
   simpa [Value.ownBlock] using hk.symm
 case done =>
  rintro D Fq xs W hD hFqD hSx ⟨v, hv, hr, hB, hb⟩ hkeep hFql hK
  have hc := hv.cell
  have hBs : w.heap.size <= W.heap.size := by have := HZ.out; have := hkeep.size; omega
  have hxl : xs.length = (l0.length + 3999) / 4000 := by have := congrArg List.length hSx; simpa [pieces] using this
  have hpl : (xs.length + 1) * 24 <= 140737488355328 := by omega
  have HROW := Asd.mk hr
  have HK := Asd.mk hK
  have HKEEP := Asd.mk hkeep
  have HX := Asd.mk hSx
  clear hr hK hkeep hSx hxl
  gi_wp2_with (gi_at_builtin; refine wpListIn_append_own_at _ rfl _ _ 37 rfl w.heap.size 60 i0 _ 2 24 Tryz.underlying37 hi hz0 hz1 hz2 rfl (by decide) _ _ _ rfl (HROW.out.alloc _) ⟨W.heap.size, 0, none⟩ 1 1 [.bool true, .string ⟨#[]⟩] rfl rfl ?c1 ?c2 ?c3 ?c4 ?c5 ?_; (case c1 => exact cell_two_new _ _ _ _); (case c2 => simp [Value.oneCell']); (case c3 => unfold maxLen; omega); (case c4 => omega); (case c5 => simp; omega); intro v' w1 hown' hgrow _ hat)
  have hDb : some D ≠ v.ownBlock := fun e => hFqD (hb D e.symm)
  have hDl : D < W.heap.size := (Array.getElem?_eq_some_iff.1 HK.out).1
  have hK1 : w1.heap[D]? = some (.deferred (some [])) := (hgrow.block D (by simp; omega) hDb).trans ((Below.heap_alloc _ _ _ hDl).trans HK.out)
  refine ⟨by simp, .inl ⟨_, _, rfl, run_takeDeferred hK1, ?_⟩⟩
  have hcells : lcells (xs.map fun p => lineOf p.1.2) ++ [.bool true, .string ⟨#[]⟩] = lcells ((pieces l0).map lineOf ++ [⟨true, ⟨#[]⟩⟩]) := by
   rw [lcells_snoc, <- HX.out, List.map_map]; rfl
  have hlen : xs.length + 1 = ((pieces l0).map lineOf ++ ([⟨true, ⟨#[]⟩⟩] : List S60)).length := by rw [<- HX.out]; simp
  have hown2 := ownsRow_putObj hown' (.deferred none) hK1 rfl
  rw [hcells, hlen] at hown2
  have hkk : Go.Sep.KeepEx (fun k => w.heap.size <= k) w (w1.putObj D (.deferred none)) :=
   ((((Go.Sep.KeepEx.of_below HB.out).trans HKEEP.out (fun _ e => e) (fun k hk => .inl (by rcases hk with rfl | hk; exact Nat.le_refl _; exact hk.elim))).alloc _).trans (Go.Sep.KeepEx.of_grownBy (Fp := fun k => w.heap.size <= k) hgrow (fun k e => .inl (own_base HROW.out k e))) (fun _ e => e) (fun _ e => .inl e)).trans (Go.Sep.KeepEx.putObj (Fp := fun k => k = D) w1 D _ rfl) (fun _ e => e) (fun k hk => .inl (by have := HZ.out; omega))
  exact ⟨_, results_tmp rfl _ _ _, v', rfl, (⟨fun _ _ => trivial, _, hown2, lcells_reps _⟩ : Kd.R k60 60 _ w.heap.size (fun _ => True) v' _), hkk.below (Nat.le_refl _) (fun _ e => e)⟩
 case stop =>
  rintro D c Fq pre W _ _ _ h
  exact h.elim
end
def line_Join.l0 : Nat -> List Int -> List (S60) -> Int -> Int -> Option (List Int)
 | 0, _, _, _, _ => none
 | k + 1, x3, x6, x7, x8 => if x8 < x7 then (if 0 <= x8 then (if x8 < (x6.length : Int) then (if x3.length + ((rd_T60 x6 x8).f1).size < 140737488355328 then (line_Join.l0 k (x3 ++ bytesOf ((rd_T60 x6 x8).f1)) x6 x7 (wrap64 (x8 + 1))) else (none)) else (none)) else (none)) else (some x3)
def line_Join.f (k : Nat) (l0 : List (S60)) : Option (List Int) := line_Join.l0 k ([] : List Int) l0 (l0.length : Int) 0
set_option maxHeartbeats 8000000 in
set_option maxRecDepth 100000 in
theorem line_Join.calls (k : Nat) (A0 : Option Addr) (c0 : Nat) (l0 : List (S60)) (r : List Int) (w : World) (hr0 : Kd.C k60 w A0 l0.length l0) (hc0 : l0.length <= c0) (h : line_Join.f k l0 = some r) :
  Calls Tryz.prog 32 #[.slice A0 l0.length c0] w fun e w' => ∃ v0_ : Value, e = .returned (v0_) /\ Kd.R (Kd.int .u8) 5 w' w.heap.size (fun _ => True) v0_ r /\ Below w.heap.size w w' := by
 have hu60 := Tryz.underlying60
 have HR0 := Asd.mk hr0
 have HC0 := Asd.mk hc0
 clear hr0 hc0
 have HB := Asd.mk (Below.refl w.heap.size w)
 have H : (line_Join.l0 k ([] : List Int) l0 (l0.length : Int) 0) = some r := h
 clear h
 have H' := Asd.mk H
 clear H
 go_enter Tryz.func32, Tryz.ntmps32
 go_wp2
 go_loopg [3, 8] k (fun kq v3 v8 w' => ∃ (x3_1 : List Int) (x8_1 : Int), v8 = .int .i64 x8_1 /\ Asd (line_Join.l0 kq x3_1 l0 (l0.length : Int) x8_1 = some r) /\ Asd (kq <= k) /\ Asd (Kd.R (Kd.int .u8) 5 w' w.heap.size (fun _ => True) v3 x3_1) /\ Asd (Below w.heap.size w w'))
 case atStart => exact ⟨(([] : List Int)), (0), (by first | rfl | (simp; done) | (simp [*]; done)), H', ⟨Nat.le_refl _⟩, ⟨by first | exact Kd.R_nil _ _ _ _ _ | exact Kd.N_nil _ _ _ _ _ | exact Kd.V_nil _ _ _ _ _ | exact Kd.Q_nil _ _ _ _ _ | exact Kd.S_nil _ _ _ _ _⟩, ⟨by repeat (first | (with_reducible first | exact HB.out | apply bal | apply pbN | apply bd1) | exact HB.out)⟩⟩
 case round =>
  clear H'
  obtain ⟨x3_1, x8_1, rfl, HA, HK1, HO_3, HB⟩ := hrel
  cases gk with
  | zero => exact absurd HA.out (by simp [line_Join.l0])
  | succ k1 =>
   have H := HA.out
   clear HA
   simp only [line_Join.l0] at H
   by_cases c2 : x8_1 < (l0.length : Int)
   ·rw [if_pos c2] at H
    have c2b0 : decide (x8_1 < (l0.length : Int)) = true := decide_eq_true c2
    clear c2
    by_cases c3 : 0 <= x8_1
    ·rw [if_pos c3] at H
     have c3b0 : decide (0 <= x8_1) = true := decide_eq_true c3
     clear c3
     by_cases c4 : x8_1 < (l0.length : Int)
     ·rw [if_pos c4] at H
      have c4b0 : decide (x8_1 < (l0.length : Int)) = true := decide_eq_true c4
      clear c4
      by_cases c5 : x3_1.length + ((rd_T60 l0 x8_1).f1).size < 140737488355328
      ·rw [if_pos c5] at H
       have LMc5 := Asd.mk c5
       clear c5
       obtain ⟨y214, hy214⟩ : ∃ y_ : List Int, y_ = (x3_1 ++ bytesOf ((rd_T60 l0 x8_1).f1)) := ⟨_, rfl⟩
       replace H : (line_Join.l0 k1 y214 l0 (l0.length : Int) (wrap64 (x8_1 + 1))) = some r := by first | (rw [hy214]; with_reducible exact H) | (have H2_ := (Option.bind_some _ _).symm.trans H; rw [hy214]; with_reducible exact H2_) | (have H2_ := (Option.bind_some _ _).symm.trans H; with_reducible exact H2_) | with_reducible exact H | (rw [hy214]; exact H) | exact H
       have Ny214 := Asd.mk hy214
       clear hy214
       have H' := Asd.mk H
       clear H
       have p212 : 0 <= (x8_1 : Int) := of_decide_eq_true (by first | (with_reducible assumption) | assumption)
       have q212 : x8_1 < (l0.length : Int) := of_decide_eq_true (by first | (with_reducible assumption) | assumption)
       obtain ⟨ad212, e212, hx212_0, hx212_1⟩ := at_T60 HR0.out x8_1 p212 q212
       cases e212
       replace hx212_0 := (HB.out.cell (World.block_lt_of_cell? w _ hx212_0)).trans hx212_0
       replace hx212_1 := (HB.out.cell (World.block_lt_of_cell? w _ hx212_1)).trans hx212_1
       replace p212 := eq_true p212
       replace q212 := eq_true q212
       go_wp2_with (first | ((with_reducible refine gate_dst (N := 5) rfl ?_); refine box_event ?hg (N := 5) ?hd (cs := #[.bool false, .string (⟨#[]⟩ : ByteArray)]) (t := 60) ?hr ?_; (case hd => rfl); (case hg => rfl); (case hr => first | (go_simp; done) | (go_simp; rfl)); intro gb213 hg w6 hbox hb; have n0_ := Asd.mk (Kd.R_below (by (with_reducible repeat (first | apply Kd.R_alloc | apply Kd.R_drewN | apply Kd.R_drew)); exact HO_3.out) hb); have n1_ := Asd.mk (below_step (by repeat (first | (with_reducible first | exact HB.out | apply bal | apply pbN | apply bd1) | exact HB.out)) hb); have n2_ := Asd.mk (hbox); have n3_ := Asd.mk ((by rw [hg]; exact (below_size (by repeat (first | (with_reducible first | exact HB.out | apply bal | apply pbN | apply bd1) | exact HB.out))) : w.heap.size <= gb213)); have n4_ := Asd.mk ((by rw [hg]; exact (below_size (by repeat (first | (with_reducible first | exact HB.out | apply bal | apply pbN | apply bd1) | exact HB.out))) : w.heap.size <= gb213)); clear HO_3; clear HB; have HO_3 := n0_; have HB := n1_; have BK213 := n2_; have GW213 := n3_; have GE213 := n4_; clear n0_ n1_ n2_ n3_ n4_; clear hb hbox hg; have hcz7_0 : w6.cell? ⟨gb213, 0, none⟩ = some (.bool false) := (blk_cell BK213.out 0).trans rfl; have hcz7_1 : w6.cell? ⟨gb213, 1, none⟩ = some (.string (⟨#[]⟩ : ByteArray)) := (blk_cell BK213.out 1).trans rfl; have hfz7_0 := blk_frozen BK213.out 0; have hfz7_1 := blk_frozen BK213.out 1) | (at_builtin; refine print_append_str (w0 := w) w.heap.size rfl (.tmp 12) _ 22 9 5 rfl Tryz.underlying22 Tryz.underlying9 info5 u3 x3_1 ((rd_T60 l0 x8_1).f1) rfl rfl ?aO ?aB ?aS ?aL ?_; (case aB => exact (by repeat (first | (with_reducible first | exact HB.out | apply bal | apply pbN | apply bd1 | refine below_set ?_ GE213.out) | exact HB.out))); (case aO => exact (Kd.own_of_R (by (with_reducible repeat (first | apply Kd.R_alloc | apply Kd.R_drewN | apply Kd.R_drew)); exact Kd.R_mono (Kd.R_far (p := ⟨gb213, 1, none⟩) (Kd.R_far (p := ⟨gb213, 0, none⟩) (Kd.R_types HO_3.out BK213.out (by decide)) (fun _ hk => hk.2) (.bool ((rd_T60 l0 x8_1).f0))) (fun _ hk => hk.2) (.string ((rd_T60 l0 x8_1).f1))) (fun _ hk => trivial)))); (case aS => exact (below_size (by repeat (first | (with_reducible first | exact HB.out | apply bal | apply pbN | apply bd1 | refine below_set ?_ GE213.out) | exact HB.out)))); (case aL => have := LMc5.out; omega); intro v215 w8 ho0 hb hg; have ho := Kd.R_of_own (h1 := fun _ => rfl) (ok := fun _ => True) ho0 (fun _ _ => trivial); clear ho0; have hat := True.intro; rw [<- Ny214.out] at ho; change Kd.R (Kd.int .u8) 5 w8 w.heap.size (fun _ => True) v215 y214 at ho; have n0_ := Asd.mk (blk_grown (g := gb213) (o := .cells #[.bool ((rd_T60 l0 x8_1).f0), .string ((rd_T60 l0 x8_1).f1)] 60 (0, 0)) (by (with_reducible repeat (first | refine blk_drewN ?_ _ | refine blk_drew ?_ | refine blk_alloc ?_ _)); refine blk_put (cs := #[.bool ((rd_T60 l0 x8_1).f0), .string (⟨#[]⟩ : ByteArray)]) ?_ 1 _ rfl; (with_reducible repeat (first | refine blk_drewN ?_ _ | refine blk_drew ?_ | refine blk_alloc ?_ _)); refine blk_put (cs := #[.bool false, .string (⟨#[]⟩ : ByteArray)]) ?_ 0 _ rfl; (with_reducible repeat (first | refine blk_drewN ?_ _ | refine blk_drew ?_ | refine blk_alloc ?_ _)); exact BK213.out) hg (Kd.R_ne HO_3.out BK213.out (by decide))); have n1_ := Asd.mk (hb); have n2_ := Asd.mk (ho); clear BK213; clear HB; clear HO_3; have BK213 := n0_; have HB := n1_; have HO216 := n2_; clear n0_ n1_ n2_; clear ho hb hg hat))
       go_roundg k1
       case measure => have := HK1.out; omega
       case rel => exact ⟨(y214), (wrap64 (x8_1 + 1)), (by first | rfl | (simp; done) | (simp [*]; done)), H', ⟨by have := HK1.out; omega⟩, ⟨by (with_reducible repeat (first | apply Kd.R_alloc | apply Kd.R_drewN | apply Kd.R_drew)); exact HO216.out⟩, ⟨by repeat (first | (with_reducible first | exact HB.out | apply bal | apply pbN | apply bd1 | refine below_set ?_ GE213.out) | exact HB.out)⟩⟩
      ·rw [if_neg c5] at H
       exact absurd H (by simp)
     ·rw [if_neg c4] at H
      exact absurd H (by simp)
    ·rw [if_neg c3] at H
     exact absurd H (by simp)
   ·rw [if_neg c2] at H
    have c2b0 : decide (x8_1 < (l0.length : Int)) = false := decide_eq_false c2
    clear c2
    obtain rfl := Option.some.inj H
    go_wp2
    go_ret
    exact ⟨_, by first | rfl | (simp [errW_none, errW_some] <;> rfl) | (simp [*, errW_none, errW_some] <;> rfl), by (with_reducible repeat (first | apply Kd.R_alloc | apply Kd.R_drewN | apply Kd.R_drew)); exact HO_3.out, by repeat (first | (with_reducible first | exact HB.out | apply bal | apply pbN | apply bd1) | exact HB.out)⟩
def sl_CutPrefix.f (a0 : ByteArray) (a1 : ByteArray) : Option (ByteArray × Bool) := (sl_HasPrefix.f a0 a1).bind fun t217 => (if t217 = true then (if 0 <= (a1.size : Int) then (if (a1.size : Int) <= (a0.size : Int) then (some (a0.extract ((a1.size : Int) : Int).toNat a0.size, true)) else (none)) else (none)) else (some (a0, false)))
set_option maxHeartbeats 8000000 in
set_option maxRecDepth 100000 in
theorem sl_CutPrefix.calls (a0 : ByteArray) (a1 : ByteArray) (r1 : ByteArray) (r2 : Bool) (w : World) (h : sl_CutPrefix.f a0 a1 = some (r1, r2)) :
  Calls Tryz.prog 67 #[.string a0, .string a1] w fun e w' => e = .returned (.tuple #[.string r1, .bool r2]) /\ Drawn0 w w' := by
 have H : ((sl_HasPrefix.f a0 a1).bind fun t217 => (if t217 = true then (if 0 <= (a1.size : Int) then (if (a1.size : Int) <= (a0.size : Int) then (some (a0.extract ((a1.size : Int) : Int).toNat a0.size, true)) else (none)) else (none)) else (some (a0, false)))) = some (r1, r2) := h
 clear h
 replace H := Option.bind_eq_some_iff.mp H
 obtain ⟨t217, A30, H⟩ := H
 replace H : (if t217 = true then (if 0 <= (a1.size : Int) then (if (a1.size : Int) <= (a0.size : Int) then (some (a0.extract ((a1.size : Int) : Int).toNat a0.size, true)) else (none)) else (none)) else (some (a0, false))) = some (r1, r2) := H
 have A3 := Asd.mk A30
 clear A30
 by_cases c4 : t217 = true
 ·subst c4
  have H1 : (if 0 <= (a1.size : Int) then (if (a1.size : Int) <= (a0.size : Int) then (some (a0.extract ((a1.size : Int) : Int).toNat a0.size, true)) else (none)) else (none)) = some (r1, r2) := by rw [if_pos rfl] at H; exact H
  clear H
  have H := H1
  clear H1
  by_cases c5 : 0 <= (a1.size : Int)
  ·rw [if_pos c5] at H
   have c5b0 := eq_true c5
   have c5b1 : decide (0 <= (a1.size : Int)) = true := decide_eq_true c5
   clear c5
   by_cases c6 : (a1.size : Int) <= (a0.size : Int)
   ·rw [if_pos c6] at H
    have c6b0 := eq_true c6
    have c6b1 : decide ((a1.size : Int) <= (a0.size : Int)) = true := decide_eq_true c6
    clear c6
    simp only [Option.some.injEq, Prod.mk.injEq] at H
    obtain ⟨rfl, rfl⟩ := H
    go_enter Tryz.func67, Tryz.ntmps67
    go_wp2_with (first | ((with_reducible refine gate_callee (f := 79) rfl ?_); refine goesL_ (some 8) rfl rfl Tryz.func79 (by kernel_rfl) rfl #[.string a0, .string a1] rfl (by (try simp only [List.map_toArray, List.map_cons, List.map_nil]); first | done | rfl | (simp only [List.length_drop, List.length_take]; rfl)) ?_; (with_reducible refine (sl_HasPrefix.calls a0 a1 true _ A3.out).mono ?_); rintro e w' ⟨rfl, ⟨nd, rfl⟩⟩; refine ⟨_, rfl, ?_⟩))
    go_ret2
    exact ⟨by first | rfl | (simp; done) | (simp [*]; done), by repeat (first | exact Drawn0.refl _ | apply Drawn0.step)⟩
   ·rw [if_neg c6] at H
    exact absurd H (by simp)
  ·rw [if_neg c5] at H
   exact absurd H (by simp)
 ·replace c4 := Bool.eq_false_iff.mpr c4
  subst c4
  have H1 : (some (a0, false)) = some (r1, r2) := by rw [if_neg (show ¬ (false = true) by decide)] at H; exact H
  clear H
  have H := H1
  clear H1
  simp only [Option.some.injEq, Prod.mk.injEq] at H
  obtain ⟨rfl, rfl⟩ := H
  go_enter Tryz.func67, Tryz.ntmps67
  go_wp2_with (first | ((with_reducible refine gate_callee (f := 79) rfl ?_); refine goesL_ (some 8) rfl rfl Tryz.func79 (by kernel_rfl) rfl #[.string a0, .string a1] rfl (by (try simp only [List.map_toArray, List.map_cons, List.map_nil]); first | done | rfl | (simp only [List.length_drop, List.length_take]; rfl)) ?_; (with_reducible refine (sl_HasPrefix.calls a0 a1 false _ A3.out).mono ?_); rintro e w' ⟨rfl, ⟨nd, rfl⟩⟩; refine ⟨_, rfl, ?_⟩))
  go_ret2
  exact ⟨by first | rfl | (simp; done) | (simp [*]; done), by repeat (first | exact Drawn0.refl _ | apply Drawn0.step)⟩
def strings_CutPrefix.f (a0 : ByteArray) (a1 : ByteArray) : Option (ByteArray × Bool) := (sl_CutPrefix.f a0 a1).bind fun bt218 => (some (bt218.1, bt218.2))
set_option maxHeartbeats 8000000 in
set_option maxRecDepth 100000 in
theorem strings_CutPrefix.calls (a0 : ByteArray) (a1 : ByteArray) (r1 : ByteArray) (r2 : Bool) (w : World) (h : strings_CutPrefix.f a0 a1 = some (r1, r2)) :
  Calls Tryz.prog 50 #[.string a0, .string a1] w fun e w' => e = .returned (.tuple #[.string r1, .bool r2]) /\ Drawn0 w w' := by
 have H : ((sl_CutPrefix.f a0 a1).bind fun bt218 => (some (bt218.1, bt218.2))) = some (r1, r2) := h
 clear h
 replace H := Option.bind_eq_some_iff.mp H
 obtain ⟨⟨t218, t219⟩, A30, H⟩ := H
 replace H : (some (t218, t219)) = some (r1, r2) := H
 have A3 := Asd.mk A30
 clear A30
 simp only [Option.some.injEq, Prod.mk.injEq] at H
 obtain ⟨rfl, rfl⟩ := H
 go_enter Tryz.func50, Tryz.ntmps50
 go_wp2_with (first | ((with_reducible refine gate_callee (f := 67) rfl ?_); refine goesL_ (some 8) rfl rfl Tryz.func67 (by kernel_rfl) rfl #[.string a0, .string a1] rfl (by (try simp only [List.map_toArray, List.map_cons, List.map_nil]); first | done | rfl | (simp only [List.length_drop, List.length_take]; rfl)) ?_; (with_reducible refine (sl_CutPrefix.calls a0 a1 t218 t219 _ A3.out).mono ?_); rintro e w' ⟨rfl, ⟨nd, rfl⟩⟩; refine ⟨_, rfl, ?_⟩))
 go_ret2
 exact ⟨by first | rfl | (simp; done) | (simp [*]; done), by repeat (first | exact Drawn0.refl _ | apply Drawn0.step)⟩
def num_Decimal.l0 : Nat -> ByteArray -> Int -> Int -> Int -> Option (Int × Bool)
 | 0, _, _, _, _ => none
 | k + 1, x0, x4, x7, x8 => if x8 < x7 then (if 0 <= x8 then (if x8 < (x0.size : Int) then (if (bt x0 x8) < 48 then (some (0, false)) else (if (bt x0 x8) > 57 then (some (0, false)) else (if x8 = 13 then (some (0, false)) else (num_Decimal.l0 k x0 (wrap64 ((wrap64 (10 * x4)) + (((bt x0 x8) - 48) % 256))) x7 (wrap64 (x8 + 1)))))) else (none)) else (none)) else (if x4 > 1099511627776 then (some (0, false)) else ((num_Text.f x4).bind fun t220 => (if t220.toList = x0.toList then (some (x4, true)) else (some (0, false)))))
def num_Decimal.f (k : Nat) (a0 : ByteArray) : Option (Int × Bool) := num_Decimal.l0 k a0 0 (a0.size : Int) 0
theorem num_Decimal.mono_l : ∀ k, (∀ y0 y1 y2 y3, LeO (num_Decimal.l0 k y0 y1 y2 y3) (num_Decimal.l0 (k + 1) y0 y1 y2 y3))
 | 0 => fun _ _ _ _ r h => by simp [num_Decimal.l0] at h
 | k + 1 => by
  have ih0 := num_Decimal.mono_l k
  ·intro y0 y1 y2 y3
   unfold num_Decimal.l0
   repeat' first
   | (with_reducible exact ih0 _ _ _ _)
   | (with_reducible exact LeO.refl _)
   | (with_reducible exact LeO.none _)
   | (with_reducible refine LeO.ite ?_ ?_)
   | (with_reducible refine LeO.bind ?_ (fun _ => ?_))
   | exact ih0 _ _ _ _
   | exact LeO.none _
   | refine LeO.ite ?_ ?_
   | refine LeO.bind ?_ (fun _ => ?_)
theorem num_Decimal.mono : ∀ a0 k, LeO (num_Decimal.f k a0) (num_Decimal.f (k + 1) a0) := by
 intro a0 k
 have ih0 := num_Decimal.mono_l k
 unfold num_Decimal.f
 repeat' first
   | (with_reducible exact ih0 _ _ _ _)
   | (with_reducible exact LeO.refl _)
   | (with_reducible exact LeO.none _)
   | (with_reducible refine LeO.ite ?_ ?_)
   | (with_reducible refine LeO.bind ?_ (fun _ => ?_))
   | exact ih0 _ _ _ _
   | exact LeO.none _
   | refine LeO.ite ?_ ?_
   | refine LeO.bind ?_ (fun _ => ?_)
set_option maxHeartbeats 8000000 in
set_option maxRecDepth 100000 in
theorem num_Decimal.calls (k : Nat) (a0 : ByteArray) (r1 : Int) (r2 : Bool) (w : World) (h : num_Decimal.f k a0 = some (r1, r2)) :
  Calls Tryz.prog 52 #[.string a0] w fun e w' => e = .returned (.tuple #[.int .i64 r1, .bool r2]) /\ Drawn0 w w' := by
 have H : (num_Decimal.l0 k a0 0 (a0.size : Int) 0) = some (r1, r2) := h
 clear h
 have H' := Asd.mk H
 clear H
 go_enter Tryz.func52, Tryz.ntmps52
 go_wp2
 go_loopg [4, 8] k (fun kq v4 v8 w' => ∃ (x4_1 : Int) (x8_1 : Int), v4 = .int .i64 x4_1 /\ v8 = .int .i64 x8_1 /\ Asd (num_Decimal.l0 kq a0 x4_1 (a0.size : Int) x8_1 = some (r1, r2)) /\ Asd (kq <= k) /\ Drawn0 w w')
 case atStart => exact ⟨(0), (0), (by first | rfl | (simp; done) | (simp [*]; done)), (by first | rfl | (simp; done) | (simp [*]; done)), H', ⟨Nat.le_refl _⟩, by repeat (first | exact Drawn0.refl _ | apply Drawn0.step)⟩
 case round =>
  clear H'
  obtain ⟨x4_1, x8_1, rfl, rfl, HA, HK1, ⟨m1, rfl⟩⟩ := hrel
  cases gk with
  | zero => exact absurd HA.out (by simp [num_Decimal.l0])
  | succ k1 =>
   have H := HA.out
   clear HA
   simp only [num_Decimal.l0] at H
   by_cases c2 : x8_1 < (a0.size : Int)
   ·rw [if_pos c2] at H
    have c2b0 : decide (x8_1 < (a0.size : Int)) = true := decide_eq_true c2
    clear c2
    by_cases c3 : 0 <= x8_1
    ·rw [if_pos c3] at H
     have c3b0 : decide (0 <= x8_1) = true := decide_eq_true c3
     clear c3
     by_cases c4 : x8_1 < (a0.size : Int)
     ·rw [if_pos c4] at H
      have c4b0 : decide (x8_1 < (a0.size : Int)) = true := decide_eq_true c4
      clear c4
      by_cases c6 : (bt a0 x8_1) < 48
      ·rw [if_pos c6] at H
       have c6b0 : decide ((bt a0 x8_1) < 48) = true := decide_eq_true c6
       clear c6
       simp only [Option.some.injEq, Prod.mk.injEq] at H
       obtain ⟨rfl, rfl⟩ := H
       have p5 : 0 <= (x8_1 : Int) := of_decide_eq_true (by first | (with_reducible assumption) | assumption)
       have q5 : x8_1 < (a0.size : Int) := of_decide_eq_true (by first | (with_reducible assumption) | assumption)
       have hx5 := bt_at a0 x8_1
       replace p5 := eq_true p5
       replace q5 := eq_true q5
       go_wp2
       go_ret2
       exact ⟨by first | rfl | (simp; done) | (simp [*]; done), by repeat (first | exact Drawn0.refl _ | apply Drawn0.step)⟩
      ·rw [if_neg c6] at H
       have c6b0 : decide ((bt a0 x8_1) < 48) = false := decide_eq_false c6
       clear c6
       by_cases c8 : (bt a0 x8_1) > 57
       ·rw [if_pos c8] at H
        have c8b0 : decide (57 < (bt a0 x8_1)) = true := decide_eq_true c8
        clear c8
        simp only [Option.some.injEq, Prod.mk.injEq] at H
        obtain ⟨rfl, rfl⟩ := H
        have p5 : 0 <= (x8_1 : Int) := of_decide_eq_true (by first | (with_reducible assumption) | assumption)
        have q5 : x8_1 < (a0.size : Int) := of_decide_eq_true (by first | (with_reducible assumption) | assumption)
        have hx5 := bt_at a0 x8_1
        replace p5 := eq_true p5
        replace q5 := eq_true q5
        have p7 : 0 <= (x8_1 : Int) := of_decide_eq_true (by first | (with_reducible assumption) | assumption)
        have q7 : x8_1 < (a0.size : Int) := of_decide_eq_true (by first | (with_reducible assumption) | assumption)
        have hx7 := bt_at a0 x8_1
        replace p7 := eq_true p7
        replace q7 := eq_true q7
        go_wp2
        go_ret2
        exact ⟨by first | rfl | (simp; done) | (simp [*]; done), by repeat (first | exact Drawn0.refl _ | apply Drawn0.step)⟩
       ·rw [if_neg c8] at H
        have c8b0 : decide (57 < (bt a0 x8_1)) = false := decide_eq_false c8
        clear c8
        by_cases c9 : x8_1 = 13
        ·rw [if_pos c9] at H
         have c9b0 : (x8_1 == 13) = true := beq_iff_eq.mpr c9
         have c9b1 : (x8_1 != 13) = false := bne_eq_false_iff_eq.mpr c9
         clear c9
         simp only [Option.some.injEq, Prod.mk.injEq] at H
         obtain ⟨rfl, rfl⟩ := H
         have p5 : 0 <= (x8_1 : Int) := of_decide_eq_true (by first | (with_reducible assumption) | assumption)
         have q5 : x8_1 < (a0.size : Int) := of_decide_eq_true (by first | (with_reducible assumption) | assumption)
         have hx5 := bt_at a0 x8_1
         replace p5 := eq_true p5
         replace q5 := eq_true q5
         have p7 : 0 <= (x8_1 : Int) := of_decide_eq_true (by first | (with_reducible assumption) | assumption)
         have q7 : x8_1 < (a0.size : Int) := of_decide_eq_true (by first | (with_reducible assumption) | assumption)
         have hx7 := bt_at a0 x8_1
         replace p7 := eq_true p7
         replace q7 := eq_true q7
         go_wp2
         go_ret2
         exact ⟨by first | rfl | (simp; done) | (simp [*]; done), by repeat (first | exact Drawn0.refl _ | apply Drawn0.step)⟩
        ·rw [if_neg c9] at H
         have c9b0 : (x8_1 == 13) = false := beq_eq_false_iff_ne.mpr c9
         have c9b1 : (x8_1 != 13) = true := bne_iff_ne.mpr c9
         have H' := Asd.mk H
         clear H
         have p5 : 0 <= (x8_1 : Int) := of_decide_eq_true (by first | (with_reducible assumption) | assumption)
         have q5 : x8_1 < (a0.size : Int) := of_decide_eq_true (by first | (with_reducible assumption) | assumption)
         have hx5 := bt_at a0 x8_1
         replace p5 := eq_true p5
         replace q5 := eq_true q5
         have p7 : 0 <= (x8_1 : Int) := of_decide_eq_true (by first | (with_reducible assumption) | assumption)
         have q7 : x8_1 < (a0.size : Int) := of_decide_eq_true (by first | (with_reducible assumption) | assumption)
         have hx7 := bt_at a0 x8_1
         replace p7 := eq_true p7
         replace q7 := eq_true q7
         have p10 : 0 <= (x8_1 : Int) := of_decide_eq_true (by first | (with_reducible assumption) | assumption)
         have q10 : x8_1 < (a0.size : Int) := of_decide_eq_true (by first | (with_reducible assumption) | assumption)
         have hx10 := bt_at a0 x8_1
         replace p10 := eq_true p10
         replace q10 := eq_true q10
         go_wp2
         go_roundg k1
         case measure => have := HK1.out; omega
         case rel => exact ⟨(wrap64 ((wrap64 (10 * x4_1)) + (((bt a0 x8_1) - 48) % 256))), (wrap64 (x8_1 + 1)), (by first | rfl | (simp; done) | (simp [*]; done)), (by first | rfl | (simp; done) | (simp [*]; done)), H', ⟨by have := HK1.out; omega⟩, by repeat (first | exact Drawn0.refl _ | apply Drawn0.step)⟩
     ·rw [if_neg c4] at H
      exact absurd H (by simp)
    ·rw [if_neg c3] at H
     exact absurd H (by simp)
   ·rw [if_neg c2] at H
    have c2b0 : decide (x8_1 < (a0.size : Int)) = false := decide_eq_false c2
    clear c2
    by_cases c11 : x4_1 > 1099511627776
    ·rw [if_pos c11] at H
     have c11b0 : decide (1099511627776 < x4_1) = true := decide_eq_true c11
     clear c11
     simp only [Option.some.injEq, Prod.mk.injEq] at H
     obtain ⟨rfl, rfl⟩ := H
     go_wp2
     go_ret2
     exact ⟨by first | rfl | (simp; done) | (simp [*]; done), by repeat (first | exact Drawn0.refl _ | apply Drawn0.step)⟩
    ·rw [if_neg c11] at H
     have c11b0 : decide (1099511627776 < x4_1) = false := decide_eq_false c11
     clear c11
     replace H := Option.bind_eq_some_iff.mp H
     obtain ⟨t220, A120, H⟩ := H
     replace H : (if t220.toList = a0.toList then (some (x4_1, true)) else (some (0, false))) = some (r1, r2) := H
     have A12 := Asd.mk A120
     clear A120
     by_cases c13 : t220.toList = a0.toList
     ·rw [if_pos c13] at H
      have c13b0 : (t220.toList == a0.toList) = true := beq_iff_eq.mpr c13
      have c13b1 : (t220.toList != a0.toList) = false := bne_eq_false_iff_eq.mpr c13
      clear c13
      simp only [Option.some.injEq, Prod.mk.injEq] at H
      obtain ⟨rfl, rfl⟩ := H
      go_wp2_with (first | (go_at_call 39; (with_reducible refine (num_Text.calls x4_1 t220 _ A12.out).mono ?_); rintro e w' ⟨rfl, ⟨nd, rfl⟩⟩))
      go_ret2
      exact ⟨by first | rfl | (simp; done) | (simp [*]; done), by repeat (first | exact Drawn0.refl _ | apply Drawn0.step)⟩
     ·rw [if_neg c13] at H
      have c13b0 : (t220.toList == a0.toList) = false := beq_eq_false_iff_ne.mpr c13
      have c13b1 : (t220.toList != a0.toList) = true := bne_iff_ne.mpr c13
      simp only [Option.some.injEq, Prod.mk.injEq] at H
      obtain ⟨rfl, rfl⟩ := H
      go_wp2_with (first | (go_at_call 39; (with_reducible refine (num_Text.calls x4_1 t220 _ A12.out).mono ?_); rintro e w' ⟨rfl, ⟨nd, rfl⟩⟩))
      go_ret2
      exact ⟨by first | rfl | (simp; done) | (simp [*]; done), by repeat (first | exact Drawn0.refl _ | apply Drawn0.step)⟩
def serve_failure.f (k : Nat) (a0 : ByteArray) : Option (Int) := (strings_CutPrefix.f a0 (⟨#[101, 114, 114, 111, 114, 32]⟩ : ByteArray)).bind fun bt221 => ((strings_CutSuffix.f bt221.1 (⟨#[10]⟩ : ByteArray)).bind fun bt223 => ((num_Decimal.f k bt223.1).bind fun bt225 => (if bt221.2 = true then (if bt223.2 = true then (if bt225.2 = true then (some bt225.1) else (some 0)) else (some 0)) else (some 0))))
theorem serve_failure.mono : ∀ a0 k, LeO (serve_failure.f k a0) (serve_failure.f (k + 1) a0) := by
 intro a0 k
 unfold serve_failure.f
 repeat' first
   | (with_reducible exact num_Decimal.mono _ _)
   | (with_reducible exact LeO.refl _)
   | (with_reducible exact LeO.none _)
   | (with_reducible refine LeO.ite ?_ ?_)
   | (with_reducible refine LeO.bind ?_ (fun _ => ?_))
   | exact num_Decimal.mono _ _
   | exact LeO.none _
   | refine LeO.ite ?_ ?_
   | refine LeO.bind ?_ (fun _ => ?_)
set_option maxHeartbeats 8000000 in
set_option maxRecDepth 100000 in
theorem serve_failure.calls (k : Nat) (a0 : ByteArray) (r : Int) (w : World) (h : serve_failure.f k a0 = some r) :
  Calls Tryz.prog 34 #[.string a0] w fun e w' => e = .returned (.int .i64 r) /\ Drawn0 w w' := by
 have H : ((strings_CutPrefix.f a0 (⟨#[101, 114, 114, 111, 114, 32]⟩ : ByteArray)).bind fun bt221 => ((strings_CutSuffix.f bt221.1 (⟨#[10]⟩ : ByteArray)).bind fun bt223 => ((num_Decimal.f k bt223.1).bind fun bt225 => (if bt221.2 = true then (if bt223.2 = true then (if bt225.2 = true then (some bt225.1) else (some 0)) else (some 0)) else (some 0))))) = some r := h
 clear h
 replace H := Option.bind_eq_some_iff.mp H
 obtain ⟨⟨t221, t222⟩, A20, H⟩ := H
 replace H : ((strings_CutSuffix.f t221 (⟨#[10]⟩ : ByteArray)).bind fun bt223 => ((num_Decimal.f k bt223.1).bind fun bt225 => (if t222 = true then (if bt223.2 = true then (if bt225.2 = true then (some bt225.1) else (some 0)) else (some 0)) else (some 0)))) = some r := H
 have A2 := Asd.mk A20
 clear A20
 replace H := Option.bind_eq_some_iff.mp H
 obtain ⟨⟨t223, t224⟩, A30, H⟩ := H
 replace H : ((num_Decimal.f k t223).bind fun bt225 => (if t222 = true then (if t224 = true then (if bt225.2 = true then (some bt225.1) else (some 0)) else (some 0)) else (some 0))) = some r := H
 have A3 := Asd.mk A30
 clear A30
 replace H := Option.bind_eq_some_iff.mp H
 obtain ⟨⟨t225, t226⟩, A40, H⟩ := H
 replace H : (if t222 = true then (if t224 = true then (if t226 = true then (some t225) else (some 0)) else (some 0)) else (some 0)) = some r := H
 have A4 := Asd.mk A40
 clear A40
 by_cases c5 : t222 = true
 ·subst c5
  have H1 : (if t224 = true then (if t226 = true then (some t225) else (some 0)) else (some 0)) = some r := by rw [if_pos rfl] at H; exact H
  clear H
  have H := H1
  clear H1
  by_cases c6 : t224 = true
  ·subst c6
   have H1 : (if t226 = true then (some t225) else (some 0)) = some r := by rw [if_pos rfl] at H; exact H
   clear H
   have H := H1
   clear H1
   by_cases c7 : t226 = true
   ·subst c7
    have H1 : (some t225) = some r := by rw [if_pos rfl] at H; exact H
    clear H
    have H := H1
    clear H1
    obtain rfl := Option.some.inj H
    go_enter Tryz.func34, Tryz.ntmps34
    go_wp2_with (first | ((with_reducible refine gate_callee (f := 50) rfl ?_); refine goesL_ (some 9) rfl rfl Tryz.func50 (by kernel_rfl) rfl #[.string a0, .string (⟨#[101, 114, 114, 111, 114, 32]⟩ : ByteArray)] rfl (by (try simp only [List.map_toArray, List.map_cons, List.map_nil]); first | done | rfl | (simp only [List.length_drop, List.length_take]; rfl)) ?_; (with_reducible refine (strings_CutPrefix.calls a0 (⟨#[101, 114, 114, 111, 114, 32]⟩ : ByteArray) t221 true _ A2.out).mono ?_); rintro e w' ⟨rfl, ⟨nd, rfl⟩⟩; refine ⟨_, rfl, ?_⟩) | ((with_reducible refine gate_callee (f := 51) rfl ?_); refine goesL_ (some 14) rfl rfl Tryz.func51 (by kernel_rfl) rfl #[.string t221, .string (⟨#[10]⟩ : ByteArray)] rfl (by (try simp only [List.map_toArray, List.map_cons, List.map_nil]); first | done | rfl | (simp only [List.length_drop, List.length_take]; rfl)) ?_; (with_reducible refine (strings_CutSuffix.calls t221 (⟨#[10]⟩ : ByteArray) t223 true _ A3.out).mono ?_); rintro e w' ⟨rfl, ⟨nd, rfl⟩⟩; refine ⟨_, rfl, ?_⟩) | ((with_reducible refine gate_callee (f := 52) rfl ?_); refine goesL_ (some 19) rfl rfl Tryz.func52 (by kernel_rfl) rfl #[.string t223] rfl (by (try simp only [List.map_toArray, List.map_cons, List.map_nil]); first | done | rfl | (simp only [List.length_drop, List.length_take]; rfl)) ?_; (with_reducible refine (num_Decimal.calls k t223 t225 true _ A4.out).mono ?_); rintro e w' ⟨rfl, ⟨nd, rfl⟩⟩; refine ⟨_, rfl, ?_⟩))
    go_ret
    exact ⟨by first | rfl | (simp; done) | (simp [*]; done), by repeat (first | exact Drawn0.refl _ | apply Drawn0.step)⟩
   ·replace c7 := Bool.eq_false_iff.mpr c7
    subst c7
    have H1 : (some 0) = some r := by rw [if_neg (show ¬ (false = true) by decide)] at H; exact H
    clear H
    have H := H1
    clear H1
    obtain rfl := Option.some.inj H
    go_enter Tryz.func34, Tryz.ntmps34
    go_wp2_with (first | ((with_reducible refine gate_callee (f := 50) rfl ?_); refine goesL_ (some 9) rfl rfl Tryz.func50 (by kernel_rfl) rfl #[.string a0, .string (⟨#[101, 114, 114, 111, 114, 32]⟩ : ByteArray)] rfl (by (try simp only [List.map_toArray, List.map_cons, List.map_nil]); first | done | rfl | (simp only [List.length_drop, List.length_take]; rfl)) ?_; (with_reducible refine (strings_CutPrefix.calls a0 (⟨#[101, 114, 114, 111, 114, 32]⟩ : ByteArray) t221 true _ A2.out).mono ?_); rintro e w' ⟨rfl, ⟨nd, rfl⟩⟩; refine ⟨_, rfl, ?_⟩) | ((with_reducible refine gate_callee (f := 51) rfl ?_); refine goesL_ (some 14) rfl rfl Tryz.func51 (by kernel_rfl) rfl #[.string t221, .string (⟨#[10]⟩ : ByteArray)] rfl (by (try simp only [List.map_toArray, List.map_cons, List.map_nil]); first | done | rfl | (simp only [List.length_drop, List.length_take]; rfl)) ?_; (with_reducible refine (strings_CutSuffix.calls t221 (⟨#[10]⟩ : ByteArray) t223 true _ A3.out).mono ?_); rintro e w' ⟨rfl, ⟨nd, rfl⟩⟩; refine ⟨_, rfl, ?_⟩) | ((with_reducible refine gate_callee (f := 52) rfl ?_); refine goesL_ (some 19) rfl rfl Tryz.func52 (by kernel_rfl) rfl #[.string t223] rfl (by (try simp only [List.map_toArray, List.map_cons, List.map_nil]); first | done | rfl | (simp only [List.length_drop, List.length_take]; rfl)) ?_; (with_reducible refine (num_Decimal.calls k t223 t225 false _ A4.out).mono ?_); rintro e w' ⟨rfl, ⟨nd, rfl⟩⟩; refine ⟨_, rfl, ?_⟩))
    go_ret
    exact ⟨by first | rfl | (simp; done) | (simp [*]; done), by repeat (first | exact Drawn0.refl _ | apply Drawn0.step)⟩
  ·replace c6 := Bool.eq_false_iff.mpr c6
   subst c6
   have H1 : (some 0) = some r := by rw [if_neg (show ¬ (false = true) by decide)] at H; exact H
   clear H
   have H := H1
   clear H1
   obtain rfl := Option.some.inj H
   go_enter Tryz.func34, Tryz.ntmps34
   go_wp2_with (first | ((with_reducible refine gate_callee (f := 50) rfl ?_); refine goesL_ (some 9) rfl rfl Tryz.func50 (by kernel_rfl) rfl #[.string a0, .string (⟨#[101, 114, 114, 111, 114, 32]⟩ : ByteArray)] rfl (by (try simp only [List.map_toArray, List.map_cons, List.map_nil]); first | done | rfl | (simp only [List.length_drop, List.length_take]; rfl)) ?_; (with_reducible refine (strings_CutPrefix.calls a0 (⟨#[101, 114, 114, 111, 114, 32]⟩ : ByteArray) t221 true _ A2.out).mono ?_); rintro e w' ⟨rfl, ⟨nd, rfl⟩⟩; refine ⟨_, rfl, ?_⟩) | ((with_reducible refine gate_callee (f := 51) rfl ?_); refine goesL_ (some 14) rfl rfl Tryz.func51 (by kernel_rfl) rfl #[.string t221, .string (⟨#[10]⟩ : ByteArray)] rfl (by (try simp only [List.map_toArray, List.map_cons, List.map_nil]); first | done | rfl | (simp only [List.length_drop, List.length_take]; rfl)) ?_; (with_reducible refine (strings_CutSuffix.calls t221 (⟨#[10]⟩ : ByteArray) t223 false _ A3.out).mono ?_); rintro e w' ⟨rfl, ⟨nd, rfl⟩⟩; refine ⟨_, rfl, ?_⟩) | ((with_reducible refine gate_callee (f := 52) rfl ?_); refine goesL_ (some 19) rfl rfl Tryz.func52 (by kernel_rfl) rfl #[.string t223] rfl (by (try simp only [List.map_toArray, List.map_cons, List.map_nil]); first | done | rfl | (simp only [List.length_drop, List.length_take]; rfl)) ?_; (with_reducible refine (num_Decimal.calls k t223 t225 t226 _ A4.out).mono ?_); rintro e w' ⟨rfl, ⟨nd, rfl⟩⟩; refine ⟨_, rfl, ?_⟩))
   go_ret
   exact ⟨by first | rfl | (simp; done) | (simp [*]; done), by repeat (first | exact Drawn0.refl _ | apply Drawn0.step)⟩
 ·replace c5 := Bool.eq_false_iff.mpr c5
  subst c5
  have H1 : (some 0) = some r := by rw [if_neg (show ¬ (false = true) by decide)] at H; exact H
  clear H
  have H := H1
  clear H1
  obtain rfl := Option.some.inj H
  go_enter Tryz.func34, Tryz.ntmps34
  go_wp2_with (first | ((with_reducible refine gate_callee (f := 50) rfl ?_); refine goesL_ (some 9) rfl rfl Tryz.func50 (by kernel_rfl) rfl #[.string a0, .string (⟨#[101, 114, 114, 111, 114, 32]⟩ : ByteArray)] rfl (by (try simp only [List.map_toArray, List.map_cons, List.map_nil]); first | done | rfl | (simp only [List.length_drop, List.length_take]; rfl)) ?_; (with_reducible refine (strings_CutPrefix.calls a0 (⟨#[101, 114, 114, 111, 114, 32]⟩ : ByteArray) t221 false _ A2.out).mono ?_); rintro e w' ⟨rfl, ⟨nd, rfl⟩⟩; refine ⟨_, rfl, ?_⟩) | ((with_reducible refine gate_callee (f := 51) rfl ?_); refine goesL_ (some 14) rfl rfl Tryz.func51 (by kernel_rfl) rfl #[.string t221, .string (⟨#[10]⟩ : ByteArray)] rfl (by (try simp only [List.map_toArray, List.map_cons, List.map_nil]); first | done | rfl | (simp only [List.length_drop, List.length_take]; rfl)) ?_; (with_reducible refine (strings_CutSuffix.calls t221 (⟨#[10]⟩ : ByteArray) t223 t224 _ A3.out).mono ?_); rintro e w' ⟨rfl, ⟨nd, rfl⟩⟩; refine ⟨_, rfl, ?_⟩) | ((with_reducible refine gate_callee (f := 52) rfl ?_); refine goesL_ (some 19) rfl rfl Tryz.func52 (by kernel_rfl) rfl #[.string t223] rfl (by (try simp only [List.map_toArray, List.map_cons, List.map_nil]); first | done | rfl | (simp only [List.length_drop, List.length_take]; rfl)) ?_; (with_reducible refine (num_Decimal.calls k t223 t225 t226 _ A4.out).mono ?_); rintro e w' ⟨rfl, ⟨nd, rfl⟩⟩; refine ⟨_, rfl, ?_⟩))
  go_ret
  exact ⟨by first | rfl | (simp; done) | (simp [*]; done), by repeat (first | exact Drawn0.refl _ | apply Drawn0.step)⟩
end Go.Proofs.YtaadhjpcdnbbeaaGreatDoor.Print
