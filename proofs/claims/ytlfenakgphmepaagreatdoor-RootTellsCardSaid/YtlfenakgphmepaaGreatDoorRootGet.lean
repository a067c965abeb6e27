/- Get: a root out of lines. -/
import Derived.Test.YtlfenakgphmepaaGreatDoorRootPut
import Derived.Test.YtlfenakgphmepaaGreatDoorRootErr
namespace Go.Proofs.YtlfenakgphmepaaGreatDoor.Root
open Go.RowKit YtlfenakgphmepaaGreatDoorW.PrintWords YtlfenakgphmepaaGreatDoorW.PrintLast YtlfenakgphmepaaGreatDoorW.PrintMore YtlfenakgphmepaaGreatDoor.Conv Print Build
set_option linter.unusedVariables false
set_option linter.unusedSimpArgs false
def getL (G : ByteArray -> List Rf × Bool) : Nat -> List Fk -> List ByteArray -> Bool -> List Fk × Bool
 | 0, acc, l, e => (acc, e)
 | n + 1, acc, l, e => if e = true then (acc, e) else getL G n (acc ++ [(forkF G l e).1]) (forkF G l e).2.1 (forkF G l e).2.2
theorem Rd.new {W W1 : World} {A : Option Addr} {c : Nat} {l : List ByteArray} (h : Kd.R Kd.string 9 W1 W.heap.size (fun _ => True) (.slice A l.length c) l) :
  Rd (W1.alloc (.cells #[.slice A l.length c, .nilIface] 61)) (fun k => W.heap.size <= k /\ k < W1.heap.size) W1.heap.size l false :=
 ⟨A, c, .nilIface, heap_alloc_new _ _, Kd.F_mono (Kd.F_alloc (Kd.R_F (Kd.R_bound h)) _) (fun k e => ⟨e.2.1, e.2.2.1⟩), (Kd.R_reads' h).2.1, Or.inl ⟨rfl, rfl⟩, fun k e => ⟨by have := e.2; omega, by rw [sz_alloc]; have := e.2; omega⟩⟩
theorem cells2 {W : World} {base ty : Nat} {ok : Nat -> Prop} {v : Value} {xs : List ByteArray} (h : Kd.R Kd.string ty W base ok v xs) (hp : xs.length = 2) : ∃ gb c, v = .slice (some ⟨gb, 0, none⟩) 2 c /\ ∀ i, i < 2 -> W.cell? ⟨gb, i, none⟩ = some (.string (nth xs i)) := by
 obtain ⟨gb, cap, rfl, hb, _, _⟩ := Kd.R_form h (by omega)
 rw [hp] at h
 obtain ⟨ad, e, hc⟩ := (Kd.reads_of_C (enc := Value.string) (d := ByteArray.empty) (h1 := fun _ => rfl) (Kd.R_reads' h).2.2).2.2 (by omega)
 injection e with e
 subst e
 refine ⟨gb, cap, by rw [hp], fun i hi => ?_⟩
 have := hc i (by omega)
 rw [add_plain] at this
 exact this
theorem w2_size {first : ByteArray} {l w l' : List ByteArray} {e e' : Bool} {Z : Nat} (h : wordsF first 2 l e = (w, l', e')) (hz : sizeT l <= Z) (hZ : Z <= 900000000) : w.length = 2 /\ (nth w 1).size <= 1000000000 /\ sizeT l' <= Z := by
 have a := words_len first 2 l e
 have b := words_left first 2 l e
 have c := words_size first 2 l e
 rw [h] at a b c
 have a' : w.length = 2 := a
 have b' : sizeT l' <= sizeT l := b
 exact ⟨a', by have : (nth w 1).size <= sizeT l := c _ (nth_mem (by omega)); omega, by omega⟩
structure Gt (W : World) (g : Nat) (S : Nat -> Prop) (w : World) (l : List ByteArray) (e : Bool) : Prop where
 rd : Rd w S g l e
 bel : Below W.heap.size W w
 lo : W.heap.size < g
 res : w.heap[W.heap.size]? = some (.cells #[.int .i64 0, .slice none 0 0, .slice none 0 0] 25 (0, 0))
 inS : ∀ k, S k -> W.heap.size < k /\ k < g
section
variable {W w w' : World} {g : Nat} {S : Nat -> Prop} {l l' : List ByteArray} {e e' : Bool}
theorem Gt.next (h : Gt W g S w l e) (hR : Rd w' S g l' e') (hK : Keeps w w' (At g)) : Gt W g S w' l' e' :=
 ⟨hR, h.bel.trans (below_keeps hK h.bel.size (fun k e => by have e2 : k = g := e; have := h.lo; omega)), h.lo, (hK.block _ (lt_box h.res) (fun e => by have e2 : W.heap.size = g := e; have := h.lo; omega)).trans h.res, h.inS⟩
theorem Gt.below (h : Gt W g S w l e) (hb : Below w.heap.size w w') : Gt W g S w' l e := h.next (h.rd.below hb) (Keeps.of_below hb)
theorem Gt.keep {own : Nat -> Prop} (h : Gt W g S w l e) (hK : Keeps w w' own) (ho : ∀ k, own k -> g < k) : Gt W g S w' l e :=
 ⟨h.rd.keeps hK (fun e => by have := ho _ e; omega) (fun k hk e => by have := ho _ e; have := h.inS k hk; omega), h.bel.trans (below_keeps hK h.bel.size (fun k e => by have := ho k e; have := h.lo; omega)), h.lo, (hK.block _ (lt_box h.res) (fun e => by have := ho _ e; have := h.lo; omega)).trans h.res, h.inS⟩
theorem Gt.words (h : Gt W g S w l e) {first : ByteArray} {ws : List ByteArray} (hz : sizeT l <= 900000000) (heq : wordsF first 2 l e = (ws, l', e')) :
  Calls Tryz.prog 32 #[.pointer (some ⟨g, 0, none⟩), .string first, .int .i64 2] w fun r w' => ∃ gb c, r = .returned (.slice (some ⟨gb, 0, none⟩) 2 c) /\ w'.cell? ⟨gb, 1, none⟩ = some (.string (nth ws 1)) /\ Gt W g S w' l' e' /\ Keeps w w' (At g) := by
 have hll := sizeT_len l
 refine (words2_calls h.rd first (by omega) (fun s hs => by have := sizeT_mem hs; omega)).mono ?_
 rintro r w2 ⟨v, rfl, hr, hR, hK⟩
 rw [heq] at hr hR
 obtain ⟨gb, c, rfl, hc⟩ := cells2 hr (w2_size heq hz (Nat.le_refl _)).1
 exact ⟨gb, c, rfl, hc 1 (by decide), h.next hR hK, hK⟩
theorem Gt.number (h : Gt W g S w l e) {s : ByteArray} {m : Nat} {b : Bool} (hs : s.size <= 1000000000) (hT : Tb W) (hd : decF s = ((m : Int), b)) :
  Calls Tryz.prog 31 #[.pointer (some ⟨g, 0, none⟩), .string s] w fun r w' => r = .returned (.int .i64 (m : Int)) /\ Gt W g S w' l (e || !b) /\ Keeps w w' (At g) := by
 refine (number_calls h.rd s hs (hT.below h.bel)).mono ?_
 rintro r w2 ⟨rfl, hR, hK⟩
 rw [hd] at hR ⊢
 exact ⟨rfl, h.next hR hK, hK⟩
theorem Gt.some (h : Gt W g S w l e) {m : Nat} {pl : List ByteArray} (hm : (m : Int) <= 1099511627776) (hz : sizeT l <= 900000000) (hp : someF m l e = (pl, l', e')) :
  Calls Tryz.prog 33 #[.pointer (some ⟨g, 0, none⟩), .int .i64 (m : Int)] w fun r w' => ∃ A c, r = .returned (.slice A pl.length c) /\ Kd.R Kd.string 9 w' w.heap.size (fun _ => True) (.slice A pl.length c) pl /\ Gt W g S w' l' e' /\ Keeps w w' (At g) := by
 have hll := sizeT_len l
 refine (some_calls h.rd m (by omega) (by omega)).mono ?_
 rintro r w2 ⟨v, rfl, hr, hR, hK⟩
 rw [hp] at hr hR
 obtain ⟨A, c, rfl⟩ := Kd.R_slice hr
 exact ⟨A, c, rfl, hr, h.next hR hK, hK⟩
end
theorem some_left {m Z : Nat} {l pl l' : List ByteArray} {e e' : Bool} (h : someF m l e = (pl, l', e')) (hz : sizeT l <= Z) : sizeT l' <= Z := by
 have a := some_size m l e
 rw [h] at a
 have a' : sizeT pl + sizeT l' <= sizeT l := a
 omega
theorem dec_le {s : ByteArray} {m : Nat} {b : Bool} (h : decF s = ((m : Int), b)) : (m : Int) <= 1099511627776 := by
 have a := (decF_bd s).2
 rw [h] at a
 exact a
structure Lp (W : World) (g x p0 p1 : Nat) (S : Nat -> Prop) (m1 : Nat) (A8 : Option Addr) (c8 : Nat) (pl : List ByteArray) (w : World) (l : List ByteArray) (e : Bool) (Af : Option Addr) (cf : Nat) (acc : List Fk) : Prop where
 gt : Gt W g S w l e
 cell : w.heap[x]? = some (.cells #[.int .i64 (m1 : Int), .slice A8 pl.length c8, .slice Af acc.length cf] 25 (0, 0))
 pool : Kd.F Kd.string w (fun k => p0 <= k /\ k < p1) A8 pl.length pl
 fk : Kd.R k39 39 w p1 (fun _ => True) (.slice Af acc.length cf) acc
 hp : g < x /\ x < p0 /\ p0 <= p1 /\ p1 <= w.heap.size
theorem Lp.start {W w w' : World} {g x p0 p1 : Nat} {S : Nat -> Prop} {m1 : Nat} {A8 : Option Addr} {c8 : Nat} {pl l : List ByteArray} {e : Bool} (h : Gt W g S w' l e)
  (hx : w.heap[x]? = some (.cells #[.int .i64 (m1 : Int), .slice A8 pl.length c8, .slice none 0 0] 25 (0, 0))) (hpl : Kd.F Kd.string w (fun k => p0 <= k /\ k < p1) A8 pl.length pl) (hk : Keeps w w' (At g)) (hp : g < x /\ x < p0 /\ p0 <= p1 /\ p1 <= w.heap.size) : Lp W g x p0 p1 S m1 A8 c8 pl w' l e none 0 [] :=
 ⟨h, (hk.block x (lt_box hx) (fun e => by have e2 : x = g := e; omega)).trans hx, Kd.F_step hpl (fun k e hl => hk.block k hl (fun e2 => by have e3 : k = g := e2; have := e.1; omega)), Kd.R_nil _ _ _ _ _, ⟨hp.1, hp.2.1, hp.2.2.1, Nat.le_trans hp.2.2.2 hk.size⟩⟩
theorem Lp.turn {W wr wf w5 : World} {g x p0 p1 : Nat} {S : Nat -> Prop} {m1 : Nat} {A8 : Option Addr} {c8 : Nat} {pl l l' : List ByteArray} {e e' : Bool} {Af A5 : Option Addr} {cf c5 : Nat} {acc : List Fk} {f : Fk} (h : Lp W g x p0 p1 S m1 A8 c8 pl wr l e Af cf acc) (hR : Rd wf S g l' e') (hK : Keeps wr wf (At g))
  (ho : Kd.R k39 39 w5 p1 (fun _ => True) (.slice A5 (acc ++ [f]).length c5) (acc ++ [f])) (hg : wf.grownBy w5 (Value.slice Af acc.length cf).ownBlock) :
  w5.heap[x]? = some (.cells #[.int .i64 (m1 : Int), .slice A8 pl.length c8, .slice Af acc.length cf] 25 (0, 0)) /\ Lp W g x p0 p1 S m1 A8 c8 pl (w5.setCell ⟨x, 2, none⟩ (.slice A5 (acc ++ [f]).length c5)) l' e' A5 c5 (acc ++ [f]) := by
 have hp := h.hp
 have hown : ∀ k, (Value.slice Af acc.length cf).ownBlock = some k -> p1 <= k := fun k e => ((Kd.R_bound h.fk).1 k e).2.1
 have hKg : Keeps wf w5 (fun k => p1 <= k) := Keeps.of_grown hg hown
 have hKx : Keeps w5 (w5.setCell ⟨x, 2, none⟩ (.slice A5 (acc ++ [f]).length c5)) (fun k => k = x) := Keeps.set rfl
 have hxf := (hK.block x (lt_box h.cell) (fun e => by have e2 : x = g := e; omega)).trans h.cell
 have hx5 := (hKg.block x (lt_box hxf) (fun e => by have e2 : p1 <= x := e; omega)).trans hxf
 refine ⟨hx5, ?_, (heap_set_same w5 x 2 _ _ _ hx5).trans rfl, ?_, R_keepsO ho hKx (fun k e => by have e2 : k = x := e; omega), ⟨hp.1, hp.2.1, hp.2.2.1, Nat.le_trans hp.2.2.2 (Nat.le_trans hK.size (Nat.le_trans hKg.size hKx.size))⟩⟩
 ·exact ((h.gt.next hR hK).keep hKg (fun k e => by have e2 : p1 <= k := e; omega)).keep hKx (fun k e => by have e2 : k = x := e; omega)
 ·refine Kd.F_step (Kd.F_step (Kd.F_step h.pool (fun k e hl => hK.block k hl (fun e2 => ?_))) (fun k e hl => hKg.block k hl (fun e2 => ?_))) (fun k e hl => hKx.block k hl (fun e2 => ?_))
  ·have e3 : k = g := e2
   have := e.1
   omega
  ·have e3 : p1 <= k := e2
   have := e.2
   omega
  ·have e3 : k = x := e2
   have := e.1
   omega
theorem Lp.fin {W w w2 : World} {g x p0 p1 : Nat} {S : Nat -> Prop} {m1 : Nat} {A8 : Option Addr} {c8 : Nat} {pl l : List ByteArray} {e : Bool} {Af : Option Addr} {cf : Nat} {acc : List Fk} (h : Lp W g x p0 p1 S m1 A8 c8 pl w l e Af cf acc) (hb : Below w.heap.size w w2) (vs : List Value) :
  Kd.C Kd.string (w2.setCells W.heap.size 0 vs) A8 pl.length pl /\ Kd.C k39 (w2.setCells W.heap.size 0 vs) Af acc.length acc /\ acc.length <= cf := by
 have hp := h.hp
 have hlo := h.gt.lo
 have hK := keeps_sets (b := W.heap.size) vs 0 w2
 have r := R_keepsO (Kd.R_below h.fk hb) hK (fun k e => by have e2 : k = W.heap.size := e; omega)
 exact ⟨Kd.F_now (Kd.F_step (Kd.F_below h.pool hb) (fun k e hl => hK.block k hl (fun e2 => by have e3 : k = W.heap.size := e2; have := e.1; omega))), (Kd.R_reads' r).2.2, (Kd.R_reads' r).2.1⟩
theorem fork_left (G : ByteArray -> List Rf × Bool) (l : List ByteArray) (e : Bool) : sizeT (forkF G l e).2.1 <= sizeT l := by
 have a := words_left forkT 6 l e
 have b := fun n c => some_size n (wordsF forkT 6 l e).2.1 c
 unfold forkF
 simp only []
 refine Nat.le_trans (Nat.le_trans (Nat.le_add_left _ _) (some_size _ _ _)) (Nat.le_trans (Nat.le_trans (Nat.le_add_left _ _) (b _ _)) a)
theorem info_Fork : (Tryz.prog.info? 39).map (fun i => (i.zero, i.size, i.bytes)) = some (some (.agg #[.string ⟨#[]⟩, .bool false, .string ⟨#[]⟩, .slice none 0 0, .slice none 0 0]), 5, 88) := by kernel_rfl
theorem strOf_bytesOf (s : ByteArray) : strOfNums (bytesOf s) = s := by
 apply ByteArray.ext
 apply Array.ext'
 unfold bytesOf strOfNums
 simp only [List.map_map]
 conv => rhs; rw [<- List.map_id s.data.toList]
 refine List.map_congr_left (fun x hx => ?_)
 simp
theorem toList_inj {a b : ByteArray} (h : a.toList = b.toList) : a = b := by
 rw [Lib.toList_data, Lib.toList_data] at h
 exact ByteArray.ext (Array.ext' h)
theorem there3 {W : World} {b : Nat} {x0 x1 x2 : Value} {t : TypeId} (h : W.heap[b]? = some (.cells #[x0, x1, x2] t (0, 0))) : W.there b 0 3 := by
 intro j hj
 refine ⟨?_, frozen_of_row _ b _ _ _ h⟩
 rw [cell_of_row _ b (0 + j) _ _ _ h]
 have : j = 0 ∨ j = 1 ∨ j = 2 := by omega
 rcases this with rfl | rfl | rfl <;> rfl
theorem set3 {W : World} {b : Nat} {t : TypeId} {y0 y1 y2 : Value} (x0 x1 x2 : Value) (h : W.heap[b]? = some (.cells #[y0, y1, y2] t (0, 0))) : (W.setCells b 0 [x0, x1, x2]).heap[b]? = some (.cells #[x0, x1, x2] t (0, 0)) :=
 (heap_set_same _ b 2 _ _ x2 ((heap_set_same _ b 1 _ _ x1 ((heap_set_same _ b 0 _ _ x0 h).trans rfl)).trans rfl)).trans rfl
theorem below_sets {B W : World} {b : Nat} (h : Below B.heap.size B W) (hb : B.heap.size <= b) (vs : List Value) : Below B.heap.size B (W.setCells b 0 vs) :=
 h.trans (below_keeps (keeps_sets vs 0 W) h.size (fun k e => by have e2 : k = b := e; omega))
set_option maxHeartbeats 8000000 in
set_option maxRecDepth 100000 in
theorem get_calls (k : Nat) (s : ByteArray) (A : Option Addr) (n c : Nat) (bs : List Int) (W : World) (hr : Kd.C (Kd.int .u8) W A n bs) (hbs : strOfNums bs = s) (hs : s.size <= 800000000) (Z : Nat) (hZ : Z <= 900000000) (hz : sizeT (cutsF 10 s) <= Z)
  (G : ByteArray -> List Rf × Bool) (hG : ∀ t : ByteArray, t.size <= Z -> refs_Get.f k t = some (G t))
  (w1 w2 w3 pl l1 l2 l3 l4 : List ByteArray) (e1 e2 e3 e4 b1 b2 b3 e b : Bool) (m1 m2 m3 : Nat) (fl : List Fk)
  (h1 : wordsF netT 2 (cutsF 10 s) false = (w1, l1, e1)) (hd1 : decF (nth w1 1) = ((m1 : Int), b1))
  (h2 : wordsF poolT 2 l1 (e1 || !b1) = (w2, l2, e2)) (hd2 : decF (nth w2 1) = ((m2 : Int), b2))
  (hp : someF m2 l2 (e2 || !b2) = (pl, l3, e3))
  (h3 : wordsF forksT 2 l3 e3 = (w3, l4, e4)) (hd3 : decF (nth w3 1) = ((m3 : Int), b3))
  (hf : getL G m3 [] l4 (e4 || !b3) = (fl, e)) (hb : root_Right.f k m1 pl fl = some b)
  (P : List Rf -> ByteArray) (hP : b = true -> (∀ f ∈ fl, ∃ b, refs_Put.f k f.f3 = some (P f.f3, b)) /\ sizeP P m1 pl fl <= 800000000) (hT : Tb W) :
  Calls Tryz.prog 9 #[.slice A n c] W fun r w' => Below W.heap.size W w' /\
   (((e = false /\ b = true /\ textP P m1 pl fl = s) /\ ∃ Ap cp Af cf, r = .returned (.tuple #[.agg #[.int .i64 (m1 : Int), .slice Ap pl.length cp, .slice Af fl.length cf], .bool true]) /\ Kd.C Kd.string w' Ap pl.length pl /\ pl.length <= cp /\ Kd.C k39 w' Af fl.length fl /\ fl.length <= cf) ∨
   (¬ (e = false /\ b = true /\ textP P m1 pl fl = s) /\ r = .returned (.tuple #[.agg #[.int .i64 0, .slice none 0 0, .slice none 0 0], .bool false]))) := by
 have hcv := Kd.C_string (P := Tryz.prog) (src := 26) (dst := 9) (c := c) Tryz.underlying26 Tryz.underlying5 Tryz.underlying9 (Kd.C_below hr (bal (Below.refl _ _) (.cells #[.int .i64 0, .slice none 0 0, .slice none 0 0] 25)))
 rw [hbs] at hcv
 have SP := am (fun W' => strings_Split.calls s ⟨#[10]⟩ _ W' (split_eq 10 s (by omega)))
 have HRES := am (heap_alloc_new W (.cells #[.int .i64 0, .slice none 0 0, .slice none 0 0] 25))
 have HB0 := am (bal (Below.refl W.heap.size W) (.cells #[.int .i64 0, .slice none 0 0, .slice none 0 0] 25))
 have HS0 := am (sz_alloc W (.cells #[.int .i64 0, .slice none 0 0, .slice none 0 0] 25))
 have a1 := w2_size h1 hz hZ
 have a2 := w2_size h2 a1.2.2 hZ
 have a3 := some_left hp a2.2.2
 have a4 := w2_size h3 a3 hZ
 have HZ0 := am hZ
 have D1 := am (And.intro hd1 (And.intro hd2 hd3))
 have D2 := am (And.intro h1 (And.intro h2 (And.intro h3 hp)))
 have Z1 := am hz
 have Z2 := am a1.2
 have Z3 := am a2.2
 have Z4 := am a3
 have Z5 := am a4.2
 have HT := am hT
 have HF := am hf
 have HB := am hb
 have HP := am hP
 have HG := am hG
 have HR0 := am hr
 have HBS := am hbs
 have HSS := am hs
 clear hZ hr hbs hz h1 h2 h3 hp hd1 hd2 hd3 hT hf hb hP hG a1 a2 a3 a4
 go_enter Tryz.func9, Tryz.ntmps9
 go_wp2_with (go_at_call 30; with_reducible refine (SP.out _).mono ?_; rintro r W1 ⟨v, rfl, hR1, hB1⟩; obtain ⟨A1, c1, rfl⟩ := Kd.R_slice hR1; have HR1 := am hR1; have HB1 := am hB1; clear hR1 hB1)
 have hlo : W.heap.size < W1.heap.size := by have a := HB1.out.size; rw [HS0.out] at a; omega
 have hG1 : Gt W W1.heap.size _ _ _ _ := ⟨Rd.new HR1.out, qW HB0.out (qW HB1.out (bal (Below.refl _ _) _)), hlo, qB (bal (Below.refl _ _) _) (qB HB1.out HRES.out), fun k e => ⟨by have a := e.1; rw [HS0.out] at a; omega, e.2⟩⟩
 generalize W1.alloc (.cells #[.slice A1 (cutsF 10 s).length c1, .nilIface] 61) = W2 at hG1 ⊢
 generalize W1.heap.size = g at hG1 ⊢
 generalize hS : (fun k => (W.alloc (.cells #[.int .i64 0, .slice none 0 0, .slice none 0 0] 25)).heap.size <= k /\ k < g) = S at hG1
 have HC1 := am (hG1.words (Nat.le_trans Z1.out HZ0.out) D2.out.1)
 clear hG1 hS hlo hcv SP HRES HB0 HS0 HR1 HB1
 go_wp2_with (first
  | (go_at_call 32; first
   | (with_reducible refine HC1.out.mono ?_; rintro r W3 ⟨ga, ca, rfl, ka, hG3, hK3⟩; have HC2 := am (hG3.number Z2.out.1 HT.out D1.out.1); clear hG3 hK3))
  | (go_at_call 31; first
   | (with_reducible refine HC2.out.mono ?_; rintro r W4 ⟨rfl, hG4, hK4⟩; have HG4 := am hG4; clear hG4 hK4)))
 have hX5 := heap_alloc_new W4 (.cells #[.int .i64 (m1 : Int), .slice none 0 0, .slice none 0 0] 25)
 have hG5 := HG4.out.below (bal (Below.refl _ _) (.cells #[.int .i64 (m1 : Int), .slice none 0 0, .slice none 0 0] 25))
 have hgx : g < W4.heap.size := HG4.out.rd.lt
 generalize W4.alloc (.cells #[.int .i64 (m1 : Int), .slice none 0 0, .slice none 0 0] 25) = W5 at hX5 hG5 ⊢
 generalize W4.heap.size = x at hX5 hgx ⊢
 have HC3 := am (hG5.words (Nat.le_trans Z2.out.2 HZ0.out) D2.out.2.1)
 have HX5 := am hX5
 have HGX := am hgx
 have HNX : Asd (¬ At g x) := ⟨fun e => by have e2 : x = g := e; omega⟩
 clear hX5 hG5 hgx HG4 HC1 HC2 ka
 go_wp2_with (first
  | (go_at_call 32; first
   | (with_reducible refine HC3.out.mono ?_; rintro r W6 ⟨gb, cb, rfl, kb, hG6, hK6⟩; have HX6 := am ((hK6.block x (lt_box HX5.out) HNX.out).trans HX5.out); have HC4 := am (hG6.number Z3.out.1 HT.out D1.out.2.1); clear hG6 hK6))
  | (go_at_call 31; first
   | (with_reducible refine HC4.out.mono ?_; rintro r W7 ⟨rfl, hG7, hK7⟩; have HX7 := am ((hK7.block x (lt_box HX6.out) HNX.out).trans HX6.out); have HC5 := am (hG7.some (dec_le D1.out.2.1) (Nat.le_trans Z3.out.2 HZ0.out) D2.out.2.2.2); clear hG7 hK7))
  | (go_at_call 33; with_reducible refine HC5.out.mono ?_; rintro r W8 ⟨A8, c8, rfl, hR8, hG8, hK8⟩; have hX8 := (hK8.block x (lt_box HX7.out) HNX.out).trans HX7.out; have HL78 : Asd (x < W7.heap.size /\ W7.heap.size <= W8.heap.size) := ⟨lt_box HX7.out, hK8.size⟩; have HX8 := am hX8; have HR8 := am hR8; have HG8 := am hG8; have kx1 := (qx hX8 1 rfl).1; have kx2 := (qx hX8 1 rfl).2; clear hR8 hG8 hK8 hX8))
 have HPL8 : Kd.F Kd.string W8 (fun k => W7.heap.size <= k /\ k < W8.heap.size) A8 pl.length pl := Kd.F_mono (Kd.R_F (Kd.R_bound HR8.out)) (fun k e => ⟨e.2.1, e.2.2.1⟩)
 have hX9 : (W8.setCell ⟨x, 1, none⟩ (.slice A8 pl.length c8)).heap[x]? = some (.cells #[.int .i64 (m1 : Int), .slice A8 pl.length c8, .slice none 0 0] 25 (0, 0)) := (heap_set_same W8 x 1 _ _ _ HX8.out).trans rfl
 have hG9 : Gt W g S (W8.setCell ⟨x, 1, none⟩ (.slice A8 pl.length c8)) l3 e3 := HG8.out.keep (Keeps.set (own := fun k => k = x) rfl) (fun k e => by have e2 : k = x := e; have := HGX.out; omega)
 have hPL9 : Kd.F Kd.string (W8.setCell ⟨x, 1, none⟩ (.slice A8 pl.length c8)) (fun k => W7.heap.size <= k /\ k < W8.heap.size) A8 pl.length pl := Kd.F_step HPL8 (fun k e hl => Below.heap_setCell W8 ⟨x, 1, none⟩ _ k (fun e2 => by have e3 : k = x := e2; have := HL78.out.1; have := e.1; omega))
 have hsz : (W8.setCell ⟨x, 1, none⟩ (.slice A8 pl.length c8)).heap.size = W8.heap.size := by simp [World.setCell]
 have hpp : g < x /\ x < W7.heap.size /\ W7.heap.size <= W8.heap.size /\ W8.heap.size <= (W8.setCell ⟨x, 1, none⟩ (.slice A8 pl.length c8)).heap.size := ⟨HGX.out, HL78.out.1, HL78.out.2, by rw [hsz]; exact Nat.le_refl _⟩
 generalize W8.setCell ⟨x, 1, none⟩ (.slice A8 pl.length c8) = W9 at hX9 hG9 hPL9 hpp ⊢
 generalize W7.heap.size = p0 at hPL9 hpp
 generalize W8.heap.size = p1 at hPL9 hpp
 have HC6 := am (hG9.words (Nat.le_trans Z4.out HZ0.out) D2.out.2.2.1)
 have HX9 := am hX9
 have HC8 : Asd (pl.length <= c8) := ⟨(Kd.R_reads' HR8.out).2.1⟩
 have HPL := am hPL9
 have HPP := am hpp
 clear hX9 hG9 hPL9 hpp hsz HPL8 HX5 HX6 HX7 HX8 HR8 HG8 HC3 HC4 HC5 HL78 kb kx1 kx2
 go_wp2_with (first
  | (go_at_call 32; with_reducible refine HC6.out.mono ?_; rintro r W10 ⟨gc, cc, rfl, kc, hG10, hK10⟩; have HK10 := am hK10; have HC7 := am (hG10.number Z5.out.1 HT.out D1.out.2.2); clear hG10 hK10)
  | (go_at_call 31; with_reducible refine HC7.out.mono ?_; rintro r W11 ⟨rfl, hG11, hK11⟩; have HLP := am (Lp.start hG11 HX9.out HPL.out (HK10.out.trans hK11) HPP.out); clear hG11 hK11))
 have hm3 := dec_le D1.out.2.2
 go_loopg [6] m3 (fun gg s6 wr => ∃ j : Nat, j <= gg /\ (j : Int) <= 1099511627776 /\ s6 = .int .i64 (j : Int) /\ Asd (∃ l ee acc Af cf, j + acc.length <= 1099511627776 /\ Lp W g x p0 p1 S m1 A8 c8 pl wr l ee Af cf acc /\ sizeT l <= Z /\ getL G j acc l ee = (fl, e)))
 case atStart => exact ⟨m3, Nat.le_refl _, hm3, rfl, ⟨_, _, _, _, _, by show m3 + 0 <= _; omega, HLP.out, Z5.out.2, HF.out⟩⟩
 case round =>
  obtain ⟨j, hjg, hj, rfl, ⟨l, ee, acc, Af, cf, hal, hLP, hzl, hgl⟩⟩ := hrel
  clear HLP HC6 HC7 kc HX9 HPL
  have HLP := am hLP
  have HGL := am hgl
  have HAL := am hal
  have HZL := am hzl
  obtain ⟨Ar, cr, vr, kr0, kr1, _, _, her, _, _⟩ := hLP.gt.rd.cells
  clear hLP hgl hzl hal kr0
  by_cases hj0 : 0 < j
  ·have hjz : (0 : Int) < (j : Int) := by omega
   cases ee with
   | false =>
    obtain rfl := her.no
    go_wp2
    have kx2 := (qx HLP.out.cell 2 rfl).1
    have hFK := fork_calls (HLP.out.gt.rd.below (bd1 (Below.refl _ _))) (by have := HZL.out; have := HZ0.out; omega) (show Tbl W.heap.size wr.drew from Tbl.below HT.out (HLP.out.gt.bel.trans (below_less (bd1 (Below.refl _ _)) HLP.out.gt.bel.size))) (Nat.le_of_lt HLP.out.gt.lo) G k (fun t ht => HG.out t (by have := HZL.out; omega))
    have hgl := HGL.out
    obtain ⟨j, rfl⟩ : ∃ i, j = i + 1 := ⟨j - 1, by omega⟩
    have hgl : getL G j (acc ++ [(forkF G l false).1]) (forkF G l false).2.1 (forkF G l false).2.2 = (fl, e) := HGL.out
    have hzf : sizeT (forkF G l false).2.1 <= Z := Nat.le_trans (fork_left G l false) HZL.out
    obtain ⟨⟨f0, f1, f2, f3, f4⟩, lf, ef, hfk⟩ : ∃ a b c, forkF G l false = (a, b, c) := ⟨_, _, _, rfl⟩
    rw [hfk] at hFK hgl hzf
    simp only [] at hFK hgl hzf
    have HFK := am hFK
    have HGF := am (And.intro hgl hzf)
    clear hFK hgl hzf hfk HGL
    refine start_ (n := 8) (S := fun w' => w'.cell? ⟨x, 2, none⟩ = some (.slice Af acc.length cf)) (ds := [5, 7]) (bA 8 0) (by kernel_rfl) rfl rfl ((drew_cell kx2)) (fun hHeld => ?_)
    refine pz_ 0 47 (bA 8 1) (by kernel_rfl) ?_
    refine pz_ 2 49 (bA 8 5) (by kernel_rfl) ?_
    refine tz_ 1 48 (bA 8 7) (by kernel_rfl) hHeld ?_
    refine one_ (i := 3) (N := some 50) (bA 8 15) rfl rfl (by kernel_rfl) (by decide) (fun K hK => ?_)
    refine goes_ Tryz.func34 (by kernel_rfl) rfl #[.pointer (some ⟨g, 0, none⟩)] (by rfl) rfl rfl (by simp only [List.map_toArray, List.map_cons, List.map_nil]; rfl) ?_
    with_reducible refine (HFK.out).mono ?_
    rintro e wf ⟨A3, c3, A4, c4, rfl, ⟨hr3, hr4⟩, hRf, hKf⟩
    refine ⟨_, rfl, ?_⟩
    have hxf : wf.cell? ⟨x, 2, none⟩ = some (.slice Af acc.length cf) := cell_keeps (drew_cell kx2) hKf (fun e => by have e2 : x = g := e; have := HLP.out.hp.1; omega)
    refine hK.out _ _ (hxf) (fun hHeld => ?_)
    clear hK K
    refine nz_ 50 ?_
    refine one_ (i := 4) (N := some 51) (bA 8 31) rfl rfl (by kernel_rfl) (by decide) (fun K hK => ?_)
    refine value_ (w1 := ?_) (v := ?_) (by rfl) rfl ?_ ?_
    rotate_left 2
    ·go_simp
     constructor
     ·rfl
     ·rfl
    have hxa : (wf.alloc (.cells #[.string f0, .bool f1, .string f2, .slice A3 f3.length c3, .slice A4 f4.length c4] 39)).cell? ⟨x, 2, none⟩ = some (.slice Af acc.length cf) := qb hxf (bal (Below.refl _ _) _)
    refine hK.out _ _ (hxa) (fun hHeld => ?_)
    clear hK K
    refine nz_ 51 ?_
    refine last_ (i := 5) (N := some 52) (bA 8 63) rfl rfl (by kernel_rfl) (by decide) (fun K hK => ?_)
    refine Kd.R_append_step k39 (w0 := wf) p1 (by rfl) (.tmp 48) (.tmp 51) 23 39 (.agg #[.string ⟨#[]⟩, .bool false, .string ⟨#[]⟩, .slice none 0 0, .slice none 0 0]) 88 rfl Tryz.underlying23 info_Fork rfl (by decide) (by omega) (.slice Af acc.length cf) acc (⟨f0, f1, f2, f3, f4⟩ : S39) [.string f0, .bool f1, .string f2, .slice A3 f3.length c3, .slice A4 f4.length c4] (fun _ => True) (fun k => some k ≠ (Value.slice Af acc.length cf).ownBlock) rfl rfl ?aP (fun _ hk => ⟨trivial, hk⟩) (fun _ _ => trivial) ?aO ?aB ?aS ?aL ?_
    case aP => exact k39_mkM _ _ _ (⟨f0, f1, f2, f3, f4⟩ : S39) (Kd.R_mono (Kd.R_lower (Kd.R_new' hr3 (Kd.R_lt HLP.out.fk)) HLP.out.hp.2.2.2) (fun _ e => e.2)) (Kd.R_mono (Kd.R_lower (Kd.R_new' hr4 (Kd.R_lt HLP.out.fk)) HLP.out.hp.2.2.2) (fun _ e => e.2))
    case aO => exact R_keepsO (Kd.R_drew HLP.out.fk) hKf (fun k e => by have e2 : k = g := e; have := HLP.out.hp; omega)
    case aB => exact Below.refl _ _
    case aS => exact Nat.le_trans HLP.out.hp.2.2.2 hKf.size
    case aL => have := HAL.out; omega
    intro v5 w5 ho hb5 hg5 hat
    obtain ⟨A5, c5, rfl⟩ := Kd.R_slice ho
    obtain ⟨hx5, hLP6⟩ := HLP.out.turn hRf ((Keeps.of_below (bd1 (Below.refl _ _))).trans hKf) ho hg5
    have ky1 := (qx hx5 2 rfl).1
    have ky2 := (qx hx5 2 rfl).2
    refine hK.out _ _ ?_
    clear hK K
    refine nz_ 52 ?_
    refine pz_ 6 53 (bA 8 127) (by kernel_rfl) ?_
    refine last_ (i := 7) (N := none) (bA 8 255) rfl rfl (by kernel_rfl) (by decide) (fun K hK => ?_)
    refine skip_ (w1 := ?_) (by rfl) rfl ?_ ?_
    rotate_left
    ·go_simp
     rfl
    refine hK.out _ _ ?_
    clear hK K
    refine done_ (by kernel_rfl) ?_
    have el : (acc ++ [(⟨f0, f1, f2, f3, f4⟩ : Fk)]).length = acc.length + 1 := by simp
    rw [el] at hLP6
    have HLP6 := am hLP6
    have HAL6 : Asd (j + (acc ++ [(⟨f0, f1, f2, f3, f4⟩ : Fk)]).length <= 1099511627776) := ⟨by rw [el]; have := HAL.out; omega⟩
    have hj2 : ((j : Nat) : Int) <= 1099511627776 := by omega
    have hjc : ((j + 1 : Nat) : Int) = (j : Int) + 1 := by omega
    rw [hjc]
    clear hLP6 hx5 ky1 ky2 hr3 hr4 hRf hKf ho hb5 hg5 hat hxf hxa kx2 hHeld el HFK
    go_wp2
    go_roundg j
    case measure => omega
    case rel => exact ⟨j, Nat.le_refl _, hj2, by go_num, ⟨lf, ef, _, A5, c5, HAL6.out, HLP6.out, HGF.out.2, HGF.out.1⟩⟩
   | true =>
    obtain ⟨be, rfl⟩ := her.is
    have hq : (acc, true) = (fl, e) := by
     have h0 := HGL.out
     cases j with
     | zero => exact h0
     | succ j => exact h0
    injection hq with hq1 hq2
    subst hq1
    subst hq2
    have kx0 := (qx HLP.out.cell 0 rfl).1
    have kx1 := (qx HLP.out.cell 1 rfl).1
    have kx2 := (qx HLP.out.cell 2 rfl).1
    have hbz : 0 <= (m1 : Int) /\ (m1 : Int) <= 9223372036854775807 := by have := dec_le D1.out.1; omega
    have hrf := Kd.R_reads' HLP.out.fk
    cases b with
    | false =>
     have HPT := am (put_no k (m1 : Int) A8 c8 pl Af cf acc wr (Kd.F_now HLP.out.pool) HC8.out hrf.2.2 hrf.2.1 HB.out)
     clear hrf hbz
     go_wp2_with (first
      | (go_at_call 7; with_reducible refine HPT.out.mono ?_; rintro r W12 ⟨rfl, hb12⟩; have kr2 := qb kr1 hb12; have HB12 := am hb12; have HR12 := am (qB hb12 HLP.out.gt.res); have hcx := qB hb12 HLP.out.cell; have HX12 := am hcx; have ky0 := (qx hcx 0 rfl).1; have ky1 := (qx hcx 1 rfl).1; have ky2 := (qx hcx 2 rfl).1; clear hb12 hcx)
      | (go_at_call 35; refine (is_bad be _).mono ?_; rintro r W13 ⟨rfl, hb13⟩; have HB13 := am hb13; have HR13 := am (qB hb13 HR12.out); have hcx := qB hb13 HX12.out; have kz0 := (qx hcx 0 rfl).1; have kz1 := (qx hcx 1 rfl).1; have kz2 := (qx hcx 2 rfl).1; clear hb13 hcx)
      | ((with_reducible refine gate_store 25 (.tmp 2) (.tmp 76) rfl ?_); refine wpList_store_mid rfl 25 (.tmp 2) (.tmp 76) rfl W.heap.size 0 #[.int .i64 0, .slice none 0 0, .slice none 0 0] ?hx ?hy ?ht ?hi ?h1 ?_; (case hx => rfl); (case hy => rfl); (case ht => exact there3 HR13.out); (case hi => kernel_rfl); (case h1 => simp [Value.oneCell'])))
     (try simp only [Exit.inBlock, Exit.then])
     refine bodyPost_ret (results_ct rfl _ _ W.heap.size 25 #[.int .i64 0, .slice none 0 0, .slice none 0 0] (0, 0) _ rfl (set3 _ _ _ HR13.out) Tryz.underlying25 rfl (by kernel_rfl)) rfl ?_
     have hbe := below_sets (qW (qW HLP.out.gt.bel HB12.out) HB13.out) (Nat.le_refl _) [.int .i64 0, .slice none 0 0, .slice none 0 0]
     first
      | exact ⟨hbe, Or.inr ⟨fun e => Bool.noConfusion e.1, rfl⟩⟩
      | exact ⟨hbe, rfl⟩
    | true =>
     have HPT := am (put_ok k (m1 : Int) A8 c8 pl Af cf acc wr (Kd.F_now HLP.out.pool) HC8.out hrf.2.2 hrf.2.1 HB.out P (HP.out rfl).1 (HP.out rfl).2 hbz.1 hbz.2 (HT.out.below HLP.out.gt.bel))
     clear hrf hbz
     go_wp2_with (go_at_call 7; refine HPT.out.mono ?_)
     rintro r W12 v12 rfl hv12 hb12
     have kr2 := qb kr1 hb12
     have HB12 := am hb12
     obtain ⟨A12, c12, rfl, hl12, hF12⟩ := hv12
     have HF12 := am hF12
     have HR12 := am (qB hb12 HLP.out.gt.res)
     have hcx := qB hb12 HLP.out.cell
     have HX12 := am hcx
     have ky0 := (qx hcx 0 rfl).1
     have ky1 := (qx hcx 1 rfl).1
     have ky2 := (qx hcx 2 rfl).1
     clear hb12 hcx hF12 hl12
     go_wp2_with (first
      | (go_at_call 35; refine (is_bad be _).mono ?_; rintro r W13 ⟨rfl, hb13⟩; have HB13 := am hb13; have HR13 := am (qB hb13 HR12.out); have hcx := qB hb13 HX12.out; have kz0 := (qx hcx 0 rfl).1; have kz1 := (qx hcx 1 rfl).1; have kz2 := (qx hcx 2 rfl).1; clear hb13 hcx)
      | ((with_reducible refine gate_store 25 (.tmp 2) (.tmp 76) rfl ?_); refine wpList_store_mid rfl 25 (.tmp 2) (.tmp 76) rfl W.heap.size 0 #[.int .i64 0, .slice none 0 0, .slice none 0 0] ?hx ?hy ?ht ?hi ?h1 ?_; (case hx => rfl); (case hy => rfl); (case ht => exact there3 HR13.out); (case hi => kernel_rfl); (case h1 => simp [Value.oneCell'])))
     (try simp only [Exit.inBlock, Exit.then])
     refine bodyPost_ret (results_ct rfl _ _ W.heap.size 25 #[.int .i64 0, .slice none 0 0, .slice none 0 0] (0, 0) _ rfl (set3 _ _ _ HR13.out) Tryz.underlying25 rfl (by kernel_rfl)) rfl ?_
     have hbe := below_sets (qW (qW HLP.out.gt.bel HB12.out) HB13.out) (Nat.le_refl _) [.int .i64 0, .slice none 0 0, .slice none 0 0]
     first
      | exact ⟨hbe, Or.inr ⟨fun e => Bool.noConfusion e.1, rfl⟩⟩
      | exact ⟨hbe, rfl⟩
  ·obtain rfl : j = 0 := by omega
   cases ee with
   | true =>
    obtain ⟨be, rfl⟩ := her.is
    have hq : (acc, true) = (fl, e) := HGL.out
    injection hq with hq1 hq2
    subst hq1
    subst hq2
    have kx0 := (qx HLP.out.cell 0 rfl).1
    have kx1 := (qx HLP.out.cell 1 rfl).1
    have kx2 := (qx HLP.out.cell 2 rfl).1
    have hbz : 0 <= (m1 : Int) /\ (m1 : Int) <= 9223372036854775807 := by have := dec_le D1.out.1; omega
    have hrf := Kd.R_reads' HLP.out.fk
    cases b with
    | false =>
     have HPT := am (put_no k (m1 : Int) A8 c8 pl Af cf acc wr (Kd.F_now HLP.out.pool) HC8.out hrf.2.2 hrf.2.1 HB.out)
     clear hrf hbz
     go_wp2_with (first
      | (go_at_call 7; with_reducible refine HPT.out.mono ?_; rintro r W12 ⟨rfl, hb12⟩; have kr2 := qb kr1 hb12; have HB12 := am hb12; have HR12 := am (qB hb12 HLP.out.gt.res); have hcx := qB hb12 HLP.out.cell; have HX12 := am hcx; have ky0 := (qx hcx 0 rfl).1; have ky1 := (qx hcx 1 rfl).1; have ky2 := (qx hcx 2 rfl).1; clear hb12 hcx)
      | (go_at_call 35; refine (is_bad be _).mono ?_; rintro r W13 ⟨rfl, hb13⟩; have HB13 := am hb13; have HR13 := am (qB hb13 HR12.out); have hcx := qB hb13 HX12.out; have kz0 := (qx hcx 0 rfl).1; have kz1 := (qx hcx 1 rfl).1; have kz2 := (qx hcx 2 rfl).1; clear hb13 hcx)
      | ((with_reducible refine gate_store 25 (.tmp 2) (.tmp 76) rfl ?_); refine wpList_store_mid rfl 25 (.tmp 2) (.tmp 76) rfl W.heap.size 0 #[.int .i64 0, .slice none 0 0, .slice none 0 0] ?hx ?hy ?ht ?hi ?h1 ?_; (case hx => rfl); (case hy => rfl); (case ht => exact there3 HR13.out); (case hi => kernel_rfl); (case h1 => simp [Value.oneCell'])))
     (try simp only [Exit.inBlock, Exit.then])
     refine bodyPost_ret (results_ct rfl _ _ W.heap.size 25 #[.int .i64 0, .slice none 0 0, .slice none 0 0] (0, 0) _ rfl (set3 _ _ _ HR13.out) Tryz.underlying25 rfl (by kernel_rfl)) rfl ?_
     have hbe := below_sets (qW (qW HLP.out.gt.bel HB12.out) HB13.out) (Nat.le_refl _) [.int .i64 0, .slice none 0 0, .slice none 0 0]
     first
      | exact ⟨hbe, Or.inr ⟨fun e => Bool.noConfusion e.1, rfl⟩⟩
      | exact ⟨hbe, rfl⟩
    | true =>
     have HPT := am (put_ok k (m1 : Int) A8 c8 pl Af cf acc wr (Kd.F_now HLP.out.pool) HC8.out hrf.2.2 hrf.2.1 HB.out P (HP.out rfl).1 (HP.out rfl).2 hbz.1 hbz.2 (HT.out.below HLP.out.gt.bel))
     clear hrf hbz
     go_wp2_with (go_at_call 7; refine HPT.out.mono ?_)
     rintro r W12 v12 rfl hv12 hb12
     have kr2 := qb kr1 hb12
     have HB12 := am hb12
     obtain ⟨A12, c12, rfl, hl12, hF12⟩ := hv12
     have HF12 := am hF12
     have HR12 := am (qB hb12 HLP.out.gt.res)
     have hcx := qB hb12 HLP.out.cell
     have HX12 := am hcx
     have ky0 := (qx hcx 0 rfl).1
     have ky1 := (qx hcx 1 rfl).1
     have ky2 := (qx hcx 2 rfl).1
     clear hb12 hcx hF12 hl12
     go_wp2_with (first
      | (go_at_call 35; refine (is_bad be _).mono ?_; rintro r W13 ⟨rfl, hb13⟩; have HB13 := am hb13; have HR13 := am (qB hb13 HR12.out); have hcx := qB hb13 HX12.out; have kz0 := (qx hcx 0 rfl).1; have kz1 := (qx hcx 1 rfl).1; have kz2 := (qx hcx 2 rfl).1; clear hb13 hcx)
      | ((with_reducible refine gate_store 25 (.tmp 2) (.tmp 76) rfl ?_); refine wpList_store_mid rfl 25 (.tmp 2) (.tmp 76) rfl W.heap.size 0 #[.int .i64 0, .slice none 0 0, .slice none 0 0] ?hx ?hy ?ht ?hi ?h1 ?_; (case hx => rfl); (case hy => rfl); (case ht => exact there3 HR13.out); (case hi => kernel_rfl); (case h1 => simp [Value.oneCell'])))
     (try simp only [Exit.inBlock, Exit.then])
     refine bodyPost_ret (results_ct rfl _ _ W.heap.size 25 #[.int .i64 0, .slice none 0 0, .slice none 0 0] (0, 0) _ rfl (set3 _ _ _ HR13.out) Tryz.underlying25 rfl (by kernel_rfl)) rfl ?_
     have hbe := below_sets (qW (qW HLP.out.gt.bel HB12.out) HB13.out) (Nat.le_refl _) [.int .i64 0, .slice none 0 0, .slice none 0 0]
     first
      | exact ⟨hbe, Or.inr ⟨fun e => Bool.noConfusion e.1, rfl⟩⟩
      | exact ⟨hbe, rfl⟩
   | false =>
    obtain rfl := her.no
    have hq : (acc, false) = (fl, e) := HGL.out
    injection hq with hq1 hq2
    subst hq1
    subst hq2
    have kx0 := (qx HLP.out.cell 0 rfl).1
    have kx1 := (qx HLP.out.cell 1 rfl).1
    have kx2 := (qx HLP.out.cell 2 rfl).1
    have hbz : 0 <= (m1 : Int) /\ (m1 : Int) <= 9223372036854775807 := by have := dec_le D1.out.1; omega
    have hrf := Kd.R_reads' HLP.out.fk
    cases b with
    | false =>
     have HPT := am (put_no k (m1 : Int) A8 c8 pl Af cf acc wr (Kd.F_now HLP.out.pool) HC8.out hrf.2.2 hrf.2.1 HB.out)
     clear hrf hbz
     go_wp2_with (first
      | (go_at_call 7; with_reducible refine HPT.out.mono ?_; rintro r W12 ⟨rfl, hb12⟩; have kr2 := qb kr1 hb12; have HB12 := am hb12; have HR12 := am (qB hb12 HLP.out.gt.res); have hcx := qB hb12 HLP.out.cell; have HX12 := am hcx; have ky0 := (qx hcx 0 rfl).1; have ky1 := (qx hcx 1 rfl).1; have ky2 := (qx hcx 2 rfl).1; clear hb12 hcx)
      | (go_at_call 35; refine (is_nil _).mono ?_; rintro r W13 ⟨rfl, hb13⟩; have HB13 := am hb13; have HR13 := am (qB hb13 HR12.out); have hcx := qB hb13 HX12.out; have kz0 := (qx hcx 0 rfl).1; have kz1 := (qx hcx 1 rfl).1; have kz2 := (qx hcx 2 rfl).1; clear hb13 hcx)
      | ((with_reducible refine gate_store 25 (.tmp 2) (.tmp 76) rfl ?_); refine wpList_store_mid rfl 25 (.tmp 2) (.tmp 76) rfl W.heap.size 0 #[.int .i64 0, .slice none 0 0, .slice none 0 0] ?hx ?hy ?ht ?hi ?h1 ?_; (case hx => rfl); (case hy => rfl); (case ht => exact there3 HR13.out); (case hi => kernel_rfl); (case h1 => simp [Value.oneCell'])))
     (try simp only [Exit.inBlock, Exit.then])
     refine bodyPost_ret (results_ct rfl _ _ W.heap.size 25 #[.int .i64 0, .slice none 0 0, .slice none 0 0] (0, 0) _ rfl (set3 _ _ _ HR13.out) Tryz.underlying25 rfl (by kernel_rfl)) rfl ?_
     have hbe := below_sets (qW (qW HLP.out.gt.bel HB12.out) HB13.out) (Nat.le_refl _) [.int .i64 0, .slice none 0 0, .slice none 0 0]
     first
      | exact ⟨hbe, Or.inr ⟨fun e => Bool.noConfusion e.2.1, rfl⟩⟩
      | exact ⟨hbe, rfl⟩
    | true =>
     have HPT := am (put_ok k (m1 : Int) A8 c8 pl Af cf acc wr (Kd.F_now HLP.out.pool) HC8.out hrf.2.2 hrf.2.1 HB.out P (HP.out rfl).1 (HP.out rfl).2 hbz.1 hbz.2 (HT.out.below HLP.out.gt.bel))
     clear hrf hbz
     go_wp2_with (go_at_call 7; refine HPT.out.mono ?_)
     rintro r W12 v12 rfl hv12 hb12
     have kr2 := qb kr1 hb12
     have HB12 := am hb12
     obtain ⟨A12, c12, rfl, hl12, hF12⟩ := hv12
     have HF12 := am hF12
     have HR12 := am (qB hb12 HLP.out.gt.res)
     have hcx := qB hb12 HLP.out.cell
     have HX12 := am hcx
     have ky0 := (qx hcx 0 rfl).1
     have ky1 := (qx hcx 1 rfl).1
     have ky2 := (qx hcx 2 rfl).1
     clear hb12 hcx hF12 hl12
     by_cases hts : textP P (m1 : Int) pl acc = s
     ·skip
      go_wp2_with (first
       | (go_at_call 35; refine (is_nil _).mono ?_; rintro r W13 ⟨rfl, hb13⟩; have HB13 := am hb13; have HR13 := am (qB hb13 HR12.out); have hcx := qB hb13 HX12.out; have kz0 := (qx hcx 0 rfl).1; have kz1 := (qx hcx 1 rfl).1; have kz2 := (qx hcx 2 rfl).1; have hcv1 := Kd.C_string (P := Tryz.prog) (src := 26) (dst := 9) (c := c) Tryz.underlying26 Tryz.underlying5 Tryz.underlying9 (Kd.C_below HR0.out (qW (qW HLP.out.gt.bel HB12.out) hb13)); rw [HBS.out] at hcv1; have hcv2 := Kd.C_string (P := Tryz.prog) (src := 26) (dst := 9) (c := c12) Tryz.underlying26 Tryz.underlying5 Tryz.underlying9 (Kd.C_below (Kd.F_now HF12.out) hb13); rw [strOf_bytesOf] at hcv2; rw [hts] at hcv2; clear hb13 hcx)
       | ((with_reducible refine gate_store 25 (.tmp 2) (.tmp 77) rfl ?_); refine wpList_store_mid rfl 25 (.tmp 2) (.tmp 77) rfl W.heap.size 0 #[.int .i64 (m1 : Int), .slice A8 pl.length c8, .slice Af acc.length cf] ?hx ?hy ?ht ?hi ?h1 ?_; (case hx => rfl); (case hy => rfl); (case ht => exact there3 HR13.out); (case hi => kernel_rfl); (case h1 => simp [Value.oneCell'])))
      (try simp only [Exit.inBlock, Exit.then])
      refine bodyPost_ret (results_ct rfl _ _ W.heap.size 25 #[.int .i64 (m1 : Int), .slice A8 pl.length c8, .slice Af acc.length cf] (0, 0) _ rfl (set3 _ _ _ HR13.out) Tryz.underlying25 rfl (by kernel_rfl)) rfl ?_
      have hbe := below_sets (qW (qW HLP.out.gt.bel HB12.out) HB13.out) (Nat.le_refl _) [.int .i64 (m1 : Int), .slice A8 pl.length c8, .slice Af acc.length cf]
      have hfn := HLP.out.fin (HB12.out.trans (below_less HB13.out HB12.out.size)) [.int .i64 (m1 : Int), .slice A8 pl.length c8, .slice Af acc.length cf]
      first
       | exact ⟨hbe, Or.inl ⟨⟨rfl, rfl, hts⟩, A8, c8, Af, cf, rfl, hfn.1, HC8.out, hfn.2.1, hfn.2.2⟩⟩
       | exact ⟨hbe, Or.inl ⟨hts, A8, c8, Af, cf, rfl, hfn.1, HC8.out, hfn.2.1, hfn.2.2⟩⟩
       | exact ⟨hbe, A8, c8, Af, cf, rfl, hfn.1, HC8.out, hfn.2.1, hfn.2.2⟩
     ·have hcmp : ((textP P (m1 : Int) pl acc).toList == s.toList) = false := by
       exact Bool.eq_false_iff.2 (fun e => hts (toList_inj (eq_of_beq e)))
      go_wp2_with (first
       | (go_at_call 35; refine (is_nil _).mono ?_; rintro r W13 ⟨rfl, hb13⟩; have HB13 := am hb13; have HR13 := am (qB hb13 HR12.out); have hcx := qB hb13 HX12.out; have kz0 := (qx hcx 0 rfl).1; have kz1 := (qx hcx 1 rfl).1; have kz2 := (qx hcx 2 rfl).1; have hcv1 := Kd.C_string (P := Tryz.prog) (src := 26) (dst := 9) (c := c) Tryz.underlying26 Tryz.underlying5 Tryz.underlying9 (Kd.C_below HR0.out (qW (qW HLP.out.gt.bel HB12.out) hb13)); rw [HBS.out] at hcv1; have hcv2 := Kd.C_string (P := Tryz.prog) (src := 26) (dst := 9) (c := c12) Tryz.underlying26 Tryz.underlying5 Tryz.underlying9 (Kd.C_below (Kd.F_now HF12.out) hb13); rw [strOf_bytesOf] at hcv2; clear hb13 hcx)
       | ((with_reducible refine gate_store 25 (.tmp 2) (.tmp 76) rfl ?_); refine wpList_store_mid rfl 25 (.tmp 2) (.tmp 76) rfl W.heap.size 0 #[.int .i64 0, .slice none 0 0, .slice none 0 0] ?hx ?hy ?ht ?hi ?h1 ?_; (case hx => rfl); (case hy => rfl); (case ht => exact there3 HR13.out); (case hi => kernel_rfl); (case h1 => simp [Value.oneCell'])))
      (try simp only [Exit.inBlock, Exit.then])
      refine bodyPost_ret (results_ct rfl _ _ W.heap.size 25 #[.int .i64 0, .slice none 0 0, .slice none 0 0] (0, 0) _ rfl (set3 _ _ _ HR13.out) Tryz.underlying25 rfl (by kernel_rfl)) rfl ?_
      have hbe := below_sets (qW (qW HLP.out.gt.bel HB12.out) HB13.out) (Nat.le_refl _) [.int .i64 0, .slice none 0 0, .slice none 0 0]
      first
       | exact ⟨hbe, Or.inr ⟨fun e => hts e.2.2, rfl⟩⟩
       | exact ⟨hbe, rfl⟩
       | exact ⟨hbe, Or.inr ⟨fun e => hts e, rfl⟩⟩
       | exact ⟨hbe, Or.inr ⟨hts, rfl⟩⟩
       | exact ⟨hbe, Or.inr rfl⟩
end Go.Proofs.YtlfenakgphmepaaGreatDoor.Root
