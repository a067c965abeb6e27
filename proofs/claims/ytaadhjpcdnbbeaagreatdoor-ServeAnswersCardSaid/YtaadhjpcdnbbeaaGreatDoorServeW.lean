/- A talk with one who fetches: its methods, told by plain functions of its state. -/
import Derived.Test.YtaadhjpcdnbbeaaGreatDoorServeA
import Derived.Test.YtaadhjpcdnbbeaaGreatDoorLineProg
import Derived.Deep.CutRange
import Derived.Deep.DeepCutAuto
import Derived.Deep.MidRow
namespace Go.Proofs.YtaadhjpcdnbbeaaGreatDoor.Serve
open Go.RowKit Go.Proofs.YtaadhjpcdnbbeaaGreatDoorW.PrintWords Go.Proofs.YtaadhjpcdnbbeaaGreatDoorW.PrintLast Go.Proofs.YtaadhjpcdnbbeaaGreatDoorW.PrintMore Go.Proofs.YtaadhjpcdnbbeaaGreatDoor.Conv Go.Proofs.YtaadhjpcdnbbeaaGreatDoor.Print Go.Proofs.YtaadhjpcdnbbeaaGreatDoor.Line
set_option linter.unusedVariables false
set_option linter.unusedSimpArgs false
structure Keeps (W W' : World) (own : Nat -> Prop) : Prop where
 os : W'.os = W.os
 tape : W'.tape = W.tape
 output : W'.output = W.output
 size : W.heap.size <= W'.heap.size
 block : ∀ k, k < W.heap.size -> ¬ own k -> W'.heap[k]? = W.heap[k]?
theorem Keeps.refl (W : World) (own : Nat -> Prop) : Keeps W W own := ⟨rfl, rfl, rfl, Nat.le_refl _, fun _ _ _ => rfl⟩
theorem Keeps.of_below {W W' : World} {own : Nat -> Prop} (h : Below W.heap.size W W') : Keeps W W' own := ⟨h.os, h.tape, h.output, h.size, fun k hk _ => h.block k hk⟩
theorem Keeps.set {W : World} {own : Nat -> Prop} {g j : Nat} {v : Value} (hg : own g) : Keeps W (W.setCell ⟨g, j, none⟩ v) own := ⟨rfl, rfl, rfl, by simp [World.setCell], fun k _ hn => Below.heap_setCell W ⟨g, j, none⟩ v k (fun e => hn (by rw [e]; exact hg))⟩
def more (own : Nat -> Prop) (W W' : World) : Nat -> Prop := fun k => own k ∨ (W.heap.size <= k /\ k < W'.heap.size)
theorem Keeps.trans {W W1 W2 : World} {own : Nat -> Prop} (h : Keeps W W1 own) (k : Keeps W1 W2 (more own W W1)) : Keeps W W2 own :=
 ⟨k.os.trans h.os, k.tape.trans h.tape, k.output.trans h.output, Nat.le_trans h.size k.size, fun i hi hn => (k.block i (Nat.lt_of_lt_of_le hi h.size) (fun e => e.elim hn (fun e => by omega))).trans (h.block i hi hn)⟩
theorem Keeps.mono {W W' : World} {own own' : Nat -> Prop} (h : Keeps W W' own) (ho : ∀ k, own k -> own' k) : Keeps W W' own' := ⟨h.os, h.tape, h.output, h.size, fun k hk hn => h.block k hk (fun e => hn (ho k e))⟩
def IsS (W : World) (own : Nat -> Prop) (g : Nat) (s : St) : Prop := ∃ vc vs aw cw ah ch,
 W.heap[g]? = some (.cells #[vc, vs, .slice aw s.wants.length cw, .slice ah s.haves.length ch, .int .i64 s.st] 53 (0, 0)) /\
 (Kd.R (Kd.int .u8) 5 W 0 (fun _ => True) vc s.came /\ Kd.R (Kd.int .u8) 5 W 0 (fun _ => True) vs s.send) /\
 ((∀ k, vc.ownBlock = some k -> k ≠ g /\ own k /\ vs.ownBlock ≠ some k) /\ (∀ k, vs.ownBlock = some k -> k ≠ g /\ own k /\ vc.ownBlock ≠ some k) /\ own g /\ (∀ k, own k -> k < W.heap.size)) /\
 (s.wants.length <= cw /\ s.haves.length <= ch) /\
 (Kd.F Kd.string W (fun k => own k /\ k ≠ g /\ vc.ownBlock ≠ some k /\ vs.ownBlock ≠ some k) aw s.wants.length s.wants /\ Kd.F Kd.string W (fun k => own k /\ k ≠ g /\ vc.ownBlock ≠ some k /\ vs.ownBlock ≠ some k) ah s.haves.length s.haves)
theorem IsS.keeps {W W' : World} {own own2 : Nat -> Prop} {g : Nat} {s : St} (h : IsS W own g s) (hk : Keeps W W' own2) (hd : ∀ k, own k -> ¬ own2 k) : IsS W' own g s := by
 obtain ⟨vc, vs, aw, cw, ah, ch, hb, ⟨hc, hs⟩, ⟨h1, h2, h3, h4⟩, h5, ⟨h6, h7⟩⟩ := h
 have hz : ∀ k, own k -> W'.heap[k]? = W.heap[k]? := fun k ho => hk.block k (h4 k ho) (hd k ho)
 have tight : ∀ {v : Value} {xs : List Int}, Kd.R (Kd.int .u8) 5 W 0 (fun _ => True) v xs -> (∀ k, v.ownBlock = some k -> own k) -> Kd.R (Kd.int .u8) 5 W' 0 (fun _ => True) v xs := fun hr ho =>
  Kd.R_mono (Kd.R_step (Kd.R_tight rfl hr) (fun k hk2 _ => hz k (ho k hk2.symm))) (fun _ _ => trivial)
 exact ⟨vc, vs, aw, cw, ah, ch, (hz g h3).trans hb, ⟨tight hc (fun k e => (h1 k e).2.1), tight hs (fun k e => (h2 k e).2.1)⟩, ⟨h1, h2, h3, fun k ho => Nat.lt_of_lt_of_le (h4 k ho) hk.size⟩, h5, ⟨Kd.F_step h6 (fun k ho _ => hz k ho.1), Kd.F_step h7 (fun k ho _ => hz k ho.1)⟩⟩
theorem box_cell {W : World} {g : Nat} {cs : Array Value} {t : TypeId} (h : W.heap[g]? = some (.cells cs t (0, 0))) (j : Nat) {v : Value} (hv : cs[j]? = some v) : W.cell? ⟨g, j, none⟩ = some v /\ W.frozen? ⟨g, j, none⟩ = false := ⟨(cell_of_row W g j cs t (0, 0) h).trans hv, frozen_of_row W g j cs t h⟩
theorem below_box {B W : World} {b : Nat} {o : Obj} (h : Below B.heap.size B W) (hb : B.heap[b]? = some o) : W.heap[b]? = some o := (h.block b (Array.getElem?_eq_some_iff.1 hb).1).trans hb
theorem grown_box {W W1 : World} {row : Option Nat} (h : W.grownBy W1 row) {b : Nat} {o : Obj} (hb : W.heap[b]? = some o) (hn : some b ≠ row) : W1.heap[b]? = some o := (h.block b (Array.getElem?_eq_some_iff.1 hb).1 hn).trans hb
theorem lt_box {W : World} {b : Nat} {o : Obj} (hb : W.heap[b]? = some o) : b < W.heap.size := (Array.getElem?_eq_some_iff.1 hb).1
theorem R_keep {W W' : World} {v : Value} {xs : List Int} (h : Kd.R (Kd.int .u8) 5 W 0 (fun _ => True) v xs) (hk : ∀ k, v.ownBlock = some k -> W'.heap[k]? = W.heap[k]?) : Kd.R (Kd.int .u8) 5 W' 0 (fun _ => True) v xs :=
 Kd.R_mono (Kd.R_step (Kd.R_tight rfl h) (fun k e _ => hk k e.symm)) (fun _ _ => trivial)
theorem sent {W W1 W2 : World} {own : Nat -> Prop} {g : Nat} {s : St} {vc vs v2 : Value} {aw ah : Option Addr} {cw ch : Nat} {bs : List Int}
  (hb : W.heap[g]? = some (.cells #[vc, vs, .slice aw s.wants.length cw, .slice ah s.haves.length ch, .int .i64 s.st] 53 (0, 0)))
  (hc : Kd.R (Kd.int .u8) 5 W 0 (fun _ => True) vc s.came)
  (h1 : ∀ k, vc.ownBlock = some k -> k ≠ g /\ own k /\ vs.ownBlock ≠ some k) (h2 : ∀ k, vs.ownBlock = some k -> k ≠ g /\ own k /\ vc.ownBlock ≠ some k) (h3 : own g) (h4 : ∀ k, own k -> k < W.heap.size)
  (h5 : s.wants.length <= cw /\ s.haves.length <= ch)
  (h6 : Kd.F Kd.string W (fun k => own k /\ k ≠ g /\ vc.ownBlock ≠ some k /\ vs.ownBlock ≠ some k) aw s.wants.length s.wants) (h7 : Kd.F Kd.string W (fun k => own k /\ k ≠ g /\ vc.ownBlock ≠ some k /\ vs.ownBlock ≠ some k) ah s.haves.length s.haves)
  (hB : Below W.heap.size W W1) (hg : W1.grownBy W2 vs.ownBlock) (ho : Kd.R (Kd.int .u8) 5 W2 0 (fun _ => True) v2 (s.send ++ bs)) (hat : v2.ownBlock = vs.ownBlock ∨ ∃ b, v2.ownBlock = some b /\ W1.heap.size <= b) :
  IsS (W2.setCell ⟨g, 1, none⟩ v2) (more own W (W2.setCell ⟨g, 1, none⟩ v2)) g { s with send := s.send ++ bs } /\ Keeps W (W2.setCell ⟨g, 1, none⟩ v2) own := by
 have hlt := lt_box hb
 have hsz1 := hB.size
 have hsz2 := hg.size
 have hszs : (W2.setCell ⟨g, 1, none⟩ v2).heap.size = W2.heap.size := by simp [World.setCell]
 have hgv : some g ≠ vs.ownBlock := fun e => (h2 g e.symm).1 rfl
 have hb2 : W2.heap[g]? = some (.cells #[vc, vs, .slice aw s.wants.length cw, .slice ah s.haves.length ch, .int .i64 s.st] 53 (0, 0)) := grown_box hg (below_box hB hb) hgv
 have hother : ∀ k, k < W.heap.size -> k ≠ g -> vs.ownBlock ≠ some k -> (W2.setCell ⟨g, 1, none⟩ v2).heap[k]? = W.heap[k]? := fun k hk hn hv =>
  (Below.heap_setCell W2 ⟨g, 1, none⟩ v2 k hn).trans ((hg.block k (by omega) (fun e => hv e.symm)).trans (hB.block k hk))
 have hv2 : ∀ k, v2.ownBlock = some k -> k ≠ g /\ (vs.ownBlock = some k ∨ W.heap.size <= k) /\ k < W2.heap.size := fun k e => by
  have hk := Kd.R_lt ho k e
  rcases hat with h | ⟨b, h, hb⟩
  ·rw [h] at e
   exact ⟨(h2 k e).1, Or.inl e, hk⟩
  ·rw [h] at e
   have e2 : b = k := Option.some.inj e
   exact ⟨by omega, Or.inr (by omega), hk⟩
 refine ⟨⟨vc, v2, aw, cw, ah, ch, ?_, ⟨?_, ?_⟩, ⟨?_, ?_, Or.inl h3, ?_⟩, h5, ⟨?_, ?_⟩⟩, ?_⟩
 ·exact (heap_setCell_same W2 g 1 _ _ v2 hb2).trans rfl
 ·exact R_keep hc (fun k e => hother k (h4 k (h1 k e).2.1) (h1 k e).1 (h1 k e).2.2)
 ·exact R_keep ho (fun k e => Below.heap_setCell W2 ⟨g, 1, none⟩ v2 k (hv2 k e).1)
 ·intro k e
  refine ⟨(h1 k e).1, Or.inl (h1 k e).2.1, fun e2 => ?_⟩
  rcases (hv2 k e2).2.1 with h | h
  ·exact (h1 k e).2.2 h
  ·have := h4 k (h1 k e).2.1
   omega
 ·intro k e
  refine ⟨(hv2 k e).1, ?_, fun e2 => ?_⟩
  ·rcases (hv2 k e).2.1 with h | h
   ·exact Or.inl (h2 k h).2.1
   ·exact Or.inr ⟨h, by rw [hszs]; exact (hv2 k e).2.2⟩
  ·rcases (hv2 k e).2.1 with h | h
   ·exact (h1 k e2).2.2 h
   ·have := h4 k (h1 k e2).2.1
    omega
 ·rintro k (h | h)
  ·have := h4 k h
   omega
  ·exact h.2
 ·refine Kd.F_mono (Kd.F_step (Kd.F_bound h6) (fun k hk _ => hother k hk.2 hk.1.2.1 hk.1.2.2.2)) (fun k hk => ⟨Or.inl hk.1.1, hk.1.2.1, hk.1.2.2.1, fun e => ?_⟩)
  rcases (hv2 k e).2.1 with h | h
  ·exact hk.1.2.2.2 h
  ·have := hk.2
   omega
 ·refine Kd.F_mono (Kd.F_step (Kd.F_bound h7) (fun k hk _ => hother k hk.2 hk.1.2.1 hk.1.2.2.2)) (fun k hk => ⟨Or.inl hk.1.1, hk.1.2.1, hk.1.2.2.1, fun e => ?_⟩)
  rcases (hv2 k e).2.1 with h | h
  ·exact hk.1.2.2.2 h
  ·have := hk.2
   omega
 ·exact ⟨hg.os.trans hB.os, hg.tape.trans hB.tape, hg.output.trans hB.output, by rw [hszs]; omega, fun k hk hn => hother k hk (fun e => hn (by rw [e]; exact h3)) (fun e => hn (h2 k e).2.1)⟩
theorem camed {W W1 W2 : World} {own : Nat -> Prop} {g : Nat} {s : St} {vc vs v2 : Value} {aw ah : Option Addr} {cw ch : Nat} {bs : List Int}
  (hb : W.heap[g]? = some (.cells #[vc, vs, .slice aw s.wants.length cw, .slice ah s.haves.length ch, .int .i64 s.st] 53 (0, 0)))
  (hc : Kd.R (Kd.int .u8) 5 W 0 (fun _ => True) vs s.send)
  (h1 : ∀ k, vc.ownBlock = some k -> k ≠ g /\ own k /\ vs.ownBlock ≠ some k) (h2 : ∀ k, vs.ownBlock = some k -> k ≠ g /\ own k /\ vc.ownBlock ≠ some k) (h3 : own g) (h4 : ∀ k, own k -> k < W.heap.size)
  (h5 : s.wants.length <= cw /\ s.haves.length <= ch)
  (h6 : Kd.F Kd.string W (fun k => own k /\ k ≠ g /\ vc.ownBlock ≠ some k /\ vs.ownBlock ≠ some k) aw s.wants.length s.wants) (h7 : Kd.F Kd.string W (fun k => own k /\ k ≠ g /\ vc.ownBlock ≠ some k /\ vs.ownBlock ≠ some k) ah s.haves.length s.haves)
  (hB : Below W.heap.size W W1) (hg : W1.grownBy W2 vc.ownBlock) (ho : Kd.R (Kd.int .u8) 5 W2 0 (fun _ => True) v2 (s.came ++ bs)) (hat : v2.ownBlock = vc.ownBlock ∨ ∃ b, v2.ownBlock = some b /\ W1.heap.size <= b) :
  IsS (W2.setCell ⟨g, 0, none⟩ v2) (more own W (W2.setCell ⟨g, 0, none⟩ v2)) g { s with came := s.came ++ bs } /\ Keeps W (W2.setCell ⟨g, 0, none⟩ v2) own := by
 have hlt := lt_box hb
 have hsz1 := hB.size
 have hsz2 := hg.size
 have hszs : (W2.setCell ⟨g, 0, none⟩ v2).heap.size = W2.heap.size := by simp [World.setCell]
 have hgv : some g ≠ vc.ownBlock := fun e => (h1 g e.symm).1 rfl
 have hb2 : W2.heap[g]? = some (.cells #[vc, vs, .slice aw s.wants.length cw, .slice ah s.haves.length ch, .int .i64 s.st] 53 (0, 0)) := grown_box hg (below_box hB hb) hgv
 have hother : ∀ k, k < W.heap.size -> k ≠ g -> vc.ownBlock ≠ some k -> (W2.setCell ⟨g, 0, none⟩ v2).heap[k]? = W.heap[k]? := fun k hk hn hv =>
  (Below.heap_setCell W2 ⟨g, 0, none⟩ v2 k hn).trans ((hg.block k (by omega) (fun e => hv e.symm)).trans (hB.block k hk))
 have hv2 : ∀ k, v2.ownBlock = some k -> k ≠ g /\ (vc.ownBlock = some k ∨ W.heap.size <= k) /\ k < W2.heap.size := fun k e => by
  have hk := Kd.R_lt ho k e
  rcases hat with h | ⟨b, h, hb⟩
  ·rw [h] at e
   exact ⟨(h1 k e).1, Or.inl e, hk⟩
  ·rw [h] at e
   have e2 : b = k := Option.some.inj e
   exact ⟨by omega, Or.inr (by omega), hk⟩
 refine ⟨⟨v2, vs, aw, cw, ah, ch, ?_, ⟨?_, ?_⟩, ⟨?_, ?_, Or.inl h3, ?_⟩, h5, ⟨?_, ?_⟩⟩, ?_⟩
 ·exact (heap_setCell_same W2 g 0 _ _ v2 hb2).trans rfl
 ·exact R_keep ho (fun k e => Below.heap_setCell W2 ⟨g, 0, none⟩ v2 k (hv2 k e).1)
 ·exact R_keep hc (fun k e => hother k (h4 k (h2 k e).2.1) (h2 k e).1 (h2 k e).2.2)
 ·intro k e
  refine ⟨(hv2 k e).1, ?_, fun e2 => ?_⟩
  ·rcases (hv2 k e).2.1 with h | h
   ·exact Or.inl (h1 k h).2.1
   ·exact Or.inr ⟨h, by rw [hszs]; exact (hv2 k e).2.2⟩
  ·rcases (hv2 k e).2.1 with h | h
   ·exact (h1 k h).2.2 e2
   ·have := h4 k (h2 k e2).2.1
    omega
 ·intro k e
  refine ⟨(h2 k e).1, Or.inl (h2 k e).2.1, fun e2 => ?_⟩
  rcases (hv2 k e2).2.1 with h | h
  ·exact (h2 k e).2.2 h
  ·have := h4 k (h2 k e).2.1
   omega
 ·rintro k (h | h)
  ·have := h4 k h
   omega
  ·exact h.2
 ·refine Kd.F_mono (Kd.F_step (Kd.F_bound h6) (fun k hk _ => hother k hk.2 hk.1.2.1 hk.1.2.2.1)) (fun k hk => ⟨Or.inl hk.1.1, hk.1.2.1, fun e => ?_, hk.1.2.2.2⟩)
  rcases (hv2 k e).2.1 with h | h
  ·exact hk.1.2.2.1 h
  ·have := hk.2
   omega
 ·refine Kd.F_mono (Kd.F_step (Kd.F_bound h7) (fun k hk _ => hother k hk.2 hk.1.2.1 hk.1.2.2.1)) (fun k hk => ⟨Or.inl hk.1.1, hk.1.2.1, fun e => ?_, hk.1.2.2.2⟩)
  rcases (hv2 k e).2.1 with h | h
  ·exact hk.1.2.2.1 h
  ·have := hk.2
   omega
 ·exact ⟨hg.os.trans hB.os, hg.tape.trans hB.tape, hg.output.trans hB.output, by rw [hszs]; omega, fun k hk hn => hother k hk (fun e => hn (by rw [e]; exact h3)) (fun e => hn (h1 k e).2.1)⟩
theorem IsS.mono {W : World} {own own' : Nat -> Prop} {g : Nat} {s : St} (h : IsS W own g s) (ho : ∀ k, own k -> own' k) (hl : ∀ k, own' k -> k < W.heap.size) : IsS W own' g s := by
 obtain ⟨vc, vs, aw, cw, ah, ch, hb, hr, ⟨h1, h2, h3, h4⟩, h5, ⟨h6, h7⟩⟩ := h
 exact ⟨vc, vs, aw, cw, ah, ch, hb, hr, ⟨fun k e => ⟨(h1 k e).1, ho k (h1 k e).2.1, (h1 k e).2.2⟩, fun k e => ⟨(h2 k e).1, ho k (h2 k e).2.1, (h2 k e).2.2⟩, ho g h3, hl⟩, h5, ⟨Kd.F_mono h6 (fun k e => ⟨ho k e.1, e.2⟩), Kd.F_mono h7 (fun k e => ⟨ho k e.1, e.2⟩)⟩⟩
theorem IsS.below {W W' : World} {own : Nat -> Prop} {g : Nat} {s : St} (h : IsS W own g s) (hb : Below W.heap.size W W') : IsS W' own g s :=
 h.keeps (own2 := fun _ => False) (Keeps.of_below hb) (fun _ _ e => e)
theorem more_trans {own : Nat -> Prop} {W W1 W2 : World} (h1 : W.heap.size <= W1.heap.size) (h2 : W1.heap.size <= W2.heap.size) : ∀ k, more (more own W W1) W1 W2 k -> more own W W2 k := by
 rintro k ((h | h) | h)
 ·exact Or.inl h
 ·exact Or.inr ⟨h.1, by omega⟩
 ·exact Or.inr ⟨by omega, h.2⟩
theorem IsS.own_lt {W : World} {own : Nat -> Prop} {g : Nat} {s : St} (h : IsS W own g s) : ∀ k, own k -> k < W.heap.size := by
 obtain ⟨_, _, _, _, _, _, _, _, ⟨_, _, _, h4⟩, _⟩ := h
 exact h4
theorem IsS.own_g {W : World} {own : Nat -> Prop} {g : Nat} {s : St} (h : IsS W own g s) : own g := by
 obtain ⟨_, _, _, _, _, _, _, _, ⟨_, _, h3, _⟩, _⟩ := h
 exact h3
theorem IsS.stored {W : World} {own : Nat -> Prop} {g : Nat} {s : St} (h : IsS W own g s) (n : Int) : IsS (W.setCell ⟨g, 4, none⟩ (.int .i64 n)) own g { s with st := n } := by
 obtain ⟨vc, vs, aw, cw, ah, ch, hb, ⟨hc, hs⟩, ⟨h1, h2, h3, h4⟩, h5, ⟨h6, h7⟩⟩ := h
 have hfar : ∀ k, k ≠ g -> (W.setCell ⟨g, 4, none⟩ (.int .i64 n)).heap[k]? = W.heap[k]? := fun k hk => Below.heap_setCell W ⟨g, 4, none⟩ _ k hk
 have hszs : (W.setCell ⟨g, 4, none⟩ (.int .i64 n)).heap.size = W.heap.size := by simp [World.setCell]
 exact ⟨vc, vs, aw, cw, ah, ch, (heap_setCell_same W g 4 _ _ _ hb).trans rfl, ⟨R_keep hc (fun k e => hfar k (h1 k e).1), R_keep hs (fun k e => hfar k (h2 k e).1)⟩, ⟨h1, h2, h3, fun k e => by rw [hszs]; exact h4 k e⟩, h5, ⟨Kd.F_step h6 (fun k e _ => hfar k e.2.1), Kd.F_step h7 (fun k e _ => hfar k e.2.1)⟩⟩
theorem IsS.cells {W : World} {own : Nat -> Prop} {g : Nat} {s : St} (h : IsS W own g s) : W.cell? ⟨g, 4, none⟩ = some (.int .i64 s.st) /\ W.frozen? ⟨g, 4, none⟩ = false := by
 obtain ⟨vc, vs, aw, cw, ah, ch, hb, _⟩ := h
 exact box_cell hb 4 rfl
theorem IsS.came_cell {W : World} {own : Nat -> Prop} {g : Nat} {s : St} (h : IsS W own g s) : ∃ A c, W.cell? ⟨g, 0, none⟩ = some (.slice A s.came.length c) /\ Kd.C (Kd.int .u8) W A s.came.length s.came /\ s.came.length <= c := by
 obtain ⟨vc, vs, aw, cw, ah, ch, hb, ⟨hc, _⟩, _⟩ := h
 obtain ⟨A, c, rfl⟩ := Kd.R_slice hc
 exact ⟨A, c, (box_cell hb 0 rfl).1, (Kd.R_reads' hc).2.2, (Kd.R_reads' hc).2.1⟩
theorem IsS.there {W : World} {own : Nat -> Prop} {g : Nat} {s : St} (h : IsS W own g s) : W.there g 2 2 := by
 obtain ⟨vc, vs, aw, cw, ah, ch, hb, _⟩ := h
 intro j hj
 refine ⟨?_, frozen_of_row W g _ _ _ hb⟩
 rw [cell_of_row W g (2 + j) _ _ _ hb]
 have : j = 0 ∨ j = 1 := by omega
 rcases this with rfl | rfl <;> rfl
theorem IsS.asked {W : World} {own fr : Nat -> Prop} {g : Nat} {s : St} (h : IsS W own g s) (Ax Ay : Option Addr) (cx cy : Nat) (xw xh : List ByteArray) (hX : Kd.F Kd.string W fr Ax xw.length xw) (hY : Kd.F Kd.string W fr Ay xh.length xh) (hcx : xw.length <= cx) (hcy : xh.length <= cy) (hfr : ∀ k, fr k -> ¬ own k /\ k < W.heap.size) :
  IsS (W.setCells g 2 [.slice Ax xw.length cx, .slice Ay xh.length cy]) (fun k => own k ∨ fr k) g { s with wants := xw, haves := xh } := by
 obtain ⟨vc, vs, aw, cw, ah, ch, hb, ⟨hc, hs⟩, ⟨h1, h2, h3, h4⟩, _, _⟩ := h
 have e : W.setCells g 2 [.slice Ax xw.length cx, .slice Ay xh.length cy] = (W.setCell ⟨g, 2, none⟩ (.slice Ax xw.length cx)).setCell ⟨g, 3, none⟩ (.slice Ay xh.length cy) := rfl
 rw [e]
 have hfar : ∀ k, k ≠ g -> ((W.setCell ⟨g, 2, none⟩ (.slice Ax xw.length cx)).setCell ⟨g, 3, none⟩ (.slice Ay xh.length cy)).heap[k]? = W.heap[k]? := fun k hk => (Below.heap_setCell _ ⟨g, 3, none⟩ _ k hk).trans (Below.heap_setCell W ⟨g, 2, none⟩ _ k hk)
 have hsz : ((W.setCell ⟨g, 2, none⟩ (.slice Ax xw.length cx)).setCell ⟨g, 3, none⟩ (.slice Ay xh.length cy)).heap.size = W.heap.size := by simp [World.setCell]
 have hg : ∀ k, fr k -> k ≠ g /\ vc.ownBlock ≠ some k /\ vs.ownBlock ≠ some k := fun k hk => ⟨fun e => (hfr k hk).1 (by rw [e]; exact h3), fun e => (hfr k hk).1 (h1 k e).2.1, fun e => (hfr k hk).1 (h2 k e).2.1⟩
 exact ⟨vc, vs, Ax, cx, Ay, cy, (heap_setCell_same _ g 3 _ _ _ (heap_setCell_same W g 2 _ _ _ hb)).trans rfl, ⟨R_keep hc (fun k e => hfar k (h1 k e).1), R_keep hs (fun k e => hfar k (h2 k e).1)⟩, ⟨fun k e => ⟨(h1 k e).1, Or.inl (h1 k e).2.1, (h1 k e).2.2⟩, fun k e => ⟨(h2 k e).1, Or.inl (h2 k e).2.1, (h2 k e).2.2⟩, Or.inl h3, fun k e => by rw [hsz]; exact e.elim (h4 k) (fun e => (hfr k e).2)⟩, ⟨hcx, hcy⟩, ⟨Kd.F_mono (Kd.F_step hX (fun k hk _ => hfar k (hg k hk).1)) (fun k hk => ⟨Or.inr hk, hg k hk⟩), Kd.F_mono (Kd.F_step hY (fun k hk _ => hfar k (hg k hk).1)) (fun k hk => ⟨Or.inr hk, hg k hk⟩)⟩⟩
theorem made_F {W : World} {base c : Nat} {ok : Nat -> Prop} {A : Option Addr} {xs : List ByteArray} (h : Kd.R Kd.string 9 W base ok (.slice A xs.length c) xs) : Kd.F Kd.string W (fun k => base <= k /\ k < W.heap.size) A xs.length xs :=
 Kd.F_mono (Kd.R_F (Kd.R_tight rfl h)) (fun k e => ⟨Kd.R_base h k e.symm, Kd.R_lt h k e.symm⟩)
end Go.Proofs.YtaadhjpcdnbbeaaGreatDoor.Serve
