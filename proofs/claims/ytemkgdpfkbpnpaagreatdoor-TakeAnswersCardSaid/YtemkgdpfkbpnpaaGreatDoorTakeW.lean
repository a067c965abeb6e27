/- A talk with one who pushes: what stands for it in memory. -/
import Derived.Test.YtemkgdpfkbpnpaaGreatDoorTakeA
import Derived.Test.YtemkgdpfkbpnpaaGreatDoorHelloF
import Derived.Deep.CutRange
import Derived.Deep.DeepCutAuto
import Derived.Deep.MidRow
namespace Go.Proofs.YtemkgdpfkbpnpaaGreatDoor.Take
open Go.RowKit Go.Proofs.YtemkgdpfkbpnpaaGreatDoorW.PrintWords Go.Proofs.YtemkgdpfkbpnpaaGreatDoorW.PrintLast Go.Proofs.YtemkgdpfkbpnpaaGreatDoorW.PrintMore Go.Proofs.YtemkgdpfkbpnpaaGreatDoor.Conv Go.Proofs.YtemkgdpfkbpnpaaGreatDoor.Print Go.Proofs.YtemkgdpfkbpnpaaGreatDoor.Line
set_option linter.unusedVariables false
set_option linter.unusedSimpArgs false
structure Keeps (W W' : World) (own : Nat -> Prop) : Prop where
 os : W'.os = W.os
 tape : W'.tape = W.tape
 output : W'.output = W.output
 size : W.heap.size <= W'.heap.size
 block : ∀ k, k < W.heap.size -> ¬ own k -> W'.heap[k]? = W.heap[k]?
theorem Keeps.refl (W : World) (own : Nat -> Prop) : Keeps W W own := ⟨rfl, rfl, rfl, Nat.le_refl _, fun _ _ _ => rfl⟩
theorem Keeps.of_below {W W' : World} {own : Nat -> Prop} (h : Below W.heap.size W W') : Keeps W W' own := ⟨h.os, h.tape, h.output, h.size, fun k hk _ => h.block k hk⟩
theorem Keeps.set {W : World} {own : Nat -> Prop} {g j : Nat} {v : Value} (hg : own g) : Keeps W (W.setCell ⟨g, j, none⟩ v) own := ⟨rfl, rfl, rfl, by simp [World.setCell], fun k _ hn => Below.heap_setCell W ⟨g, j, none⟩ v k (fun e => hn (by rw [e]; exact hg))⟩
theorem Keeps.mono {W W' : World} {own own' : Nat -> Prop} (h : Keeps W W' own) (ho : ∀ k, own k -> own' k) : Keeps W W' own' := ⟨h.os, h.tape, h.output, h.size, fun k hk hn => h.block k hk (fun e => hn (ho k e))⟩
structure Goes (W W' : World) (own own' : Nat -> Prop) : Prop where
 keeps : Keeps W W' own
 own : ∀ k, own' k -> own k ∨ W.heap.size <= k
theorem Goes.refl (W : World) (own : Nat -> Prop) : Goes W W own own := ⟨Keeps.refl W own, fun k e => Or.inl e⟩
theorem Goes.below {W W' : World} {own : Nat -> Prop} (h : Below W.heap.size W W') : Goes W W' own own := ⟨Keeps.of_below h, fun k e => Or.inl e⟩
theorem Goes.trans {W W1 W2 : World} {o o1 o2 : Nat -> Prop} (h : Goes W W1 o o1) (k : Goes W1 W2 o1 o2) : Goes W W2 o o2 :=
 ⟨⟨k.keeps.os.trans h.keeps.os, k.keeps.tape.trans h.keeps.tape, k.keeps.output.trans h.keeps.output, Nat.le_trans h.keeps.size k.keeps.size,
  fun i hi hn => (k.keeps.block i (Nat.lt_of_lt_of_le hi h.keeps.size) (fun e => (h.own i e).elim hn (fun e => by omega))).trans (h.keeps.block i hi hn)⟩,
 fun i e => (k.own i e).elim (h.own i) (fun e => Or.inr (Nat.le_trans h.keeps.size e))⟩
theorem Goes.left {W W' : World} {own own' : Nat -> Prop} (h : Goes W W' own own') (o : Nat -> Prop) : Goes W W' (fun k => own k ∨ o k) (fun k => own' k ∨ o k) :=
 ⟨h.keeps.mono (fun _ e => Or.inl e), fun k e => e.elim (fun e => (h.own k e).elim (fun e => Or.inl (Or.inl e)) Or.inr) (fun e => Or.inl (Or.inr e))⟩
theorem Goes.right {W W' : World} {own own' : Nat -> Prop} (h : Goes W W' own own') (o : Nat -> Prop) : Goes W W' (fun k => o k ∨ own k) (fun k => o k ∨ own' k) :=
 ⟨h.keeps.mono (fun _ e => Or.inr e), fun k e => e.elim (fun e => Or.inl (Or.inl e)) (fun e => (h.own k e).elim (fun e => Or.inl (Or.inr e)) Or.inr)⟩
theorem Goes.newer {W W' : World} {own own2 : Nat -> Prop} (h : Below W.heap.size W W') (h2 : ∀ k, own2 k -> W.heap.size <= k) : Goes W W' own (fun k => own k ∨ own2 k) := ⟨Keeps.of_below h, fun k e => e.elim Or.inl (fun e => Or.inr (h2 k e))⟩
theorem Goes.apart {W W' : World} {own own' own2 : Nat -> Prop} (hg : Goes W W' own own') (h2 : ∀ k, own2 k -> k < W.heap.size) (hd : ∀ k, own k -> ¬ own2 k) : ∀ k, own' k -> ¬ own2 k := fun k e e2 =>
 (hg.own k e).elim (fun e => hd k e e2) (fun e => by have := h2 k e2; omega)
theorem below_goes {B W W' : World} {own own' : Nat -> Prop} (h : Below B.heap.size B W) (k : Goes W W' own own') (ho : ∀ k, own k -> B.heap.size <= k) : Below B.heap.size B W' :=
 ⟨k.keeps.os.trans h.os, k.keeps.tape.trans h.tape, k.keeps.output.trans h.output, Nat.le_trans h.size k.keeps.size, fun i hi => (k.keeps.block i (Nat.lt_of_lt_of_le hi h.size) (fun e => by have := ho i e; omega)).trans (h.block i hi)⟩
theorem box_cell {W : World} {g : Nat} {cs : Array Value} {t : TypeId} (h : W.heap[g]? = some (.cells cs t (0, 0))) (j : Nat) {v : Value} (hv : cs[j]? = some v) : W.cell? ⟨g, j, none⟩ = some v /\ W.frozen? ⟨g, j, none⟩ = false := ⟨(cell_of_row W g j cs t (0, 0) h).trans hv, frozen_of_row W g j cs t h⟩
theorem below_box {B W : World} {b : Nat} {o : Obj} (h : Below B.heap.size B W) (hb : B.heap[b]? = some o) : W.heap[b]? = some o := (h.block b (Array.getElem?_eq_some_iff.1 hb).1).trans hb
theorem grown_box {W W1 : World} {row : Option Nat} (h : W.grownBy W1 row) {b : Nat} {o : Obj} (hb : W.heap[b]? = some o) (hn : some b ≠ row) : W1.heap[b]? = some o := (h.block b (Array.getElem?_eq_some_iff.1 hb).1 hn).trans hb
theorem lt_box {W : World} {b : Nat} {o : Obj} (hb : W.heap[b]? = some o) : b < W.heap.size := (Array.getElem?_eq_some_iff.1 hb).1
abbrev In {α : Type} (d : Kd α) (W : World) (S : Nat -> Prop) (A : Option Addr) (n : Nat) (xs : List α) : Prop := Kd.F d W S A n xs
def IsNx (W : World) (S : Nat -> Prop) (g : Nat) (v : Value) (nx : Int) : Prop :=
 (nx = -2 /\ v = .nilFunc) ∨ (nx = -1 /\ v = .func (.func 23) #[.pointer (some ⟨g, 0, none⟩)] #[]) ∨
 (0 <= nx /\ ∃ b1 b2, v = .func (.func 42) #[] #[.pointer (some ⟨b1, 0, none⟩), .pointer (some ⟨b2, 0, none⟩)] /\ S b1 /\ S b2 /\ W.heap[b1]? = some (.cells #[.pointer (some ⟨g, 0, none⟩)] 24 (0, 0)) /\ W.heap[b2]? = some (.cells #[.int .i64 nx] 3 (0, 0)))
structure Rest (W : World) (S : Nat -> Prop) (g : Nat) (s : St) (au : Option Addr) (cu : Nat) (ap : Option Addr) (cp : Nat) (vn : Value) : Prop where
 ups : Kd.F k42 W S au s.ups.length s.ups
 cu : s.ups.length <= cu
 pack : Kd.F (Kd.int .u8) W S ap s.pack.length s.pack
 cp : s.pack.length <= cp
 nx : IsNx W S g vn s.nx
theorem IsNx.step {W W' : World} {S S' : Nat -> Prop} {g : Nat} {v : Value} {nx : Int} (h : IsNx W S g v nx) (hk : ∀ k, S k -> k < W.heap.size -> W'.heap[k]? = W.heap[k]?) (hS : ∀ k, S k -> k < W.heap.size -> S' k) : IsNx W' S' g v nx := by
 rcases h with h | h | ⟨h0, b1, b2, rfl, h1, h2, h3, h4⟩
 ·exact Or.inl h
 ·exact Or.inr (Or.inl h)
 ·exact Or.inr (Or.inr ⟨h0, b1, b2, rfl, hS _ h1 (lt_box h3), hS _ h2 (lt_box h4), (hk _ h1 (lt_box h3)).trans h3, (hk _ h2 (lt_box h4)).trans h4⟩)
theorem Rest.step {W W' : World} {S S' : Nat -> Prop} {g : Nat} {s : St} {au : Option Addr} {cu : Nat} {ap : Option Addr} {cp : Nat} {vn : Value} (h : Rest W S g s au cu ap cp vn) (hk : ∀ k, S k -> k < W.heap.size -> W'.heap[k]? = W.heap[k]?) (hS : ∀ k, S k -> k < W.heap.size -> S' k) : Rest W' S' g s au cu ap cp vn :=
 ⟨Kd.F_mono (Kd.F_step (Kd.F_bound h.ups) (fun k e hl => hk k e.1 hl)) (fun k e => hS k e.1 e.2), h.cu, Kd.F_mono (Kd.F_step (Kd.F_bound h.pack) (fun k e hl => hk k e.1 hl)) (fun k e => hS k e.1 e.2), h.cp, h.nx.step hk hS⟩
def IsT (W : World) (own : Nat -> Prop) (g : Nat) (s : St) : Prop := ∃ vc vs au cu ap cp vn,
 W.heap[g]? = some (.cells #[vc, vs, .slice au s.ups.length cu, .slice ap s.pack.length cp, vn, .bool s.waits] 56 (0, 0)) /\
 (Kd.R (Kd.int .u8) 5 W 0 (fun _ => True) vc s.came /\ Kd.R (Kd.int .u8) 5 W 0 (fun _ => True) vs s.send) /\
 ((∀ k, vc.ownBlock = some k -> k ≠ g /\ own k /\ vs.ownBlock ≠ some k) /\ (∀ k, vs.ownBlock = some k -> k ≠ g /\ own k /\ vc.ownBlock ≠ some k) /\ own g /\ (∀ k, own k -> k < W.heap.size)) /\
 Rest W (fun k => own k /\ k ≠ g /\ vc.ownBlock ≠ some k /\ vs.ownBlock ≠ some k) g s au cu ap cp vn
theorem R_keep {W W' : World} {v : Value} {xs : List Int} (h : Kd.R (Kd.int .u8) 5 W 0 (fun _ => True) v xs) (hk : ∀ k, v.ownBlock = some k -> W'.heap[k]? = W.heap[k]?) : Kd.R (Kd.int .u8) 5 W' 0 (fun _ => True) v xs :=
 Kd.R_mono (Kd.R_step (Kd.R_tight rfl h) (fun k e _ => hk k e.symm)) (fun _ _ => trivial)
theorem IsT.keeps {W W' : World} {own own2 : Nat -> Prop} {g : Nat} {s : St} (h : IsT W own g s) (hk : Keeps W W' own2) (hd : ∀ k, own k -> ¬ own2 k) : IsT W' own g s := by
 obtain ⟨vc, vs, au, cu, ap, cp, vn, hb, ⟨hc, hs⟩, ⟨h1, h2, h3, h4⟩, h5⟩ := h
 have hz : ∀ k, own k -> W'.heap[k]? = W.heap[k]? := fun k ho => hk.block k (h4 k ho) (hd k ho)
 exact ⟨vc, vs, au, cu, ap, cp, vn, (hz g h3).trans hb, ⟨R_keep hc (fun k e => hz k (h1 k e).2.1), R_keep hs (fun k e => hz k (h2 k e).2.1)⟩, ⟨h1, h2, h3, fun k ho => Nat.lt_of_lt_of_le (h4 k ho) hk.size⟩, h5.step (fun k e _ => hz k e.1) (fun k e _ => e)⟩
theorem IsT.below {W W' : World} {own : Nat -> Prop} {g : Nat} {s : St} (h : IsT W own g s) (hb : Below W.heap.size W W') : IsT W' own g s :=
 h.keeps (own2 := fun _ => False) (Keeps.of_below hb) (fun _ _ e => e)
theorem IsT.own_lt {W : World} {own : Nat -> Prop} {g : Nat} {s : St} (h : IsT W own g s) : ∀ k, own k -> k < W.heap.size := by
 obtain ⟨_, _, _, _, _, _, _, _, _, ⟨_, _, _, h4⟩, _⟩ := h
 exact h4
theorem IsT.own_g {W : World} {own : Nat -> Prop} {g : Nat} {s : St} (h : IsT W own g s) : own g := by
 obtain ⟨_, _, _, _, _, _, _, _, _, ⟨_, _, h3, _⟩, _⟩ := h
 exact h3
def more (own : Nat -> Prop) (W W' : World) : Nat -> Prop := fun k => own k ∨ (W.heap.size <= k /\ k < W'.heap.size)
theorem Goes.more {W W' : World} {own : Nat -> Prop} (h : Keeps W W' own) : Goes W W' own (more own W W') := ⟨h, fun k e => e.elim Or.inl (fun e => Or.inr e.1)⟩
theorem sent {W W1 W2 : World} {own : Nat -> Prop} {g : Nat} {s : St} {vc vs v2 : Value} {au : Option Addr} {cu : Nat} {ap : Option Addr} {cp : Nat} {vn : Value} {bs : List Int}
  (hb : W.heap[g]? = some (.cells #[vc, vs, .slice au s.ups.length cu, .slice ap s.pack.length cp, vn, .bool s.waits] 56 (0, 0)))
  (hc : Kd.R (Kd.int .u8) 5 W 0 (fun _ => True) vc s.came)
  (h1 : ∀ k, vc.ownBlock = some k -> k ≠ g /\ own k /\ vs.ownBlock ≠ some k) (h2 : ∀ k, vs.ownBlock = some k -> k ≠ g /\ own k /\ vc.ownBlock ≠ some k) (h3 : own g) (h4 : ∀ k, own k -> k < W.heap.size)
  (h5 : Rest W (fun k => own k /\ k ≠ g /\ vc.ownBlock ≠ some k /\ vs.ownBlock ≠ some k) g s au cu ap cp vn)
  (hB : Below W.heap.size W W1) (hg : W1.grownBy W2 vs.ownBlock) (ho : Kd.R (Kd.int .u8) 5 W2 0 (fun _ => True) v2 (s.send ++ bs)) (hat : v2.ownBlock = vs.ownBlock ∨ ∃ b, v2.ownBlock = some b /\ W1.heap.size <= b) :
  IsT (W2.setCell ⟨g, 1, none⟩ v2) (more own W (W2.setCell ⟨g, 1, none⟩ v2)) g { s with send := s.send ++ bs } /\ Keeps W (W2.setCell ⟨g, 1, none⟩ v2) own := by
 have hlt := lt_box hb
 have hsz1 := hB.size
 have hsz2 := hg.size
 have hszs : (W2.setCell ⟨g, 1, none⟩ v2).heap.size = W2.heap.size := by simp [World.setCell]
 have hgv : some g ≠ vs.ownBlock := fun e => (h2 g e.symm).1 rfl
 have hb2 := grown_box hg (below_box hB hb) hgv
 have hother : ∀ k, k < W.heap.size -> k ≠ g -> vs.ownBlock ≠ some k -> (W2.setCell ⟨g, 1, none⟩ v2).heap[k]? = W.heap[k]? := fun k hk hn hv =>
  (Below.heap_setCell W2 ⟨g, 1, none⟩ v2 k hn).trans ((hg.block k (by omega) (fun e => hv e.symm)).trans (hB.block k hk))
 have hv2 : ∀ k, v2.ownBlock = some k -> k ≠ g /\ (vs.ownBlock = some k ∨ W.heap.size <= k) /\ k < W2.heap.size := fun k e => by
  have hk := Kd.R_lt ho k e
  rcases hat with h | ⟨b, h, hb⟩
  ·rw [h] at e
   exact ⟨(h2 k e).1, Or.inl e, hk⟩
  ·rw [h] at e
   have e2 : b = k := Option.some.inj e
   exact ⟨by omega, Or.inr (by omega), hk⟩
 refine ⟨⟨vc, v2, au, cu, ap, cp, vn, ?_, ⟨?_, ?_⟩, ⟨?_, ?_, Or.inl h3, ?_⟩, ?_⟩, ?_⟩
 ·exact (heap_setCell_same W2 g 1 _ _ v2 hb2).trans rfl
 ·exact R_keep hc (fun k e => hother k (h4 k (h1 k e).2.1) (h1 k e).1 (h1 k e).2.2)
 ·exact R_keep ho (fun k e => Below.heap_setCell W2 ⟨g, 1, none⟩ v2 k (hv2 k e).1)
 ·intro k e
  refine ⟨(h1 k e).1, Or.inl (h1 k e).2.1, fun e2 => ?_⟩
  rcases (hv2 k e2).2.1 with h | h
  ·exact (h1 k e).2.2 h
  ·have := h4 k (h1 k e).2.1
   omega
 ·intro k e
  refine ⟨(hv2 k e).1, ?_, fun e2 => ?_⟩
  ·rcases (hv2 k e).2.1 with h | h
   ·exact Or.inl (h2 k h).2.1
   ·exact Or.inr ⟨h, by rw [hszs]; exact (hv2 k e).2.2⟩
  ·rcases (hv2 k e).2.1 with h | h
   ·exact (h1 k e2).2.2 h
   ·have := h4 k (h1 k e2).2.1
    omega
 ·rintro k (h | h)
  ·have := h4 k h
   omega
  ·exact h.2
 ·refine Rest.step (s := { s with send := s.send ++ bs }) ⟨h5.ups, h5.cu, h5.pack, h5.cp, h5.nx⟩ (fun k e hl => hother k hl e.2.1 e.2.2.2) (fun k e hl => ⟨Or.inl e.1, e.2.1, e.2.2.1, fun e2 => ?_⟩)
  rcases (hv2 k e2).2.1 with h | h
  ·exact e.2.2.2 h
  ·omega
 ·exact ⟨hg.os.trans hB.os, hg.tape.trans hB.tape, hg.output.trans hB.output, by rw [hszs]; omega, fun k hk hn => hother k hk (fun e => hn (by rw [e]; exact h3)) (fun e => hn (h2 k e).2.1)⟩
theorem camed {W W1 W2 : World} {own : Nat -> Prop} {g : Nat} {s : St} {vc vs v2 : Value} {au : Option Addr} {cu : Nat} {ap : Option Addr} {cp : Nat} {vn : Value} {bs : List Int}
  (hb : W.heap[g]? = some (.cells #[vc, vs, .slice au s.ups.length cu, .slice ap s.pack.length cp, vn, .bool s.waits] 56 (0, 0)))
  (hc : Kd.R (Kd.int .u8) 5 W 0 (fun _ => True) vs s.send)
  (h1 : ∀ k, vc.ownBlock = some k -> k ≠ g /\ own k /\ vs.ownBlock ≠ some k) (h2 : ∀ k, vs.ownBlock = some k -> k ≠ g /\ own k /\ vc.ownBlock ≠ some k) (h3 : own g) (h4 : ∀ k, own k -> k < W.heap.size)
  (h5 : Rest W (fun k => own k /\ k ≠ g /\ vc.ownBlock ≠ some k /\ vs.ownBlock ≠ some k) g s au cu ap cp vn)
  (hB : Below W.heap.size W W1) (hg : W1.grownBy W2 vc.ownBlock) (ho : Kd.R (Kd.int .u8) 5 W2 0 (fun _ => True) v2 (s.came ++ bs)) (hat : v2.ownBlock = vc.ownBlock ∨ ∃ b, v2.ownBlock = some b /\ W1.heap.size <= b) :
  IsT (W2.setCell ⟨g, 0, none⟩ v2) (more own W (W2.setCell ⟨g, 0, none⟩ v2)) g { s with came := s.came ++ bs } /\ Keeps W (W2.setCell ⟨g, 0, none⟩ v2) own := by
 have hlt := lt_box hb
 have hsz1 := hB.size
 have hsz2 := hg.size
 have hszs : (W2.setCell ⟨g, 0, none⟩ v2).heap.size = W2.heap.size := by simp [World.setCell]
 have hgv : some g ≠ vc.ownBlock := fun e => (h1 g e.symm).1 rfl
 have hb2 := grown_box hg (below_box hB hb) hgv
 have hother : ∀ k, k < W.heap.size -> k ≠ g -> vc.ownBlock ≠ some k -> (W2.setCell ⟨g, 0, none⟩ v2).heap[k]? = W.heap[k]? := fun k hk hn hv =>
  (Below.heap_setCell W2 ⟨g, 0, none⟩ v2 k hn).trans ((hg.block k (by omega) (fun e => hv e.symm)).trans (hB.block k hk))
 have hv2 : ∀ k, v2.ownBlock = some k -> k ≠ g /\ (vc.ownBlock = some k ∨ W.heap.size <= k) /\ k < W2.heap.size := fun k e => by
  have hk := Kd.R_lt ho k e
  rcases hat with h | ⟨b, h, hb⟩
  ·rw [h] at e
   exact ⟨(h1 k e).1, Or.inl e, hk⟩
  ·rw [h] at e
   have e2 : b = k := Option.some.inj e
   exact ⟨by omega, Or.inr (by omega), hk⟩
 refine ⟨⟨v2, vs, au, cu, ap, cp, vn, ?_, ⟨?_, ?_⟩, ⟨?_, ?_, Or.inl h3, ?_⟩, ?_⟩, ?_⟩
 ·exact (heap_setCell_same W2 g 0 _ _ v2 hb2).trans rfl
 ·exact R_keep ho (fun k e => Below.heap_setCell W2 ⟨g, 0, none⟩ v2 k (hv2 k e).1)
 ·exact R_keep hc (fun k e => hother k (h4 k (h2 k e).2.1) (h2 k e).1 (h2 k e).2.2)
 ·intro k e
  refine ⟨(hv2 k e).1, ?_, fun e2 => ?_⟩
  ·rcases (hv2 k e).2.1 with h | h
   ·exact Or.inl (h1 k h).2.1
   ·exact Or.inr ⟨h, by rw [hszs]; exact (hv2 k e).2.2⟩
  ·rcases (hv2 k e).2.1 with h | h
   ·exact (h1 k h).2.2 e2
   ·have := h4 k (h2 k e2).2.1
    omega
 ·intro k e
  refine ⟨(h2 k e).1, Or.inl (h2 k e).2.1, fun e2 => ?_⟩
  rcases (hv2 k e2).2.1 with h | h
  ·exact (h2 k e).2.2 h
  ·have := h4 k (h2 k e).2.1
   omega
 ·rintro k (h | h)
  ·have := h4 k h
   omega
  ·exact h.2
 ·refine Rest.step (s := { s with came := s.came ++ bs }) ⟨h5.ups, h5.cu, h5.pack, h5.cp, h5.nx⟩ (fun k e hl => hother k hl e.2.1 e.2.2.1) (fun k e hl => ⟨Or.inl e.1, e.2.1, fun e2 => ?_, e.2.2.2⟩)
  rcases (hv2 k e2).2.1 with h | h
  ·exact e.2.2.1 h
  ·omega
 ·exact ⟨hg.os.trans hB.os, hg.tape.trans hB.tape, hg.output.trans hB.output, by rw [hszs]; omega, fun k hk hn => hother k hk (fun e => hn (by rw [e]; exact h3)) (fun e => hn (h1 k e).2.1)⟩
theorem IsT.restored {W W' : World} {own fr : Nat -> Prop} {g : Nat} {s s' : St} {au au' ap ap' : Option Addr} {cu cu' cp cp' : Nat} {vc vs vn vn' : Value}
  (hb : W.heap[g]? = some (.cells #[vc, vs, .slice au s.ups.length cu, .slice ap s.pack.length cp, vn, .bool s.waits] 56 (0, 0)))
  (hr : Kd.R (Kd.int .u8) 5 W 0 (fun _ => True) vc s.came /\ Kd.R (Kd.int .u8) 5 W 0 (fun _ => True) vs s.send)
  (h1 : ∀ k, vc.ownBlock = some k -> k ≠ g /\ own k /\ vs.ownBlock ≠ some k) (h2 : ∀ k, vs.ownBlock = some k -> k ≠ g /\ own k /\ vc.ownBlock ≠ some k) (h3 : own g) (h4 : ∀ k, own k -> k < W.heap.size)
  (hb' : W'.heap[g]? = some (.cells #[vc, vs, .slice au' s'.ups.length cu', .slice ap' s'.pack.length cp', vn', .bool s'.waits] 56 (0, 0)))
  (hfar : ∀ k, k ≠ g -> W'.heap[k]? = W.heap[k]?) (hsz : W'.heap.size = W.heap.size) (hos : W'.os = W.os) (htp : W'.tape = W.tape) (hou : W'.output = W.output)
  (hsc : s'.came = s.came) (hss : s'.send = s.send) (hfr : ∀ k, fr k -> ¬ own k /\ k < W.heap.size)
  (h5 : Rest W (fun k => (own k ∨ fr k) /\ k ≠ g /\ vc.ownBlock ≠ some k /\ vs.ownBlock ≠ some k) g s' au' cu' ap' cp' vn') :
  IsT W' (fun k => own k ∨ fr k) g s' /\ Keeps W W' own :=
 ⟨⟨vc, vs, au', cu', ap', cp', vn', hb', ⟨by rw [hsc]; exact R_keep hr.1 (fun k e => hfar k (h1 k e).1), by rw [hss]; exact R_keep hr.2 (fun k e => hfar k (h2 k e).1)⟩, ⟨fun k e => ⟨(h1 k e).1, Or.inl (h1 k e).2.1, (h1 k e).2.2⟩, fun k e => ⟨(h2 k e).1, Or.inl (h2 k e).2.1, (h2 k e).2.2⟩, Or.inl h3, fun k e => by rw [hsz]; exact e.elim (h4 k) (fun e => (hfr k e).2)⟩,
  h5.step (fun k e _ => hfar k e.2.1) (fun k e _ => e)⟩, ⟨hos, htp, hou, Nat.le_of_eq hsz.symm, fun k _ hn => hfar k (fun e => hn (by rw [e]; exact h3))⟩⟩
end Go.Proofs.YtemkgdpfkbpnpaaGreatDoor.Take
