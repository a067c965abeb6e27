/- A law for 'for x := range seq': the iterator may keep a state of its own in cells; what the loop's body writes is told by a set of blocks. Nothing of a program stands here. -/
import Derived.RangeFuncNested
import Derived.RangeFuncBound
import Derived.RangeFuncCalls
import Derived.RangeFuncLeaves
import Derived.Shelf.Abstract
import Derived.Shelf.RegionOpen
import Derived.WalkKit
import Derived.OwnWalkIn
import Derived.TacticsInMore
import Derived.LoopNIn
import Derived.LoopIn
import Derived.Maps.OwnIn
namespace Go.Sep
open Go.RowKit
structure KeepEx (Fp : Nat -> Prop) (W W' : World) : Prop where
 os : W'.os = W.os
 tape : W'.tape = W.tape
 output : W'.output = W.output
 size : W.heap.size <= W'.heap.size
 block : ∀ k, k < W.heap.size -> ¬ Fp k -> W'.heap[k]? = W.heap[k]?
theorem KeepEx.refl (Fp : Nat -> Prop) (W : World) : KeepEx Fp W W := ⟨rfl, rfl, rfl, Nat.le_refl _, fun _ _ _ => rfl⟩
theorem KeepEx.trans {Fp Fp' Fq : Nat -> Prop} {A B C : World} (h : KeepEx Fp A B) (k : KeepEx Fp' B C) (h1 : ∀ i, Fp i -> Fq i) (h2 : ∀ i, Fp' i -> Fq i ∨ A.heap.size <= i) : KeepEx Fq A C :=
 ⟨k.os.trans h.os, k.tape.trans h.tape, k.output.trans h.output, Nat.le_trans h.size k.size, fun i hi hn =>
  (k.block i (Nat.lt_of_lt_of_le hi h.size) (fun e => (h2 i e).elim hn (fun e => by omega))).trans (h.block i hi (fun e => hn (h1 i e)))⟩
theorem KeepEx.mono {Fp Fq : Nat -> Prop} {A B : World} (h : KeepEx Fp A B) (h1 : ∀ i, Fp i -> Fq i ∨ A.heap.size <= i) : KeepEx Fq A B :=
 ⟨h.os, h.tape, h.output, h.size, fun i hi hn => h.block i hi (fun e => (h1 i e).elim hn (fun e => by omega))⟩
theorem KeepEx.below {Fp : Nat -> Prop} {A B : World} {n : Nat} (h : KeepEx Fp A B) (hn : n <= A.heap.size) (hp : ∀ i, Fp i -> n <= i) : Below n A B :=
 ⟨h.os, h.tape, h.output, h.size, fun i hi => h.block i (by omega) (fun e => by have := hp i e; omega)⟩
theorem KeepEx.of_below {A B : World} {n : Nat} (h : Below n A B) : KeepEx (fun i => n <= i) A B :=
 ⟨h.os, h.tape, h.output, h.size, fun i _ hn => h.block i (by omega)⟩
theorem KeepEx.of_below_size {A B : World} {Fp : Nat -> Prop} (h : Below A.heap.size A B) : KeepEx Fp A B :=
 ⟨h.os, h.tape, h.output, h.size, fun i hi _ => h.block i hi⟩
theorem KeepEx.of_grownBy {A B : World} {row : Option Nat} {Fp : Nat -> Prop} (h : A.grownBy B row) (hr : ∀ k, row = some k -> Fp k ∨ A.heap.size <= k) : KeepEx Fp A B :=
 ⟨h.os, h.tape, h.output, h.size, fun i hi hn => h.block i hi (fun e => (hr i e.symm).elim hn (fun e => by omega))⟩
theorem KeepEx.putObj {Fp : Nat -> Prop} (W : World) (l : Nat) (o : Obj) (hl : Fp l) : KeepEx Fp W (W.putObj l o) :=
 .of_grownBy (grownBy_putObj' W l o) (fun k e => by cases e; exact .inl hl)
theorem KeepEx.alloc {Fp : Nat -> Prop} {A B : World} (h : KeepEx Fp A B) (o : Obj) : KeepEx Fp A (B.alloc o) :=
 h.trans (Fp' := fun _ => False) (.of_grownBy (World.grownBy_alloc B o none) (fun k e => by cases e)) (fun _ e => e) (fun _ e => e.elim)
theorem KeepEx.setCell {Fp : Nat -> Prop} {A B : World} (h : KeepEx Fp A B) (p : Addr) (u : Value) (hp : Fp p.block ∨ A.heap.size <= p.block) : KeepEx Fp A (B.setCell p u) :=
 h.trans (Fp' := fun k => k = p.block) ⟨rfl, rfl, rfl, by simp [World.setCell], fun k _ hk => Below.heap_setCell _ _ _ _ hk⟩ (fun _ e => e) (fun _ e => by subst e; exact hp)
theorem KeepEx.drew {Fp : Nat -> Prop} {A B : World} (h : KeepEx Fp A B) : KeepEx Fp A B.drew := ⟨h.os, h.tape, h.output, h.size, h.block⟩
theorem KeepEx.drewN {Fp : Nat -> Prop} {A B : World} (h : KeepEx Fp A B) (n : Nat) : KeepEx Fp A (B.drewN n) := ⟨h.os, h.tape, h.output, h.size, h.block⟩
theorem KeepEx.step {Fp : Nat -> Prop} {A B C : World} (h : KeepEx Fp A B) (k : Below B.heap.size B C) : KeepEx Fp A C :=
 h.trans (Fp' := fun _ => False) (.of_below_size k) (fun _ e => e) (fun _ e => e.elim)
def Sep {β : Type} (J : (Nat -> Prop) -> β -> World -> Prop) : Prop := ∀ Fp s W W', J Fp s W -> (∀ k, Fp k -> W'.heap[k]? = W.heap[k]?) -> J Fp s W'
def SeqSep {α : Type} (P : Program) (g : Nat) (lb : Array Value) (encs : α -> Array Value) (Fi Fm : Nat -> Prop) (S Sp : List α -> World -> Prop) (N : Nat) (w0 : World) : Prop :=
 ∀ (l : Nat) (J Jx : (Nat -> Prop) -> List α -> World -> Prop) (Fp : Nat -> Prop) (W : World), w0.heap.size <= W.heap.size -> (∀ k, Fi k -> W.heap[k]? = w0.heap[k]?) -> (∀ k, Fp k -> ¬ Fi k) -> (∀ k, Fp k -> k < W.heap.size) ->
  Sep J -> Sep Jx ->
  (∀ Fq pre x W1, J Fq pre W1 -> pre.length < N -> W.heap.size <= W1.heap.size -> (∀ k, Fq k -> ¬ Fi k) -> (∀ k, Fq k -> k < W1.heap.size) -> (∀ k, Fi k -> ¬ Fm k -> W1.heap[k]? = W.heap[k]?) -> YieldAt Fence.wide 0 P l (encs x) W1 fun e W' => ∃ Fr, KeepEx Fq W1 W' /\ (∀ k, Fr k -> (Fq k ∨ W1.heap.size <= k) /\ k < W'.heap.size) /\
   ((e = .returned (.bool true) /\ J Fr (pre ++ [x]) W') ∨ (e = .returned (.bool false) /\ Jx Fr (pre ++ [x]) W'))) ->
  J Fp [] W ->
  CallsIn Fence.wide 0 P g (#[.func (.yield l) #[] #[]] ++ lb) W fun e W' => (∃ v, e = .returned v) /\ ∃ Fr, KeepEx (fun k => Fp k ∨ Fm k) W W' /\ (∀ k, Fr k -> (Fp k ∨ W.heap.size <= k) /\ ¬ Fi k /\ k < W'.heap.size) /\
   ((∃ xs, S xs W' /\ J Fr xs W') ∨ (∃ pre, Sp pre W' /\ Jx Fr pre W'))
def roundSep {α : Type} (I : (Nat -> Prop) -> List α -> World -> Prop) (Ix : Code -> (Nat -> Prop) -> List α -> World -> Prop) (Fq : Nat -> Prop) (xs : List α) (W : World) : Exit -> Act -> World -> Prop
 | .normal, _, W' => ∃ Fr, KeepEx Fq W W' /\ (∀ k, Fr k -> (Fq k ∨ W.heap.size <= k) /\ k < W'.heap.size) /\ I Fr xs W'
 | .ret, _, W' => ∃ Fr, KeepEx Fq W W' /\ (∀ k, Fr k -> (Fq k ∨ W.heap.size <= k) /\ k < W'.heap.size) /\ Ix .ret Fr xs W'
 | .exit id, _, W' => ∃ Fr, KeepEx Fq W W' /\ (∀ k, Fr k -> (Fq k ∨ W.heap.size <= k) /\ k < W'.heap.size) /\ Ix (.exit id) Fr xs W'
 | .goto t, _, W' => ∃ Fr, KeepEx Fq W W' /\ (∀ k, Fr k -> (Fq k ∨ W.heap.size <= k) /\ k < W'.heap.size) /\ Ix (.goto t) Fr xs W'
 | .panic _, _, _ => False
 | .outgrown, _, _ => False
variable {P : Program}
theorem wpIn_rangeFunc_sep {α : Type} {g : Operand} {ps : Array Tmp} {assign body : Code} {Q : Exit -> Act -> World -> Prop} {a : Act} {w : World}
  {gf : Nat} {lb : Array Value} (hg : a.eval g = .func (.func gf) #[] lb) (eg : ∀ args w, (callFunc gf args).run P w = .ok (.enter gf args) w)
  {encs : α -> Array Value} {Fi Fm : Nat -> Prop} {S Sp : List α -> World -> Prop} {N : Nat} {w0 : World} (hseq : SeqSep P gf lb encs Fi Fm S Sp N w0)
  (hw0 : w0.heap.size <= w.heap.size) (hFi : ∀ k, Fi k -> w.heap[k]? = w0.heap[k]?) (hFil : ∀ k, Fi k -> k < w.heap.size) (hps : ∀ x, (encs x).size = ps.size)
  (hS : ∀ xs W W', S xs W -> (∀ k, Fi k -> W'.heap[k]? = W.heap[k]?) -> S xs W') (hSp : ∀ xs W W', Sp xs W -> (∀ k, Fi k -> W'.heap[k]? = W.heap[k]?) -> Sp xs W')
  (I : (Nat -> Prop) -> List α -> World -> Prop) (Ix : Code -> (Nat -> Prop) -> List α -> World -> Prop) (hI : Sep I) (hIx : ∀ c, Sep (Ix c))
  (Fp : Nat -> Prop) (hFp : ∀ k, Fp k -> ¬ Fi k) (hFpl : ∀ k, Fp k -> k < w.heap.size) (h0 : I Fp [] w)
  (M : (Nat -> Prop) -> (List α × α × Act) -> World -> Prop) (hM : Sep M)
  (hassign : ∀ (l : Nat) (Fq : Nat -> Prop) (pre : List α) (x : α) (W : World), I Fq pre W -> w.heap.size <= W.heap.size -> (∀ k, Fq k -> k < W.heap.size) -> (∀ k, Fi k -> ¬ Fm k -> W.heap[k]? = w.heap[k]?) ->
   assign.wpIn (Fence.wide.inRound l) 0 P (Exit.then (fun a' W' => ∃ Fr, KeepEx Fq W W' /\ (∀ k, Fr k -> (Fq k ∨ W.heap.size <= k) /\ k < W'.heap.size) /\ M Fr (pre, x, a') W') (fun _ _ _ => False)) { tmps := (ps.zip (encs x)).foldl (fun t (p, v) => t.setIfInBounds p v) a.tmps, defers := [] } W)
  (hbody : ∀ (l : Nat) (Fq : Nat -> Prop) (pre : List α) (x : α) (a' : Act) (W : World), M Fq (pre, x, a') W -> pre.length < N -> w.heap.size <= W.heap.size -> (∀ k, Fq k -> k < W.heap.size) -> (∀ k, Fi k -> ¬ Fm k -> W.heap[k]? = w.heap[k]?) -> body.wpIn (Fence.wide.inRound l) 0 P (roundSep I Ix Fq (pre ++ [x]) W) a' W)
  (hdone : ∀ (D : Nat) (Fq : Nat -> Prop) (xs : List α) (W : World), w.heap.size <= D -> ¬ Fq D -> S xs W -> I Fq xs W -> KeepEx (fun k => Fp k ∨ Fm k) w W -> (∀ k, Fq k -> (Fp k ∨ w.heap.size <= k) /\ k < W.heap.size) -> W.heap[D]? = some (.deferred (some [])) -> Q .normal { a with defers := { target := .collected D, args := #[] } :: a.defers } W)
  (hstop : ∀ (D : Nat) (c : Code) (Fq : Nat -> Prop) (pre : List α) (W : World), w.heap.size <= D -> ¬ Fq D -> Sp pre W -> Ix c Fq pre W -> KeepEx (fun k => Fp k ∨ Fm k) w W -> (∀ k, Fq k -> (Fp k ∨ w.heap.size <= k) /\ k < W.heap.size) -> W.heap[D]? = some (.deferred (some [])) -> c.wpIn Fence.wide 0 P Q { a with defers := { target := .collected D, args := #[] } :: a.defers } W) :
  (Code.rangeFunc g ps assign body).wpIn Fence.wide 0 P Q a w := by
 refine wpIn_rangeFunc ?_
 intro fn hfn
 have hro : Fence.wide.round = none := rfl
 rw [hro]
 obtain ⟨rec, hrec⟩ : ∃ rec : LoopState -> Option Code -> Loop, rec = fun st pe => { state := st, pending := pe, fn, tmps := a.tmps, params := ps, assign, body, defers := w.heap.size } := ⟨_, rfl⟩
 obtain ⟨W1, hW1⟩ : ∃ W1, (w.alloc (.deferred (some []))).alloc (.loop (rec .ready none)) = W1 := ⟨_, rfl⟩
 have hz1 : W1.heap.size = w.heap.size + 2 := by rw [<- hW1]; simp
 have hL1 : W1.heap[w.heap.size + 1]? = some (.loop (rec .ready none)) := by
  rw [<- hW1]; have := World.alloc_heap_new (w.alloc (.deferred (some []))) (.loop (rec .ready none)); rwa [World.size_alloc] at this
 have hK1 : W1.heap[w.heap.size]? = some (.deferred (some [])) := by
  rw [<- hW1]; exact (Below.heap_alloc _ _ _ (by simp)).trans (World.alloc_heap_new w _)
 have hb1 : Below w.heap.size w W1 := by
  rw [<- hW1]; exact ((Below.refl _ w).alloc (Nat.le_refl _) _).alloc (by simp) _
 have hI1 : I Fp [] W1 := hI _ _ _ _ h0 (fun k hk => hb1.block k (hFpl k hk))
 refine ⟨w.heap.size + 1, [{ target := .collected w.heap.size, args := #[] }], W1, { target := .fn (.func gf) lb, args := #[.func (.yield (w.heap.size + 1)) #[] #[]] }, W1, gf,
  #[.func (.yield (w.heap.size + 1)) #[] #[]] ++ lb, W1, ?_, ?_, ?_, ?_, ?_, ?_⟩
 ·rw [<- hW1, hrec]; exact run_enterLoop_outer _ _ _ _ _
 ·simp only [resolve, hg]
  simp [go_sem]
 ·intro f' hf'; trivial
 ·simp [invoke, go_sem, eg]
 ·intro h; cases h
 ·have hd1 : ¬ Fi w.heap.size := fun h => by have := hFil _ h; omega
  have hd2 : ¬ Fi (w.heap.size + 1) := fun h => by have := hFil _ h; omega
  refine (hseq (w.heap.size + 1)
   (fun G pre W => ∃ Fq, (∀ k, G k <-> Fq k ∨ k = w.heap.size ∨ k = w.heap.size + 1) /\ ¬ Fq w.heap.size /\ ¬ Fq (w.heap.size + 1) /\ (∀ k, Fq k -> Fp k ∨ w.heap.size <= k) /\ I Fq pre W /\ W.heap[w.heap.size + 1]? = some (.loop (rec .ready none)) /\ W.heap[w.heap.size]? = some (.deferred (some [])))
   (fun G pre W => ∃ Fq, (∀ k, G k <-> Fq k ∨ k = w.heap.size ∨ k = w.heap.size + 1) /\ ¬ Fq w.heap.size /\ ¬ Fq (w.heap.size + 1) /\ (∀ k, Fq k -> Fp k ∨ w.heap.size <= k) /\ ∃ c, Ix c Fq pre W /\ W.heap[w.heap.size + 1]? = some (.loop (rec .done (some c))) /\ W.heap[w.heap.size]? = some (.deferred (some [])))
   (fun k => Fp k ∨ k = w.heap.size ∨ k = w.heap.size + 1)
   W1 (by omega) (fun k hk => (hb1.block k (hFil k hk)).trans (hFi k hk)) (fun k hk hi => by
    rcases hk with hk | rfl | rfl
    ·exact hFp k hk hi
    ·exact hd1 hi
    ·exact hd2 hi) (fun k hk => by
    rcases hk with hk | rfl | rfl
    ·have := hFpl k hk; omega
    ·omega
    ·omega)
   ?_ ?_ ?_ ⟨Fp, fun k => Iff.rfl, fun h => by have := hFpl _ h; omega, fun h => by have := hFpl _ h; omega, fun k hk => .inl hk, hI1, hL1, hK1⟩).mono ?_
  ·rintro G s A B ⟨Fq, hG, h1, h2, h3, hi, hl, hk⟩ hAB
   exact ⟨Fq, hG, h1, h2, h3, hI _ _ _ _ hi (fun k hk => hAB k ((hG k).2 (.inl hk))), (hAB _ ((hG _).2 (.inr (.inr rfl)))).trans hl, (hAB _ ((hG _).2 (.inr (.inl rfl)))).trans hk⟩
  ·rintro G s A B ⟨Fq, hG, h1, h2, h3, c, hi, hl, hk⟩ hAB
   exact ⟨Fq, hG, h1, h2, h3, c, hIx _ _ _ _ _ hi (fun k hk => hAB k ((hG k).2 (.inl hk))), (hAB _ ((hG _).2 (.inr (.inr rfl)))).trans hl, (hAB _ ((hG _).2 (.inr (.inl rfl)))).trans hk⟩
  ·
   rintro G pre x W ⟨Fq, hG, hn1, hn2, hn3, hi, hl, hk⟩ hlen hszW hGi hGl hro0
   have hro : ∀ k, Fi k -> ¬ Fm k -> W.heap[k]? = w.heap[k]? := fun k h1 h2 => (hro0 k h1 h2).trans (hb1.block k (hFil k h1))
   have hlt : w.heap.size + 1 < W.heap.size := (Array.getElem?_eq_some_iff.1 hl).1
   have hFql : ∀ k, Fq k -> k < W.heap.size := fun k hk => hGl k ((hG k).2 (.inl hk))
   have hy := run_yield (P := P) (args := encs x) hl (by rw [hrec]; exact hps x)
   rw [hrec] at hy
   refine ⟨fn, _, assign, body, hy, roundIn_of_wpIn hfn (wpIn_mono (hassign _ Fq pre x W hi (by omega) hFql hro) ?_)⟩
   clear hy
   rintro e a' Wa hpost
   cases e with
   | normal =>
    obtain ⟨Fa, hka, hFa, hMa⟩ := hpost
    have hla : Wa.heap[w.heap.size + 1]? = some (.loop (rec .ready none)) := (hka.block _ hlt hn2).trans hl
    have hda : Wa.heap[w.heap.size]? = some (.deferred (some [])) := (hka.block _ (by omega) hn1).trans hk
    have hlta : w.heap.size + 1 < Wa.heap.size := (Array.getElem?_eq_some_iff.1 hla).1
    have hFa1 : ¬ Fa w.heap.size := fun h => (hFa _ h).1.elim hn1 (fun h => by omega)
    have hFa2 : ¬ Fa (w.heap.size + 1) := fun h => (hFa _ h).1.elim hn2 (fun h => by omega)
    refine ⟨_, run_beginRound hla (by rw [hrec]), ?_⟩
    have hl2 : (Wa.putObj (w.heap.size + 1) (.loop { rec .ready none with state := .busy })).heap[w.heap.size + 1]? = some (.loop { rec .ready none with state := .busy }) := World.putObj_heap_same hlta
    have hk2 : (Wa.putObj (w.heap.size + 1) (.loop { rec .ready none with state := .busy })).heap[w.heap.size]? = some (.deferred (some [])) := (World.putObj_heap_other (by omega)).trans hda
    have hz2 : ∀ o, (Wa.putObj (w.heap.size + 1) o).heap.size = Wa.heap.size := fun o => by simp [World.putObj]
    have hMb : M Fa (pre, x, a') (Wa.putObj (w.heap.size + 1) (.loop { rec .ready none with state := .busy })) := hM _ _ _ _ hMa (fun k hk => World.putObj_heap_other (fun e => hFa2 (by rw [e] at hk; exact hk)))
    refine wpIn_mono (hbody _ Fa pre x a' _ hMb hlen (by rw [hz2]; have := hka.size; omega) (fun k hk => by rw [hz2]; exact (hFa k hk).2) (fun k h1 h2 => ((World.putObj_heap_other (fun e => hd2 (by rw [e] at h1; exact h1))).trans (hka.block k (by have := hFil k h1; omega) (fun h => hGi k ((hG k).2 (.inl h)) h1))).trans (hro k h1 h2))) ?_
    have kab : KeepEx G W (Wa.putObj (w.heap.size + 1) (.loop { rec .ready none with state := .busy })) :=
     hka.trans (KeepEx.putObj (Fp := fun k => k = w.heap.size + 1) Wa _ _ rfl) (fun k hk => (hG k).2 (.inl hk)) (fun k hk => .inl ((hG k).2 (.inr (.inr hk))))
    have fin : ∀ (jump : Option Code) (W3 : World), (∃ Fr : Nat -> Prop, KeepEx Fa (Wa.putObj (w.heap.size + 1) (.loop { rec .ready none with state := .busy })) W3 /\ (∀ k, Fr k -> (Fa k ∨ (Wa.putObj (w.heap.size + 1) (.loop { rec .ready none with state := .busy })).heap.size <= k) /\ k < W3.heap.size) /\ (if jump.isNone then I Fr (pre ++ [x]) W3 else Ix (jump.getD .skip) Fr (pre ++ [x]) W3)) ->
      ∃ W4, (Instr.endRound (w.heap.size + 1) jump).run P W3 = .ok (.bool jump.isNone) W4 /\
       ∃ Fr : Nat -> Prop, KeepEx G W W4 /\ (∀ k, Fr k -> (G k ∨ W.heap.size <= k) /\ k < W4.heap.size) /\
       ∃ Fq : Nat -> Prop, (∀ k, Fr k <-> Fq k ∨ k = w.heap.size ∨ k = w.heap.size + 1) /\ ¬ Fq w.heap.size /\ ¬ Fq (w.heap.size + 1) /\ (∀ k, Fq k -> Fp k ∨ w.heap.size <= k) /\ (if jump.isNone then I Fq (pre ++ [x]) W4 else Ix (jump.getD .skip) Fq (pre ++ [x]) W4) /\ W4.heap[w.heap.size + 1]? = some (.loop (rec (if jump.isNone then .ready else .done) jump)) /\ W4.heap[w.heap.size]? = some (.deferred (some [])) := by
     rintro jump W3 ⟨Fr, hk3, hFr, hi3⟩
     have hl3 := (hk3.block _ (by rw [hz2]; exact hlta) hFa2).trans hl2
     have hd3 := (hk3.block _ (by rw [hz2]; omega) hFa1).trans hk2
     have hlt3 := (Array.getElem?_eq_some_iff.1 hl3).1
     have hrun := run_endRound (P := P) jump hl3
     rw [hrec] at hrun
     have hFr1 : ¬ Fr w.heap.size := fun h => (hFr _ h).1.elim hFa1 (fun h => by rw [hz2] at h; omega)
     have hFr2 : ¬ Fr (w.heap.size + 1) := fun h => (hFr _ h).1.elim hFa2 (fun h => by rw [hz2] at h; omega)
     have hz4 : ∀ o, (W3.putObj (w.heap.size + 1) o).heap.size = W3.heap.size := fun o => by simp [World.putObj]
     refine ⟨_, hrun, fun k => Fr k ∨ k = w.heap.size ∨ k = w.heap.size + 1, ?_, ?_, Fr, fun k => Iff.rfl, hFr1, hFr2, ?_, ?_, ?_, ?_⟩
     ·refine (kab.trans hk3 (fun _ e => e) (fun k hk => ?_)).trans (KeepEx.putObj (Fp := fun k => k = w.heap.size + 1) W3 _ _ rfl) (fun _ e => e) (fun k hk => .inl ((hG k).2 (.inr (.inr hk))))
      rcases (hFa k hk).1 with h | h
      ·exact .inl ((hG k).2 (.inl h))
      ·exact .inr h
     ·rintro k (hk' | rfl | rfl)
      ·refine ⟨?_, by rw [hz4]; exact (hFr k hk').2⟩
       rcases (hFr k hk').1 with h | h
       ·rcases (hFa k h).1 with h | h
        ·exact .inl ((hG k).2 (.inl h))
        ·exact .inr h
       ·rw [hz2] at h; exact .inr (by have := hka.size; omega)
      ·exact ⟨.inl ((hG _).2 (.inr (.inl rfl))), by rw [hz4]; omega⟩
      ·exact ⟨.inl ((hG _).2 (.inr (.inr rfl))), by rw [hz4]; omega⟩
     ·intro k hk'
      rcases (hFr k hk').1 with h | h
      ·rcases (hFa k h).1 with h | h
       ·exact hn3 k h
       ·exact .inr (by omega)
      ·rw [hz2] at h; exact .inr (by have := hka.size; omega)
     ·split at hi3
      ·rename_i hj; rw [if_pos hj]; exact hI _ _ _ _ hi3 (fun k hk => World.putObj_heap_other (fun e => hFr2 (by rw [e] at hk; exact hk)))
      ·rename_i hj; rw [if_neg hj]; exact hIx _ _ _ _ _ hi3 (fun k hk => World.putObj_heap_other (fun e => hFr2 (by rw [e] at hk; exact hk)))
     ·rw [hrec]; exact World.putObj_heap_same hlt3
     ·exact (World.putObj_heap_other (by omega)).trans hd3
    rintro e a3 W3 hp
    cases e with
    | normal =>
     obtain ⟨W4, hr, Fr, h1, h2, Fs, h3, h4, h5, h6, h7, h8, h9⟩ := fin none W3 (by simpa [roundSep] using hp)
     exact ⟨_, _, hr, Fr, h1, h2, .inl ⟨rfl, Fs, h3, h4, h5, h6, by simpa using h7, by simpa using h8, h9⟩⟩
    | ret =>
     obtain ⟨W4, hr, Fr, h1, h2, Fs, h3, h4, h5, h6, h7, h8, h9⟩ := fin (some .ret) W3 (by simpa [roundSep] using hp)
     exact ⟨_, _, hr, Fr, h1, h2, .inr ⟨rfl, Fs, h3, h4, h5, h6, .ret, by simpa using h7, by simpa using h8, h9⟩⟩
    | exit id =>
     obtain ⟨W4, hr, Fr, h1, h2, Fs, h3, h4, h5, h6, h7, h8, h9⟩ := fin (some (.exit id)) W3 (by simpa [roundSep] using hp)
     exact ⟨_, _, hr, Fr, h1, h2, .inr ⟨rfl, Fs, h3, h4, h5, h6, .exit id, by simpa using h7, by simpa using h8, h9⟩⟩
    | goto t =>
     obtain ⟨W4, hr, Fr, h1, h2, Fs, h3, h4, h5, h6, h7, h8, h9⟩ := fin (some (.goto t)) W3 (by simpa [roundSep] using hp)
     exact ⟨_, _, hr, Fr, h1, h2, .inr ⟨rfl, Fs, h3, h4, h5, h6, .goto t, by simpa using h7, by simpa using h8, h9⟩⟩
    | panic ch => exact hp.elim
    | outgrown => exact hp.elim
   | ret => exact hpost.elim
   | exit id => exact hpost.elim
   | goto t => exact hpost.elim
   | panic ch => exact hpost.elim
   | outgrown => exact hpost.elim
  ·
   rintro e W2 ⟨⟨v, rfl⟩, Fr, hkeep, hFr, hor⟩
   have hkw : ∀ o, W2.heap[w.heap.size + 1]? = some o -> ∀ o', KeepEx (fun k => Fp k ∨ Fm k) w (W2.putObj (w.heap.size + 1) o') := fun o ho o' => by
    refine ((KeepEx.of_below_size (Fp := fun _ => False) hb1).trans hkeep (Fq := fun k => Fp k ∨ Fm k) (fun _ e => e.elim) (fun k hk => ?_)).trans (KeepEx.putObj (Fp := fun k => k = w.heap.size + 1) W2 _ _ rfl) (fun _ e => e) (fun k hk => .inr (by omega))
    rcases hk with (hk | rfl | rfl) | hk
    ·exact .inl (.inl hk)
    ·exact .inr (by omega)
    ·exact .inr (by omega)
    ·exact .inl (.inr hk)
   have hz3 : ∀ o, (W2.putObj (w.heap.size + 1) o).heap.size = W2.heap.size := fun o => by simp [World.putObj]
   rcases hor with ⟨xs, hSx, Fq, hG, hn1, hn2, hn3, hi, hl, hk⟩ | ⟨pre, hSx, Fq, hG, hn1, hn2, hn3, c, hi, hl, hk⟩
   ·exact ⟨none, _, by have := run_endLoop (P := P) hl (by rw [hrec]; simp); rw [hrec] at this; exact this,
     hdone _ Fq xs _ (Nat.le_refl _) hn1 (hS _ _ _ hSx (fun k hk => World.putObj_heap_other (fun e => hd2 (by rw [e] at hk; exact hk)))) (hI _ _ _ _ hi (fun k hk => World.putObj_heap_other (fun e => hn2 (by rw [e] at hk; exact hk)))) (hkw _ hl _)
      (fun k hk => ⟨hn3 k hk, by rw [hz3]; exact (hFr k ((hG k).2 (.inl hk))).2.2⟩) ((World.putObj_heap_other (by omega)).trans hk)⟩
   ·exact ⟨some c, _, by have := run_endLoop (P := P) hl (by rw [hrec]; simp); rw [hrec] at this; exact this,
     hstop _ c Fq pre _ (Nat.le_refl _) hn1 (hSp _ _ _ hSx (fun k hk => World.putObj_heap_other (fun e => hd2 (by rw [e] at hk; exact hk)))) (hIx _ _ _ _ _ hi (fun k hk => World.putObj_heap_other (fun e => hn2 (by rw [e] at hk; exact hk)))) (hkw _ hl _)
      (fun k hk => ⟨hn3 k hk, by rw [hz3]; exact (hFr k ((hG k).2 (.inl hk))).2.2⟩) ((World.putObj_heap_other (by omega)).trans hk)⟩
end Go.Sep
