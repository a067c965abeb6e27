/- A law for 'for x := range seq': the iterator may keep a state of its own in cells; what the loop's body writes is told by a set of blocks. Nothing of a program stands here. -/
import Derived.RangeFuncNested
import Derived.RangeFuncBound
import Derived.RangeFuncCalls
import Derived.RangeFuncLeaves
import Derived.Shelf.Abstract
import Derived.Shelf.RegionOpen
import Derived.WalkKit
import Derived.OwnWalkIn
import Derived.TacticsInMore
import Derived.LoopNIn
import Derived.LoopIn
import Derived.Maps.OwnIn
namespace Go.Sep
open Go.RowKit
structure KeepEx (Fp : Nat -> Prop) (W W' : World) : Prop where
 os : W'.os = W.os
 tape : W'.tape = W.tape
 output : W'.output = W.output
 size : W.heap.size <= W'.heap.size
 block : ∀ k, k < W.heap.size -> ¬ Fp k -> W'.heap[k]? = W.heap[k]?
theorem KeepEx.refl (Fp : Nat -> Prop) (W : World) : KeepEx Fp W W := ⟨rfl, rfl, rfl, Nat.le_refl _, fun _ _ _ => rfl⟩
theorem KeepEx.trans {Fp Fp' Fq : Nat -> Prop} {A B C : World} (h : KeepEx Fp A B) (k : KeepEx Fp' B C) (h1 : ∀ i, Fp i -> Fq i) (h2 : ∀ i, Fp' i -> Fq i ∨ A.heap.size <= i) : KeepEx Fq A C :=
 ⟨k.os.trans h.os, k.tape.trans h.tape, k.output.trans h.output, Nat.le_trans h.size k.size, fun i hi hn =>
  (k.block i (Nat.lt_of_lt_of_le hi h.size) (fun e => (h2 i e).elim hn (fun e => by omega))).trans (h.block i hi (fun e => hn (h1 i e)))⟩
theorem KeepEx.mono {Fp Fq : Nat -> Prop} {A B : World} (h : KeepEx Fp A B) (h1 : ∀ i, Fp i -> Fq i ∨ A.heap.size <= i) : KeepEx Fq A B :=
 ⟨h.os, h.tape, h.output, h.size, fun i hi hn => h.block i hi (fun e => (h1 i e).elim hn (fun e => by omega))⟩
theorem KeepEx.below {Fp : Nat -> Prop} {A B : World} {n : Nat} (h : KeepEx Fp A B) (hn : n <= A.heap.size) (hp : ∀ i, Fp i -> n <= i) : Below n A B :=
 ⟨h.os, h.tape, h.output, h.size, fun i hi => h.block i (by omega) (fun e => by have := hp i e; omega)⟩
theorem KeepEx.of_below {A B : World} {n : Nat} (h : Below n A B) : KeepEx (fun i => n <= i) A B :=
 ⟨h.os, h.tape, h.output, h.size, fun i _ hn => h.block i (by omega)⟩
theorem KeepEx.of_below_size {A B : World} {Fp : Nat -> Prop} (h : Below A.heap.size A B) : KeepEx Fp A B :=
 ⟨h.os, h.tape, h.output, h.size, fun i hi _ => h.block i hi⟩
theorem KeepEx.of_grownBy {A B : World} {row : Option Nat} {Fp : Nat -> Prop} (h : A.grownBy B row) (hr : ∀ k, row = some k -> Fp k ∨ A.heap.size <= k) : KeepEx Fp A B :=
 ⟨h.os, h.tape, h.output, h.size, fun i hi hn => h.block i hi (fun e => (hr i e.symm).elim hn (fun e => by omega))⟩
theorem KeepEx.alloc {Fp : Nat -> Prop} {A B : World} (h : KeepEx Fp A B) (o : Obj) : KeepEx Fp A (B.alloc o) :=
 h.trans (Fp' := fun _ => False) (.of_grownBy (World.grownBy_alloc B o none) (fun k e => by cases e)) (fun _ e => e) (fun _ e => e.elim)
theorem KeepEx.setCell {Fp : Nat -> Prop} {A B : World} (h : KeepEx Fp A B) (p : Addr) (u : Value) (hp : Fp p.block ∨ A.heap.size <= p.block) : KeepEx Fp A (B.setCell p u) :=
 h.trans (Fp' := fun k => k = p.block) ⟨rfl, rfl, rfl, by simp [World.setCell], fun k _ hk => Below.heap_setCell _ _ _ _ hk⟩ (fun _ e => e) (fun _ e => by subst e; exact hp)
theorem KeepEx.drew {Fp : Nat -> Prop} {A B : World} (h : KeepEx Fp A B) : KeepEx Fp A B.drew := ⟨h.os, h.tape, h.output, h.size, h.block⟩
theorem KeepEx.drewN {Fp : Nat -> Prop} {A B : World} (h : KeepEx Fp A B) (n : Nat) : KeepEx Fp A (B.drewN n) := ⟨h.os, h.tape, h.output, h.size, h.block⟩
theorem KeepEx.step {Fp : Nat -> Prop} {A B C : World} (h : KeepEx Fp A B) (k : Below B.heap.size B C) : KeepEx Fp A C :=
 h.trans (Fp' := fun _ => False) (.of_below_size k) (fun _ e => e) (fun _ e => e.elim)
def Sep {β : Type} (J : (Nat -> Prop) -> β -> World -> Prop) : Prop := ∀ Fp s W W', J Fp s W -> (∀ k, Fp k -> W'.heap[k]? = W.heap[k]?) -> J Fp s W'
variable {P : Program}
end Go.Sep
