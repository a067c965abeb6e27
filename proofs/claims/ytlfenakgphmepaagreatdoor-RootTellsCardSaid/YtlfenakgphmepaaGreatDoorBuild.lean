/- A strings.Builder: what is written into it, and what it holds. -/
import Derived.Test.YtlfenakgphmepaaGreatDoorConv
import Derived.Test.YtlfenakgphmepaaGreatDoorShelf
import Derived.Lib.Builder
import Derived.Lib.AppendStr
import Derived.Lib.UnsafeStr
import Derived.Lib.Walk
import Derived.Laws.Externs
import Derived.Deep.MidRow
namespace Go.Proofs.YtlfenakgphmepaaGreatDoor.Build
open Go.RowKit YtlfenakgphmepaaGreatDoorW.PrintWords YtlfenakgphmepaaGreatDoorW.PrintLast YtlfenakgphmepaaGreatDoorW.PrintMore
set_option linter.unusedVariables false
set_option linter.unusedSimpArgs false
structure Keeps (W W' : World) (own : Nat -> Prop) : Prop where
 os : W'.os = W.os
 tape : W'.tape = W.tape
 output : W'.output = W.output
 size : W.heap.size <= W'.heap.size
 block : ∀ k, k < W.heap.size -> ¬ own k -> W'.heap[k]? = W.heap[k]?
theorem Keeps.refl (W : World) (own : Nat -> Prop) : Keeps W W own := ⟨rfl, rfl, rfl, Nat.le_refl _, fun _ _ _ => rfl⟩
theorem Keeps.of_below {W W' : World} {own : Nat -> Prop} (h : Below W.heap.size W W') : Keeps W W' own := ⟨h.os, h.tape, h.output, h.size, fun k hk _ => h.block k hk⟩
theorem Keeps.of_grown {W W' : World} {own : Nat -> Prop} {row : Option Nat} (h : W.grownBy W' row) (hr : ∀ k, row = some k -> own k) : Keeps W W' own := ⟨h.os, h.tape, h.output, h.size, fun k hk hn => h.block k hk (fun e => hn (hr k e.symm))⟩
theorem Keeps.set {W : World} {own : Nat -> Prop} {g j : Nat} {v : Value} (hg : own g) : Keeps W (W.setCell ⟨g, j, none⟩ v) own := ⟨rfl, rfl, rfl, by simp [World.setCell], fun k _ hn => Below.heap_setCell W ⟨g, j, none⟩ v k (fun e => hn (by rw [e]; exact hg))⟩
theorem Keeps.mono {W W' : World} {own own' : Nat -> Prop} (h : Keeps W W' own) (ho : ∀ k, own k -> own' k) : Keeps W W' own' := ⟨h.os, h.tape, h.output, h.size, fun k hk hn => h.block k hk (fun e => hn (ho k e))⟩
theorem Keeps.trans {W W1 W2 : World} {own : Nat -> Prop} (h : Keeps W W1 own) (k : Keeps W1 W2 own) : Keeps W W2 own :=
 ⟨k.os.trans h.os, k.tape.trans h.tape, k.output.trans h.output, Nat.le_trans h.size k.size, fun i hi hn => (k.block i (Nat.lt_of_lt_of_le hi h.size) hn).trans (h.block i hi hn)⟩
structure Goes (W W' : World) (own own' : Nat -> Prop) : Prop where
 keeps : Keeps W W' own
 own : ∀ k, own' k -> own k ∨ W.heap.size <= k
theorem Goes.refl (W : World) (own : Nat -> Prop) : Goes W W own own := ⟨Keeps.refl W own, fun k e => Or.inl e⟩
theorem Goes.below {W W' : World} {own : Nat -> Prop} (h : Below W.heap.size W W') : Goes W W' own own := ⟨Keeps.of_below h, fun k e => Or.inl e⟩
theorem Goes.trans {W W1 W2 : World} {o o1 o2 : Nat -> Prop} (h : Goes W W1 o o1) (k : Goes W1 W2 o1 o2) : Goes W W2 o o2 :=
 ⟨⟨k.keeps.os.trans h.keeps.os, k.keeps.tape.trans h.keeps.tape, k.keeps.output.trans h.keeps.output, Nat.le_trans h.keeps.size k.keeps.size,
  fun i hi hn => (k.keeps.block i (Nat.lt_of_lt_of_le hi h.keeps.size) (fun e => (h.own i e).elim hn (fun e => by omega))).trans (h.keeps.block i hi hn)⟩,
 fun i e => (k.own i e).elim (h.own i) (fun e => Or.inr (Nat.le_trans h.keeps.size e))⟩
theorem below_goes {B W W' : World} {own own' : Nat -> Prop} (h : Below B.heap.size B W) (k : Goes W W' own own') (ho : ∀ k, own k -> B.heap.size <= k) : Below B.heap.size B W' :=
 ⟨k.keeps.os.trans h.os, k.keeps.tape.trans h.tape, k.keeps.output.trans h.output, Nat.le_trans h.size k.keeps.size, fun i hi => (k.keeps.block i (Nat.lt_of_lt_of_le hi h.size) (fun e => by have := ho i e; omega)).trans (h.block i hi)⟩
theorem goes_new {B W W' : World} {own own' : Nat -> Prop} (k : Goes W W' own own') (hs : B.heap.size <= W.heap.size) (ho : ∀ k, own k -> B.heap.size <= k) : ∀ k, own' k -> B.heap.size <= k := fun i e => (k.own i e).elim (ho i) (fun e => Nat.le_trans hs e)
def more (own : Nat -> Prop) (W W' : World) : Nat -> Prop := fun k => own k ∨ (W.heap.size <= k /\ k < W'.heap.size)
theorem Goes.more {W W' : World} {own : Nat -> Prop} (h : Keeps W W' own) : Goes W W' own (more own W W') := ⟨h, fun k e => e.elim Or.inl (fun e => Or.inr e.1)⟩
theorem heap_set_same (W : World) (b j : Nat) (cs : Array Value) (t : TypeId) (v : Value) (h : W.heap[b]? = some (.cells cs t (0, 0))) : (W.setCell ⟨b, j, none⟩ v).heap[b]? = some (.cells (cs.set! j v) t (0, 0)) := by
 simp [World.setCell, Array.getElem?_modify, h]
def IsBd (W : World) (own : Nat -> Prop) (b : Nat) (s : ByteArray) : Prop := ∃ p v, W.heap[b]? = some (.cells #[p, v] 45 (0, 0)) /\ (p = .pointer none ∨ p = .pointer (some ⟨b, 0, none⟩)) /\
 W.ownsRow 0 5 1 v s.size (Lib.strCells s) /\ (∀ k, v.ownBlock = some k -> own k /\ k ≠ b) /\ own b /\ (∀ k, own k -> k < W.heap.size)
theorem IsBd.lt {W : World} {own : Nat -> Prop} {b : Nat} {s : ByteArray} (h : IsBd W own b s) : ∀ k, own k -> k < W.heap.size := by
 obtain ⟨p, v, hb, hp, ho, h1, h2, h3⟩ := h
 exact h3
theorem row_keep {W W' : World} {v : Value} {n : Nat} {xs : List Value} {e : TypeId} (h : W.ownsRow 0 e 1 v n xs) (hk : ∀ k, v.ownBlock = some k -> W'.heap[k]? = W.heap[k]?) : W'.ownsRow 0 e 1 v n xs := by
 refine ⟨h.1, ?_⟩
 rcases h.2 with h2 | ⟨g, cap, cur, hv, h3, hg, h4⟩
 ·exact Or.inl h2
 ·exact Or.inr ⟨g, cap, cur, hv, h3, (hk g (by rw [hv]; rfl)).trans hg, h4⟩
theorem IsBd.keeps {W W' : World} {own own2 : Nat -> Prop} {b : Nat} {s : ByteArray} (h : IsBd W own b s) (hk : Keeps W W' own2) (hd : ∀ k, own k -> ¬ own2 k) : IsBd W' own b s := by
 obtain ⟨p, v, hb, hp, ho, h1, h2, h3⟩ := h
 have hz : ∀ k, own k -> W'.heap[k]? = W.heap[k]? := fun k e => hk.block k (h3 k e) (hd k e)
 exact ⟨p, v, (hz b h2).trans hb, hp, row_keep ho (fun k e => hz k (h1 k e).1), h1, h2, fun k e => Nat.lt_of_lt_of_le (h3 k e) hk.size⟩
theorem IsBd.below {W W' : World} {own : Nat -> Prop} {b : Nat} {s : ByteArray} (h : IsBd W own b s) (hb : Below W.heap.size W W') : IsBd W' own b s := h.keeps (own2 := fun _ => False) (Keeps.of_below hb) (fun _ _ e => e)
theorem IsBd.new (W : World) : IsBd (W.alloc (.cells #[.pointer none, .slice none 0 0] 45)) (fun k => k = W.heap.size) W.heap.size ⟨#[]⟩ :=
 ⟨_, _, heap_alloc_new W _, Or.inl rfl, World.ownsRow_nil _ _ _ _, fun k e => by simp [Value.ownBlock] at e, rfl, fun k e => by subst e; exact (Array.getElem?_eq_some_iff.1 (heap_alloc_new W (.cells #[.pointer none, .slice none 0 0] 45))).1⟩
set_option maxHeartbeats 1000000 in
set_option maxRecDepth 100000 in
theorem check_calls (b : Nat) (v p : Value) (W : World) (hb : W.heap[b]? = some (.cells #[p, v] 45 (0, 0))) (hp : p = .pointer none ∨ p = .pointer (some ⟨b, 0, none⟩)) :
  Calls Tryz.prog 51 #[.pointer (some ⟨b, 0, none⟩)] W fun e w' => e = .returned (.tuple #[]) /\ (w' = W /\ p = .pointer (some ⟨b, 0, none⟩) ∨ w' = W.setCell ⟨b, 0, none⟩ (.pointer (some ⟨b, 0, none⟩))) := by
 have hj0 : (Tryz.prog.info? 45).map (·.size) = some 2 := by kernel_rfl
 have hl0 : liesAt Tryz.prog Tryz.prog.depth 45 (2 / Tryz.prog.cellsOf 45) 0 45 1 = true := by kernel_rfl
 obtain ⟨j, hj, hjs⟩ := Option.map_eq_some_iff.1 hj0
 have h0 : W.cell? ⟨b, 0, none⟩ = some p := by simp [World.cell?, hb]
 have hfz : W.frozen? ⟨b, 0, none⟩ = false := by simp [World.frozen?, hb]
 have hsh : W.shape? b = some (45, 2) := by simp [World.shape?, hb]
 rcases hp with rfl | rfl
 ·have HH := Asd.mk (And.intro hj (And.intro hjs (And.intro hsh hl0)))
  clear hb hj hjs hj0 hl0
  go_enter Tryz.func51, Tryz.ntmps51
  go_wp2
  rw [Lib.run_to_unsafe W ⟨b, 0, none⟩ Tryz.underlying43 Tryz.underlying102 HH.out.1 (by rw [HH.out.2.1]; decide) HH.out.2.2.1 (Nat.zero_lt_succ 1)]
  simp only [Result.andThen]
  rw [Oper.upon_value]
  go_wp2
  rw [run_callFunc_extern Tryz.func69 (by kernel_rfl) (by kernel_rfl) (by kernel_rfl) (e := Extern.AbiNoEscape.same) (by kernel_rfl)]
  rw [Lib.run_noEscape]
  simp only [Result.andThen]
  rw [Oper.upon_value]
  go_wp2
  rw [Lib.run_from_unsafe W ⟨b, 0, none⟩ Tryz.underlying102 Tryz.underlying43 HH.out.1 HH.out.2.2.1 HH.out.2.2.2]
  simp only [Result.andThen]
  rw [Oper.upon_value]
  go_wp2
  first | go_end0 | ((try simp only [Exit.inBlock, Exit.then]); refine bodyPost_ret (results_none rfl _ _ _) rfl ?_)
  exact ⟨rfl, Or.inr rfl⟩
 ·have HH := Asd.mk hj
  clear hb hj hjs hj0 hl0 hsh hfz
  go_enter Tryz.func51, Tryz.ntmps51
  go_wp2
  rw [Lib.run_neq_ptr_same W _ Tryz.underlying43 HH.out]
  go_wp2
  first | go_end0 | ((try simp only [Exit.inBlock, Exit.then]); refine bodyPost_ret (results_none rfl _ _ _) rfl ?_)
  exact ⟨rfl, Or.inl ⟨rfl, by first | trivial | rfl⟩⟩
theorem strCells_add (s t : ByteArray) : Lib.strCells s ++ Lib.strCells t = Lib.strCells (s ++ t) := by
 unfold Lib.strCells
 simp
section
variable {P : Program} (w : World)
theorem run_append_string_at (t u ty e : TypeId) (i : TypeInfo) (ht : P.underlying t = some (.slice e)) (hu : P.underlying u = some .string) (hi : P.info? e = some i) (hz : i.zero = some (.int .u8 0))
  (hsize : i.size = 1) (hby : i.bytes = 1) (v : Value) (n : Nat) (xs : List Value) (hown : w.ownsRow 0 e 1 v n xs) (s : ByteArray) (h63 : n + s.size <= maxLen) (hbytes : n + s.size <= 140737488355328) :
  ∃ v' w', (Builtin.append_ #[t, u] ty #[v, .string s]).run P w = .ok v' w' /\ w'.ownsRow 0 e 1 v' (n + s.size) (xs ++ Lib.strCells s) /\ w.grownBy w' v.ownBlock /\ (v'.ownBlock = v.ownBlock ∨ ∃ b, v'.ownBlock = some b /\ w.heap.size <= b) := by
 obtain ⟨v', w', hr, ho, hg, hn⟩ := Lib.run_append_own_string (P := P) w 0 t u ty e i ht hu hi hz hsize hby v n xs hown s h63 hbytes (Nat.zero_le _)
 have hsmall : n + s.size <= 9223372036854775807 := by simp only [maxLen] at h63; omega
 have hxl : xs.length = n := by simpa using hown.1
 refine ⟨v', w', hr, ho, hg, ?_⟩
 rcases hown.2 with ⟨rfl, rfl⟩ | ⟨g, cap, cur, rfl, hbg, hgc, hnc, hcm, hcs, htake⟩
 ·by_cases hm : s.size = 0
  ·left
   rw [hn.2 ⟨rfl, hm⟩]
  ·right
   have hr2 := run_append_nil_string (P := P) w t u ty e i (.int .u8 0) ht hu hi hz s (by omega) (by omega) (by rw [hby]; omega)
   have := hr.symm.trans hr2
   injection this with e1 e2
   exact ⟨w.heap.size, by rw [e1]; rfl, Nat.le_refl _⟩
 ·by_cases hroom : n + s.size <= cap
  ·left
   have hcs' : cur.size = cap := by simpa using hcs
   have hr2 := Lib.run_append_room_string (P := P) w t u ty e i ht hu hi hsize g n cap cur hgc s hroom (by omega)
   have := hr.symm.trans hr2
   injection this with e1 e2
   rw [e1]
   rfl
  ·right
   have holds : ∀ j u, xs[j]? = some u -> w.cell? ((⟨g, 0, none⟩ : Addr).add j) = some u := hown.cells (g := g) rfl
   have hr2 := Lib.run_append_grow_string (P := P) w t u ty e i (.int .u8 0) ht hu hi hz ⟨g, 0, none⟩ n cap xs (by rw [hsize]; simpa using hxl) holds s (by omega) (by omega) (by rw [hby]; exact growslice_fits (by omega) (by omega))
   have := hr.symm.trans hr2
   injection this with e1 e2
   exact ⟨w.heap.size, by rw [e1]; rfl, Nat.le_refl _⟩
theorem wpList_append_string_at {ops : Array Oper} {rest : List Oper} {o : Oper} {a : Act} {Q : Exit -> Act -> World -> Prop} (hgd : o.guard = none) (sl x : Operand) (t u : TypeId)
  (ho : o.op = .call { callee := .builtin .append, args := #[sl, x], argTypes := #[t, u] })
  (e : TypeId) (i : TypeInfo) (ht : P.underlying t = some (.slice e)) (hu : P.underlying u = some .string) (hi : P.info? e = some i) (hz : i.zero = some (.int .u8 0)) (hsize : i.size = 1) (hby : i.bytes = 1)
  (v : Value) (n : Nat) (xs : List Value) (hs : a.eval sl = v) (hown : w.ownsRow 0 e 1 v n xs) (s : ByteArray) (hx : a.eval x = .string s) (h63 : n + s.size <= maxLen) (hbytes : n + s.size <= 140737488355328)
  (h : ∀ v' w', w'.ownsRow 0 e 1 v' (n + s.size) (xs ++ Lib.strCells s) -> w.grownBy w' v.ownBlock -> (v'.ownBlock = v.ownBlock ∨ ∃ b, v'.ownBlock = some b /\ w.heap.size <= b) -> wpList P ops Q rest (a.put o.dst v') w') : wpList P ops Q (o :: rest) a w := by
 refine wpList_plain hgd fun K hK => ?_
 obtain ⟨v', w', hr, h2, h3, h4⟩ := run_append_string_at (P := P) w t u o.type e i ht hu hi hz hsize hby v n xs hown s h63 hbytes
 unfold Oper.wp execOp
 simp only [ho, resolve, invoke, builtin, Sem.run_bind, Sem.run_pure, Result.andThen_ok, List.map_toArray, List.map_cons, List.map_nil, hs, hx, hr]
 exact hK _ _ (h v' w' h2 h3 h4)
end
theorem info_u8 : (Tryz.prog.info? 5).map (fun i => (i.zero, i.size, i.bytes)) = some (some (.int .u8 0), 1, 1) := by kernel_rfl
set_option maxHeartbeats 2000000 in
set_option maxRecDepth 100000 in
theorem write_calls {W : World} {own : Nat -> Prop} {b : Nat} {s : ByteArray} (h : IsBd W own b s) (t : ByteArray) (hlen : s.size + t.size <= 140737488355328) :
  Calls Tryz.prog 21 #[.pointer (some ⟨b, 0, none⟩), .string t] W fun e w' => e = .returned (.tuple #[.int .i64 t.size, .nilIface]) /\ ∃ own', IsBd w' own' b (s ++ t) /\ Goes W w' own own' := by
 obtain ⟨p, v, hb, hp, ho, h1, h2, h3⟩ := h
 obtain ⟨av, cv, rfl⟩ : ∃ ao cap, v = .slice ao s.size cap := by
  rcases ho.2 with ⟨hv, h0⟩ | ⟨g, cap, cur, hv, _⟩
  ·exact ⟨none, 0, by rw [hv, h0]⟩
  ·exact ⟨_, _, hv⟩
 have HC := Asd.mk (check_calls b _ p W hb hp)
 have HB := Asd.mk hb
 have HO := Asd.mk ho
 have H1 := Asd.mk h1
 have H2 := Asd.mk h2
 have H3 := Asd.mk h3
 have HL := Asd.mk hlen
 have HL1 : Asd (s.size + t.size <= maxLen) := ⟨by unfold maxLen; omega⟩
 obtain ⟨i0, hi, hz0, hz1, hz2⟩ := info_parts info_u8
 have HI := Asd.mk (And.intro hi (And.intro hz0 (And.intro hz1 hz2)))
 clear hb ho h1 h2 h3 hi hz0 hz1 hz2 hlen hp
 go_enter Tryz.func21, Tryz.ntmps21
 go_wp2_with (go_at_call 51; refine HC.out.mono ?_)
 rintro e W1 ⟨rfl, hw⟩
 have HW := Asd.mk hw
 clear hw
 have hb1 : W1.heap[b]? = some (.cells #[.pointer (some ⟨b, 0, none⟩), .slice av s.size cv] 45 (0, 0)) := by
  rcases HW.out with ⟨rfl, rfl⟩ | rfl
  ·exact HB.out
  ·exact (heap_set_same W b 0 _ _ _ HB.out).trans rfl
 have hk1 : Keeps W W1 own := by
  rcases HW.out with ⟨rfl, rfl⟩ | rfl
  ·exact Keeps.refl _ _
  ·exact Keeps.set H2.out
 have ho1 : W1.ownsRow 0 5 1 (.slice av s.size cv) s.size (Lib.strCells s) := by
  rcases HW.out with ⟨rfl, rfl⟩ | rfl
  ·exact HO.out
  ·exact row_keep HO.out (fun k e => Below.heap_setCell W ⟨b, 0, none⟩ _ k (H1.out k e).2)
 have HB1 := Asd.mk hb1
 have HK1 := Asd.mk hk1
 have HO1 := Asd.mk ho1
 clear HW HO HB HC
 have c0 : W1.cell? ⟨b, 0, none⟩ = some (.pointer (some ⟨b, 0, none⟩)) := by rw [Lib.cell_of_heap hb1]; rfl
 have c1 : W1.cell? ⟨b, 1, none⟩ = some (.slice av s.size cv) := by rw [Lib.cell_of_heap hb1]; rfl
 clear hb1 hk1 ho1
 go_wp2_with (at_builtin; refine wpList_append_string_at _ rfl _ _ 26 9 rfl 5 i0 Tryz.underlying26 Tryz.underlying9 HI.out.1 HI.out.2.1 HI.out.2.2.1 HI.out.2.2.2 _ _ _ rfl HO1.out t rfl HL1.out HL.out ?_)
 intro v2 W2 hown2 hgrow2 hat2
 have hlt := HK1.out.size
 have hvb : (Value.slice av s.size cv).ownBlock ≠ some b := fun e => (H1.out b e).2 rfl
 have hlb : b < W1.heap.size := (Array.getElem?_eq_some_iff.1 HB1.out).1
 have hb2 : W2.heap[b]? = some (.cells #[.pointer (some ⟨b, 0, none⟩), .slice av s.size cv] 45 (0, 0)) := (hgrow2.block b hlb (fun e => hvb e.symm)).trans HB1.out
 have HB2 := Asd.mk hb2
 have HO2 := Asd.mk hown2
 have HG2 := Asd.mk hgrow2
 have HAT := Asd.mk hat2
 have d0 : W2.cell? ⟨b, 0, none⟩ = some (.pointer (some ⟨b, 0, none⟩)) := by rw [Lib.cell_of_heap hb2]; rfl
 have d1 : W2.cell? ⟨b, 1, none⟩ = some (.slice av s.size cv) := by rw [Lib.cell_of_heap hb2]; rfl
 have f1 : W2.frozen? ⟨b, 1, none⟩ = false := Lib.frozen_of_heap hb2 1
 obtain ⟨ao, n2, cap, rfl⟩ : ∃ ao n2 cap, v2 = .slice ao n2 cap := by
  rcases hown2.2 with ⟨hv, _⟩ | ⟨g, cap, cur, hv, _⟩
  ·exact ⟨_, _, _, hv⟩
  ·exact ⟨_, _, _, hv⟩
 clear hown2 hgrow2 hat2 hb2 c0 c1
 go_wp2
 go_ret2
 have hsz2 := HG2.out.size
 have hkeep : Keeps W (W2.setCell ⟨b, 1, none⟩ (.slice ao n2 cap)) own := (HK1.out.trans (Keeps.of_grown HG2.out (fun k e => (H1.out k e).1))).trans (Keeps.set H2.out)
 refine ⟨rfl, more own W (W2.setCell ⟨b, 1, none⟩ (.slice ao n2 cap)), ⟨.pointer (some ⟨b, 0, none⟩), .slice ao n2 cap, ?_, Or.inr rfl, ?_, ?_, Or.inl H2.out, ?_⟩, Goes.more hkeep⟩
 ·exact (heap_set_same W2 b 1 _ _ _ HB2.out).trans rfl
 ·rw [<- strCells_add, ByteArray.size_append]
  refine row_keep HO2.out (fun k e => Below.heap_setCell W2 ⟨b, 1, none⟩ _ k ?_)
  rcases HAT.out with h | ⟨k2, h, h2⟩
  ·rw [h] at e
   exact (H1.out k e).2
  ·rw [h] at e
   have e2 : k2 = k := Option.some.inj e
   show k ≠ b
   omega
 ·intro k e
  have hk := (HO2.out.lt k e).2
  rcases HAT.out with h | ⟨k2, h, h2⟩
  ·rw [h] at e
   exact ⟨Or.inl (H1.out k e).1, (H1.out k e).2⟩
  ·rw [h] at e
   have e2 : k2 = k := Option.some.inj e
   exact ⟨Or.inr ⟨by omega, by simp [World.setCell]; omega⟩, by omega⟩
 ·rintro k (e | e)
  ·have := H3.out k e
   simp [World.setCell]
   omega
  ·exact e.2
theorem string_calls {W : World} {own : Nat -> Prop} {b B : Nat} {s : ByteArray} (h : IsBd W own b s) (hB : ∀ k, own k -> B <= k) :
  Calls Tryz.prog 26 #[.pointer (some ⟨b, 0, none⟩)] W fun e w' => e = .returned (.string s) /\ Below B W w' := by
 obtain ⟨p, v, hb, hp, ho, h1, h2, h3⟩ := h
 have hbz := Nat.le_trans (hB b h2) (Nat.le_of_lt (h3 b h2))
 have hr : W.ownsRow B 5 1 v s.size (Lib.strCells s) := by
  refine ⟨ho.1, ?_⟩
  rcases ho.2 with h | ⟨g, cap, cur, hv, hbg, r⟩
  ·exact Or.inl h
  ·exact Or.inr ⟨g, cap, cur, hv, hB g (h1 g (by rw [hv]; rfl)).1, r⟩
 have e1 : Lib.strCells s = Lib.byteCells s.data.toList := rfl
 have e2 : (Lib.byteCells s.data.toList).length = s.size := by rw [<- e1, Lib.strCells_length]
 have hI : Lib.BuilderAt 45 5 B b p (Lib.byteCells s.data.toList) W := ⟨hB b h2, v, hb, by rw [e2]; exact hr, fun e => (h1 b e).2 rfl⟩
 refine (Go.Proofs.Tryz.Builder_String_any B b s.data.toList W ?_ hbz).mono ?_
 ·rcases hp with rfl | rfl
  ·exact Or.inl hI
  ·exact Or.inr hI
 ·rintro e w' ⟨rfl, h⟩
  exact ⟨rfl, h⟩
end Go.Proofs.YtlfenakgphmepaaGreatDoor.Build
