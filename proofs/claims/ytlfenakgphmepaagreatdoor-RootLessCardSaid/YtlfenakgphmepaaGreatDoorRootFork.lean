/- A reader of lines: a fork. -/
import Derived.Test.YtlfenakgphmepaaGreatDoorRootWord
namespace Go.Proofs.YtlfenakgphmepaaGreatDoor.Root
open Go.RowKit Go.Proofs.YtlfenakgphmepaaGreatDoorW.PrintWords Go.Proofs.YtlfenakgphmepaaGreatDoorW.PrintLast Go.Proofs.YtlfenakgphmepaaGreatDoorW.PrintMore Go.Proofs.YtlfenakgphmepaaGreatDoor.Conv Go.Proofs.YtlfenakgphmepaaGreatDoor.Print Go.Proofs.YtlfenakgphmepaaGreatDoor.Build
set_option linter.unusedVariables false
set_option linter.unusedSimpArgs false
abbrev Fk := S39
abbrev Rf := S83
def joinA (acc : ByteArray) : List ByteArray -> ByteArray
 | [] => acc
 | s :: t => joinA (acc ++ (s ++ (⟨#[10]⟩ : ByteArray))) t
def sizeT (l : List ByteArray) : Nat := (l.map fun s => s.size + 1).sum
theorem sizeT_cons (s : ByteArray) (l : List ByteArray) : sizeT (s :: l) = s.size + 1 + sizeT l := by simp [sizeT]
theorem sizeT_mem {s : ByteArray} : ∀ {l : List ByteArray}, s ∈ l -> s.size + 1 <= sizeT l
 | x :: t, h => by
  rw [sizeT_cons]
  rcases List.mem_cons.1 h with rfl | h
  ·omega
  ·have := sizeT_mem h; omega
theorem sizeT_len (l : List ByteArray) : l.length <= sizeT l := by
 induction l with
 | nil => exact Nat.le_refl _
 | cons s t ih => rw [sizeT_cons, List.length_cons]; omega
theorem nth_mem {l : List ByteArray} {i : Nat} (h : i < l.length) : l.getD i ByteArray.empty ∈ l := by
 rw [List.getD_eq_getElem?_getD, List.getElem?_eq_getElem h]
 exact List.getElem_mem h
def nth (l : List ByteArray) (i : Nat) : ByteArray := l.getD i ByteArray.empty
abbrev linkedT : ByteArray := ⟨#[108, 105, 110, 107, 101, 100]⟩
abbrev forkT : ByteArray := ⟨#[102, 111, 114, 107]⟩
theorem words6_calls {W : World} {S : Nat -> Prop} {g : Nat} {l : List ByteArray} {e : Bool} (h : Rd W S g l e) (first : ByteArray) (hl : l.length <= 1000000000) (hs : ∀ s ∈ l, s.size <= 1000000000) :
  Calls Tryz.prog 32 #[.pointer (some ⟨g, 0, none⟩), .string first, .int .i64 6] W fun r w' => ∃ v, r = .returned v /\ Kd.R Kd.string 9 w' W.heap.size (fun _ => True) v (wordsF first 6 l e).1 /\ Rd w' S g (wordsF first 6 l e).2.1 (wordsF first 6 l e).2.2 /\ Keeps W w' (At g) := words_calls h first 6 (by decide) (by decide) hl hs
theorem words2_calls {W : World} {S : Nat -> Prop} {g : Nat} {l : List ByteArray} {e : Bool} (h : Rd W S g l e) (first : ByteArray) (hl : l.length <= 1000000000) (hs : ∀ s ∈ l, s.size <= 1000000000) :
  Calls Tryz.prog 32 #[.pointer (some ⟨g, 0, none⟩), .string first, .int .i64 2] W fun r w' => ∃ v, r = .returned v /\ Kd.R Kd.string 9 w' W.heap.size (fun _ => True) v (wordsF first 2 l e).1 /\ Rd w' S g (wordsF first 2 l e).2.1 (wordsF first 2 l e).2.2 /\ Keeps W w' (At g) := words_calls h first 2 (by decide) (by decide) hl hs
theorem sizeT_split (n : Nat) (l : List ByteArray) : sizeT (l.take n) + sizeT (l.drop n) = sizeT l := by
 have : sizeT (l.take n ++ l.drop n) = sizeT (l.take n) + sizeT (l.drop n) := by
  unfold sizeT
  rw [List.map_append, List.sum_append]
 rw [<- this, List.take_append_drop]
theorem some_size (n : Nat) (l : List ByteArray) (e : Bool) : sizeT (someF n l e).1 + sizeT (someF n l e).2.1 <= sizeT l := by
 unfold someF
 split
 ·exact Nat.le_of_eq (Nat.zero_add _)
 ·exact Nat.le_of_eq (sizeT_split n l)
theorem joinA_size (l : List ByteArray) : ∀ acc : ByteArray, (joinA acc l).size = acc.size + sizeT l := by
 induction l with
 | nil => intro acc; rfl
 | cons s t ih =>
  intro acc
  rw [joinA, ih, sizeT_cons, ByteArray.size_append, ByteArray.size_append]
  show acc.size + (s.size + 1) + sizeT t = _
  omega
def forkF (G : ByteArray -> List Rf × Bool) (l : List ByteArray) (e : Bool) : Fk × List ByteArray × Bool :=
 let w := wordsF forkT 6 l e
 let m := decF (nth w.1 4)
 let o := decF (nth w.1 5)
 let s := someF m.1.toNat w.2.1 ((w.2.2 || !m.2) || !o.2)
 let r := G (joinA ⟨#[]⟩ s.1)
 let p := someF o.1.toNat s.2.1 (s.2.2 || !r.2)
 (⟨nth w.1 1, (nth w.1 2).toList == [108, 105, 110, 107, 101, 100], nth w.1 3, r.1, p.1⟩, p.2)
theorem splitB_size (sep : ByteArray) : ∀ (k : Nat) (s : ByteArray), ∀ p ∈ Lib.splitB sep 0 k s, p.size <= s.size
 | 0, s, p, h => by
  rw [Lib.splitB_zero, List.mem_singleton] at h
  rw [h]; exact Nat.le_refl _
 | k + 1, s, p, h => by
  unfold Lib.splitB at h
  split at h
  ·rw [List.mem_singleton] at h
   rw [h]; exact Nat.le_refl _
  ·rcases List.mem_cons.1 h with rfl | h
   ·rw [ByteArray.size_extract]; omega
   ·have := splitB_size sep k _ p h
    rw [ByteArray.size_extract] at this
    omega
theorem words_left (first : ByteArray) (many : Nat) (l : List ByteArray) (e : Bool) : sizeT (wordsF first many l e).2.1 <= sizeT l := by
 have h := some_size 1 l e
 unfold wordsF
 split
 ·show sizeT (someF 1 l e).2.1 <= _
  omega
 ·split
  ·show sizeT (someF 1 l e).2.1 <= _
   omega
  ·show sizeT (someF 1 l e).2.1 <= _
   omega
theorem hd0_size (l : List ByteArray) : (hd0 l).size <= sizeT l := by
 cases l with
 | nil => exact Nat.zero_le _
 | cons s t =>
  rw [sizeT_cons]
  show s.size <= _
  omega
theorem words_size (first : ByteArray) (many : Nat) (l : List ByteArray) (e : Bool) : ∀ s ∈ (wordsF first many l e).1, s.size <= sizeT l := by
 intro s hs
 unfold wordsF at hs
 split at hs
 ·rw [(List.mem_replicate.1 hs).2]
  exact Nat.zero_le _
 ·split at hs
  ·exact Nat.le_trans (splitB_size _ _ _ s hs) (hd0_size l)
  ·rw [(List.mem_replicate.1 hs).2]
   exact Nat.zero_le _
theorem words_len (first : ByteArray) (many : Nat) (l : List ByteArray) (e : Bool) : (wordsF first many l e).1.length = many := by
 unfold wordsF
 split
 ·exact List.length_replicate
 ·split
  ·rename_i h
   exact h.1
  ·exact List.length_replicate
theorem cells6 {W : World} {base ty : Nat} {ok : Nat -> Prop} {v : Value} {xs : List ByteArray} (h : Kd.R Kd.string ty W base ok v xs) (hp : xs.length = 6) : ∃ gb c, v = .slice (some ⟨gb, 0, none⟩) 6 c /\ base <= gb /\ ∀ i, i < 6 -> W.cell? ⟨gb, i, none⟩ = some (.string (nth xs i)) := by
 obtain ⟨gb, cap, rfl, hb, _, _⟩ := Kd.R_form h (by omega)
 rw [hp] at h
 obtain ⟨ad, e, hc⟩ := (Kd.reads_of_C (enc := Value.string) (d := ByteArray.empty) (h1 := fun _ => rfl) (Kd.R_reads' h).2.2).2.2 (by omega)
 injection e with e
 subst e
 refine ⟨gb, cap, by rw [hp], hb, fun i hi => ?_⟩
 have := hc i (by omega)
 rw [add_plain] at this
 exact this
theorem cell_keeps {W W' : World} {own : Nat -> Prop} {p : Addr} {v : Value} (h : W.cell? p = some v) (hk : Keeps W W' own) (hn : ¬ own p.block) : W'.cell? p = some v := by
 have := hk.block p.block (row_lt h) hn
 unfold World.cell? at h ⊢
 rw [this]
 exact h
theorem cell_below {W W' : World} {p : Addr} {v : Value} (h : W.cell? p = some v) (hb : Below W.heap.size W W') : W'.cell? p = some v := cell_keeps (own := fun _ => False) h (Keeps.of_below hb) (fun e => e)
theorem there5 {W : World} {b : Nat} {x0 x1 x2 x3 x4 : Value} {t : TypeId} (h : W.heap[b]? = some (.cells #[x0, x1, x2, x3, x4] t (0, 0))) : W.there b 0 5 := by
 intro j hj
 refine ⟨?_, frozen_of_row _ b _ _ _ h⟩
 rw [cell_of_row _ b (0 + j) _ _ _ h]
 have : j = 0 ∨ j = 1 ∨ j = 2 ∨ j = 3 ∨ j = 4 := by omega
 rcases this with rfl | rfl | rfl | rfl | rfl <;> rfl
theorem set5 {W : World} {b : Nat} {t : TypeId} {y0 y1 y2 y3 y4 : Value} (x0 x1 x2 x3 x4 : Value) (h : W.heap[b]? = some (.cells #[y0, y1, y2, y3, y4] t (0, 0))) : (W.setCells b 0 [x0, x1, x2, x3, x4]).heap[b]? = some (.cells #[x0, x1, x2, x3, x4] t (0, 0)) :=
 (heap_set_same _ b 4 _ _ x4 ((heap_set_same _ b 3 _ _ x3 ((heap_set_same _ b 2 _ _ x2 ((heap_set_same _ b 1 _ _ x1 ((heap_set_same _ b 0 _ _ x0 h).trans rfl)).trans rfl)).trans rfl)).trans rfl)).trans rfl
theorem keeps_sets {b : Nat} : ∀ (vs : List Value) (o : Nat) (W : World), Keeps W (W.setCells b o vs) (fun k => k = b)
 | [], o, W => Keeps.refl _ _
 | v :: vs, o, W => (show Keeps W (W.setCell ⟨b, o, none⟩ v) (fun k => k = b) from Keeps.set rfl).trans (keeps_sets vs (o + 1) _)
theorem sz_alloc (w : World) (o : Obj) : (w.alloc o).heap.size = w.heap.size + 1 := Array.size_push _
def Tbl (B : Nat) (W : World) : Prop := Lib.TabBelow Tryz.prog B W "internal/strconv.uint64pow10" .u64 Lib.pow10Tab
theorem below_less {B C : Nat} {W W' : World} (h : Below B W W') (hc : C <= B) : Below C W W' := ⟨h.os, h.tape, h.output, h.size, fun k hk => h.block k (Nat.lt_of_lt_of_le hk hc)⟩
theorem Tbl.tb {B : Nat} {W : World} (h : Tbl B W) (hB : B <= W.heap.size) : Tb W := fun w' h' => h w' (below_less h' hB)
theorem Tbl.below {B : Nat} {W W' : World} (h : Tbl B W) (hb : Below B W W') : Tbl B W' := fun w' h' => h w' (hb.trans h')
theorem below_keeps {B : Nat} {W W' : World} {own : Nat -> Prop} (hk : Keeps W W' own) (hB : B <= W.heap.size) (ho : ∀ k, own k -> B <= k) : Below B W W' := ⟨hk.os, hk.tape, hk.output, hk.size, fun k hk2 => hk.block k (by omega) (fun e => by have := ho k e; omega)⟩
theorem fork_mid {W W6 : World} {S : Nat -> Prop} {g bx : Nat} {l : List ByteArray} {e : Bool} {x0 x1 x2 x3 x4 y0 y1 y2 y3 y4 : Value} {t t' : TypeId} (hR : Rd W6 S g l e) (hxg : bx ≠ g) (hW : W.heap.size <= bx) (hb : W6.heap[bx]? = some (.cells #[x0, x1, x2, x3, x4] t (0, 0))) (hr : W6.heap[W.heap.size]? = some (.cells #[y0, y1, y2, y3, y4] t' (0, 0))) (hS : ∀ k, S k -> k < W.heap.size) (hne : bx ≠ W.heap.size) (A : Option Addr) (c n : Nat) :
  Rd (W6.setCell ⟨bx, 3, none⟩ (.slice A n c)) S g l e /\ (W6.setCell ⟨bx, 3, none⟩ (.slice A n c)).heap[bx]? = some (.cells #[x0, x1, x2, .slice A n c, x4] t (0, 0)) /\ (W6.setCell ⟨bx, 3, none⟩ (.slice A n c)).heap[W.heap.size]? = some (.cells #[y0, y1, y2, y3, y4] t' (0, 0)) :=
 ⟨hR.keeps (own2 := fun k => k = bx) (Keeps.set rfl) (fun e => hxg e.symm) (fun k e e2 => by have := hS k e; have e3 : k = bx := e2; omega), (heap_set_same W6 bx 3 _ _ _ hb).trans rfl, (Below.heap_setCell W6 ⟨bx, 3, none⟩ _ _ (fun e => hne e.symm)).trans hr⟩
theorem fork_end {W W7 w8 : World} {g bx : Nat} {x0 x1 x2 x3 x4 y0 y1 y2 y3 y4 : Value} {t t' : TypeId} (hxg : bx ≠ g) (hgW : g < W.heap.size) (hne : bx ≠ W.heap.size) (hb : W7.heap[bx]? = some (.cells #[x0, x1, x2, x3, x4] t (0, 0))) (hr : W7.heap[W.heap.size]? = some (.cells #[y0, y1, y2, y3, y4] t' (0, 0))) (hK : Keeps W7 w8 (At g)) (A : Option Addr) (c n : Nat) :
  w8.heap[bx]? = some (.cells #[x0, x1, x2, x3, x4] t (0, 0)) /\ (w8.setCell ⟨bx, 4, none⟩ (.slice A n c)).heap[bx]? = some (.cells #[x0, x1, x2, x3, .slice A n c] t (0, 0)) /\ (w8.setCell ⟨bx, 4, none⟩ (.slice A n c)).heap[W.heap.size]? = some (.cells #[y0, y1, y2, y3, y4] t' (0, 0)) := by
 have h8 := (hK.block bx (lt_box hb) hxg).trans hb
 have h9 := (hK.block W.heap.size (lt_box hr) (fun e => by have e2 : W.heap.size = g := e; omega)).trans hr
 exact ⟨h8, (heap_set_same w8 bx 4 _ _ _ h8).trans rfl, (Below.heap_setCell w8 ⟨bx, 4, none⟩ _ _ (fun e => hne e.symm)).trans h9⟩
theorem R_keepsO {α : Type} {d : Kd α} {ty : Nat} {W W' : World} {base : Nat} {own ok : Nat -> Prop} {v : Value} {xs : List α} (h : Kd.R d ty W base ok v xs) (hk : Keeps W W' own) (ho : ∀ k, own k -> k < base) : Kd.R d ty W' base ok v xs :=
 Kd.R_mono (Kd.R_step (Kd.R_bound h) (fun k e hl => hk.block k hl (fun e2 => by have := e.2.1; have := ho k e2; omega))) (fun k e => e.1)
theorem keeps_ext {W W5 W9 : World} {own own' : Nat -> Prop} (h : Keeps W W5 own) (k : Keeps W5 W9 own') (hx : ∀ k, own' k -> own k ∨ W.heap.size <= k) : Keeps W W9 own :=
 ⟨k.os.trans h.os, k.tape.trans h.tape, k.output.trans h.output, Nat.le_trans h.size k.size, fun i hi hn => (k.block i (Nat.lt_of_lt_of_le hi h.size) (fun e => (hx i e).elim hn (fun e => by omega))).trans (h.block i hi hn)⟩
theorem gate_store {P : Program} {ops : Array Oper} {rest : List Oper} {o : Oper} {a : Act} {Q : Exit -> Act -> World -> Prop} {W : World} (t : TypeId) (x y : Operand) (_ho : o.op = .store t x y) (h : wpList P ops Q (o :: rest) a W) : wpList P ops Q (o :: rest) a W := h
theorem drew_cell {W : World} {p : Addr} {v : Value} (h : W.cell? p = some v) : W.drew.cell? p = some v := h
theorem fork_fin {W W5 W6 w8 : World} {S : Nat -> Prop} {g bx : Nat} {l : List ByteArray} {e : Bool} {rl : List Rf} {pl : List ByteArray} {A6 A8 : Option Addr} {c6 c8 b8 : Nat} (vs : List Value) (hKW : Keeps W W5 (At g)) (hB6 : Below W5.heap.size W5 W6) (hxg : bx ≠ g) (hWb : W.heap.size <= bx) (hbl : bx < W5.heap.size) (hgW : g < W.heap.size) (hWl : W.heap.size < W5.heap.size) (hS : ∀ k, S k -> k < W.heap.size)
  (hr6 : Kd.R k83 83 W6 W5.heap.size (fun _ => True) (.slice A6 rl.length c6) rl) (hK68 : Keeps W6 w8 (fun k => k = bx ∨ k = g)) (hb8 : W5.heap.size <= b8) (hr8 : Kd.R Kd.string 9 w8 b8 (fun _ => True) (.slice A8 pl.length c8) pl) (hR8 : Rd w8 S g l e) (v : Value) :
  (Kd.R k83 83 ((w8.setCell ⟨bx, 4, none⟩ v).setCells W.heap.size 0 vs) W.heap.size (fun _ => True) (.slice A6 rl.length c6) rl /\ Kd.R Kd.string 9 ((w8.setCell ⟨bx, 4, none⟩ v).setCells W.heap.size 0 vs) W.heap.size (fun _ => True) (.slice A8 pl.length c8) pl) /\
   Rd ((w8.setCell ⟨bx, 4, none⟩ v).setCells W.heap.size 0 vs) S g l e /\ Keeps W ((w8.setCell ⟨bx, 4, none⟩ v).setCells W.heap.size 0 vs) (At g) := by
 have hk89 : Keeps w8 ((w8.setCell ⟨bx, 4, none⟩ v).setCells W.heap.size 0 vs) (fun k => k = bx ∨ k = W.heap.size) := (Keeps.set (Or.inl rfl)).trans ((keeps_sets vs 0 _).mono (fun _ e => Or.inr e))
 have hk69 : Keeps W6 ((w8.setCell ⟨bx, 4, none⟩ v).setCells W.heap.size 0 vs) (fun k => (k = bx ∨ k = g) ∨ k = W.heap.size) := (hK68.mono (fun _ e => Or.inl e)).trans (hk89.mono (fun _ e => e.elim (fun e => Or.inl (Or.inl e)) Or.inr))
 refine ⟨⟨Kd.R_lower (R_keepsO hr6 hk69 (fun k e => by rcases e with (e | e) | e <;> omega)) (by omega), Kd.R_lower (R_keepsO hr8 hk89 (fun k e => by rcases e with e | e <;> omega)) (by omega)⟩, hR8.keeps hk89 (fun e => by rcases e with e | e <;> omega) (fun k e e2 => by have := hS k e; rcases e2 with e2 | e2 <;> omega), ?_⟩
 exact (keeps_ext hKW ((Keeps.of_below (own := fun k => (k = bx ∨ k = g) ∨ k = W.heap.size) hB6).trans hk69) (fun k e => by rcases e with (e | e) | e; exact Or.inr (by omega); exact Or.inl e; exact Or.inr (by omega)))
theorem fork_fail {W W6 : World} {S : Nat -> Prop} {g bx : Nat} {l : List ByteArray} {e : Bool} {o1 o2 : Obj} (h : Rd W6 S g l e) (hb : W6.heap[bx]? = some o1) (hr : W6.heap[W.heap.size]? = some o2) (hxg : bx ≠ g) (hgW : g < W.heap.size) (s : ByteArray) :
  Rd ((W6.alloc (.cells #[.string s] 89)).setCell ⟨g, 1, none⟩ (.iface 87 (.pointer (some ⟨W6.heap.size, 0, none⟩)))) S g l true /\ Keeps W6 ((W6.alloc (.cells #[.string s] 89)).setCell ⟨g, 1, none⟩ (.iface 87 (.pointer (some ⟨W6.heap.size, 0, none⟩)))) (At g) /\
   ((W6.alloc (.cells #[.string s] 89)).setCell ⟨g, 1, none⟩ (.iface 87 (.pointer (some ⟨W6.heap.size, 0, none⟩)))).heap[bx]? = some o1 /\ ((W6.alloc (.cells #[.string s] 89)).setCell ⟨g, 1, none⟩ (.iface 87 (.pointer (some ⟨W6.heap.size, 0, none⟩)))).heap[W.heap.size]? = some o2 := by
 have h1 := (h.below (bal (Below.refl _ _) (.cells #[.string s] 89))).fail W6.heap.size
 have hk : Keeps W6 _ (At g) := (Keeps.of_below (bal (Below.refl _ _) (.cells #[.string s] 89))).trans h1.2
 exact ⟨h1.1, hk, (hk.block bx (lt_box hb) hxg).trans hb, (hk.block _ (lt_box hr) (fun e => by have e2 : W.heap.size = g := e; omega)).trans hr⟩
set_option maxHeartbeats 8000000 in
set_option maxRecDepth 100000 in
theorem fork_calls {W : World} {S : Nat -> Prop} {g : Nat} {l : List ByteArray} {e : Bool} (h : Rd W S g l e) (hz : sizeT l <= 1000000000) {B : Nat} (hT : Tbl B W) (hBg : B <= g) (G : ByteArray -> List Rf × Bool) (k : Nat) (hG : ∀ t : ByteArray, t.size <= sizeT l -> refs_Get.f k t = some (G t)) :
  Calls Tryz.prog 34 #[.pointer (some ⟨g, 0, none⟩)] W fun r w' => ∃ A3 c3 A4 c4, r = .returned (.agg #[.string (forkF G l e).1.f0, .bool (forkF G l e).1.f1, .string (forkF G l e).1.f2, .slice A3 (forkF G l e).1.f3.length c3, .slice A4 (forkF G l e).1.f4.length c4]) /\
   (Kd.R k83 83 w' W.heap.size (fun _ => True) (.slice A3 (forkF G l e).1.f3.length c3) (forkF G l e).1.f3 /\ Kd.R Kd.string 9 w' W.heap.size (fun _ => True) (.slice A4 (forkF G l e).1.f4.length c4) (forkF G l e).1.f4) /\ Rd w' S g (forkF G l e).2.1 (forkF G l e).2.2 /\ Keeps W w' (At g) := by
 have H := Asd.mk h
 have HT := Asd.mk hT
 have HG := Asd.mk hG
 have HBG := Asd.mk hBg
 have HZ := Asd.mk hz
 have hll := sizeT_len l
 have HWD := Asd.mk (fun (W' : World) (hb : Below W.heap.size W W') => words6_calls (h.below hb) forkT (by omega) (fun s hs => by have := sizeT_mem hs; omega))
 have hlen := words_len forkT 6 l e
 have hwz : ∀ s ∈ (wordsF forkT 6 l e).1, s.size <= 1000000000 := fun s hs => by have := words_size forkT 6 l e s hs; omega
 have hl1 : sizeT (wordsF forkT 6 l e).2.1 <= sizeT l := words_left forkT 6 l e
 obtain ⟨ws, l1, e1, hw⟩ : ∃ ws l1 e1, wordsF forkT 6 l e = (ws, l1, e1) := ⟨_, _, _, rfl⟩
 have hfk : forkF G l e = (⟨nth ws 1, (nth ws 2).toList == [108, 105, 110, 107, 101, 100], nth ws 3, (G (joinA ⟨#[]⟩ (someF (decF (nth ws 4)).1.toNat l1 ((e1 || !(decF (nth ws 4)).2) || !(decF (nth ws 5)).2)).1)).1, (someF (decF (nth ws 5)).1.toNat (someF (decF (nth ws 4)).1.toNat l1 ((e1 || !(decF (nth ws 4)).2) || !(decF (nth ws 5)).2)).2.1 ((someF (decF (nth ws 4)).1.toNat l1 ((e1 || !(decF (nth ws 4)).2) || !(decF (nth ws 5)).2)).2.2 || !(G (joinA ⟨#[]⟩ (someF (decF (nth ws 4)).1.toNat l1 ((e1 || !(decF (nth ws 4)).2) || !(decF (nth ws 5)).2)).1)).2)).1⟩, (someF (decF (nth ws 5)).1.toNat (someF (decF (nth ws 4)).1.toNat l1 ((e1 || !(decF (nth ws 4)).2) || !(decF (nth ws 5)).2)).2.1 ((someF (decF (nth ws 4)).1.toNat l1 ((e1 || !(decF (nth ws 4)).2) || !(decF (nth ws 5)).2)).2.2 || !(G (joinA ⟨#[]⟩ (someF (decF (nth ws 4)).1.toNat l1 ((e1 || !(decF (nth ws 4)).2) || !(decF (nth ws 5)).2)).1)).2)).2) := by
  unfold forkF
  rw [hw]
 rw [hfk]
 rw [hw] at hlen hwz hl1 HWD
 have hda := decF_bd (nth ws 4)
 have hdb := decF_bd (nth ws 5)
 obtain ⟨m, b1, hA⟩ : ∃ (m : Nat) (b : Bool), decF (nth ws 4) = ((m : Int), b) := ⟨(decF (nth ws 4)).1.toNat, (decF (nth ws 4)).2, Prod.ext (by show _ = _; rw [Int.toNat_of_nonneg hda.1]) rfl⟩
 obtain ⟨n, b2, hB⟩ : ∃ (m : Nat) (b : Bool), decF (nth ws 5) = ((m : Int), b) := ⟨(decF (nth ws 5)).1.toNat, (decF (nth ws 5)).2, Prod.ext (by show _ = _; rw [Int.toNat_of_nonneg hdb.1]) rfl⟩
 rw [hA] at hda ⊢
 rw [hB] at hdb ⊢
 simp only [Int.toNat_natCast] at hda hdb ⊢
 generalize hSA : someF m l1 ((e1 || !b1) || !b2) = sa
 obtain ⟨rl, ir, hRG⟩ : ∃ rl ir, G (joinA ⟨#[]⟩ sa.1) = (rl, ir) := ⟨_, _, rfl⟩
 rw [hRG]
 generalize hPB : someF n sa.2.1 (sa.2.2 || !ir) = pb
 have HMN : Asd (m <= 4611686018427387904 /\ n <= 4611686018427387904) := ⟨by omega⟩
 have HSA := Asd.mk hSA
 have HRG := Asd.mk hRG
 have HPB := Asd.mk hPB
 have HAA := Asd.mk (And.intro hA hB)
 have HW4 : Asd ((nth ws 4).size <= 1000000000) := ⟨hwz _ (nth_mem (by omega))⟩
 have HW5 : Asd ((nth ws 5).size <= 1000000000) := ⟨hwz _ (nth_mem (by omega))⟩
 clear h hz hT hG hfk hw hBg hda hdb hSA hRG hPB
 obtain ⟨W0, hW0, hb0, hs0, hr0⟩ : ∃ W0, W.alloc (.cells #[.string ⟨#[]⟩, .bool false, .string ⟨#[]⟩, .slice none 0 0, .slice none 0 0] 39) = W0 /\ Below W.heap.size W W0 /\ W0.heap.size = W.heap.size + 1 /\ W0.heap[W.heap.size]? = some (.cells #[.string ⟨#[]⟩, .bool false, .string ⟨#[]⟩, .slice none 0 0, .slice none 0 0] 39 (0, 0)) := ⟨_, rfl, bal (Below.refl _ _) _, sz_alloc _ _, heap_alloc_new _ _⟩
 have HW0 := Asd.mk hW0
 have HB0 := Asd.mk (And.intro hb0 (And.intro hs0 hr0))
 clear hW0 hb0 hs0 hr0
 go_enter Tryz.func34, Tryz.ntmps34
 go_wp2_with (go_at_call 32; with_reducible refine (HWD.out _ (bal (Below.refl _ _) _)).mono ?_)
 rintro r W1 v1 rfl hr hR hK
 rw [HW0.out] at hK
 obtain ⟨gb, cw, rfl, hbs, hc⟩ := cells6 hr hlen
 have c1 := hc 1 (by decide)
 have c2 := hc 2 (by decide)
 have c3 := hc 3 (by decide)
 have c4 := hc 4 (by decide)
 have c5 := hc 5 (by decide)
 have HR1 := Asd.mk hR
 have HK1 := Asd.mk hK
 have hab : gb ≠ g := by
  have := H.out.lt
  omega
 clear hr hR hK hc
 go_wp2
 refine start_ (n := 13) (S := fun w' => w'.cell? ⟨gb, 1, none⟩ = some (.string (nth ws 1)) /\ w'.cell? ⟨gb, 2, none⟩ = some (.string (nth ws 2)) /\ w'.cell? ⟨gb, 3, none⟩ = some (.string (nth ws 3))) (ds := [12]) (bA 13 0) (by kernel_rfl) rfl rfl ⟨(drew_cell c1), (drew_cell c2), (drew_cell c3)⟩ (fun hHeld => ?_)
 refine pure_ (i := 0) (N := some 14) (v := ?_) (a' := ?_) (bA 13 1) rfl rfl (by kernel_rfl) (fun _ _ _ h => h) (Or.inl ⟨by rfl, ?_⟩) ?_ ?_
 rotate_left
 ·intro w'
  go_simp
  with_reducible rfl
 rotate_left
 ·simp only [Act.put, zA, zB, zC, i64_w, i32_w]
  rfl
 refine pure_ (i := 1) (N := some 15) (v := ?_) (a' := ?_) (bA 13 3) rfl rfl (by kernel_rfl) (fun _ _ _ h => h) (Or.inl ⟨by rfl, ?_⟩) ?_ ?_
 rotate_left
 ·intro w'
  go_simp
  with_reducible rfl
 rotate_left
 ·simp only [Act.put, zA, zB, zC, i64_w, i32_w]
  rfl
 refine pure_ (i := 3) (N := some 17) (v := ?_) (a' := ?_) (bA 13 11) rfl rfl (by kernel_rfl) (fun _ _ _ h => h) (Or.inl ⟨by rfl, ?_⟩) ?_ ?_
 rotate_left
 ·intro w'
  go_simp
  with_reducible rfl
 rotate_left
 ·simp only [Act.put, zA, zB, zC, i64_w, i32_w]
  rfl
 refine pure_ (i := 4) (N := some 18) (v := ?_) (a' := ?_) (bA 13 27) rfl rfl (by kernel_rfl) (fun _ _ _ h => h) (Or.inl ⟨by rfl, ?_⟩) ?_ ?_
 rotate_left
 ·intro w'
  go_simp
  with_reducible rfl
 rotate_left
 ·simp only [Act.put, zA, zB, zC, i64_w, i32_w]
  rfl
 refine pure_ (i := 7) (N := some 21) (v := ?_) (a' := ?_) (bA 13 155) rfl rfl (by kernel_rfl) (fun _ _ _ h => h) (Or.inl ⟨by rfl, ?_⟩) ?_ ?_
 rotate_left
 ·intro w'
  go_simp
  with_reducible rfl
 rotate_left
 ·simp only [Act.put, zA, zB, zC, i64_w, i32_w]
  rfl
 refine pure_ (i := 8) (N := some 22) (v := ?_) (a' := ?_) (bA 13 411) rfl rfl (by kernel_rfl) (fun _ _ _ h => h) (Or.inl ⟨by rfl, ?_⟩) ?_ ?_
 rotate_left
 ·intro w'
  go_simp
  with_reducible rfl
 rotate_left
 ·simp only [Act.put, zA, zB, zC, i64_w, i32_w]
  rfl
 refine take_ (i := 2) (N := some 16) (v := ?_) (a' := ?_) (bA 13 415) rfl rfl (by kernel_rfl) (fun _ _ _ h => h) (Or.inl ⟨by rfl, ?_⟩) hHeld ?_ ?_
 rotate_left
 ·rintro w' ⟨s0, s1, s2⟩
  go_simp
  with_reducible rfl
 rotate_left
 ·simp only [Act.put, zA, zB, zC, i64_w, i32_w]
  rfl
 refine take_ (i := 5) (N := some 19) (v := ?_) (a' := ?_) (bA 13 447) rfl rfl (by kernel_rfl) (fun _ _ _ h => h) (Or.inl ⟨by rfl, ?_⟩) hHeld ?_ ?_
 rotate_left
 ·rintro w' ⟨s0, s1, s2⟩
  go_simp
  with_reducible rfl
 rotate_left
 ·simp only [Act.put, zA, zB, zC, i64_w, i32_w]
  rfl
 refine pure_ (i := 6) (N := some 20) (v := ?_) (a' := ?_) (bA 13 511) rfl rfl (by kernel_rfl) (fun _ _ _ h => h) (Or.inl ⟨by rfl, ?_⟩) ?_ ?_
 rotate_left
 ·intro w'
  go_simp
  with_reducible rfl
 rotate_left
 ·simp only [Act.put, zA, zB, zC, i64_w, i32_w]
  rfl
 refine take_ (i := 9) (N := some 23) (v := ?_) (a' := ?_) (bA 13 1023) rfl rfl (by kernel_rfl) (fun _ _ _ h => h) (Or.inl ⟨by rfl, ?_⟩) hHeld ?_ ?_
 rotate_left
 ·rintro w' ⟨s0, s1, s2⟩
  go_simp
  with_reducible rfl
 rotate_left
 ·simp only [Act.put, zA, zB, zC, i64_w, i32_w]
  rfl
 refine pure_ (i := 10) (N := some 24) (v := ?_) (a' := ?_) (bA 13 2047) rfl rfl (by kernel_rfl) (fun _ _ _ h => h) (Or.inl ⟨by rfl, ?_⟩) ?_ ?_
 rotate_left
 ·intro w'
  go_simp
  with_reducible rfl
 rotate_left
 ·simp only [Act.put, zA, zB, zC, i64_w, i32_w]
  rfl
 refine one_ (i := 11) (N := some 4) (bA 13 4095) rfl rfl (by kernel_rfl) (by decide) (fun K hK => ?_)
 refine value_ (w1 := ?_) (v := ?_) (by rfl) rfl ?_ ?_
 rotate_left 2
 ·go_simp
  constructor
  ·rfl
  ·rfl
 generalize hwx : World.alloc _ _ = wx
 have hx := heap_alloc_new W1 (.cells #[.string ⟨#[]⟩, .bool false, .string ⟨#[]⟩, .slice none 0 0, .slice none 0 0] 39)
 rw [hwx] at hx
 have hbx : Below W1.heap.size W1 wx := by rw [<- hwx]; exact bal (Below.refl _ _) _
 clear hwx
 refine hK.out _ _ ⟨(drew_cell (cell_below c1 hbx)), (drew_cell (cell_below c2 hbx)), (drew_cell (cell_below c3 hbx))⟩ (fun hHeld => ?_)
 clear hK K
 refine norm_ (a' := ?_) ?_ ?_
 rotate_left
 ·show Act.put _ (some 4) _ = _
  simp only [Act.put, zA, zB, zC, i64_w, i32_w]
  rfl
 refine last_ (i := 12) (N := none) (bA 13 8191) rfl rfl (by kernel_rfl) (by decide) (fun K hK => ?_)
 rw [if_pos (by rfl)]
 refine wp_store_mid 39 (.tmp 4) (.tmp 24) (by rfl) W1.heap.size 0 #[.string (nth ws 1), .bool ((nth ws 2).toList == [108, 105, 110, 107, 101, 100]), .string (nth ws 3), .slice none 0 0, .slice none 0 0] (by rfl) (by rfl) (there5 (show wx.drew.heap[W1.heap.size]? = _ from hx)) (by kernel_rfl) (by simp [Value.oneCell']) ?_
 refine hK.out _ _ ?_
 refine norm_ (a' := ?_) ?_ ?_
 rotate_left
 ·show Act.put _ none _ = _
  simp only [Act.put, zA, zB, zC, i64_w, i32_w]
  rfl
 clear hK K
 refine done_ (by kernel_rfl) ?_
 have hx2 := set5 (.string (nth ws 1)) (.bool ((nth ws 2).toList == [108, 105, 110, 107, 101, 100])) (.string (nth ws 3)) (.slice none 0 0) (.slice none 0 0) (show wx.drew.heap[W1.heap.size]? = _ from hx)
 have hk2 := keeps_sets (b := W1.heap.size) [.string (nth ws 1), .bool ((nth ws 2).toList == [108, 105, 110, 107, 101, 100]), .string (nth ws 3), .slice none 0 0, .slice none 0 0] 0 wx.drew
 generalize hWA : World.setCells _ _ _ _ = WA
 rw [show World.setCells wx.drew W1.heap.size 0 [.string (nth ws 1), .bool ((nth ws 2).toList == [108, 105, 110, 107, 101, 100]), .string (nth ws 3), .slice none 0 0, .slice none 0 0] = WA from hWA] at hx2 hk2
 have hBA : Below W1.heap.size W1 WA := ⟨hk2.os.trans hbx.os, hk2.tape.trans hbx.tape, hk2.output.trans hbx.output, Nat.le_trans hbx.size hk2.size, fun k hk => (hk2.block k (Nat.lt_of_lt_of_le hk hbx.size) (fun e => by omega)).trans (hbx.block k hk)⟩
 have hlW := H.out.lt
 have hs0 := HB0.out.2.1
 have hk1s := HK1.out.size
 have hsz1 : W.heap.size <= W1.heap.size := by omega
 have hbg := HBG.out
 have hT0 : Tbl B W0 := HT.out.below (below_less HB0.out.1 (by omega))
 have hT1 : Tbl B W1 := hT0.below (below_keeps HK1.out (by omega) (fun k e => by have e2 : k = g := e; omega))
 have hTA : Tbl B WA := hT1.below (below_less hBA (by omega))
 have HTA := Asd.mk hTA
 have HRA := Asd.mk (HR1.out.below hBA)
 have HBX := Asd.mk hx2
 have HBA := Asd.mk hBA
 replace c4 := cell_below c4 hBA
 replace c5 := cell_below c5 hBA
 have HGA := Asd.mk (Nat.le_trans HBG.out (Nat.le_of_lt (HR1.out.below hBA).lt))
 clear hx2 hk2 hBA hTA hT1 hT0 hWA hx hbx c1 c2 c3 hHeld
 have hD : Below WA.heap.size WA WA.drew := bd1 (Below.refl _ _)
 have hTD : Tbl B WA.drew := HTA.out.below (below_less hD HGA.out)
 have HTD := Asd.mk hTD
 have HN4 := Asd.mk (number_calls (HRA.out.below hD) (nth ws 4) HW4.out (hTD.tb (show B <= WA.drew.heap.size from HGA.out)))
 clear hD hTD
 go_wp2
 refine start_ (n := 12) (S := fun w' => w'.cell? ⟨gb, 4, none⟩ = some (.string (nth ws 4)) /\ w'.cell? ⟨gb, 5, none⟩ = some (.string (nth ws 5))) (ds := []) (bA 12 0) (by kernel_rfl) rfl rfl ⟨(drew_cell c4), (drew_cell c5)⟩ (fun hHeld => ?_)
 refine pure_ (i := 0) (N := some 25) (v := ?_) (a' := ?_) (bA 12 1) rfl rfl (by kernel_rfl) (fun _ _ _ h => h) (Or.inl ⟨by rfl, ?_⟩) ?_ ?_
 rotate_left
 ·intro w'
  go_simp
  with_reducible rfl
 rotate_left
 ·simp only [Act.put, zA, zB, zC, i64_w, i32_w]
  rfl
 refine pure_ (i := 1) (N := some 26) (v := ?_) (a' := ?_) (bA 12 3) rfl rfl (by kernel_rfl) (fun _ _ _ h => h) (Or.inl ⟨by rfl, ?_⟩) ?_ ?_
 rotate_left
 ·intro w'
  go_simp
  with_reducible rfl
 rotate_left
 ·simp only [Act.put, zA, zB, zC, i64_w, i32_w]
  rfl
 refine pure_ (i := 2) (N := some 27) (v := ?_) (a' := ?_) (bA 12 7) rfl rfl (by kernel_rfl) (fun _ _ _ h => h) (Or.inl ⟨by rfl, ?_⟩) ?_ ?_
 rotate_left
 ·intro w'
  go_simp
  with_reducible rfl
 rotate_left
 ·simp only [Act.put, zA, zB, zC, i64_w, i32_w]
  rfl
 refine pure_ (i := 5) (N := some 30) (v := ?_) (a' := ?_) (bA 12 39) rfl rfl (by kernel_rfl) (fun _ _ _ h => h) (Or.inl ⟨by rfl, ?_⟩) ?_ ?_
 rotate_left
 ·intro w'
  go_simp
  with_reducible rfl
 rotate_left
 ·simp only [Act.put, zA, zB, zC, i64_w, i32_w]
  rfl
 refine pure_ (i := 6) (N := some 31) (v := ?_) (a' := ?_) (bA 12 103) rfl rfl (by kernel_rfl) (fun _ _ _ h => h) (Or.inl ⟨by rfl, ?_⟩) ?_ ?_
 rotate_left
 ·intro w'
  go_simp
  with_reducible rfl
 rotate_left
 ·simp only [Act.put, zA, zB, zC, i64_w, i32_w]
  rfl
 refine pure_ (i := 7) (N := some 32) (v := ?_) (a' := ?_) (bA 12 231) rfl rfl (by kernel_rfl) (fun _ _ _ h => h) (Or.inl ⟨by rfl, ?_⟩) ?_ ?_
 rotate_left
 ·intro w'
  go_simp
  with_reducible rfl
 rotate_left
 ·simp only [Act.put, zA, zB, zC, i64_w, i32_w]
  rfl
 refine take_ (i := 3) (N := some 28) (v := ?_) (a' := ?_) (bA 12 239) rfl rfl (by kernel_rfl) (fun _ _ _ h => h) (Or.inl ⟨by rfl, ?_⟩) hHeld ?_ ?_
 rotate_left
 ·rintro w' ⟨s0, s1⟩
  go_simp
  with_reducible rfl
 rotate_left
 ·simp only [Act.put, zA, zB, zC, i64_w, i32_w]
  rfl
 refine take_ (i := 8) (N := some 33) (v := ?_) (a' := ?_) (bA 12 495) rfl rfl (by kernel_rfl) (fun _ _ _ h => h) (Or.inl ⟨by rfl, ?_⟩) hHeld ?_ ?_
 rotate_left
 ·rintro w' ⟨s0, s1⟩
  go_simp
  with_reducible rfl
 rotate_left
 ·simp only [Act.put, zA, zB, zC, i64_w, i32_w]
  rfl
 refine one_ (i := 4) (N := some 29) (bA 12 511) rfl rfl (by kernel_rfl) (by decide) (fun K hK => ?_)
 refine goes_ Tryz.func31 (by kernel_rfl) rfl #[.pointer (some ⟨g, 0, none⟩), .string (nth ws 4)] (by rfl) rfl rfl (by simp only [List.map_toArray, List.map_cons, List.map_nil]; rfl) ?_
 with_reducible refine (HN4.out).mono ?_
 rintro e w3 ⟨rfl, hR3, hK3⟩
 refine ⟨_, rfl, ?_⟩
 have HT3 := Asd.mk (HTD.out.below (below_keeps hK3 (show B <= WA.drew.heap.size from HGA.out) (fun k e => by have e2 : k = g := e; rw [e2]; exact HBG.out)))
 have HN5 := Asd.mk (number_calls hR3 (nth ws 5) HW5.out (HT3.out.tb (Nat.le_trans (show B <= WA.drew.heap.size from HGA.out) hK3.size)))
 have hC3 : w3.cell? ⟨gb, 4, none⟩ = some (.string (nth ws 4)) /\ w3.cell? ⟨gb, 5, none⟩ = some (.string (nth ws 5)) := ⟨cell_keeps (drew_cell c4) hK3 hab, cell_keeps (drew_cell c5) hK3 hab⟩
 refine hK.out _ _ ⟨hC3.1, hC3.2⟩ (fun hHeld => ?_)
 clear hK K
 refine norm_ (a' := ?_) ?_ ?_
 rotate_left
 ·show Act.put _ (some 29) _ = _
  simp only [Act.put, zA, zB, zC, i64_w, i32_w]
  rfl
 refine one_ (i := 9) (N := some 34) (bA 12 1023) rfl rfl (by kernel_rfl) (by decide) (fun K hK => ?_)
 refine goes_ Tryz.func31 (by kernel_rfl) rfl #[.pointer (some ⟨g, 0, none⟩), .string (nth ws 5)] (by rfl) rfl rfl (by simp only [List.map_toArray, List.map_cons, List.map_nil]; rfl) ?_
 with_reducible refine (HN5.out).mono ?_
 rintro e w4 ⟨rfl, hR4, hK4⟩
 refine ⟨_, rfl, ?_⟩
 have hC4 : w4.cell? ⟨gb, 4, none⟩ = some (.string (nth ws 4)) /\ w4.cell? ⟨gb, 5, none⟩ = some (.string (nth ws 5)) := ⟨cell_keeps hC3.1 hK4 hab, cell_keeps hC3.2 hK4 hab⟩
 refine hK.out _ _ ⟨hC4.1, hC4.2⟩ (fun hHeld => ?_)
 clear hK K
 refine norm_ (a' := ?_) ?_ ?_
 rotate_left
 ·show Act.put _ (some 34) _ = _
  simp only [Act.put, zA, zB, zC, i64_w, i32_w]
  rfl
 refine pure_ (i := 10) (N := some 5) (v := ?_) (a' := ?_) (bA 12 2047) rfl rfl (by kernel_rfl) (fun _ _ _ h => h) (Or.inl ⟨by rfl, ?_⟩) ?_ ?_
 rotate_left
 ·intro w'
  go_simp
  with_reducible rfl
 rotate_left
 ·simp only [Act.put, zA, zB, zC, i64_w, i32_w]
  rfl
 refine pure_ (i := 11) (N := some 6) (v := ?_) (a' := ?_) (bA 12 4095) rfl rfl (by kernel_rfl) (fun _ _ _ h => h) (Or.inl ⟨by rfl, ?_⟩) ?_ ?_
 rotate_left
 ·intro w'
  go_simp
  with_reducible rfl
 rotate_left
 ·simp only [Act.put, zA, zB, zC, i64_w, i32_w]
  rfl
 refine done_ (by kernel_rfl) ?_
 rw [HAA.out.1] at hR3
 rw [HAA.out.1, HAA.out.2] at hR4
 have hk3s : WA.heap.size <= w3.heap.size := hK3.size
 have hk4s := hK4.size
 have hkas := HBA.out.size
 have hxg : W1.heap.size ≠ g := by omega
 have hbox : w4.heap[W1.heap.size]? = WA.heap[W1.heap.size]? := (hK4.block _ (by have := lt_box HBX.out; omega) hxg).trans (hK3.block _ (lt_box HBX.out) hxg)
 have hres : w4.heap[W.heap.size]? = W0.heap[W.heap.size]? := (hK4.block _ (by omega) (fun e => by have e2 : W.heap.size = g := e; omega)).trans ((hK3.block _ (show W.heap.size < WA.heap.size by omega) (fun e => by have e2 : W.heap.size = g := e; omega)).trans ((HBA.out.block _ (by omega)).trans (HK1.out.block _ (by omega) (fun e => by have e2 : W.heap.size = g := e; omega))))
 rw [HBX.out] at hbox
 rw [HB0.out.2.2] at hres
 have hKW : Keeps W w4 (At g) := ((Keeps.of_below HB0.out.1).trans HK1.out).trans (((Keeps.of_below HBA.out).trans (Keeps.of_below (bd1 (Below.refl _ _)))).trans (hK3.trans hK4))
 have HBOX := Asd.mk hbox
 have HRES := Asd.mk hres
 have HKW := Asd.mk hKW
 have HR4 := Asd.mk hR4
 have hll1 := sizeT_len l1
 have HSM := Asd.mk (some_calls hR4 m HMN.out.1 (by have := HZ.out; omega))
 rw [HSA.out] at HSM
 generalize W1.heap.size = bx at HBOX hxg hsz1 hk1s hkas HBX HBA ⊢
 have HBL := Asd.mk (And.intro hxg (And.intro hsz1 (And.intro hlW hl1)))
 have HNE : Asd (bx ≠ W.heap.size) := ⟨by omega⟩
 have HSL : Asd (∀ k, S k -> k < W.heap.size) := ⟨fun k e => by
  obtain ⟨_, _, _, _, _, _, _, hs⟩ := H.out
  exact (hs k e).2⟩
 clear HBX HBA HTD HT3 HN4 HN5 hR3 hK3 hC3 hR4 hK4 hC4 hbox hres hKW hHeld hA hB c4 c5 hk3s hk4s hkas hk1s HWD HR1 HK1 HRA HTA HB0 HW0 hab hbs hwz hlen hll hll1
 clear hs0 hxg hsz1 hlW hl1 hbg HGA
 go_wp2_with (go_at_call 33; with_reducible refine HSM.out.mono ?_; rintro r w5 ⟨v5, rfl, hr5, hR5, hK5⟩; have HR5 := Asd.mk hr5; have HRD5 := Asd.mk hR5; have HK5 := Asd.mk hK5; obtain ⟨A5, cw5, rfl⟩ := Kd.R_slice hr5; clear hr5 hR5 hK5)
 have hss := some_size m l1 ((e1 || !b1) || !b2)
 rw [HSA.out] at hss
 have HSS : Asd (sizeT sa.1 <= sizeT l /\ sizeT sa.2.1 <= sizeT l /\ sizeT l <= 1000000000) := ⟨by have := HBL.out.2.2.2; omega, by have := HBL.out.2.2.2; omega, HZ.out⟩
 have hmax : sa.1.length <= 9223372036854775807 := by have := sizeT_len sa.1; have := HSS.out; omega
 clear hss HSM
 go_loopg [7, 39] sa.1.length (fun gg s7 s39 wr => ∃ (kk : Nat) (acc : ByteArray), kk <= sa.1.length /\ sa.1.length - kk <= gg /\ s39 = .int .i64 kk /\ s7 = .string acc /\ Asd (joinA acc (sa.1.drop kk) = joinA ⟨#[]⟩ sa.1 /\ acc.size + sizeT (sa.1.drop kk) <= 1000000000) /\ wr = w5)
 case atStart => exact ⟨0, ⟨#[]⟩, Nat.zero_le _, by omega, rfl, rfl, ⟨rfl, by have := HSS.out; show 0 + sizeT sa.1 <= _; omega⟩, rfl⟩
 case round =>
  obtain ⟨kk, acc, hkk, hg, rfl, rfl, ⟨A, hac⟩, rfl⟩ := hrel
  by_cases hlt : kk < sa.1.length
  ·have hltz : (kk : Int) < (sa.1.length : Int) := by omega
   obtain ⟨ad, rfl, hc⟩ := (Kd.reads_of_C (enc := Value.string) (d := ByteArray.empty) (h1 := fun _ => rfl) (Kd.R_reads' HR5.out).2.2).2.2 (by omega)
   have hcell := hc kk hlt
   clear hc
   have hx : sa.1.getD kk ByteArray.empty = sa.1[kk] := by rw [List.getD_eq_getElem?_getD, List.getElem?_eq_getElem hlt]; rfl
   rw [hx] at hcell
   rw [List.drop_eq_getElem_cons hlt] at A hac
   rw [sizeT_cons] at hac
   generalize sa.1[kk] = x at hcell A hac
   have z1 : x.size + 1 <= 9223372036854775807 := by omega
   have z2 : acc.size + x.size + 1 <= 9223372036854775807 := by omega
   have z3 : acc.size + (x.size + 1) <= 9223372036854775807 := by omega
   have z4 : acc.size + (x ++ (⟨#[10]⟩ : ByteArray)).size <= 9223372036854775807 := by rw [ByteArray.size_append]; show acc.size + (x.size + 1) <= _; omega
   have HA := Asd.mk A
   have HAC := Asd.mk hac
   clear A hac hx
   go_wp2
   go_roundg (sa.1.length - (kk + 1))
   case measure => omega
   case rel =>
    refine ⟨kk + 1, _, by omega, by omega, by go_num, rfl, ⟨HA.out, ?_⟩, rfl⟩
    have := HAC.out
    rw [ByteArray.size_append, ByteArray.size_append]
    show acc.size + (x.size + 1) + _ <= _
    omega
  ·obtain rfl : kk = sa.1.length := by omega
   rw [List.drop_length] at A hac
   have A' : acc = joinA ⟨#[]⟩ sa.1 := A
   have hgk := HG.out acc (by rw [A', joinA_size]; show 0 + sizeT sa.1 <= _; have := HSS.out; omega)
   rw [A', HRG.out] at hgk
   rw [<- A'] at hgk
   have HGK := Asd.mk hgk
   clear A A' hac hgk
   cases ir with
   | true =>
    have HBX5 := Asd.mk ((HK5.out.block _ (lt_box HBOX.out) HBL.out.1).trans HBOX.out)
    have HRS5 := Asd.mk ((HK5.out.block _ (lt_box HRES.out) (fun e => by have e2 : W.heap.size = g := e; have := HBL.out.2.2.1; omega)).trans HRES.out)
    have HKW5 := Asd.mk (HKW.out.trans HK5.out)
    have HPB1 : Asd (someF n sa.2.1 sa.2.2 = pb) := ⟨by simpa using HPB.out⟩
    have HNN : Asd (sa.2.1.length <= 1000000000) := ⟨by have := sizeT_len sa.2.1; have := HSS.out.2; omega⟩
    clear HBOX HRES HKW HK5 HR4
    go_wp2_with (first
     | (go_at_call 58; with_reducible refine (refs_Get.calls k acc rl true _ HGK.out).mono ?_; rintro r w6 ⟨v6, rfl, hr6, hb6⟩; obtain ⟨A6, c6, rfl⟩ := Kd.R_slice hr6; have HR6 := Asd.mk hr6; have HB6 := Asd.mk hb6; have HS := Asd.mk (fork_mid (HRD5.out.below hb6) HBL.out.1 HBL.out.2.1 (below_box hb6 HBX5.out) (below_box hb6 HRS5.out) HSL.out HNE.out A6 c6 rl.length); have hsm := some_calls HS.out.1 n HMN.out.2 HNN.out; rw [HPB1.out] at hsm; have HSM := Asd.mk hsm; clear hsm; obtain ⟨k3, f3⟩ := box_cell (below_box hb6 HBX5.out) 3 rfl; clear hr6 hb6)
     | (go_at_call 33; with_reducible refine HSM.out.mono ?_; rintro r w8 ⟨v8, rfl, hr8, hR8, hK8⟩; obtain ⟨A8, c8, rfl⟩ := Kd.R_slice hr8; have HR8 := Asd.mk hr8; have HRD8 := Asd.mk hR8; have HK8 := Asd.mk hK8; have HE := Asd.mk (fork_end HBL.out.1 HBL.out.2.2.1 HNE.out HS.out.2.1 HS.out.2.2 hK8 A8 c8 pb.1.length); obtain ⟨k4, f4⟩ := box_cell HE.out.1 4 rfl; obtain ⟨m0, n0⟩ := box_cell HE.out.2.1 0 rfl; obtain ⟨m1, n1⟩ := box_cell HE.out.2.1 1 rfl; obtain ⟨m2, n2⟩ := box_cell HE.out.2.1 2 rfl; obtain ⟨m3, n3⟩ := box_cell HE.out.2.1 3 rfl; obtain ⟨m4, n4⟩ := box_cell HE.out.2.1 4 rfl; have HX9 := Asd.mk (set5 (.string (nth ws 1)) (.bool ((nth ws 2).toList == [108, 105, 110, 107, 101, 100])) (.string (nth ws 3)) (.slice A6 rl.length c6) (.slice A8 pb.1.length c8) HE.out.2.2); clear hr8 hR8 hK8 k3 f3 n0 n1 n2 n3 n4)
     | ((with_reducible refine gate_store 39 (.tmp 2) (.tmp 67) rfl ?_); refine wpList_store_mid rfl 39 (.tmp 2) (.tmp 67) rfl W.heap.size 0 #[.string (nth ws 1), .bool ((nth ws 2).toList == [108, 105, 110, 107, 101, 100]), .string (nth ws 3), .slice A6 rl.length c6, .slice A8 pb.1.length c8] ?hx ?hy ?ht ?hi ?h1 ?_; (case hx => rfl); (case hy => rfl); (case ht => exact there5 HE.out.2.2); (case hi => kernel_rfl); (case h1 => simp [Value.oneCell'])))
    (try simp only [Exit.inBlock, Exit.then])
    refine bodyPost_ret (results_cell_row rfl _ _ W.heap.size 39 _ (0, 0) _ rfl HX9.out Tryz.underlying39 rfl (by kernel_rfl)) rfl ?_
    have h5l := lt_box HBX5.out
    have h5r := lt_box HRS5.out
    exact ⟨A6, c6, A8, c8, rfl, fork_fin _ HKW5.out HB6.out HBL.out.1 HBL.out.2.1 h5l HBL.out.2.2.1 h5r HSL.out HR6.out ((Keeps.set (Or.inl rfl)).trans (HK8.out.mono (fun _ e => Or.inr e))) (Nat.le_trans HB6.out.size (by simp [World.setCell])) HR8.out HRD8.out _⟩
   | false =>
    have HBX5 := Asd.mk ((HK5.out.block _ (lt_box HBOX.out) HBL.out.1).trans HBOX.out)
    have HRS5 := Asd.mk ((HK5.out.block _ (lt_box HRES.out) (fun e => by have e2 : W.heap.size = g := e; have := HBL.out.2.2.1; omega)).trans HRES.out)
    have HKW5 := Asd.mk (HKW.out.trans HK5.out)
    have HPB1 : Asd (someF n sa.2.1 true = pb) := ⟨by simpa using HPB.out⟩
    have HNN : Asd (sa.2.1.length <= 1000000000) := ⟨by have := sizeT_len sa.2.1; have := HSS.out.2; omega⟩
    clear HBOX HRES HKW HK5 HR4
    go_wp2_with (first
     | (go_at_call 58; with_reducible refine (refs_Get.calls k acc rl false _ HGK.out).mono ?_; rintro r w6 ⟨v6, rfl, hr6, hb6⟩; obtain ⟨A6, c6, rfl⟩ := Kd.R_slice hr6; have HR6 := Asd.mk hr6; have HB6 := Asd.mk hb6; have HFL := Asd.mk (fork_fail (HRD5.out.below hb6) (below_box hb6 HBX5.out) (below_box hb6 HRS5.out) HBL.out.1 HBL.out.2.2.1 ⟨#[114, 101, 102, 115]⟩); have HS := Asd.mk (fork_mid HFL.out.1 HBL.out.1 HBL.out.2.1 HFL.out.2.2.1 HFL.out.2.2.2 HSL.out HNE.out A6 c6 rl.length); have hsm := some_calls HS.out.1 n HMN.out.2 HNN.out; rw [HPB1.out] at hsm; have HSM := Asd.mk hsm; clear hsm; obtain ⟨k3, f3⟩ := box_cell HFL.out.2.2.1 3 rfl; obtain ⟨Ax, cx, vx, kx0, kx1, fx0, fx1, hex, hfx, hcx⟩ := ((HRD5.out.below hb6).below (bal (Below.refl _ _) (.cells #[.string ⟨#[114, 101, 102, 115]⟩] 89))).cells; clear hr6 hb6 kx0 fx0 hex hfx hcx)
     | (go_at_call 33; with_reducible refine HSM.out.mono ?_; rintro r w8 ⟨v8, rfl, hr8, hR8, hK8⟩; obtain ⟨A8, c8, rfl⟩ := Kd.R_slice hr8; have HR8 := Asd.mk hr8; have HRD8 := Asd.mk hR8; have HK8 := Asd.mk hK8; have HE := Asd.mk (fork_end HBL.out.1 HBL.out.2.2.1 HNE.out HS.out.2.1 HS.out.2.2 hK8 A8 c8 pb.1.length); obtain ⟨k4, f4⟩ := box_cell HE.out.1 4 rfl; obtain ⟨m0, n0⟩ := box_cell HE.out.2.1 0 rfl; obtain ⟨m1, n1⟩ := box_cell HE.out.2.1 1 rfl; obtain ⟨m2, n2⟩ := box_cell HE.out.2.1 2 rfl; obtain ⟨m3, n3⟩ := box_cell HE.out.2.1 3 rfl; obtain ⟨m4, n4⟩ := box_cell HE.out.2.1 4 rfl; have HX9 := Asd.mk (set5 (.string (nth ws 1)) (.bool ((nth ws 2).toList == [108, 105, 110, 107, 101, 100])) (.string (nth ws 3)) (.slice A6 rl.length c6) (.slice A8 pb.1.length c8) HE.out.2.2); clear hr8 hR8 hK8 k3 f3 kx1 fx1 n0 n1 n2 n3 n4)
     | ((with_reducible refine gate_store 39 (.tmp 2) (.tmp 67) rfl ?_); refine wpList_store_mid rfl 39 (.tmp 2) (.tmp 67) rfl W.heap.size 0 #[.string (nth ws 1), .bool ((nth ws 2).toList == [108, 105, 110, 107, 101, 100]), .string (nth ws 3), .slice A6 rl.length c6, .slice A8 pb.1.length c8] ?hx ?hy ?ht ?hi ?h1 ?_; (case hx => rfl); (case hy => rfl); (case ht => exact there5 HE.out.2.2); (case hi => kernel_rfl); (case h1 => simp [Value.oneCell'])))
    (try simp only [Exit.inBlock, Exit.then])
    refine bodyPost_ret (results_cell_row rfl _ _ W.heap.size 39 _ (0, 0) _ rfl HX9.out Tryz.underlying39 rfl (by kernel_rfl)) rfl ?_
    have h5l := lt_box HBX5.out
    have h5r := lt_box HRS5.out
    exact ⟨A6, c6, A8, c8, rfl, fork_fin _ HKW5.out HB6.out HBL.out.1 HBL.out.2.1 h5l HBL.out.2.2.1 h5r HSL.out HR6.out (((HFL.out.2.1.mono (own' := fun k => k = bx ∨ k = g) (fun _ e => Or.inr e)).trans (Keeps.set (Or.inl rfl))).trans (HK8.out.mono (fun _ e => Or.inr e))) (Nat.le_trans HB6.out.size (Nat.le_trans HFL.out.2.1.size (by simp [World.setCell]))) HR8.out HRD8.out _⟩
end Go.Proofs.YtlfenakgphmepaaGreatDoor.Root
