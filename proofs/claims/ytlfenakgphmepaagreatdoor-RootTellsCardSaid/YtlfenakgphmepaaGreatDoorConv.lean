/- Bytes out of a text, and out of a constant: one step of a walk each. -/
import Derived.Test.YtlfenakgphmepaaGreatDoorWWords
import Derived.Lib.ConvBytes
import Derived.Lib.SlBytesConst
import Derived.WalkKit
namespace Go.Proofs.YtlfenakgphmepaaGreatDoor.Conv
open Go.RowKit YtlfenakgphmepaaGreatDoorW.PrintWords YtlfenakgphmepaaGreatDoorW.PrintLast YtlfenakgphmepaaGreatDoorW.PrintMore
def conv_bytes.f (s : ByteArray) : Option (List Int) := if s.size <= 9223372036854775807 then some (bytesOf s) else none
def lit_bytes.f (xs : List Int) : Option (List Int) := some xs
theorem C_nums {W : World} {g n : Nat} {xs : List Int} (hn : xs.length = n) (hm : n <= 9223372036854775807) (h : ∀ j, j < n -> W.cell? ⟨g, j, none⟩ = some (.int .u8 (xs.getD j 0))) : (Kd.int .u8).C W (some ⟨g, 0, none⟩) n xs :=
 Kd.C_of_reads (enc := Value.int .u8) (d := (0 : Int)) (h1 := fun _ => rfl) ⟨hn, hm, fun _ => ⟨_, rfl, fun j hj => by rw [add_plain]; exact h j hj⟩⟩
theorem V_of_block {W w1 : World} {g : Nat} {xs : List Int} {cap e : Nat} {ct : Array Value} {t : TypeId} {fr : Nat × Nat} (hg : W.heap.size <= g) (hb : w1.heap[g]? = some (.cells ct t fr)) (hc : ∀ j, j < xs.length -> ct[j]? = some (.int .u8 (xs.getD j 0))) (hcap : xs.length <= cap) (hm : xs.length <= 9223372036854775807) :
  Kd.V (Kd.int .u8) e w1 W.heap.size (fun k_ => W.heap.size <= k_) (.slice (some ⟨g, 0, none⟩) xs.length cap) xs := by
 refine Kd.V_mk hcap (fun W' hW => C_nums rfl hm (fun j hj => ?_))
 have h1 : W'.heap[g]? = some (.cells ct t fr) := (hW g hg (Array.getElem?_eq_some_iff.1 hb).1).trans hb
 rw [cell_of_row W' g j ct t fr h1]
 exact hc j hj
variable {P : Program} {ops : Array Oper} {rest : List Oper} {o o2 : Oper} {a : Act} {Q : Exit -> Act -> World -> Prop} {W : World}
theorem conv_ev (hgd : o.guard = none) {N : Tmp} (_hd : o.dst = some N) (src dst e : TypeId) (x : Operand) (ho : o.op = .convert src dst x) {u : TypeDesc} (hs : P.underlying src = some u) (hd : P.underlying dst = some (.slice e)) (he : P.underlying e = some (.int .u8)) (s : ByteArray) (hx : a.eval x = .string s) {r : List Int} (hf : conv_bytes.f s = some r)
  (h : ∀ v1 w1, Kd.V (Kd.int .u8) e w1 W.heap.size (fun k_ => W.heap.size <= k_) v1 r -> Below W.heap.size W w1 -> wpList P ops Q rest (a.put o.dst v1) w1) : wpList P ops Q (o :: rest) a W := by
 unfold conv_bytes.f at hf
 split at hf
 case isFalse => cases hf
 case isTrue hm =>
 obtain rfl := Option.some.inj hf
 have hrun : (execOp a.eval o).run P W = .ok (.value (.slice (some ⟨W.heap.size, 0, none⟩) s.size (grownCap W s.size 0 e))) (Lib.bytesWorld W e s) := by
  have hc := Lib.run_convert_string_bytes W src dst e s hs hd he
  obtain ⟨ev, hev⟩ : ∃ ev, ev = a.eval := ⟨_, rfl⟩
  rw [<- hev] at hx ⊢
  unfold execOp
  rw [ho]
  simp [hx, hc, go_sem, Result.andThen]
 refine Kd.event_run hgd hrun (h _ _ ?_ (bytes_below (Below.refl _ _) (Nat.le_refl _) e s))
 have hl := bytesOf_length s
 rw [<- hl]
 refine V_of_block (Nat.le_refl _) (Lib.bytesWorld_at_new W e s) (fun j hj => ?_) ?_ (by rw [hl]; exact hm)
 ·rw [hl] at hj
  have h' : j < s.data.toList.length := by rw [data_length]; exact hj
  have h'' : j < s.data.size := hj
  simp [Lib.bytesCells, Array.getElem?_append, hj, h'', bytesOf, List.getD_eq_getElem?_getD, List.getElem?_eq_getElem h']
 ·rw [hl]; exact grownCap_ge W s.size 0 e
theorem lit_ev (hg1 : o.guard = none) {N : Tmp} (_hd : o.dst = some N) (hg2 : o2.guard = none) (t e : TypeId) (xs : List Int)
  (hrun : (execOp a.eval o).run P W = .ok (.value (.slice (some ⟨W.heap.size, 0, none⟩) xs.length xs.length)) (W.alloc (.cells (xs.map (Value.int .u8)).toArray e)))
  (x2 : Operand) (ho2 : o2.op = .convert t t x2) (ht : P.underlying t = some (.slice e)) (he : P.underlying e = some (.int .u8))
  (hx : (a.put o.dst (.slice (some ⟨W.heap.size, 0, none⟩) xs.length xs.length)).eval x2 = .slice (some ⟨W.heap.size, 0, none⟩) xs.length xs.length) (hm : xs.length <= 9223372036854775807) {r : List Int} (hf : lit_bytes.f xs = some r)
  (h : ∀ v1 w1, Kd.V (Kd.int .u8) e w1 W.heap.size (fun k_ => W.heap.size <= k_) v1 r -> Below W.heap.size W w1 -> wpList P ops Q rest ((a.put o.dst v1).put o2.dst v1) w1) : wpList P ops Q (o :: o2 :: rest) a W := by
 obtain rfl := Option.some.inj hf
 refine Kd.event_run hg1 hrun ?_
 have hc := Lib.run_convert_bytes_const (P := P) W t e (xs.map (Value.int .u8)).toArray xs.length xs.length ht he
 have hrun2 : (execOp (a.put o.dst (.slice (some ⟨W.heap.size, 0, none⟩) xs.length xs.length)).eval o2).run P (W.alloc (.cells (xs.map (Value.int .u8)).toArray e)) = .ok (.value (.slice (some ⟨W.heap.size, 0, none⟩) xs.length xs.length)) (W.alloc (.cells (xs.map (Value.int .u8)).toArray e ((xs.map (Value.int .u8)).toArray.size, (xs.map (Value.int .u8)).toArray.size + 1))) := by
  obtain ⟨ev, hev⟩ : ∃ ev, ev = (a.put o.dst (.slice (some ⟨W.heap.size, 0, none⟩) xs.length xs.length)).eval := ⟨_, rfl⟩
  rw [<- hev] at hx ⊢
  unfold execOp
  rw [ho2]
  simp only [hx, Sem.run_bind, Sem.run_map, hc, Result.andThen]
  simp [hx, hc, go_sem, Result.andThen]
 refine Kd.event_run hg2 hrun2 (h _ _ ?_ ((Below.refl _ _).alloc (Nat.le_refl _) _))
 have hbk : (W.alloc (.cells (xs.map (Value.int .u8)).toArray e ((xs.map (Value.int .u8)).toArray.size, (xs.map (Value.int .u8)).toArray.size + 1))).heap[W.heap.size]? = some (.cells (xs.map (Value.int .u8)).toArray e ((xs.map (Value.int .u8)).toArray.size, (xs.map (Value.int .u8)).toArray.size + 1)) := by
  show (W.heap.push _)[W.heap.size]? = _
  exact Array.getElem?_push_size
 refine V_of_block (Nat.le_refl _) hbk (fun j hj => ?_) (Nat.le_refl _) hm
 simp [List.getElem?_eq_getElem hj, List.getD_eq_getElem?_getD]
def bB : Nat -> Nat -> List Bool
 | 0, _ => []
 | n + 1, v => (v % 2 == 1) :: bB n (v / 2)
def bA (n v : Nat) : Array Bool := (bB n v).toArray
theorem zA {α : Type} {l : List α} {i : Nat} {a : α} : l.toArray.setIfInBounds i a = (l.set i a).toArray := List.setIfInBounds_toArray ..
theorem zB {α : Type} {x : α} {xs : List α} {a : α} : (x :: xs).set 0 a = a :: xs := List.set_cons_zero
theorem zC {α : Type} {x : α} {xs : List α} {n : Nat} {a : α} : (x :: xs).set (n + 1) a = x :: xs.set n a := List.set_cons_succ
theorem pz_ {P : Program} {md : Region.Mode} {ops : Array Oper} {Q : Exit -> Act -> World -> Prop} {S : World -> Prop} {ds : List Nat} {oi : Oper} {v : Value} {fuel : Nat} {l : Array Bool} {a a' : Act} {w : World} (i : Nat) (n : Tmp) (l' : Array Bool) (hc : anyB md ops l l' i = true) (h : wpAnyLast P md ops Q S ds fuel l' a' w)
 (hi : ops[i]? = some oi := by rfl) (hN : oi.dst = some n := by rfl) (hQ : ∀ c a w, Q (.panic c) (a.put oi.dst v) w -> Q (.panic c) a w := by exact fun _ _ _ h => h) (hy : Yields P ops oi v a := by exact Or.inl ⟨by rfl, by intro w'; go_simp; with_reducible rfl⟩) (ha : a.put (some n) v = a' := by (simp only [Act.put, zA, zB, zC, i64_w, i32_w]; rfl)) : wpAnyLast P md ops Q S ds (fuel + 1) l a w := pure_ l' hi hN hc hQ hy ha h
theorem py_ {P : Program} {md : Region.Mode} {ops : Array Oper} {Q : Exit -> Act -> World -> Prop} {S : World -> Prop} {ds : List Nat} {oi : Oper} {v : Value} {fuel : Nat} {l : Array Bool} {a a' : Act} {w : World} {T : Bool × List (List Nat × List Nat)} (i : Nat) (n : Tmp) (l' : Array Bool) (hT : rtab md ops = T) (h : wpAnyLast P md ops Q S ds fuel l' a' w)
 (hc : anyT T l.toList l'.toList i = true := by kernel_rfl) (hi : ops[i]? = some oi := by rfl) (hN : oi.dst = some n := by rfl) (hQ : ∀ c a w, Q (.panic c) (a.put oi.dst v) w -> Q (.panic c) a w := by exact fun _ _ _ h => h) (hy : Yields P ops oi v a := by exact Or.inl ⟨by rfl, by intro w'; go_simp; with_reducible rfl⟩) (ha : a.put (some n) v = a' := by (simp only [Act.put, zA, zB, zC, i64_w, i32_w]; rfl)) : wpAnyLast P md ops Q S ds (fuel + 1) l a w := pure_ l' hi hN (qo hT hc) hQ hy ha h
theorem px_ {P : Program} {md : Region.Mode} {ops : Array Oper} {Q : Exit -> Act -> World -> Prop} {S : World -> Prop} {ds : List Nat} {oi : Oper} {fuel : Nat} {l : Array Bool} {a a' : Act} {w : World} (i : Nat) (n : Tmp) (l' : Array Bool) (hc : anyB md ops l l' i = true) (h : wpAnyLast P md ops Q S ds fuel l' a' w)
 (hi : ops[i]? = some oi := by rfl) (hN : oi.dst = some n := by rfl) (hQ : ∀ c a w, Q (.panic c) (a.put oi.dst undef) w -> Q (.panic c) a w := by exact fun _ _ _ h => h) (hy : Yields P ops oi undef a := by exact Or.inr ⟨by rfl, rfl⟩) (ha : a.put (some n) undef = a' := by (simp only [Act.put, zA, zB, zC, i64_w, i32_w]; rfl)) : wpAnyLast P md ops Q S ds (fuel + 1) l a w := pure_ l' hi hN hc hQ hy ha h
theorem tz_ {P : Program} {md : Region.Mode} {ops : Array Oper} {Q : Exit -> Act -> World -> Prop} {S : World -> Prop} {ds : List Nat} {oi : Oper} {v : Value} {fuel : Nat} {l : Array Bool} {a a' : Act} {w : World} (i : Nat) (n : Tmp) (l' : Array Bool) (hc : takeB md ops ds l l' i = true) (hS : S w) (h : wpAnyLast P md ops Q S ds fuel l' a' w)
 (hi : ops[i]? = some oi := by rfl) (hN : oi.dst = some n := by rfl) (hQ : ∀ c a w, Q (.panic c) (a.put oi.dst v) w -> Q (.panic c) a w := by exact fun _ _ _ h => h) (hy : YieldsIf P ops S oi v a := by exact Or.inl ⟨by rfl, by intro w' hS2; (try dsimp only at hS2); go_simp; with_reducible rfl⟩) (ha : a.put (some n) v = a' := by (simp only [Act.put, zA, zB, zC, i64_w, i32_w]; rfl)) : wpAnyLast P md ops Q S ds (fuel + 1) l a w := take_ l' hi hN hc hQ hy hS ha h
theorem nz_ {P : Program} {md : Region.Mode} {ops : Array Oper} {Q : Exit -> Act -> World -> Prop} {S : World -> Prop} {ds : List Nat} {v : Value} {fuel : Nat} {l : Array Bool} {a a' : Act} {w : World} (n : Tmp) (h : wpAnyLast P md ops Q S ds fuel l a' w) (ha : a.put (some n) v = a' := by (simp only [Act.put, zA, zB, zC, i64_w, i32_w]; rfl)) : wpAnyLast P md ops Q S ds fuel l (a.put (some n) v) w := norm_ ha h
theorem pw_ {P : Program} {md : Region.Mode} {ops : Array Oper} {Q : Exit -> Act -> World -> Prop} {S : World -> Prop} {ds : List Nat} {oi : Oper} {fuel : Nat} {l : Array Bool} {a a' : Act} {w : World} {T : Bool × List (List Nat × List Nat)} (i : Nat) (n : Tmp) (l' : Array Bool) (hT : rtab md ops = T) (h : wpAnyLast P md ops Q S ds fuel l' a' w)
 (hc : anyT T l.toList l'.toList i = true := by kernel_rfl) (hi : ops[i]? = some oi := by rfl) (hN : oi.dst = some n := by rfl) (hQ : ∀ c a w, Q (.panic c) (a.put oi.dst undef) w -> Q (.panic c) a w := by exact fun _ _ _ h => h) (hy : Yields P ops oi undef a := by exact Or.inr ⟨by rfl, rfl⟩) (ha : a.put (some n) undef = a' := by (simp only [Act.put, zA, zB, zC, i64_w, i32_w]; rfl)) : wpAnyLast P md ops Q S ds (fuel + 1) l a w := pure_ l' hi hN (qo hT hc) hQ hy ha h
theorem ty_ {P : Program} {md : Region.Mode} {ops : Array Oper} {Q : Exit -> Act -> World -> Prop} {S : World -> Prop} {ds : List Nat} {oi : Oper} {v : Value} {fuel : Nat} {l : Array Bool} {a a' : Act} {w : World} {T : Bool × List (List Nat × List Nat)} {B : List Nat} (i : Nat) (n : Tmp) (l' : Array Bool) (hT : rtab md ops = T) (hB : waitsOk T.2 B = true) (hS : S w) (h : wpAnyLast P md ops Q S ds fuel l' a' w)
 (hc : takeW T B ds l.toList l'.toList i = true := by kernel_rfl) (hi : ops[i]? = some oi := by rfl) (hN : oi.dst = some n := by rfl) (hQ : ∀ c a w, Q (.panic c) (a.put oi.dst v) w -> Q (.panic c) a w := by exact fun _ _ _ h => h) (hy : YieldsIf P ops S oi v a := by exact Or.inl ⟨by rfl, by intro w' hS2; (try dsimp only at hS2); go_simp; with_reducible rfl⟩) (ha : a.put (some n) v = a' := by (simp only [Act.put, zA, zB, zC, i64_w, i32_w]; rfl)) : wpAnyLast P md ops Q S ds (fuel + 1) l a w := take_ l' hi hN (take_ofW hT hB hc) hQ hy hS ha h
theorem oz_ {P : Program} {md : Region.Mode} {ops : Array Oper} {Q : Exit -> Act -> World -> Prop} {S : World -> Prop} {ds : List Nat} {oi : Oper} {fuel : Nat} {l : Array Bool} {a : Act} {w : World} {T : Bool × List (List Nat × List Nat)} (i : Nat) (n : Tmp) (l' : Array Bool) (hT : rtab md ops = T)
 (h : ∀ K : Act -> World -> Prop, Shut (∀ a' w', S w' -> (S w' -> wpAnyLast P md ops Q S ds fuel l' a' w') -> K a' w') -> if Region.wanted oi (yielded ops a.tmps) = true then Oper.wp P oi a w K Q else K (a.put (some n) undef) w) (hc : (readyT T.2 l.toList == [i] && l.toList.set i true == l'.toList) = true := by kernel_rfl) (hi : ops[i]? = some oi := by rfl) (hN : oi.dst = some n := by rfl) (hd : i ∉ ds := by decide) : wpAnyLast P md ops Q S ds (fuel + 1) l a w := one_ l' hi hN (one_of hT hc) hd h
theorem bc {w w2 : World} {g : Nat} {t : TypeId} {cs : Array Value} {v : Value} (h : w.heap[g]? = some (.cells cs t (0, 0))) (i : Nat) (e : cs[i]? = some v := by rfl) (k : w.cell? ⟨g, i, none⟩ = w2.cell? ⟨g, i, none⟩ := by rfl) : w2.cell? ⟨g, i, none⟩ = some v := k.symm.trans ((qc h i).trans e)
theorem hZc {w w1 w2 : World} {a : Addr} {v : Value} (h : Below w.heap.size w w1) (e : w.cell? a = some v) (k : w1.cell? a = w2.cell? a := by rfl) : w2.cell? a = some v := k.symm.trans ((h.cell (World.block_lt_of_cell? w _ e)).trans e)
theorem am {p : Prop} (h : p) : Asd p := ⟨h⟩
theorem dt {p : Prop} [Decidable p] (h : p) : decide p = true := by simp [h]
theorem df {p : Prop} [Decidable p] (h : ¬ p) : decide p = false := by simp [h]
theorem fz {w1 w2 : World} {g p : Nat} {t : TypeId} {cs : Array Value} (h : w1.heap[g]? = some (.cells cs t (0, 0))) (e : g ≠ p) (k : w1.heap[g]? = some (.cells cs t (0, 0)) -> g ≠ p -> w2.heap[g]? = some (.cells cs t (0, 0)) := by intro h e; (repeat (first | (with_reducible first | refine qN ?_ _ | refine qd ?_ | refine qa ?_ _) | refine blk_far ?_ e _)); exact h) : w2.heap[g]? = some (.cells cs t (0, 0)) := k h e
theorem pQ5 {w : World} {g : Nat} {t : TypeId} {x0 x1 x2 x3 x4 y0 y1 y2 y3 y4 : Value} (h : w.heap[g]? = some (.cells #[y0, y1, y2, y3, y4] t (0, 0))) : (((((w.setCell ⟨g, 0, none⟩ x0).setCell ⟨g, 1, none⟩ x1).setCell ⟨g, 2, none⟩ x2).setCell ⟨g, 3, none⟩ x3).setCell ⟨g, 4, none⟩ x4).heap[g]? = some (.cells #[x0, x1, x2, x3, x4] t (0, 0)) := blk_put (blk_put (blk_put (blk_put (blk_put h 0 _ rfl) 1 _ rfl) 2 _ rfl) 3 _ rfl) 4 _ rfl
theorem ey {α : Type} {a b : α} (h : a = b := by first | rfl | (simp [qn, qS] <;> rfl) | (simp [*, qn, qS] <;> rfl)) : a = b := h
theorem bz {B : Nat} {w w1 w2 : World} (h : Below B w w1) (k : Below B w w1 -> Below B w w2 := by intro h; repeat (first | (with_reducible first | exact h | apply bal | apply pbN | apply bd1) | exact h)) : Below B w w2 := k h
theorem bs1 {w w1 w2 : World} {g : Nat} (h : Below w.heap.size w w1) (e : w.heap.size <= g) (k : Below w.heap.size w w1 -> w.heap.size <= g -> Below w.heap.size w w2 := by intro h e; repeat (first | (with_reducible first | exact h | apply bal | apply pbN | apply bd1 | refine below_set ?_ e) | exact h)) : Below w.heap.size w w2 := k h e
theorem bs2 {w w1 w2 : World} {g g2 : Nat} (h : Below w.heap.size w w1) (e : w.heap.size <= g) (f : w.heap.size <= g2) (k : Below w.heap.size w w1 -> w.heap.size <= g -> w.heap.size <= g2 -> Below w.heap.size w w2 := by intro h e f; repeat (first | (with_reducible first | exact h | apply bal | apply pbN | apply bd1 | refine below_set ?_ e | refine below_set ?_ f) | exact h)) : Below w.heap.size w w2 := k h e f
theorem kz {w1 w2 : World} {g : Nat} {o : Obj} (h : w1.heap[g]? = some o) (k : w1.heap[g]? = some o -> w2.heap[g]? = some o := by intro h; (with_reducible repeat (first | refine qN ?_ _ | refine qd ?_ | refine qa ?_ _)); exact h) : w2.heap[g]? = some o := k h
theorem dz {p : Prop} [Decidable p] (h : decide p = true := by first | (with_reducible assumption) | assumption) : p := of_decide_eq_true h
theorem ez {α : Type} {a b : α} (h : a = b := by first | rfl | (simp; done) | (simp [*]; done)) : a = b := h
theorem mz {α : Type} {a b : α} (h : a = b := by (try simp only [List.map_toArray, List.map_cons, List.map_nil]); first | done | rfl | (simp only [List.length_drop, List.length_take]; rfl)) : a = b := h
theorem wz {w w' : World} (h : Drawn0 w w' := by repeat (first | exact Drawn0.refl _ | apply Drawn0.step)) : Drawn0 w w' := h
end Go.Proofs.YtlfenakgphmepaaGreatDoor.Conv
