/- Bytes out of a text, and out of a constant: one step of a walk each. -/
import Derived.Test.YtlfenakgphmepaaGreatDoorWWords
import Derived.Lib.ConvBytes
import Derived.Lib.SlBytesConst
import Derived.WalkKit
namespace Go.Proofs.YtlfenakgphmepaaGreatDoor.Conv
open Go.RowKit Go.Proofs.YtlfenakgphmepaaGreatDoorW.PrintWords Go.Proofs.YtlfenakgphmepaaGreatDoorW.PrintLast Go.Proofs.YtlfenakgphmepaaGreatDoorW.PrintMore
def conv_bytes.f (s : ByteArray) : Option (List Int) := if s.size <= 9223372036854775807 then some (bytesOf s) else none
def lit_bytes.f (xs : List Int) : Option (List Int) := some xs
theorem C_nums {W : World} {g n : Nat} {xs : List Int} (hn : xs.length = n) (hm : n <= 9223372036854775807) (h : ∀ j, j < n -> W.cell? ⟨g, j, none⟩ = some (.int .u8 (xs.getD j 0))) : (Kd.int .u8).C W (some ⟨g, 0, none⟩) n xs :=
 Kd.C_of_reads (enc := Value.int .u8) (d := (0 : Int)) (h1 := fun _ => rfl) ⟨hn, hm, fun _ => ⟨_, rfl, fun j hj => by rw [add_plain]; exact h j hj⟩⟩
theorem V_of_block {W w1 : World} {g : Nat} {xs : List Int} {cap e : Nat} {ct : Array Value} {t : TypeId} {fr : Nat × Nat} (hg : W.heap.size <= g) (hb : w1.heap[g]? = some (.cells ct t fr)) (hc : ∀ j, j < xs.length -> ct[j]? = some (.int .u8 (xs.getD j 0))) (hcap : xs.length <= cap) (hm : xs.length <= 9223372036854775807) :
  Kd.V (Kd.int .u8) e w1 W.heap.size (fun k_ => W.heap.size <= k_) (.slice (some ⟨g, 0, none⟩) xs.length cap) xs := by
 refine Kd.V_mk hcap (fun W' hW => C_nums rfl hm (fun j hj => ?_))
 have h1 : W'.heap[g]? = some (.cells ct t fr) := (hW g hg (Array.getElem?_eq_some_iff.1 hb).1).trans hb
 rw [cell_of_row W' g j ct t fr h1]
 exact hc j hj
variable {P : Program} {ops : Array Oper} {rest : List Oper} {o o2 : Oper} {a : Act} {Q : Exit -> Act -> World -> Prop} {W : World}
theorem conv_ev (hgd : o.guard = none) {N : Tmp} (_hd : o.dst = some N) (src dst e : TypeId) (x : Operand) (ho : o.op = .convert src dst x) {u : TypeDesc} (hs : P.underlying src = some u) (hd : P.underlying dst = some (.slice e)) (he : P.underlying e = some (.int .u8)) (s : ByteArray) (hx : a.eval x = .string s) {r : List Int} (hf : conv_bytes.f s = some r)
  (h : ∀ v1 w1, Kd.V (Kd.int .u8) e w1 W.heap.size (fun k_ => W.heap.size <= k_) v1 r -> Below W.heap.size W w1 -> wpList P ops Q rest (a.put o.dst v1) w1) : wpList P ops Q (o :: rest) a W := by
 unfold conv_bytes.f at hf
 split at hf
 case isFalse => cases hf
 case isTrue hm =>
 obtain rfl := Option.some.inj hf
 have hrun : (execOp a.eval o).run P W = .ok (.value (.slice (some ⟨W.heap.size, 0, none⟩) s.size (grownCap W s.size 0 e))) (Lib.bytesWorld W e s) := by
  have hc := Lib.run_convert_string_bytes W src dst e s hs hd he
  obtain ⟨ev, hev⟩ : ∃ ev, ev = a.eval := ⟨_, rfl⟩
  rw [<- hev] at hx ⊢
  unfold execOp
  rw [ho]
  simp [hx, hc, go_sem, Result.andThen]
 refine Kd.event_run hgd hrun (h _ _ ?_ (bytes_below (Below.refl _ _) (Nat.le_refl _) e s))
 have hl := bytesOf_length s
 rw [<- hl]
 refine V_of_block (Nat.le_refl _) (Lib.bytesWorld_at_new W e s) (fun j hj => ?_) ?_ (by rw [hl]; exact hm)
 ·rw [hl] at hj
  have h' : j < s.data.toList.length := by rw [data_length]; exact hj
  have h'' : j < s.data.size := hj
  simp [Lib.bytesCells, Array.getElem?_append, hj, h'', bytesOf, List.getD_eq_getElem?_getD, List.getElem?_eq_getElem h']
 ·rw [hl]; exact grownCap_ge W s.size 0 e
theorem lit_ev (hg1 : o.guard = none) {N : Tmp} (_hd : o.dst = some N) (hg2 : o2.guard = none) (t e : TypeId) (xs : List Int)
  (hrun : (execOp a.eval o).run P W = .ok (.value (.slice (some ⟨W.heap.size, 0, none⟩) xs.length xs.length)) (W.alloc (.cells (xs.map (Value.int .u8)).toArray e)))
  (x2 : Operand) (ho2 : o2.op = .convert t t x2) (ht : P.underlying t = some (.slice e)) (he : P.underlying e = some (.int .u8))
  (hx : (a.put o.dst (.slice (some ⟨W.heap.size, 0, none⟩) xs.length xs.length)).eval x2 = .slice (some ⟨W.heap.size, 0, none⟩) xs.length xs.length) (hm : xs.length <= 9223372036854775807) {r : List Int} (hf : lit_bytes.f xs = some r)
  (h : ∀ v1 w1, Kd.V (Kd.int .u8) e w1 W.heap.size (fun k_ => W.heap.size <= k_) v1 r -> Below W.heap.size W w1 -> wpList P ops Q rest ((a.put o.dst v1).put o2.dst v1) w1) : wpList P ops Q (o :: o2 :: rest) a W := by
 obtain rfl := Option.some.inj hf
 refine Kd.event_run hg1 hrun ?_
 have hc := Lib.run_convert_bytes_const (P := P) W t e (xs.map (Value.int .u8)).toArray xs.length xs.length ht he
 have hrun2 : (execOp (a.put o.dst (.slice (some ⟨W.heap.size, 0, none⟩) xs.length xs.length)).eval o2).run P (W.alloc (.cells (xs.map (Value.int .u8)).toArray e)) = .ok (.value (.slice (some ⟨W.heap.size, 0, none⟩) xs.length xs.length)) (W.alloc (.cells (xs.map (Value.int .u8)).toArray e ((xs.map (Value.int .u8)).toArray.size, (xs.map (Value.int .u8)).toArray.size + 1))) := by
  obtain ⟨ev, hev⟩ : ∃ ev, ev = (a.put o.dst (.slice (some ⟨W.heap.size, 0, none⟩) xs.length xs.length)).eval := ⟨_, rfl⟩
  rw [<- hev] at hx ⊢
  unfold execOp
  rw [ho2]
  simp only [hx, Sem.run_bind, Sem.run_map, hc, Result.andThen]
  simp [hx, hc, go_sem, Result.andThen]
 refine Kd.event_run hg2 hrun2 (h _ _ ?_ ((Below.refl _ _).alloc (Nat.le_refl _) _))
 have hbk : (W.alloc (.cells (xs.map (Value.int .u8)).toArray e ((xs.map (Value.int .u8)).toArray.size, (xs.map (Value.int .u8)).toArray.size + 1))).heap[W.heap.size]? = some (.cells (xs.map (Value.int .u8)).toArray e ((xs.map (Value.int .u8)).toArray.size, (xs.map (Value.int .u8)).toArray.size + 1)) := by
  show (W.heap.push _)[W.heap.size]? = _
  exact Array.getElem?_push_size
 refine V_of_block (Nat.le_refl _) hbk (fun j hj => ?_) (Nat.le_refl _) hm
 simp [List.getElem?_eq_getElem hj, List.getD_eq_getElem?_getD]
def bB : Nat -> Nat -> List Bool
 | 0, _ => []
 | n + 1, v => (v % 2 == 1) :: bB n (v / 2)
def bA (n v : Nat) : Array Bool := (bB n v).toArray
theorem zA {α : Type} {l : List α} {i : Nat} {a : α} : l.toArray.setIfInBounds i a = (l.set i a).toArray := List.setIfInBounds_toArray ..
theorem zB {α : Type} {x : α} {xs : List α} {a : α} : (x :: xs).set 0 a = a :: xs := List.set_cons_zero
theorem zC {α : Type} {x : α} {xs : List α} {n : Nat} {a : α} : (x :: xs).set (n + 1) a = x :: xs.set n a := List.set_cons_succ
end Go.Proofs.YtlfenakgphmepaaGreatDoor.Conv
