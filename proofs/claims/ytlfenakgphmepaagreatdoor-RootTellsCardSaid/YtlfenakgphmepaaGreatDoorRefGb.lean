/- Parts of the proof. -/
import Derived.Test.YtlfenakgphmepaaGreatDoorRefF
import Derived.Test.YtlfenakgphmepaaGreatDoorRootCall
section
namespace Go.Proofs.YtlfenakgphmepaaGreatDoor.Root
open Go.RowKit YtlfenakgphmepaaGreatDoorW.PrintWords YtlfenakgphmepaaGreatDoorW.PrintLast YtlfenakgphmepaaGreatDoorW.PrintMore Print Build YtlfenakgphmepaaGreatDoor.Conv
set_option linter.unusedVariables false
set_option linter.unusedSimpArgs false
structure Lq (W : World) (x p0 p1 : Nat) (n0 : Int) (A5 : Option Addr) (L : List ByteArray) (A8 : Option Addr) (c8 : Nat) (pl : List ByteArray) (w : World) (Af : Option Addr) (cf : Nat) (acc : List Fk) : Prop where
 bel : Below W.heap.size W w
 res : w.heap[W.heap.size]? = some (.cells #[.int .i64 0, .slice none 0 0, .slice none 0 0] 25 (0, 0))
 cell : w.heap[x]? = some (.cells #[.int .i64 n0, .slice A8 pl.length c8, .slice Af acc.length cf] 25 (0, 0))
 ln : Kd.F Kd.string w (fun k => x < k /\ k < p0) A5 L.length L
 pool : Kd.F Kd.string w (fun k => p0 <= k /\ k < p1) A8 pl.length pl
 fk : Kd.R k39 39 w p1 (fun _ => True) (.slice Af acc.length cf) acc
 hp : W.heap.size < x /\ x < p0 /\ p0 <= p1 /\ p1 <= w.heap.size
theorem Lq.below {W w w' : World} {x p0 p1 : Nat} {n0 : Int} {A5 : Option Addr} {L : List ByteArray} {A8 : Option Addr} {c8 : Nat} {pl : List ByteArray} {Af : Option Addr} {cf : Nat} {acc : List Fk} (h : Lq W x p0 p1 n0 A5 L A8 c8 pl w Af cf acc) (hb : Below w.heap.size w w') : Lq W x p0 p1 n0 A5 L A8 c8 pl w' Af cf acc :=
 ⟨qW h.bel hb, qB hb h.res, qB hb h.cell, Kd.F_below h.ln hb, Kd.F_below h.pool hb, Kd.R_below h.fk hb, ⟨h.hp.1, h.hp.2.1, h.hp.2.2.1, Nat.le_trans h.hp.2.2.2 hb.size⟩⟩
theorem Lq.turn {W w w5 : World} {x p0 p1 : Nat} {n0 : Int} {A5 : Option Addr} {L : List ByteArray} {A8 : Option Addr} {c8 : Nat} {pl : List ByteArray} {Af Ag : Option Addr} {cf cg : Nat} {acc : List Fk} {f : Fk} (h : Lq W x p0 p1 n0 A5 L A8 c8 pl w Af cf acc)
  (ho : Kd.R k39 39 w5 p1 (fun _ => True) (.slice Ag (acc ++ [f]).length cg) (acc ++ [f])) (hg : w.grownBy w5 (Value.slice Af acc.length cf).ownBlock) :
  w5.heap[x]? = some (.cells #[.int .i64 n0, .slice A8 pl.length c8, .slice Af acc.length cf] 25 (0, 0)) /\ Lq W x p0 p1 n0 A5 L A8 c8 pl (w5.setCell ⟨x, 2, none⟩ (.slice Ag (acc ++ [f]).length cg)) Ag cg (acc ++ [f]) := by
 have hp := h.hp
 have hown : ∀ k, (Value.slice Af acc.length cf).ownBlock = some k -> p1 <= k := fun k e => ((Kd.R_bound h.fk).1 k e).2.1
 have hKg : Keeps w w5 (fun k => p1 <= k) := Keeps.of_grown hg hown
 have hKx : Keeps w5 (w5.setCell ⟨x, 2, none⟩ (.slice Ag (acc ++ [f]).length cg)) (fun k => k = x) := Keeps.set rfl
 have hx5 := (hKg.block x (lt_box h.cell) (fun e => by have e2 : p1 <= x := e; omega)).trans h.cell
 have hF : ∀ {S : Nat -> Prop} {A : Option Addr} {l : List ByteArray}, (∀ k, S k -> k < p1 /\ k ≠ x) -> Kd.F Kd.string w S A l.length l -> Kd.F Kd.string (w5.setCell ⟨x, 2, none⟩ (.slice Ag (acc ++ [f]).length cg)) S A l.length l := fun hS hF0 =>
  Kd.F_step (Kd.F_step hF0 (fun k e hl => hKg.block k hl (fun e2 => by have e3 : p1 <= k := e2; have := hS k e; omega))) (fun k e hl => hKx.block k hl (fun e2 => (hS k e).2 e2))
 refine ⟨hx5, ?_, ?_, (heap_set_same w5 x 2 _ _ _ hx5).trans rfl, hF (fun k e => ⟨by have := e.2; omega, by have := e.1; omega⟩) h.ln, hF (fun k e => ⟨e.2, by have := e.1; omega⟩) h.pool, R_keepsO ho hKx (fun k e => by have e2 : k = x := e; omega), ⟨hp.1, hp.2.1, hp.2.2.1, Nat.le_trans hp.2.2.2 (Nat.le_trans hKg.size hKx.size)⟩⟩
 ·exact (h.bel.trans (below_keeps hKg h.bel.size (fun k e => by have e2 : p1 <= k := e; omega))).trans (below_keeps hKx (Nat.le_trans h.bel.size hKg.size) (fun k e => by have e2 : k = x := e; omega))
 ·exact (hKx.block _ (Nat.lt_of_lt_of_le (lt_box h.res) hKg.size) (fun e => by have e2 : W.heap.size = x := e; omega)).trans ((hKg.block _ (lt_box h.res) (fun e => by have e2 : p1 <= W.heap.size := e; omega)).trans h.res)
theorem Lq.fin {W w w2 : World} {x p0 p1 : Nat} {n0 : Int} {A5 : Option Addr} {L : List ByteArray} {A8 : Option Addr} {c8 : Nat} {pl : List ByteArray} {Af : Option Addr} {cf : Nat} {acc : List Fk} (h : Lq W x p0 p1 n0 A5 L A8 c8 pl w Af cf acc) (hb : Below w.heap.size w w2) (vs : List Value) :
  Kd.C Kd.string (w2.setCells W.heap.size 0 vs) A8 pl.length pl /\ Kd.C k39 (w2.setCells W.heap.size 0 vs) Af acc.length acc /\ acc.length <= cf := by
 have hp := h.hp
 have hK := keeps_sets (b := W.heap.size) vs 0 w2
 have r := R_keepsO (Kd.R_below h.fk hb) hK (fun k e => by have e2 : k = W.heap.size := e; omega)
 exact ⟨Kd.F_now (Kd.F_step (Kd.F_below h.pool hb) (fun k e hl => hK.block k hl (fun e2 => by have e3 : k = W.heap.size := e2; have := e.1; omega))), (Kd.R_reads' r).2.2, (Kd.R_reads' r).2.1⟩
end Go.Proofs.YtlfenakgphmepaaGreatDoor.Root
end
section
namespace Go.Proofs.YtlfenakgphmepaaGreatDoor.Root
open Go.RowKit YtlfenakgphmepaaGreatDoorW.PrintWords YtlfenakgphmepaaGreatDoorW.PrintLast YtlfenakgphmepaaGreatDoorW.PrintMore Print Build YtlfenakgphmepaaGreatDoor.Conv
set_option linter.unusedVariables false
set_option linter.unusedSimpArgs false
theorem cutL_len {L : List ByteArray} {a n : Nat} (h : a + n <= L.length) : (cutL L a n).length = n := by
 unfold cutL
 rw [List.length_take, List.length_drop]
 omega
theorem cutL_size (L : List ByteArray) (a n : Nat) : sizeT (cutL L a n) <= sizeT L := Nat.le_trans (sizeT_take _ _) (sizeT_drop _ _)
theorem nth_sizeT (L : List ByteArray) (i : Nat) : (nth L i).size <= sizeT L := by
 rcases Nat.lt_or_ge i L.length with h | h
 ·have h2 : nth L i ∈ L := nth_mem h
  have := sizeT_mem h2
  omega
 ·have : nth L i = ByteArray.empty := by
   unfold nth
   rw [List.getD_eq_getElem?_getD, List.getElem?_eq_none h]
   rfl
  rw [this]
  exact Nat.zero_le _
structure Bf (f : Fk) : Prop where
 a0 : f.f0.size <= 20002
 a2 : f.f2.size <= 20002
 n3 : f.f3.length <= 20000
 n4 : f.f4.length <= 20002
 a3 : sizeR f.f3 <= 20002
 a4 : sizeT f.f4 <= 20002
theorem sizeK_bd : ∀ l : List Fk, (∀ f ∈ l, Bf f) -> sizeK l <= 100000 * l.length
 | [], _ => Nat.zero_le _
 | f :: t, h => by
  have a := h f List.mem_cons_self
  have b := sizeK_bd t (fun g hg => h g (List.mem_cons_of_mem _ hg))
  have := a.a0
  have := a.a2
  have := a.a3
  have := a.a4
  show 100 + f.f0.size + f.f2.size + sizeR f.f3 + sizeT f.f4 + sizeK t <= 100000 * (t.length + 1)
  omega
theorem wordsD_size {L : List ByteArray} (h : sizeT L <= 20001) (a i : Nat) : (nth (wordsD L a) i).size <= 20002 := by
 have h1 := nth_sizeT (wordsD L a) i
 have h2 : sizeT (wordsD L a) <= (nth L a).size + 1 := sizeT_cuts 32 _ _ (Nat.le_refl _)
 have h3 := nth_sizeT L a
 omega
theorem joinL_size {L : List ByteArray} (h : sizeT L <= 20001) (a n : Nat) : (joinA ⟨#[]⟩ (cutL L a n)).size <= 20001 := by
 rw [joinA_size]
 have := cutL_size L a n
 show 0 + _ <= _
 omega
theorem Bf_fork {L : List ByteArray} (h : sizeT L <= 20001) (a : Nat) : Bf (forkD L a) := by
 have h1 := wordsD_size h a 1
 have h3 := wordsD_size h a 3
 have hj := joinL_size h (a + 1) (refsN L a)
 have hg := RG_eq _ (show (joinA ⟨#[]⟩ (cutL L (a + 1) (refsN L a))).size <= 1000000 by omega)
 have hc := cutL_size L (a + 1 + refsN L a) (packsN L a)
 have hl := sizeT_len (cutL L (a + 1 + refsN L a) (packsN L a))
 exact ⟨h1, h3, by show (RG _).1.length <= _; omega, by show (cutL _ _ _).length <= _; omega, by show sizeR (RG _).1 <= _; omega, by show sizeT (cutL _ _ _) <= _; omega⟩
theorem cut_str (A : Option Addr) (c : Nat) (L : List ByteArray) (hc : L.length <= c) (a n b : Nat) (hb : b = a + n) (h : b <= L.length) :
  ∃ A2 c2, n <= c2 /\ (∀ W : World, (Instr.slice 22 (.slice A L.length c) (some (.int .i64 (a : Int))) (some (.int .i64 (b : Int))) none).run Tryz.prog W = .ok (.slice A2 n c2) W) /\
   (∀ (W : World) (S : Nat -> Prop), Kd.F Kd.string W S A L.length L -> Kd.F Kd.string W S A2 n (cutL L a n)) := by
 subst hb
 obtain ⟨i, hi, hi2⟩ := Option.map_eq_some_iff.1 info9
 have hsz : i.size = 1 := congrArg (fun x => x.2.1) hi2
 refine ⟨(if c = a then A else A.map (·.add (a * 1))), c - a, by omega, fun W => ?_, fun W S hF => ?_⟩
 ·have := cut_mid (P := Tryz.prog) 22 9 .i64 .i64 Tryz.underlying22 hi 1 hsz A L.length c (a : Int) ((a + n : Nat) : Int) (by omega) (by omega) (by omega) hc W
  rw [Int.toNat_natCast, Int.toNat_natCast, Nat.add_sub_cancel_left] at this
  exact this
 ·have h2 := Kd.F_mid hF (lo := a) (hi := a + n) (by omega) h hc
  have e : (L.take (a + n)).drop a = cutL L a n := by
   unfold cutL
   rw [List.drop_take, Nat.add_sub_cancel_left]
  rw [e, cutL_len h] at h2
  exact h2
theorem forksD_no {L : List ByteArray} {n a : Nat} {acc : List Fk} {fo : Option (List Fk)} (h : forksD L n acc a = fo) (hn : 0 < n) (hk : ¬ forkOk L a) : fo = none := by
 obtain ⟨n, rfl⟩ : ∃ m, n = m + 1 := ⟨n - 1, by omega⟩
 rw [<- h]
 exact if_neg hk
theorem forksD_on {L : List ByteArray} {n a : Nat} {acc : List Fk} {fo : Option (List Fk)} (h : forksD L n acc a = fo) (hn : 0 < n) (hk : forkOk L a) : forksD L (n - 1) (acc ++ [forkD L a]) (a + 1 + refsN L a + packsN L a) = fo := by
 obtain ⟨n, rfl⟩ : ∃ m, n = m + 1 := ⟨n - 1, by omega⟩
 rw [<- h]
 exact (if_pos hk).symm
theorem rsplit_calls (t : ByteArray) (ht : t.size <= 20002) (W : World) : Calls Tryz.prog 36 #[.string t, .int .u8 32] W fun e w' => ∃ v : Value, e = .returned v /\ Kd.R Kd.string 9 w' W.heap.size (fun _ => True) v (cutsF 32 t) /\ Below W.heap.size W w' :=
 sacristyref10_split.calls 2000000000 t 32 _ W (rsplit_eq t 32 (by omega) (by decide))
theorem rdec_calls (t : ByteArray) (n : Int) (b : Bool) (h : decD t = (n, b)) (W : World) : Calls Tryz.prog 38 #[.string t] W fun e w' => e = .returned (.tuple #[.int .i64 n, .bool b]) /\ Below W.heap.size W w' :=
 (sacristyref03_Decimal.calls 2000000000 t n b W (by rw [rdec_eq t (by decide), h])).mono (fun e w' h => ⟨h.1, h.2.below⟩)
theorem rrows_calls (L : List ByteArray) (a n : Nat) (h : a + n <= L.length) (hz : sizeT L <= 20001) (A : Option Addr) (c : Nat) (hc : n <= c) (W : World) (hr : Kd.C Kd.string W A n (cutL L a n)) :
  Calls Tryz.prog 28 #[.slice A n c] W fun e w' => e = .returned (.string (joinA ⟨#[]⟩ (cutL L a n))) /\ Below W.heap.size W w' := by
 have hl := cutL_len h
 have hs := cutL_size L a n
 have := sacristyref10_rows.calls 2000000000 A c (cutL L a n) _ W (by rw [hl]; exact hr) (by rw [hl]; exact hc) (rrows_eq _ (by omega) (by decide))
 rw [hl] at this
 exact this.mono (fun e w' h => ⟨h.1, h.2.below⟩)
theorem rg_calls (t : ByteArray) (ht : t.size <= 20001) (rf : List Rf) (b : Bool) (h : RG t = (rf, b)) (W : World) : Calls Tryz.prog 39 #[.string t] W fun e w' => ∃ A c, e = .returned (.tuple #[.slice A rf.length c, .bool b]) /\ Kd.R k83 83 w' W.heap.size (fun _ => True) (.slice A rf.length c) rf /\ Below W.heap.size W w' := by
 have hg := RG_eq t (by omega)
 rw [h] at hg
 refine (q9_Get.calls 2000000000 t rf b W hg.1).mono ?_
 rintro e w' ⟨v, rfl, hr, hb⟩
 obtain ⟨A, c, rfl⟩ := Kd.R_slice hr
 exact ⟨A, c, rfl, hr, hb⟩
theorem rput_calls (n : Int) (pool : List ByteArray) (forks : List Fk) (hp : pool.length <= 20002) (hz : sizeT pool <= 20002) (hf : ∀ f ∈ forks, Bf f) (hl : forks.length <= 16) (Ap : Option Addr) (cp : Nat) (Af : Option Addr) (cf : Nat) (W : World)
  (hrp : Kd.C Kd.string W Ap pool.length pool) (hcp : pool.length <= cp) (hrf : Kd.C k39 W Af forks.length forks) (hcf : forks.length <= cf) :
  Calls Tryz.prog 8 #[.agg #[.int .i64 n, .slice Ap pool.length cp, .slice Af forks.length cf]] W fun e w' => Below W.heap.size W w' /\
   ((rootF n pool forks = true /\ ∃ A m c, e = .returned (.tuple #[.slice A m c, .bool true]) /\ Kd.C (Kd.int .u8) w' A m (bytesOf (textR n pool forks))) ∨ (rootF n pool forks = false /\ ∃ A m c, e = .returned (.tuple #[.slice A m c, .bool false]))) := by
 have hk := sizeK_bd forks hf
 have he := rput_eq n pool forks (by omega) (fun f h => by have a := hf f h; have := a.a0; have := a.a2; have := a.n3; have := a.n4; omega) (by omega) (fun _ => by omega) (show 1000001000 <= 2000000000 by decide)
 cases hb : rootF n pool forks with
 | true =>
  rw [hb, if_pos rfl] at he
  refine (sacristyref10_Put.calls 2000000000 n Ap cp pool Af cf forks _ _ W hrp hcp hrf hcf he).mono ?_
  rintro e w' ⟨v, rfl, hv, hbl⟩
  obtain ⟨A, c, rfl⟩ := Kd.V_slice hv
  exact ⟨hbl, Or.inl ⟨rfl, A, _, c, rfl, Kd.F_now (Kd.V_F hv)⟩⟩
 | false =>
  rw [hb, if_neg Bool.false_ne_true] at he
  refine (sacristyref10_Put.calls 2000000000 n Ap cp pool Af cf forks _ _ W hrp hcp hrf hcf he).mono ?_
  rintro e w' ⟨v, rfl, hv, hbl⟩
  obtain ⟨A, c, rfl⟩ := Kd.V_slice hv
  exact ⟨hbl, Or.inr ⟨rfl, A, _, c, rfl⟩⟩
theorem fill_ {P : Program} {ops : Array Oper} {Q : Exit -> Act -> World -> Prop} {oi : Oper} {a : Act} {w : World} {K : Act -> World -> Prop} (hw : Region.wanted oi (yielded ops a.tmps) = true) (hN : oi.dst = none) (ty : TypeId) (x y : Operand) (ho : oi.op = .store ty x y)
  (b o : Nat) (cells : Array Value) (hx : a.eval x = .pointer (some ⟨b, o, none⟩)) (hy : a.eval y = .agg cells) (ht : w.there b o cells.size) (hi : (P.info? ty).map (·.size) = some cells.size) (h1 : cells.all (·.oneCell') = true)
  (h : K a (w.setCells b o cells.toList)) : if Region.wanted oi (yielded ops a.tmps) = true then Oper.wp P oi a w K Q else K (a.put none undef) w := by
 rw [if_pos hw]
 refine wp_store_mid ty x y ho b o cells hx hy ht hi h1 ?_
 rw [hN]
 exact h
end Go.Proofs.YtlfenakgphmepaaGreatDoor.Root
end
