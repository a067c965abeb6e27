/- sacristyref02.Name answers a text of 64 digits (whatever the bytes are). -/
import Derived.Test.YtlfenakgphmepaaGreatDoorPrint
namespace Go.Proofs.YtlfenakgphmepaaGreatDoor.NameOf
open Go.RowKit Go.Proofs.YtlfenakgphmepaaGreatDoorW.PrintWords Go.Proofs.YtlfenakgphmepaaGreatDoorW.PrintLast Go.Proofs.YtlfenakgphmepaaGreatDoorW.PrintMore Go.Proofs.YtlfenakgphmepaaGreatDoor.Conv Go.Proofs.YtlfenakgphmepaaGreatDoor.Print
set_option linter.unusedVariables false
set_option linter.unusedSimpArgs false
theorem info5 : (Tryz.prog.info? 5).map (fun i => (i.zero, i.size, i.bytes)) = some (some (.int .u8 0), 1, 1) := by kernel_rfl
def Ints (k : IntKind) (w : World) (b n : Nat) (t : TypeId) : Prop := ∃ (cs : Array Value), w.heap[b]? = some (.cells cs t (0, 0)) /\ cs.size = n /\ ∀ i, i < n -> ∃ x : Int, cs[i]? = some (.int k x) /\ 0 <= x
theorem Ints.cell {k : IntKind} {w : World} {b n : Nat} {t : TypeId} (h : Ints k w b n t) (i : Nat) (hi : i < n) : ∃ x : Int, w.cell? ⟨b, i, none⟩ = some (.int k x) /\ 0 <= x := by
 obtain ⟨cs, hb, _, hx⟩ := h
 obtain ⟨x, h1, h2⟩ := hx i hi
 exact ⟨x, by rw [cell_of_row w b i cs t (0, 0) hb]; exact h1, h2⟩
theorem Ints.frozen {k : IntKind} {w : World} {b n : Nat} {t : TypeId} (h : Ints k w b n t) (i : Nat) : w.frozen? ⟨b, i, none⟩ = false := by
 obtain ⟨cs, hb, _, _⟩ := h
 exact frozen_of_row w b i cs t hb
theorem Ints.zeros {w : World} {b n : Nat} {t : TypeId} {k : IntKind} {cs : Array Value} (hb : w.heap[b]? = some (.cells cs t (0, 0))) (hc : cs = Array.replicate n (.int k 0)) : Ints k w b n t := by
 refine ⟨cs, hb, by rw [hc, Array.size_replicate], fun i hi => ⟨0, ?_, Int.le_refl 0⟩⟩
 rw [hc]; simp [hi]
theorem Ints.of_heap {k : IntKind} {w w' : World} {b n : Nat} {t : TypeId} (h : Ints k w b n t) (e : w'.heap[b]? = w.heap[b]?) : Ints k w' b n t := by
 obtain ⟨cs, hb, r⟩ := h
 exact ⟨cs, e.trans hb, r⟩
theorem Ints.setCell {k : IntKind} {w : World} {b n : Nat} {t : TypeId} (h : Ints k w b n t) (i : Nat) (y : Int) (hy : 0 <= y) : Ints k (w.setCell ⟨b, i, none⟩ (.int k y)) b n t := by
 obtain ⟨cs, hb, hs, hx⟩ := h
 refine ⟨_, heap_setCell_same w b i cs t _ hb, by rw [Array.size_setIfInBounds, hs], fun j hj => ?_⟩
 by_cases e : i = j
 ·subst e
  exact ⟨y, by rw [Array.getElem?_setIfInBounds_self_of_lt (by omega)], hy⟩
 ·rw [Array.getElem?_setIfInBounds_ne e]
  exact hx j hj
theorem Ints.setCell_other {k : IntKind} {w : World} {b b' n : Nat} {t : TypeId} (h : Ints k w b n t) (hne : b ≠ b') (i : Nat) (v : Value) : Ints k (w.setCell ⟨b', i, none⟩ v) b n t :=
 h.of_heap (Below.heap_setCell _ _ _ _ hne)
theorem Ints.drew {k : IntKind} {w : World} {b n : Nat} {t : TypeId} (h : Ints k w b n t) : Ints k w.drew b n t := h
theorem Ints.drewN {k : IntKind} {w : World} {b n : Nat} {t : TypeId} (h : Ints k w b n t) (m : Nat) : Ints k (w.drewN m) b n t := h.of_heap (by simp)
theorem below_row {B g : Nat} {w0 w : World} (hb : Below B w0 w) (hBg : B <= g) (cs : Array Value) : Below B w0 (w.setRow g cs) :=
 hb.trans ⟨rfl, rfl, rfl, by simp [World.setRow], fun k hk => by simp only [World.setRow]; rw [Array.getElem?_modify, if_neg (by omega)]⟩
def IsInts (k : IntKind) (n : Nat) (cs : Array Value) : Prop := cs.size = n /\ ∀ i, i < n -> ∃ x : Int, cs[i]? = some (.int k x) /\ 0 <= x
theorem IsInts.one {k : IntKind} {n : Nat} {cs : Array Value} (h : IsInts k n cs) : cs.all (·.oneCell') = true := by
 rw [Array.all_eq_true]
 intro i hi
 obtain ⟨x, hx, _⟩ := h.2 i (by have := h.1; omega)
 rw [Array.getElem?_eq_getElem hi] at hx
 rw [Option.some.inj hx]; rfl
def turnV (x s : Int) : Int := ((shr .u32 x s) + (shl .u32 x (wrap64 (32 - s)))) % 4294967296
theorem w64' {x : Int} (h0 : -9223372036854775808 <= x) (h1 : x <= 9223372036854775807) : wrap64 x = x := by unfold wrap64; omega
theorem turn_calls (x s : Int) (w : World) (h0 : 0 <= s) (h1 : s <= 32) : Calls Tryz.prog 86 #[.int .u32 x, .int .i64 s] w fun e w' => e = .returned (.int .u32 (turnV x s)) /\ ∃ m, w' = w.drewN m := by
 refine (q2_turn.calls x s _ w ?_).mono fun e w' h => ⟨h.1, h.2.out⟩
 unfold q2_turn.f
 rw [if_pos h0, if_pos (by unfold wrap64; omega)]; rfl
def threeV (a b c : Int) : Int := Go.bits .xor .u32 (Go.bits .xor .u32 a b) c
theorem three_calls (a b c : Int) (w : World) : Calls Tryz.prog 85 #[.int .u32 a, .int .u32 b, .int .u32 c] w fun e w' => e = .returned (.int .u32 (threeV a b c)) /\ ∃ m, w' = w.drewN m :=
 (q2_three.calls a b c _ w rfl).mono fun e w' h => ⟨h.1, h.2.out⟩
set_option maxRecDepth 100000 in
set_option maxHeartbeats 4000000 in
theorem schedule_calls (A : Option Addr) (c : Nat) (bs : List Int) (w : World) (hC : Kd.C (Kd.int .u8) w A bs.length bs) (hl : bs.length = 64) :
  Calls Tryz.prog 84 #[.slice A 64 c] w fun e w' => Below w.heap.size w w' /\ ∃ cs : Array Value, e = .returned (.agg cs) /\ IsInts .u32 64 cs := by
 have HC := Asd.mk hC
 have HL := Asd.mk hl
 clear hC hl
 go_enter Tryz.func84, Tryz.ntmps84
 go_wp2
 generalize hO : Obj.cells _ 123 = O
 have HO : Asd (O = Obj.cells (Array.replicate 64 (.int .u32 0)) 123) := ⟨hO.symm.trans (by kernel_rfl)⟩
 clear hO
 go_loopw [4] (fun v4 wr => ∃ t : Nat, v4 = .int .i64 t /\ Asd (t <= 64) /\ Asd (Ints .u32 wr w.heap.size 64 123) /\ Asd (Ints .u32 wr (w.heap.size + 1) 64 123) /\ Asd (Below w.heap.size w wr)) (fun v4 _ => 64 - (intOf v4).toNat)
 case atStart =>
  refine ⟨0, rfl, ⟨by omega⟩, ⟨Ints.zeros (cs := Array.replicate 64 (.int .u32 0)) ?_ rfl⟩, ⟨Ints.zeros (cs := Array.replicate 64 (.int .u32 0)) ?_ rfl⟩, ⟨by repeat (first | exact Below.refl _ _ | apply bal)⟩⟩
  ·rw [<- HO.out]; exact heap_alloc2_old _ _ _
  ·rw [<- HO.out]; exact heap_alloc2_new _ _ _
 case round =>
  obtain ⟨t, rfl, Ht, HA, HB, HW⟩ := hrel
  by_cases h64 : t < 64
  ·have t1 : decide ((t : Int) < 64) = true := decide_eq_true (by omega)
   by_cases h16 : t < 16
   ·have t2 : decide ((t : Int) < 16) = true := decide_eq_true (by omega)
    go_wp2
    go_loopw [5] (fun v5 w2 => ∃ i : Nat, v5 = .int .i64 i /\ Asd (i <= 4) /\ Asd (Ints .u32 w2 w.heap.size 64 123) /\ Asd (Ints .u32 w2 (w.heap.size + 1) 64 123) /\ Asd (Below w.heap.size w w2)) (fun v5 _ => 4 - (intOf v5).toNat)
    case atStart => exact ⟨0, rfl, ⟨by omega⟩, HA, HB, HW⟩
    case round =>
     clear HA HB HW
     obtain ⟨i, rfl, Hi, HA, HB, HW⟩ := hrel
     by_cases h4 : i < 4
     ·have t3 : decide ((i : Int) < 4) = true := decide_eq_true (by omega)
      obtain ⟨x, hx, hx0⟩ := HB.out.cell t (by omega)
      have hk : 4 * t + i < 64 := by omega
      have hm : IntKind.i64.wrap (4 * (t : Int)) = ((4 * t : Nat) : Int) := by rw [i64_w, w64'] <;> omega
      have hm2 : IntKind.i64.wrap (((4 * t : Nat) : Int) + (i : Int)) = ((4 * t + i : Nat) : Int) := by rw [i64_w, w64'] <;> omega
      obtain ⟨ad, he, hy⟩ := Kd.at_int (Kd.C_below HC.out HW.out) ((4 * t + i : Nat) : Int) (by omega) (by have := HL.out; omega)
      subst he
      rw [Int.toNat_natCast] at hy
      go_upto_region 9 with (fail)
      have hf := HB.out.frozen t
      go_region
      go_wp2
      go_round
      ·exact ⟨i + 1, by simp, ⟨by omega⟩, ⟨(HA.out.drew).setCell_other (by omega) _ _⟩, ⟨HB.out.drew.setCell _ _ (Int.emod_nonneg _ (by decide))⟩, ⟨(bd1 HW.out).setCell (by show _ <= _ + 1; omega) _⟩⟩
      ·simp [intOf]; omega
     ·have t3 : decide ((i : Int) < 4) = false := decide_eq_false (by omega)
      go_wp2
      go_round
      ·exact ⟨t + 1, by simp, ⟨by omega⟩, HA, HB, HW⟩
      ·simp [intOf]; omega
   ·have t2 : decide ((t : Int) < 16) = false := decide_eq_false (by omega)
    have m2 : IntKind.i64.wrap ((t : Int) - 2) = ((t - 2 : Nat) : Int) := by rw [i64_w, w64'] <;> omega
    have m15 : IntKind.i64.wrap ((t : Int) - 15) = ((t - 15 : Nat) : Int) := by rw [i64_w, w64'] <;> omega
    have m7 : IntKind.i64.wrap ((t : Int) - 7) = ((t - 7 : Nat) : Int) := by rw [i64_w, w64'] <;> omega
    have m16 : IntKind.i64.wrap ((t : Int) - 16) = ((t - 16 : Nat) : Int) := by rw [i64_w, w64'] <;> omega
    have b2 : ((t - 2 : Nat) : Int) < 64 := by omega
    have b15 : ((t - 15 : Nat) : Int) < 64 := by omega
    have b7 : ((t - 7 : Nat) : Int) < 64 := by omega
    have b16 : ((t - 16 : Nat) : Int) < 64 := by omega
    obtain ⟨x2, hx2, _⟩ := HB.out.cell (t - 2) (by omega)
    go_upto_region 10 with (fail)
    go_quiet (first | (go_at_call 86; (refine Calls.quiet_of (turn_calls _ _ _ ?_ ?_) <;> decide)) | (go_at_call 85; exact Calls.quiet_of (three_calls _ _ _ _)))
    generalize hW : wr.drewN nq = w3
    replace HA : Asd (Ints .u32 w3 w.heap.size 64 123) := ⟨by rw [<- hW]; exact HA.out.drewN _⟩
    replace HB : Asd (Ints .u32 w3 (w.heap.size + 1) 64 123) := ⟨by rw [<- hW]; exact HB.out.drewN _⟩
    replace HW : Asd (Below w.heap.size w w3) := ⟨by rw [<- hW]; exact pbN HW.out _⟩
    clear hW
    clear hx2
    obtain ⟨x15, hx15, _⟩ := HB.out.cell (t - 15) (by omega)
    go_upto_region 11 with (fail)
    go_quiet (first | (go_at_call 86; (refine Calls.quiet_of (turn_calls _ _ _ ?_ ?_) <;> decide)) | (go_at_call 85; exact Calls.quiet_of (three_calls _ _ _ _)))
    generalize hW : w3.drewN nq = w4
    replace HA : Asd (Ints .u32 w4 w.heap.size 64 123) := ⟨by rw [<- hW]; exact HA.out.drewN _⟩
    replace HB : Asd (Ints .u32 w4 (w.heap.size + 1) 64 123) := ⟨by rw [<- hW]; exact HB.out.drewN _⟩
    replace HW : Asd (Below w.heap.size w w4) := ⟨by rw [<- hW]; exact pbN HW.out _⟩
    clear hW
    clear hx15
    obtain ⟨x7, hx7, _⟩ := HB.out.cell (t - 7) (by omega)
    obtain ⟨x16, hx16, _⟩ := HB.out.cell (t - 16) (by omega)
    obtain ⟨x0, hx0, _⟩ := HB.out.cell t (by omega)
    have hf := HB.out.frozen t
    go_upto_region 12 with (fail)
    go_region
    go_wp2
    go_round
    ·exact ⟨t + 1, by simp, ⟨by omega⟩, ⟨HA.out.drew.setCell_other (by omega) _ _⟩, ⟨HB.out.drew.setCell _ _ (Int.emod_nonneg _ (by decide))⟩, ⟨(bd1 HW.out).setCell (by show _ <= _ + 1; omega) _⟩⟩
    ·simp [intOf]; omega
  ·have t1 : decide ((t : Int) < 64) = false := decide_eq_false (by omega)
   clear t1
   go_upto_region 13 with (fail)
   obtain ⟨cs, hcs, hsz, hel⟩ := HB.out
   obtain ⟨cs0, hcs0, hsz0, _⟩ := HA.out
   have HE := Asd.mk hel
   clear hel
   have hone : cs.all (·.oneCell') = true := by
    rw [Array.all_eq_true]
    intro i hi
    obtain ⟨x, hx, _⟩ := HE.out i (by omega)
    rw [Array.getElem?_eq_getElem hi] at hx
    rw [Option.some.inj hx]; rfl
   go_wp2_with (first | (refine wpList_load_row rfl 123 (.tmp 3) rfl (w.heap.size + 1) rfl 123 cs (0, 0) _ hcs Tryz.underlying123 rfl (by rw [hsz]; kernel_rfl) ?_) | (refine wpList_store_row rfl 123 (.tmp 2) (.tmp 80) rfl w.heap.size cs rfl rfl 123 cs0 hcs0 (by rw [hsz]; kernel_rfl) (by omega) hone ?_))
   have hh : (wr.setRow w.heap.size cs).heap[w.heap.size]? = some (.cells cs 123 (0, 0)) := setRow_heap _ _ _ _ _ _ hcs0
   refine bodyPost_ret (v := .agg cs) (results_cell_row rfl _ _ w.heap.size 123 cs (0, 0) _ rfl hh Tryz.underlying123 rfl (by rw [hsz]; kernel_rfl)) ?_ ?_
   ·rfl
   ·exact ⟨below_row HW.out (Nat.le_refl _) _, cs, rfl, hsz, HE.out⟩
def isInt (k : IntKind) (v : Value) : Bool := match v with | .int k' x => decide (k' = k) && decide (0 <= x) | _ => false
theorem isInt_eq {k : IntKind} {v : Value} (h : isInt k v = true) : ∃ x : Int, v = .int k x /\ 0 <= x := by
 unfold isInt at h
 split at h
 ·rw [Bool.and_eq_true] at h
  have e := of_decide_eq_true h.1
  subst e
  exact ⟨_, rfl, of_decide_eq_true h.2⟩
 ·exact absurd h (by simp)
theorem IsInts.of_check {k : IntKind} {n : Nat} {cs : Array Value} (hs : cs.size = n) (h : cs.toList.all (isInt k) = true) : IsInts k n cs := by
 refine ⟨hs, fun i hi => ?_⟩
 have hlt : i < cs.size := by omega
 have := List.all_eq_true.1 h cs[i] (by simp)
 obtain ⟨x, hx, h0⟩ := isInt_eq this
 exact ⟨x, by rw [Array.getElem?_eq_getElem hlt, hx], h0⟩
set_option maxRecDepth 100000 in
set_option maxHeartbeats 4000000 in
theorem rounds_calls (w : World) :
  Calls Tryz.prog 83 #[] w fun e w' => Below w.heap.size w w' /\ ∃ cs : Array Value, e = .returned (.agg cs) /\ IsInts .u32 64 cs := by
 go_enter Tryz.func83, Tryz.ntmps83
 go_upto_region 1 with (fail)
 generalize hO : Obj.cells _ 121 = O
 obtain ⟨cs0, rfl, h0⟩ : ∃ cs0 : Array Value, O = Obj.cells cs0 121 /\ cs0.size = 64 := ⟨_, hO.symm, by kernel_rfl⟩
 clear hO
 have hold : (w.alloc (Obj.cells cs0 121)).heap[w.heap.size]? = some (.cells cs0 121 (0, 0)) := heap_alloc_new _ _
 go_wp2_with (first | (refine wpList_store_row rfl 121 (.tmp 0) (.tmp 9) rfl w.heap.size _ rfl rfl 121 cs0 hold ?hi ?ho ?h1 ?_))
 case hi => kernel_rfl
 case ho => exact h0.trans (by kernel_rfl)
 case h1 => kernel_rfl
 refine bodyPost_ret (results_cell_row rfl _ _ w.heap.size 121 _ (0, 0) _ rfl (setRow_heap _ _ _ _ _ _ hold) Tryz.underlying121 rfl (by kernel_rfl)) rfl ?_
 exact ⟨below_row (bal (Below.refl _ _) _) (Nat.le_refl _) _, _, rfl, IsInts.of_check (by kernel_rfl) (by kernel_rfl)⟩
theorem Ints.of_setRow {k : IntKind} {W : World} {b n : Nat} {t : TypeId} {old cs : Array Value} (hb : W.heap[b]? = some (.cells old t (0, 0))) (h : IsInts k n cs) : Ints k (W.setRow b cs) b n t :=
 ⟨cs, setRow_heap _ _ _ _ _ _ hb, h.1, h.2⟩
theorem Ints.of_cells {k : IntKind} {W : World} {b n : Nat} {t : TypeId} {cs : Array Value} (hb : W.heap[b]? = some (.cells cs t (0, 0))) (h : IsInts k n cs) : Ints k W b n t := ⟨cs, hb, h.1, h.2⟩
theorem Ints.setRow_other {k : IntKind} {W : World} {b b' n : Nat} {t : TypeId} {cs : Array Value} (h : Ints k W b n t) (e : b' ≠ b) : Ints k (W.setRow b' cs) b n t :=
 h.of_heap (by simp only [World.setRow]; rw [Array.getElem?_modify, if_neg e])
theorem Ints.lt {k : IntKind} {W : World} {b n : Nat} {t : TypeId} (h : Ints k W b n t) : b < W.heap.size := by
 obtain ⟨cs, hb, _⟩ := h
 exact (Array.getElem?_eq_some_iff.1 hb).1
theorem Ints.below {k : IntKind} {W W' : World} {b n B : Nat} {t : TypeId} (h : Ints k W b n t) (hb : Below B W W') (e : b < B) : Ints k W' b n t := h.of_heap (hb.block b e)
theorem Ints.alloc {k : IntKind} {W : World} {b n : Nat} {t : TypeId} (h : Ints k W b n t) (o : Obj) : Ints k (W.alloc o) b n t := h.of_heap (Below.heap_alloc _ _ _ h.lt)
theorem sz_alloc (w : World) (o : Obj) : (w.alloc o).heap.size = w.heap.size + 1 := by show (w.heap.push o).size = _; exact Array.size_push _
theorem sz_row (w : World) (g : Nat) (cs : Array Value) : (w.setRow g cs).heap.size = w.heap.size := by simp only [World.setRow, Array.size_modify]
theorem Ints.get {k : IntKind} {W : World} {b n : Nat} {t : TypeId} (h : Ints k W b n t) : ∃ cs, W.heap[b]? = some (.cells cs t (0, 0)) /\ IsInts k n cs := by
 obtain ⟨cs, hb, r⟩ := h
 exact ⟨cs, hb, r⟩
set_option maxRecDepth 100000 in
set_option maxHeartbeats 4000000 in
theorem block_calls (A : Option Addr) (c : Nat) (bs : List Int) (hcs : Array Value) (w : World) (hh : IsInts .u32 8 hcs) (hC : Kd.C (Kd.int .u8) w A bs.length bs) (hl : bs.length = 64) :
  Calls Tryz.prog 68 #[.agg hcs, .slice A 64 c] w fun e w' => Below w.heap.size w w' /\ ∃ cs : Array Value, e = .returned (.agg cs) /\ IsInts .u32 8 cs := by
 have HC := Asd.mk hC
 have HL := Asd.mk hl
 have HH := Asd.mk hh
 clear hC hl hh
 go_enter Tryz.func68, Tryz.ntmps68
 go_upto_region 1 with (fail)
 obtain ⟨W0, hW0⟩ : ∃ W0, W0 = (w.alloc (Obj.cells hcs 100)).alloc (Obj.cells #[.int .u32 0, .int .u32 0, .int .u32 0, .int .u32 0, .int .u32 0, .int .u32 0, .int .u32 0, .int .u32 0] 100) := ⟨_, rfl⟩
 rw [<- hW0]
 have H2 : Asd (Ints .u32 W0 w.heap.size 8 100) := ⟨by rw [hW0]; exact Ints.of_cells (heap_alloc2_old _ _ _) HH.out⟩
 have H4 : Asd (Ints .u32 W0 (w.heap.size + 1) 8 100) := ⟨by rw [hW0]; exact Ints.of_cells (heap_alloc2_new _ _ _) (IsInts.of_check rfl (by kernel_rfl))⟩
 have HB : Asd (Below w.heap.size w W0) := ⟨by rw [hW0]; exact bal (bal (Below.refl _ _) _) _⟩
 have HS : Asd (W0.heap.size = w.heap.size + 2) := ⟨by rw [hW0, sz_alloc, sz_alloc]⟩
 clear hW0
 go_upto_region 2 with (first | (go_at_call 83; refine (rounds_calls _).mono ?_; rintro e W1 ⟨hb1, c1, rfl, hc1⟩; have HB1 := Asd.mk hb1; have HC1 := Asd.mk hc1; clear hb1 hc1) | (refine wpList_store_row rfl 121 (.tmp 5) (.tmp 15) rfl W1.heap.size c1 rfl rfl 121 _ (heap_alloc_new _ _) (by rw [HC1.out.1]; kernel_rfl) (by rw [HC1.out.1]; kernel_rfl) HC1.out.one ?_))
 generalize hW2 : World.setRow _ _ c1 = W2
 have z1 : W0.heap.size <= W1.heap.size := HB1.out.size
 have H5 : Asd (Ints .u32 W2 W1.heap.size 64 121) := ⟨by rw [<- hW2]; exact Ints.of_setRow (heap_alloc_new _ _) HC1.out⟩
 replace H2 : Asd (Ints .u32 W2 w.heap.size 8 100) := ⟨by rw [<- hW2]; exact ((H2.out.below HB1.out (by have := HS.out; omega)).alloc _).setRow_other (by have := HS.out; omega)⟩
 replace H4 : Asd (Ints .u32 W2 (w.heap.size + 1) 8 100) := ⟨by rw [<- hW2]; exact ((H4.out.below HB1.out (by have := HS.out; omega)).alloc _).setRow_other (by have := HS.out; omega)⟩
 replace HB : Asd (Below w.heap.size w W2) := ⟨by rw [<- hW2]; exact below_row (bal (HB.out.trans (HB1.out.mono (by have := HS.out; omega))) _) (by have := HS.out; omega) _⟩
 have HZ : Asd (W2.heap.size = W1.heap.size + 1 /\ w.heap.size + 2 <= W1.heap.size) := ⟨by rw [<- hW2]; exact ⟨by rw [sz_row, sz_alloc], by have := HS.out; omega⟩⟩
 clear hW2 z1 HB1 HS
 generalize hb5 : W1.heap.size = b5 at *
 have hcall := fun W (h : Below w.heap.size w W) => schedule_calls A c bs W (Kd.C_below HC.out h) HL.out
 have HSC := Asd.mk hcall
 clear hcall
 go_upto_region 3 with (first | (go_at_call 84; refine (HSC.out _ HB.out).mono ?_; rintro e W3 ⟨hb1, c1, rfl, hc1⟩; have HB1 := Asd.mk hb1; have HC1 := Asd.mk hc1; clear hb1 hc1) | (refine wpList_store_row rfl 123 (.tmp 6) (.tmp 17) rfl W3.heap.size c1 rfl rfl 123 _ (heap_alloc_new _ _) (by rw [HC1.out.1]; kernel_rfl) (by rw [HC1.out.1]; kernel_rfl) HC1.out.one ?_))
 generalize hW2 : World.setRow _ _ c1 = W4
 have z1 : W2.heap.size <= W3.heap.size := HB1.out.size
 have zz := HZ.out
 have H6 : Asd (Ints .u32 W4 W3.heap.size 64 123) := ⟨by rw [<- hW2]; exact Ints.of_setRow (heap_alloc_new _ _) HC1.out⟩
 replace H2 : Asd (Ints .u32 W4 w.heap.size 8 100) := ⟨by rw [<- hW2]; exact ((H2.out.below HB1.out (by omega)).alloc _).setRow_other (by omega)⟩
 replace H4 : Asd (Ints .u32 W4 (w.heap.size + 1) 8 100) := ⟨by rw [<- hW2]; exact ((H4.out.below HB1.out (by omega)).alloc _).setRow_other (by omega)⟩
 replace H5 : Asd (Ints .u32 W4 b5 64 121) := ⟨by rw [<- hW2]; exact ((H5.out.below HB1.out (by omega)).alloc _).setRow_other (by omega)⟩
 replace HB : Asd (Below w.heap.size w W4) := ⟨by rw [<- hW2]; exact below_row (bal (HB.out.trans (HB1.out.mono (by omega))) _) (by omega) _⟩
 replace HZ : Asd (W4.heap.size = W3.heap.size + 1 /\ w.heap.size + 2 <= b5 /\ b5 < W3.heap.size) := ⟨by rw [<- hW2]; exact ⟨by rw [sz_row, sz_alloc], by omega, by omega⟩⟩
 clear hW2 z1 zz HB1
 generalize hb6 : W3.heap.size = b6 at *
 obtain ⟨cs2, hcs2, hi2⟩ := H2.out.get
 have HI2 := Asd.mk hi2
 clear hi2
 go_upto_region 4 with (first | (refine wpList_load_row rfl 100 (.tmp 2) rfl w.heap.size rfl 100 cs2 (0, 0) _ hcs2 Tryz.underlying100 rfl (by rw [HI2.out.1]; kernel_rfl) ?_) | (refine wpList_store_row rfl 100 (.tmp 7) (.tmp 18) rfl W4.heap.size cs2 rfl rfl 100 _ (heap_alloc_new _ _) (by rw [HI2.out.1]; kernel_rfl) (by rw [HI2.out.1]; kernel_rfl) HI2.out.one ?_))
 generalize hW2 : World.setRow _ _ cs2 = W5
 have zz := HZ.out
 have H7 : Asd (Ints .u32 W5 W4.heap.size 8 100) := ⟨by rw [<- hW2]; exact Ints.of_setRow (heap_alloc_new _ _) HI2.out⟩
 replace H2 : Asd (Ints .u32 W5 w.heap.size 8 100) := ⟨by rw [<- hW2]; exact (H2.out.alloc _).setRow_other (by omega)⟩
 replace H4 : Asd (Ints .u32 W5 (w.heap.size + 1) 8 100) := ⟨by rw [<- hW2]; exact (H4.out.alloc _).setRow_other (by omega)⟩
 replace H5 : Asd (Ints .u32 W5 b5 64 121) := ⟨by rw [<- hW2]; exact (H5.out.alloc _).setRow_other (by omega)⟩
 replace H6 : Asd (Ints .u32 W5 b6 64 123) := ⟨by rw [<- hW2]; exact (H6.out.alloc _).setRow_other (by omega)⟩
 replace HB : Asd (Below w.heap.size w W5) := ⟨by rw [<- hW2]; exact below_row (bal HB.out _) (by omega) _⟩
 replace HZ : Asd (w.heap.size + 2 <= b5 /\ b5 < b6 /\ b6 < W4.heap.size) := ⟨by omega⟩
 clear hW2 zz hcs2 HI2 hb5 hb6
 generalize W4.heap.size = b7 at *
 go_upto_region 5 with (fail)
 go_loopw [8] (fun v8 wr => ∃ t : Nat, v8 = .int .i64 t /\ Asd (t <= 64) /\ Asd (Ints .u32 wr w.heap.size 8 100) /\ Asd (Ints .u32 wr (w.heap.size + 1) 8 100) /\ Asd (Ints .u32 wr b5 64 121) /\ Asd (Ints .u32 wr b6 64 123) /\ Asd (Ints .u32 wr b7 8 100) /\ Asd (Below w.heap.size w wr)) (fun v8 _ => 64 - (intOf v8).toNat)
 case atStart => exact ⟨0, rfl, ⟨by omega⟩, H2, H4, H5, H6, H7, HB⟩
 case round =>
  clear H2 H4 H5 H6 H7 HB
  obtain ⟨t, rfl, Ht, H2, H4, H5, H6, H7, HB⟩ := hrel
  by_cases h64 : t < 64
  ·have t1 : decide ((t : Int) < 64) = true := decide_eq_true (by omega)
   obtain ⟨y0, hy0, _⟩ := H7.out.cell 0 (by omega)
   obtain ⟨y1, hy1, _⟩ := H7.out.cell 1 (by omega)
   obtain ⟨y2, hy2, _⟩ := H7.out.cell 2 (by omega)
   obtain ⟨y3, hy3, _⟩ := H7.out.cell 3 (by omega)
   obtain ⟨y4, hy4, _⟩ := H7.out.cell 4 (by omega)
   obtain ⟨y5, hy5, _⟩ := H7.out.cell 5 (by omega)
   obtain ⟨y6, hy6, _⟩ := H7.out.cell 6 (by omega)
   obtain ⟨y7, hy7, _⟩ := H7.out.cell 7 (by omega)
   obtain ⟨q, hq⟩ : ∃ q : Nat, q = t / 8 := ⟨_, rfl⟩
   obtain ⟨r, hr⟩ : ∃ r : Nat, r = t % 8 := ⟨_, rfl⟩
   have q8 : (q : Int) < 8 := by omega
   have r8 : (r : Int) < 8 := by omega
   have e8 : IntKind.i64.wrap ((t : Int) / 8) = (q : Int) := by rw [i64_w, w64'] <;> omega
   have e9 : ((t : Int)).tmod 8 = (r : Int) := by rw [Int.tmod_eq_emod_of_nonneg (by omega)]; omega
   clear hq hr
   obtain ⟨kx, hkx, _⟩ := H5.out.cell (q * 8 + r) (by omega)
   obtain ⟨wx, hwx, _⟩ := H6.out.cell t (by omega)
   go_upto_region 9 with (fail)
   go_quiet (first | (go_at_call 86; (refine Calls.quiet_of (turn_calls _ _ _ ?_ ?_) <;> decide)) | (go_at_call 85; exact Calls.quiet_of (three_calls _ _ _ _)))
   generalize hW : wr.drewN nq = w3
   replace H2 : Asd (Ints .u32 w3 w.heap.size 8 100) := ⟨by rw [<- hW]; exact H2.out.drewN _⟩
   replace H4 : Asd (Ints .u32 w3 (w.heap.size + 1) 8 100) := ⟨by rw [<- hW]; exact H4.out.drewN _⟩
   replace H5 : Asd (Ints .u32 w3 b5 64 121) := ⟨by rw [<- hW]; exact H5.out.drewN _⟩
   replace H6 : Asd (Ints .u32 w3 b6 64 123) := ⟨by rw [<- hW]; exact H6.out.drewN _⟩
   replace H7 : Asd (Ints .u32 w3 b7 8 100) := ⟨by rw [<- hW]; exact H7.out.drewN _⟩
   replace HB : Asd (Below w.heap.size w w3) := ⟨by rw [<- hW]; exact pbN HB.out _⟩
   clear hW
   clear hy0 hy1 hy2 hy3 hy4 hy5 hy6 hy7 hkx hwx
   obtain ⟨z0, hz0, _⟩ := H7.out.cell 0 (by omega)
   go_upto_region 10 with (fail)
   go_quiet (first | (go_at_call 86; (refine Calls.quiet_of (turn_calls _ _ _ ?_ ?_) <;> decide)) | (go_at_call 85; exact Calls.quiet_of (three_calls _ _ _ _)))
   generalize hW : w3.drewN nq = w4
   replace H2 : Asd (Ints .u32 w4 w.heap.size 8 100) := ⟨by rw [<- hW]; exact H2.out.drewN _⟩
   replace H4 : Asd (Ints .u32 w4 (w.heap.size + 1) 8 100) := ⟨by rw [<- hW]; exact H4.out.drewN _⟩
   replace H5 : Asd (Ints .u32 w4 b5 64 121) := ⟨by rw [<- hW]; exact H5.out.drewN _⟩
   replace H6 : Asd (Ints .u32 w4 b6 64 123) := ⟨by rw [<- hW]; exact H6.out.drewN _⟩
   replace H7 : Asd (Ints .u32 w4 b7 8 100) := ⟨by rw [<- hW]; exact H7.out.drewN _⟩
   replace HB : Asd (Below w.heap.size w w4) := ⟨by rw [<- hW]; exact pbN HB.out _⟩
   clear hW
   clear hz0
   go_upto_region 12 with (fail)
   go_loopw [13] (fun v13 wr => ∃ i : Nat, v13 = .int .i64 i /\ Asd (i <= 7) /\ Asd (Ints .u32 wr w.heap.size 8 100) /\ Asd (Ints .u32 wr (w.heap.size + 1) 8 100) /\ Asd (Ints .u32 wr b5 64 121) /\ Asd (Ints .u32 wr b6 64 123) /\ Asd (Ints .u32 wr b7 8 100) /\ Asd (Below w.heap.size w wr)) (fun v13 _ => (intOf v13).toNat)
   case atStart => exact ⟨7, rfl, ⟨by omega⟩, H2, H4, H5, H6, H7, HB⟩
   case round =>
    clear H2 H4 H5 H6 H7 HB
    obtain ⟨i, rfl, Hi, H2, H4, H5, H6, H7, HB⟩ := hrel
    by_cases h0 : 0 < i
    ·have t2 : decide ((i : Int) > 0) = true := decide_eq_true (by omega)
     have t3 : decide ((0 : Int) < (i : Int)) = true := decide_eq_true (by omega)
     have t4 : decide (0 < i) = true := decide_eq_true (by omega)
     have hi7 := Hi.out
     have m1 : IntKind.i64.wrap ((i : Int) - 1) = ((i - 1 : Nat) : Int) := by rw [i64_w, w64'] <;> omega
     obtain ⟨x, hx, hx0⟩ := H7.out.cell i (by omega)
     obtain ⟨y, hy, hy0⟩ := H7.out.cell (i - 1) (by omega)
     have hf := H7.out.frozen i
     have bi : (i : Int) < 8 := by omega
     have bi1 : ((i - 1 : Nat) : Int) < 8 := by omega
     go_wp2
     go_round
     ·exact ⟨i - 1, rfl, ⟨by omega⟩, ⟨H2.out.setCell_other (by have := HZ.out; omega) _ _⟩, ⟨H4.out.setCell_other (by have := HZ.out; omega) _ _⟩, ⟨H5.out.setCell_other (by have := HZ.out; omega) _ _⟩, ⟨H6.out.setCell_other (by have := HZ.out; omega) _ _⟩, ⟨H7.out.setCell _ _ hy0⟩, ⟨HB.out.setCell (by have := HZ.out; show _ <= b7; omega) _⟩⟩
     ·simp only [intOf, Int.toNat_natCast]; omega
    ·have t2 : decide ((i : Int) > 0) = false := decide_eq_false (by omega)
     have t3 : decide ((0 : Int) < (i : Int)) = false := decide_eq_false (by omega)
     have t4 : decide (0 < i) = false := decide_eq_false (by omega)
     obtain ⟨y, hy, hy0⟩ := H7.out.cell 4 (by omega)
     have hf := H7.out.frozen 4
     go_upto_region 16 with (fail)
     generalize hW : World.setCell _ _ _ = w5
     replace H2 : Asd (Ints .u32 w5 w.heap.size 8 100) := ⟨by rw [<- hW]; exact H2.out.setCell_other (by have := HZ.out; omega) _ _⟩
     replace H4 : Asd (Ints .u32 w5 (w.heap.size + 1) 8 100) := ⟨by rw [<- hW]; exact H4.out.setCell_other (by have := HZ.out; omega) _ _⟩
     replace H5 : Asd (Ints .u32 w5 b5 64 121) := ⟨by rw [<- hW]; exact H5.out.setCell_other (by have := HZ.out; omega) _ _⟩
     replace H6 : Asd (Ints .u32 w5 b6 64 123) := ⟨by rw [<- hW]; exact H6.out.setCell_other (by have := HZ.out; omega) _ _⟩
     replace H7 : Asd (Ints .u32 w5 b7 8 100) := ⟨by rw [<- hW]; exact H7.out.setCell _ _ (Int.emod_nonneg _ (by decide))⟩
     replace HB : Asd (Below w.heap.size w w5) := ⟨by rw [<- hW]; exact HB.out.setCell (by have := HZ.out; show _ <= b7; omega) _⟩
     clear hW hy hf hy0
     obtain ⟨y2, hy2, _⟩ := H7.out.cell 0 (by omega)
     have hf := H7.out.frozen 0
     go_wp2
     go_round
     ·exact ⟨t + 1, by simp, ⟨by omega⟩, ⟨H2.out.setCell_other (by have := HZ.out; omega) _ _⟩, ⟨H4.out.setCell_other (by have := HZ.out; omega) _ _⟩, ⟨H5.out.setCell_other (by have := HZ.out; omega) _ _⟩, ⟨H6.out.setCell_other (by have := HZ.out; omega) _ _⟩, ⟨H7.out.setCell _ _ (Int.emod_nonneg _ (by decide))⟩, ⟨HB.out.setCell (by have := HZ.out; show _ <= b7; omega) _⟩⟩
     ·simp [intOf]; omega
  ·have t1 : decide ((t : Int) < 64) = false := decide_eq_false (by omega)
   go_upto_region 18 with (fail)
   clear t1
   go_loopw [14] (fun v14 wr => ∃ i : Nat, v14 = .int .i64 i /\ Asd (i <= 8) /\ Asd (Ints .u32 wr w.heap.size 8 100) /\ Asd (Ints .u32 wr (w.heap.size + 1) 8 100) /\ Asd (Ints .u32 wr b5 64 121) /\ Asd (Ints .u32 wr b6 64 123) /\ Asd (Ints .u32 wr b7 8 100) /\ Asd (Below w.heap.size w wr)) (fun v14 _ => 8 - (intOf v14).toNat)
   case atStart => exact ⟨0, rfl, ⟨by omega⟩, H2, H4, H5, H6, H7, HB⟩
   case round =>
    clear H2 H4 H5 H6 H7 HB
    obtain ⟨i, rfl, Hi, H2, H4, H5, H6, H7, HB⟩ := hrel
    by_cases h8 : i < 8
    ·have t2 : decide ((i : Int) < 8) = true := decide_eq_true (by omega)
     have bi : (i : Int) < 8 := by omega
     obtain ⟨x, hx, hx0⟩ := H2.out.cell i (by omega)
     obtain ⟨y, hy, hy0⟩ := H7.out.cell i (by omega)
     have hf := H2.out.frozen i
     go_upto_region 20 with (fail)
     go_region
     go_wp2
     go_round
     ·exact ⟨i + 1, by simp, ⟨by omega⟩, ⟨H2.out.drew.setCell _ _ (Int.emod_nonneg _ (by decide))⟩, ⟨H4.out.drew.setCell_other (by have := HZ.out; omega) _ _⟩, ⟨H5.out.drew.setCell_other (by have := HZ.out; omega) _ _⟩, ⟨H6.out.drew.setCell_other (by have := HZ.out; omega) _ _⟩, ⟨H7.out.drew.setCell_other (by have := HZ.out; omega) _ _⟩, ⟨(bd1 HB.out).setCell (Nat.le_refl _) _⟩⟩
     ·simp [intOf]; omega
    ·have t2 : decide ((i : Int) < 8) = false := decide_eq_false (by omega)
     go_upto_region 21 with (fail)
     obtain ⟨cs, hcs, hi⟩ := H2.out.get
     obtain ⟨cs0, hcs0, hi0⟩ := H4.out.get
     have HI := Asd.mk hi
     have HI0 := Asd.mk hi0
     clear hi hi0
     go_wp2_with (first | (refine wpList_load_row rfl 100 (.tmp 2) rfl w.heap.size rfl 100 cs (0, 0) _ hcs Tryz.underlying100 rfl (by rw [HI.out.1]; kernel_rfl) ?_) | (refine wpList_store_row rfl 100 (.tmp 4) (.tmp 123) rfl (w.heap.size + 1) cs rfl rfl 100 cs0 hcs0 (by rw [HI.out.1]; kernel_rfl) (by rw [HI.out.1, HI0.out.1]) HI.out.one ?_))
     refine bodyPost_ret (v := .agg cs) (results_cell_row rfl _ _ (w.heap.size + 1) 100 cs (0, 0) _ rfl (setRow_heap _ _ _ _ _ _ hcs0) Tryz.underlying100 rfl (by rw [HI.out.1]; kernel_rfl)) ?_ ?_
     ·rfl
     ·exact ⟨below_row HB.out (by omega) _, cs, rfl, HI.out⟩
def slen : Value -> Nat
 | .slice _ n _ => n
 | _ => 0
theorem R_slen {w : World} {base : Nat} {ok : Nat -> Prop} {v : Value} {xs : List Int} (h : Kd.R (Kd.int .u8) 5 w base ok v xs) : slen v = xs.length := by
 obtain ⟨A, c, rfl⟩ := Kd.R_slice h
 rfl
theorem IsInts.eight {y0 y1 y2 y3 y4 y5 y6 y7 : Int} (h0 : 0 <= y0) (h1 : 0 <= y1) (h2 : 0 <= y2) (h3 : 0 <= y3) (h4 : 0 <= y4) (h5 : 0 <= y5) (h6 : 0 <= y6) (h7 : 0 <= y7) : IsInts .u32 8 #[.int .u32 y0, .int .u32 y1, .int .u32 y2, .int .u32 y3, .int .u32 y4, .int .u32 y5, .int .u32 y6, .int .u32 y7] := by
 refine ⟨rfl, fun i hi => ?_⟩
 match i, hi with
 | 0, _ => exact ⟨y0, rfl, h0⟩
 | 1, _ => exact ⟨y1, rfl, h1⟩
 | 2, _ => exact ⟨y2, rfl, h2⟩
 | 3, _ => exact ⟨y3, rfl, h3⟩
 | 4, _ => exact ⟨y4, rfl, h4⟩
 | 5, _ => exact ⟨y5, rfl, h5⟩
 | 6, _ => exact ⟨y6, rfl, h6⟩
 | 7, _ => exact ⟨y7, rfl, h7⟩
theorem IsInts.out8 {cs : Array Value} (h : IsInts .u32 8 cs) : ∃ y0 y1 y2 y3 y4 y5 y6 y7 : Int, cs = #[.int .u32 y0, .int .u32 y1, .int .u32 y2, .int .u32 y3, .int .u32 y4, .int .u32 y5, .int .u32 y6, .int .u32 y7] /\ 0 <= y0 /\ 0 <= y1 /\ 0 <= y2 /\ 0 <= y3 /\ 0 <= y4 /\ 0 <= y5 /\ 0 <= y6 /\ 0 <= y7 := by
 obtain ⟨hs, hx⟩ := h
 obtain ⟨y0, e0, h0⟩ := hx 0 (by omega)
 obtain ⟨y1, e1, h1⟩ := hx 1 (by omega)
 obtain ⟨y2, e2, h2⟩ := hx 2 (by omega)
 obtain ⟨y3, e3, h3⟩ := hx 3 (by omega)
 obtain ⟨y4, e4, h4⟩ := hx 4 (by omega)
 obtain ⟨y5, e5, h5⟩ := hx 5 (by omega)
 obtain ⟨y6, e6, h6⟩ := hx 6 (by omega)
 obtain ⟨y7, e7, h7⟩ := hx 7 (by omega)
 refine ⟨y0, y1, y2, y3, y4, y5, y6, y7, ?_, h0, h1, h2, h3, h4, h5, h6, h7⟩
 apply Array.ext
 ·rw [hs]; rfl
 ·intro i hi hi2
  have hj : i < 8 := by omega
  match i, hj with
  | 0, _ => rw [Array.getElem?_eq_getElem hi] at e0; exact Option.some.inj e0
  | 1, _ => rw [Array.getElem?_eq_getElem hi] at e1; exact Option.some.inj e1
  | 2, _ => rw [Array.getElem?_eq_getElem hi] at e2; exact Option.some.inj e2
  | 3, _ => rw [Array.getElem?_eq_getElem hi] at e3; exact Option.some.inj e3
  | 4, _ => rw [Array.getElem?_eq_getElem hi] at e4; exact Option.some.inj e4
  | 5, _ => rw [Array.getElem?_eq_getElem hi] at e5; exact Option.some.inj e5
  | 6, _ => rw [Array.getElem?_eq_getElem hi] at e6; exact Option.some.inj e6
  | 7, _ => rw [Array.getElem?_eq_getElem hi] at e7; exact Option.some.inj e7
def U8s (w : World) (b n : Nat) (t : TypeId) : Prop := ∃ (cs : Array Value), w.heap[b]? = some (.cells cs t (0, 0)) /\ cs.size = n /\ ∀ i, i < n -> ∃ x : Int, cs[i]? = some (.int .u8 x) /\ 0 <= x /\ x < 256
theorem U8s.cell {w : World} {b n : Nat} {t : TypeId} (h : U8s w b n t) (i : Nat) (hi : i < n) : ∃ x : Int, w.cell? ⟨b, i, none⟩ = some (.int .u8 x) /\ 0 <= x /\ x < 256 := by
 obtain ⟨cs, hb, _, hx⟩ := h
 obtain ⟨x, h1, h2⟩ := hx i hi
 exact ⟨x, by rw [cell_of_row w b i cs t (0, 0) hb]; exact h1, h2⟩
theorem U8s.frozen {w : World} {b n : Nat} {t : TypeId} (h : U8s w b n t) (i : Nat) : w.frozen? ⟨b, i, none⟩ = false := by
 obtain ⟨cs, hb, _, _⟩ := h
 exact frozen_of_row w b i cs t hb
theorem U8s.zeros {w : World} {b n : Nat} {t : TypeId} {cs : Array Value} (hb : w.heap[b]? = some (.cells cs t (0, 0))) (hc : cs = Array.replicate n (.int .u8 0)) : U8s w b n t := by
 refine ⟨cs, hb, by rw [hc, Array.size_replicate], fun i hi => ⟨0, ?_, Int.le_refl 0, by decide⟩⟩
 rw [hc]; simp [hi]
theorem U8s.of_heap {w w' : World} {b n : Nat} {t : TypeId} (h : U8s w b n t) (e : w'.heap[b]? = w.heap[b]?) : U8s w' b n t := by
 obtain ⟨cs, hb, r⟩ := h
 exact ⟨cs, e.trans hb, r⟩
theorem U8s.setCell {w : World} {b n : Nat} {t : TypeId} (h : U8s w b n t) (i : Nat) (y : Int) (hy : 0 <= y) (hy2 : y < 256) : U8s (w.setCell ⟨b, i, none⟩ (.int .u8 y)) b n t := by
 obtain ⟨cs, hb, hs, hx⟩ := h
 refine ⟨_, heap_setCell_same w b i cs t _ hb, by rw [Array.size_setIfInBounds, hs], fun j hj => ?_⟩
 by_cases e : i = j
 ·subst e
  exact ⟨y, by rw [Array.getElem?_setIfInBounds_self_of_lt (by omega)], hy, hy2⟩
 ·rw [Array.getElem?_setIfInBounds_ne e]
  exact hx j hj
set_option maxRecDepth 100000 in
set_option maxHeartbeats 4000000 in
theorem Sum_calls (A : Option Addr) (c : Nat) (bs : List Int) (w : World) (hC : Kd.C (Kd.int .u8) w A bs.length bs) (hc : bs.length <= c) (hl : bs.length <= 1000000000) :
  Calls Tryz.prog 49 #[.slice A bs.length c] w fun e w' => Below w.heap.size w w' /\ ∃ cs : Array Value, e = .returned (.agg cs) /\ cs.size = 32 /\ ∀ i, i < 32 -> ∃ x : Int, cs[i]? = some (.int .u8 x) /\ 0 <= x /\ x < 256 := by
 have HC := Asd.mk hC
 have HL := Asd.mk hl
 clear hC hl
 go_enter Tryz.func49, Tryz.ntmps49
 go_upto_region 1 with (fail)
 generalize hO : Obj.cells _ 79 = O
 obtain ⟨cs0, rfl, h0⟩ : ∃ cs0 : Array Value, O = Obj.cells cs0 79 /\ cs0.size = 32 := ⟨_, hO.symm, by kernel_rfl⟩
 clear hO
 obtain ⟨W0, hW0⟩ : ∃ W0, W0 = w.alloc (Obj.cells cs0 79) := ⟨_, rfl⟩
 rw [<- hW0]
 have H2 : Asd (W0.heap[w.heap.size]? = some (.cells cs0 79 (0, 0))) := ⟨by rw [hW0]; exact heap_alloc_new _ _⟩
 have HB : Asd (Below w.heap.size w W0) := ⟨by rw [hW0]; exact bal (Below.refl _ _) _⟩
 have HS : Asd (W0.heap.size = w.heap.size + 1) := ⟨by rw [hW0, sz_alloc]⟩
 replace HC : Asd (Kd.C (Kd.int .u8) W0 A bs.length bs) := ⟨Kd.C_below HC.out HB.out⟩
 have H0 := Asd.mk h0
 clear hW0 h0
 have HBW := Asd.mk (Below.refl W0.heap.size W0)
 go_upto_region 2 with (first
  | ((with_reducible refine gate_dst (N := 11) rfl ?_); refine Kd.R_lit (Kd.int .u8) (w0 := W0) W0.heap.size 5 ?hg (N := 11) ?hd (xs := ([] : List Int)) (inner := []) (ok := fun _ => True) (okp := fun _ => True) ?hr ?hp (fun _ hk => hk) trivial (Below.refl _ _) (Nat.le_refl _) (by simp) ?_; (case hd => rfl); (case hg => rfl); (case hr => first | (go_simp; done) | (go_simp; rfl)); (case hp => exact (Reps.none _ _)); intro v11 w11 ho hb hg_ hnew_; clear hg_ hnew_; have HO11 := Asd.mk ho; have HB11 := Asd.mk hb; clear ho hb)
  | ((with_reducible refine gate_builtin (b := .append) (xs := #[.tmp 11, .tmp 12]) rfl ?_); at_builtin; refine Kd.R_append_rows (Kd.int .u8) (w0 := W0) W0.heap.size rfl (.tmp 11) (.tmp 12) 26 5 (.int .u8 0) 1 rfl Tryz.underlying26 info5 rfl (by decide) (by omega) v11 [] bs A bs.length c (fun _ => True) (fun k => some k ≠ v11.ownBlock) rfl rfl HO11.out (Kd.C_below HC.out HB11.out) (fun _ _ h => h) (fun _ h => ⟨trivial, h⟩) (fun _ _ => trivial) HB11.out HB11.out.size (by have := HL.out; simp; omega) ?_; intro v13 w13 ho hb hg_ hat; clear hg_ hat; have HO13 := Asd.mk ho; have HB13 := Asd.mk hb; clear ho hb HO11 HB11)
  | ((with_reducible refine gate_builtin (b := .append) (xs := #[.tmp 13, .tmp 14]) rfl ?_); at_builtin; refine Kd.R_append (Kd.int .u8) (w0 := W0) W0.heap.size rfl (.tmp 13) (.tmp 14) 26 5 (.int .u8 0) 1 rfl Tryz.underlying26 info5 rfl (by decide) (by omega) v13 ([] ++ bs) 128 [.int .u8 128] (fun _ => True) (fun _ => False) rfl rfl rfl (fun _ h => h.elim) (fun _ _ => trivial) HO13.out HB13.out HB13.out.size (by have := HL.out; simp; omega) ?_; intro v15 w15 ho hb hg_ hat; clear hg_ hat; have HO15 := Asd.mk ho; have HB15 := Asd.mk hb; clear ho hb HO13 HB13))
 obtain ⟨L, h1, h2, h3⟩ : ∃ L, bs.length + 1 <= L /\ L <= bs.length + 64 /\ L % 64 = 56 := ⟨bs.length + 1 + (119 - bs.length % 64) % 64, by omega, by omega, by omega⟩
 have HLL := Asd.mk (show bs.length + 1 <= L /\ L <= bs.length + 64 /\ L % 64 = 56 from ⟨h1, h2, h3⟩)
 clear h1 h2 h3
 go_loopw [3] (fun v3 wr => ∃ xs : List Int, Asd (xs.length <= L) /\ Asd (Kd.R (Kd.int .u8) 5 wr W0.heap.size (fun _ => True) v3 xs) /\ Asd (Below W0.heap.size W0 wr)) (fun v3 _ => L - slen v3)
 case atStart => exact ⟨([] ++ bs) ++ [128], ⟨by have := HLL.out; simp; omega⟩, HO15, HB15⟩
 case round =>
  clear HO15 HB15
  obtain ⟨xs, Hx, HO, HBR⟩ := hrel
  obtain ⟨A3, c3, rfl⟩ := Kd.R_slice HO.out
  by_cases h56 : xs.length % 64 = 56
  ·have t1 : decide ((xs.length : Int).tmod 64 = 56) = true := decide_eq_true (by rw [Int.tmod_eq_emod_of_nonneg (by omega)]; omega)
   have t2 : (xs.length : Int).tmod 64 = 56 := by rw [Int.tmod_eq_emod_of_nonneg (by omega)]; omega
   go_upto_region 6 with (fail)
   have hm := Asd.mk (show ∃ m, xs.length = m /\ m % 64 = 56 /\ m <= 1000000064 from ⟨xs.length, rfl, h56, by have := Hx.out; have := HLL.out; have := HL.out; omega⟩)
   clear h56 t1 t2
   obtain ⟨u4v, hu4⟩ : ∃ u : Int, IntKind.u64.wrap (IntKind.u64.wrap (bs.length : Int) * 8) = u := ⟨_, rfl⟩
   rw [hu4]
   clear hu4
   obtain ⟨m, hm1, hm2, hm3⟩ := hm.out
   clear hm
   have HM := Asd.mk (show m % 64 = 56 /\ m <= 1000000064 from ⟨hm2, hm3⟩)
   clear hm2 hm3
   go_loopw [3, 5] (fun v3 v5 wr => ∃ (xs : List Int) (i : Nat), v5 = .int .i64 ((i : Int) - 1) /\ Asd (i <= 8 /\ xs.length + i = m + 8) /\ Asd (Kd.R (Kd.int .u8) 5 wr W0.heap.size (fun _ => True) v3 xs) /\ Asd (Below W0.heap.size W0 wr)) (fun _ v5 _ => (intOf v5 + 1).toNat)
   case atStart => exact ⟨xs, 8, rfl, ⟨by omega, by omega⟩, HO, HBR⟩
   case round =>
    clear HO HBR hm1
    obtain ⟨xs, i, rfl, Hi, HO, HBR⟩ := hrel
    obtain ⟨A4, c4, rfl⟩ := Kd.R_slice HO.out
    cases i with
    | succ k =>
     rw [show (((k + 1 : Nat) : Int) - 1) = (k : Int) by omega]
     have t3 : decide ((k : Int) >= 0) = true := decide_eq_true (by omega)
     have t4 : decide ((0 : Int) <= (k : Int)) = true := decide_eq_true (by omega)
     obtain ⟨y, hy⟩ : ∃ y : Int, u4v / 2 ^ (8 * (k : Int)).toNat = y := ⟨_, rfl⟩
     have hk7 : (k : Int) <= 7 := by have := Hi.out; omega
     have m8 : IntKind.i64.wrap (8 * (k : Int)) = 8 * (k : Int) := by rw [i64_w, w64'] <;> omega
     have hsh := (shift_shr .u64 .i64 u4v (8 * (k : Int)) (by omega) (by show _ <= (64 : Int); omega))
     rw [hy] at hsh
     have hxl : xs.length <= 1000000080 := by have := Hi.out; have := HM.out; omega
     go_upto_region 7 with (first | ((with_reducible refine gate_builtin (b := .append) (xs := #[.tmp 31, .tmp 37]) rfl ?_); at_builtin; refine Kd.R_append (Kd.int .u8) (w0 := W0) W0.heap.size rfl (.tmp 31) (.tmp 37) 26 5 (.int .u8 0) 1 rfl Tryz.underlying26 info5 rfl (by decide) (by omega) _ xs _ [.int .u8 _] (fun _ => True) (fun _ => False) rfl rfl rfl (fun _ h => h.elim) (fun _ _ => trivial) HO.out HBR.out HBR.out.size (by omega) ?_; intro v38 w3 ho hb hg_ hat; clear hg_ hat; have HO' := Asd.mk ho; have HB' := Asd.mk hb; clear ho hb HO HBR; have HO := HO'; have HB := HB'; clear HO' HB'))
     go_wp2
     go_round
     ·exact ⟨xs ++ [_], k, rfl, ⟨by have := Hi.out; omega, by have := Hi.out; simp; omega⟩, HO, HB⟩
     ·simp [intOf]
    | zero =>
     have t3 : decide ((((0 : Nat) : Int) - 1) >= 0) = false := decide_eq_false (by omega)
     have t4 : decide ((0 : Int) <= (((0 : Nat) : Int) - 1)) = false := decide_eq_false (by omega)
     go_upto_region 9 with (fail)
     go_upto_region 10 with (first | (refine wpList_store_row rfl 100 (.tmp 6) (.tmp 39) rfl wr.heap.size _ rfl rfl 100 _ (heap_alloc_new _ _) (by kernel_rfl) (by kernel_rfl) (by kernel_rfl) ?_))
     obtain ⟨wa, rfl⟩ : ∃ wa, wa = wr := ⟨_, rfl⟩
     generalize hW2 : World.setRow _ _ _ = W6
     have H6 : Asd (Ints .u32 W6 wa.heap.size 8 100) := ⟨by rw [<- hW2]; exact Ints.of_setRow (heap_alloc_new _ _) (IsInts.of_check (by kernel_rfl) (by kernel_rfl))⟩
     have HB6 : Asd (Below wa.heap.size wa W6) := ⟨by rw [<- hW2]; exact below_row (bal (Below.refl _ _) _) (Nat.le_refl _) _⟩
     clear hW2
     have HC4 := Asd.mk (Kd.R_reads' HO.out).2.2
     have HK4 := Asd.mk (Kd.R_reads' HO.out).2.1
     have HXL := Asd.mk (show xs.length % 64 = 0 /\ xs.length <= 1000000080 from by have := Hi.out; have := HM.out; omega)
     clear t3 t4
     go_upto_region 11 with (fail)
     go_loopw [7] (fun v7 W2 => ∃ p : Nat, v7 = .int .i64 p /\ Asd (p % 64 = 0 /\ p <= xs.length) /\ Asd (Ints .u32 W2 wa.heap.size 8 100) /\ Asd (Below wa.heap.size wa W2)) (fun v7 _ => xs.length - (intOf v7).toNat)
     case atStart => exact ⟨0, rfl, ⟨by omega, by omega⟩, H6, HB6⟩
     case round =>
      clear H6 HB6
      obtain ⟨p, rfl, Hp, H6, HB6⟩ := hrel
      by_cases hpl : p < xs.length
      ·have t5 : decide ((p : Int) < (xs.length : Int)) = true := decide_eq_true (by omega)
       have t6 : decide (p < xs.length) = true := decide_eq_true hpl
       have hpx : p + 64 <= xs.length /\ xs.length <= 1000000080 := by have := Hp.out; have := HXL.out; omega
       obtain ⟨i0, hi0, _, hsz1, _⟩ := info_parts info5
       obtain ⟨A5, hrun5, hC5, _⟩ := print_mid_of (P := Tryz.prog) (Value.int .u8) 0 26 5 .i64 .i64 Tryz.underlying26 hi0 hsz1 A4 c4 xs (p : Int) ((p : Int) + 64) (by omega) (by omega) (by omega) HK4.out
       have hys : ((xs.take ((p : Int) + 64).toNat).drop (p : Int).toNat).length = 64 := by rw [List.length_drop, List.length_take]; omega
       have hCys := Kd.C_of_reads (h1 := fun _ => rfl) (hC5 _ (Kd.reads_of_C (Kd.C_below HC4.out HB6.out)))
       generalize ((xs.take ((p : Int) + 64).toNat).drop (p : Int).toNat) = ys at hys hCys hrun5
       rw [hys] at hrun5
       have HCY := Asd.mk hCys
       have HYS := Asd.mk hys
       have m64 : IntKind.i64.wrap ((p : Int) + 64) = (p : Int) + 64 := by rw [i64_w, w64'] <;> omega
       clear hC5 hCys hys hi0 hsz1
       obtain ⟨y0, hy0, g0⟩ := H6.out.cell 0 (by omega)
       obtain ⟨y1, hy1, g1⟩ := H6.out.cell 1 (by omega)
       obtain ⟨y2, hy2, g2⟩ := H6.out.cell 2 (by omega)
       obtain ⟨y3, hy3, g3⟩ := H6.out.cell 3 (by omega)
       obtain ⟨y4, hy4, g4⟩ := H6.out.cell 4 (by omega)
       obtain ⟨y5, hy5, g5⟩ := H6.out.cell 5 (by omega)
       obtain ⟨y6, hy6, g6⟩ := H6.out.cell 6 (by omega)
       obtain ⟨y7, hy7, g7⟩ := H6.out.cell 7 (by omega)
       have HIN := Asd.mk (IsInts.eight g0 g1 g2 g3 g4 g5 g6 g7)
       have HBL := Asd.mk (fun W (h : Below wr.heap.size wr W) => block_calls A5 (c4 - p) ys _ W HIN.out (Kd.C_below HCY.out h) HYS.out)
       go_upto_region 13 with (fail)
       go_region_with (go_at_call 68; refine (HBL.out _ (bd1 (Below.refl _ _))).mono ?_; rintro e W9 ⟨hb, cs, rfl, hcs⟩; obtain ⟨z0, z1, z2, z3, z4, z5, z6, z7, rfl, q0, q1, q2, q3, q4, q5, q6, q7⟩ := hcs.out8; have H9 := Asd.mk (H6.out.drew.below hb H6.out.drew.lt); have HB9 := Asd.mk (below_step HB6.out (below_step (bd1 (Below.refl _ _)) hb)); clear hb hcs; obtain ⟨x0, hx0, _⟩ := H9.out.cell 0 (by omega); obtain ⟨x1, hx1, _⟩ := H9.out.cell 1 (by omega); obtain ⟨x2, hx2, _⟩ := H9.out.cell 2 (by omega); obtain ⟨x3, hx3, _⟩ := H9.out.cell 3 (by omega); obtain ⟨x4, hx4, _⟩ := H9.out.cell 4 (by omega); obtain ⟨x5, hx5, _⟩ := H9.out.cell 5 (by omega); obtain ⟨x6, hx6, _⟩ := H9.out.cell 6 (by omega); obtain ⟨x7, hx7, _⟩ := H9.out.cell 7 (by omega); have f0 := H9.out.frozen 0; have f1 := H9.out.frozen 1; have f2 := H9.out.frozen 2; have f3 := H9.out.frozen 3; have f4 := H9.out.frozen 4; have f5 := H9.out.frozen 5; have f6 := H9.out.frozen 6; have f7 := H9.out.frozen 7)
       go_wp2
       go_round
       ·refine ⟨p + 64, by simp, ⟨by have := Hp.out; omega, by omega⟩, ⟨?_⟩, ⟨?_⟩⟩
        ·exact (((((((H9.out.setCell 0 _ q0).setCell 1 _ q1).setCell 2 _ q2).setCell 3 _ q3).setCell 4 _ q4).setCell 5 _ q5).setCell 6 _ q6).setCell 7 _ q7
        ·exact (((((((HB9.out.setCell (Nat.le_refl _) _).setCell (Nat.le_refl _) _).setCell (Nat.le_refl _) _).setCell (Nat.le_refl _) _).setCell (Nat.le_refl _) _).setCell (Nat.le_refl _) _).setCell (Nat.le_refl _) _).setCell (Nat.le_refl _) _
       ·simp [intOf]; omega
      ·have t5 : decide ((p : Int) < (xs.length : Int)) = false := decide_eq_false (by omega)
       have t6 : decide (p < xs.length) = false := decide_eq_false hpl
       clear HC4 HK4 HXL Hp hpl
       go_upto_region 15 with (fail)
       generalize hO : Obj.cells _ 79 = O
       have HO8 : Asd (O = Obj.cells (Array.replicate 32 (.int .u8 0)) 79) := ⟨hO.symm.trans (by kernel_rfl)⟩
       clear hO
       obtain ⟨W7, hW7⟩ : ∃ W7, W7 = wr.alloc O := ⟨_, rfl⟩
       rw [<- hW7]
       have s1 := HBR.out.size
       have s2 := HB6.out.size
       have H8 : Asd (U8s W7 wr.heap.size 32 79) := ⟨by rw [hW7, HO8.out]; exact U8s.zeros (heap_alloc_new _ _) rfl⟩
       have HX := Asd.mk (show wa.heap.size < wr.heap.size /\ W0.heap.size <= wa.heap.size from ⟨H6.out.lt, s1⟩)
       replace H6 : Asd (Ints .u32 W7 wa.heap.size 8 100) := ⟨by rw [hW7]; exact H6.out.alloc _⟩
       have HBZ : Asd (Below W0.heap.size W0 W7) := ⟨by rw [hW7]; exact bal (below_step HBR.out HB6.out) _⟩
       clear hW7 HO8 s1 s2 HB6 HBR t5 t6
       generalize wa.heap.size = b6 at *
       generalize wr.heap.size = b8 at *
       go_upto_region 16 with (fail)
       go_loopw [9] (fun v9 W2 => ∃ i : Nat, v9 = .int .i64 i /\ Asd (i <= 8) /\ Asd (Ints .u32 W2 b6 8 100) /\ Asd (U8s W2 b8 32 79) /\ Asd (Below W0.heap.size W0 W2)) (fun v9 _ => 8 - (intOf v9).toNat)
       case atStart => exact ⟨0, rfl, ⟨by omega⟩, H6, H8, HBZ⟩
       case round =>
        clear H6 H8 HBZ
        obtain ⟨i, rfl, Hi8, H6, H8, HBZ⟩ := hrel
        by_cases hi8 : i < 8
        ·have t5 : decide ((i : Int) < 8) = true := decide_eq_true (by omega)
         go_upto_region 19 with (fail)
         go_loopw [10] (fun v10 W2 => ∃ k : Nat, v10 = .int .i64 k /\ Asd (k <= 4) /\ Asd (Ints .u32 W2 b6 8 100) /\ Asd (U8s W2 b8 32 79) /\ Asd (Below W0.heap.size W0 W2)) (fun v10 _ => 4 - (intOf v10).toNat)
         case atStart => exact ⟨0, rfl, ⟨by omega⟩, H6, H8, HBZ⟩
         case round =>
          clear H6 H8 HBZ
          obtain ⟨k, rfl, Hk4, H6, H8, HBZ⟩ := hrel
          by_cases hk4 : k < 4
          ·have t6 : decide ((k : Int) < 4) = true := decide_eq_true (by omega)
           obtain ⟨x, hx, _⟩ := H6.out.cell i (by omega)
           obtain ⟨q4, hq4⟩ : ∃ q : Nat, q = 4 * i := ⟨_, rfl⟩
           obtain ⟨q5, hq5⟩ : ∃ q : Nat, q = 4 * i + k := ⟨_, rfl⟩
           obtain ⟨q8, hq8⟩ : ∃ q : Nat, q = 8 * k := ⟨_, rfl⟩
           obtain ⟨q9, hq9⟩ : ∃ q : Nat, q = 24 - 8 * k := ⟨_, rfl⟩
           have bi : (i : Int) < 8 := by omega
           have m4 : IntKind.i64.wrap (4 * (i : Int)) = (q4 : Int) := by rw [i64_w, w64'] <;> omega
           have m5 : IntKind.i64.wrap ((q4 : Int) + (k : Int)) = (q5 : Int) := by rw [i64_w, w64'] <;> omega
           have m8 : IntKind.i64.wrap (8 * (k : Int)) = (q8 : Int) := by rw [i64_w, w64'] <;> omega
           have m9 : IntKind.i64.wrap (24 - (q8 : Int)) = (q9 : Int) := by rw [i64_w, w64'] <;> omega
           have b5 : (q5 : Int) < 32 := by omega
           have hsh := (shift_shr .u32 .i64 x (q9 : Int) (by omega) (by show _ <= (32 : Int); omega))
           obtain ⟨z, hz, _⟩ := H8.out.cell q5 (by omega)
           have hf := H8.out.frozen q5
           clear hq4 hq5 hq8 hq9
           go_wp2
           go_round
           ·exact ⟨k + 1, by simp, ⟨by omega⟩, ⟨H6.out.setCell_other (by have := HX.out; omega) _ _⟩, ⟨H8.out.setCell _ _ (Int.emod_nonneg _ (by decide)) (Int.emod_lt_of_pos _ (by decide))⟩, ⟨HBZ.out.setCell (by have := HX.out; show _ <= b8; omega) _⟩⟩
           ·simp [intOf]; omega
          ·have t6 : decide ((k : Int) < 4) = false := decide_eq_false (by omega)
           go_wp2
           go_round
           ·exact ⟨i + 1, by simp, ⟨by omega⟩, H6, H8, HBZ⟩
           ·simp [intOf]; omega
        ·have t5 : decide ((i : Int) < 8) = false := decide_eq_false (by omega)
         go_upto_region 22 with (fail)
         obtain ⟨cs, hcs, hsz, hel⟩ := H8.out
         have HE := Asd.mk hel
         have hold := (HBZ.out.block w.heap.size (by have := HS.out; omega)).trans H2.out
         have hone : cs.all (·.oneCell') = true := by
          rw [Array.all_eq_true]
          intro i hi
          obtain ⟨x, hx, _⟩ := HE.out i (by omega)
          rw [Array.getElem?_eq_getElem hi] at hx
          rw [Option.some.inj hx]; rfl
         clear hel
         go_wp2_with (first | (refine wpList_load_row rfl 79 (.tmp 8) rfl b8 rfl 79 cs (0, 0) _ hcs Tryz.underlying79 rfl (by rw [hsz]; kernel_rfl) ?_) | (refine wpList_store_row rfl 79 (.tmp 2) (.tmp 74) rfl w.heap.size cs rfl rfl 79 cs0 hold (by rw [hsz]; kernel_rfl) (by rw [hsz]; exact H0.out) hone ?_))
         refine bodyPost_ret (v := .agg cs) (results_cell_row rfl _ _ w.heap.size 79 cs (0, 0) _ rfl (setRow_heap _ _ _ _ _ _ hold) Tryz.underlying79 rfl (by rw [hsz]; kernel_rfl)) ?_ ?_
         ·rfl
         ·exact ⟨below_row (HB.out.trans (HBZ.out.mono (by have := HS.out; omega))) (Nat.le_refl _) _, cs, rfl, hsz, HE.out⟩
  ·have t1 : decide ((xs.length : Int).tmod 64 = 56) = false := decide_eq_false (by rw [Int.tmod_eq_emod_of_nonneg (by omega)]; omega)
   have t2 : ¬ (xs.length : Int).tmod 64 = 56 := by rw [Int.tmod_eq_emod_of_nonneg (by omega)]; omega
   have hxl : xs.length < L /\ L <= 1000000064 := by
    have := Hx.out
    have := HLL.out
    have := HL.out
    refine ⟨?_, by omega⟩
    rcases Nat.lt_or_ge xs.length L with h | h
    ·exact h
    ·exact absurd (by omega) h56
   have HB' := HBR
   go_wp2_with (first | ((with_reducible refine gate_builtin (b := .append) (xs := #[.tmp 20, .tmp 21]) rfl ?_); at_builtin; refine Kd.R_append (Kd.int .u8) (w0 := W0) W0.heap.size rfl (.tmp 20) (.tmp 21) 26 5 (.int .u8 0) 1 rfl Tryz.underlying26 info5 rfl (by decide) (by omega) _ xs 0 [.int .u8 0] (fun _ => True) (fun _ => False) rfl rfl rfl (fun _ h => h.elim) (fun _ _ => trivial) HO.out HBR.out HBR.out.size (by omega) ?_; intro v22 w3 ho hb hg_ hat; clear hg_ hat; have HO' := Asd.mk ho; have HB' := Asd.mk hb; clear ho hb HO HBR; have HO := HO'; have HB := HB'; clear HO' HB'))
   go_round
   ·exact ⟨xs ++ [0], ⟨by simp; omega⟩, HO, HB⟩
   ·rw [R_slen HO.out]; simp [slen]; omega
def dig (a : Int) : Int := if a < 10 then 48 + a else 87 + a
theorem digit_calls (a : Int) (w : World) (h0 : 0 <= a) (h1 : a < 16) : Calls Tryz.prog 50 #[.int .u8 a] w fun e w' => e = .returned (.int .u8 (dig a)) /\ ∃ m, w' = w.drewN m := by
 refine (q2_digit.calls a (dig a) w ?_).mono fun e w' h => ⟨h.1, h.2.out⟩
 unfold q2_digit.f dig
 by_cases c : a < 10
 ·rw [if_pos c, if_pos c, show (48 + a) % 256 = 48 + a by omega]
 ·rw [if_neg c, if_neg c, show (((97 + a) % 256) - 10) % 256 = 87 + a by omega]
def hexy (x : Int) : Prop := (48 <= x /\ x <= 57) ∨ (97 <= x /\ x <= 102)
theorem dig_hexy {a : Int} (h0 : 0 <= a) (h1 : a < 16) : hexy (dig a) := by
 unfold hexy dig
 split <;> omega
theorem C_two (W : World) (a b : Int) : Kd.C (Kd.int .u8) (W.alloc (.cells #[.int .u8 a, .int .u8 b] 5)) (some ⟨W.heap.size, 0, none⟩) 2 [a, b] := by
 have h := own_lit W 0 5 .u8 [a, b] (Nat.zero_le _) (by simp)
 have := Kd.C_of_reads (enc := Value.int .u8) (d := (0 : Int)) (h1 := fun _ => rfl) (own_reads' h)
 exact this
def nameR.T6 : Bool × List (List Nat × List Nat) := (true, [([], []), ([], []), ([1], [1]), ([2], [2]), ([3], [3]), ([4], [4]), ([], []), ([6], [6]), ([7], [7]), ([8], [8]), ([9, 5], [9]), ([5, 10], [5, 10]), ([0, 11, 10], [0, 11]), ([12, 12, 0, 1, 2, 3, 4, 5, 6, 7, 8, 9, 10, 11, 12], [0, 12])])
def nameR.B6 : List Nat := [0, 0, 2, 6, 14, 30, 0, 64, 192, 448, 1022, 2046, 4095, 8191]
theorem nameR.tab6 : rtab .any (opsOf Tryz.f18 6) = nameR.T6 := by kernel_rfl
theorem nameR.bits6 : waitsOk nameR.T6.2 nameR.B6 = true := by kernel_rfl
set_option maxRecDepth 100000 in
set_option maxHeartbeats 4000000 in
theorem Name_calls (A : Option Addr) (c : Nat) (bs : List Int) (w : World) (hC : Kd.C (Kd.int .u8) w A bs.length bs) (hc : bs.length <= c) (hl : bs.length <= 1000000000) :
  Calls Tryz.prog 18 #[.slice A bs.length c] w fun e w' => Below w.heap.size w w' /\ ∃ xs : List Int, e = .returned (.string (strOfNums xs)) /\ xs.length = 64 /\ ∀ x ∈ xs, hexy x := by
 have HS := Asd.mk (Sum_calls A c bs w hC hc hl)
 clear hC hc hl
 go_enter Tryz.func18, Tryz.ntmps18
 go_upto_region 2 with (first | (go_at_call 49; refine HS.out.mono ?_; rintro e W1 ⟨hb1, c1, rfl, hc1⟩; have HB1 := Asd.mk hb1; have HC1 := Asd.mk hc1; clear hb1 hc1) | (refine wpList_store_row rfl 79 (.tmp 3) (.tmp 7) rfl W1.heap.size c1 rfl rfl 79 _ (heap_alloc_new _ _) (by rw [HC1.out.1]; kernel_rfl) (by rw [HC1.out.1]; kernel_rfl) ?h1 ?_))
 case h1 =>
  rw [Array.all_eq_true]
  intro i hi
  obtain ⟨x, hx, _⟩ := HC1.out.2 i (by have := HC1.out.1; omega)
  rw [Array.getElem?_eq_getElem hi] at hx
  rw [Option.some.inj hx]; rfl
 generalize hW2 : World.setRow _ _ c1 = WB
 have H3 : Asd (U8s WB W1.heap.size 32 79) := ⟨by rw [<- hW2]; exact ⟨c1, setRow_heap _ _ _ _ _ _ (heap_alloc_new _ _), HC1.out.1, HC1.out.2⟩⟩
 have HB0 : Asd (Below w.heap.size w WB) := ⟨by rw [<- hW2]; exact below_row (bal HB1.out _) HB1.out.size _⟩
 have HX : Asd (W1.heap.size < WB.heap.size) := ⟨by rw [<- hW2, sz_row, sz_alloc]; exact Nat.lt_succ_self _⟩
 clear hW2 HC1 HB1 HS
 generalize W1.heap.size = b3 at *
 go_upto_region 4 with (fail)
 go_loopw [4, 5] (fun v4 v5 wr => ∃ (xs : List Int) (i : Nat), v5 = .int .i64 i /\ Asd (i <= 32 /\ xs.length = 2 * i) /\ Asd (∀ x ∈ xs, hexy x) /\ Asd (Kd.R (Kd.int .u8) 5 wr WB.heap.size (fun _ => True) v4 xs) /\ Asd (Below WB.heap.size WB wr)) (fun _ v5 _ => 32 - (intOf v5).toNat)
 case atStart => exact ⟨[], 0, rfl, ⟨by omega, rfl⟩, ⟨by simp⟩, ⟨Kd.R_nil _ _ _ _ _⟩, ⟨Below.refl _ _⟩⟩
 case round =>
  obtain ⟨xs, i, rfl, HI, HH, HO, HB⟩ := hrel
  obtain ⟨A4, c4, rfl⟩ := Kd.R_slice HO.out
  by_cases h32 : i < 32
  ·have t1 : decide ((i : Int) < 32) = true := decide_eq_true (by omega)
   obtain ⟨x, hx, hx0, hx1⟩ := H3.out.cell i h32
   have bi : (i : Int) < 32 := by omega
   have HxN : ∀ y ∈ xs ++ [dig (x / 16), dig (x % 16)], hexy y := by
    intro y hy
    rcases List.mem_append.1 hy with hy | hy
    ·exact HH.out y hy
    ·simp only [List.mem_cons, List.not_mem_nil, or_false] at hy
     rcases hy with rfl | rfl
     ·exact dig_hexy (by omega) (by omega)
     ·exact dig_hexy (by omega) (by omega)
   go_upto_region 6 with (fail)
   refine start_ (n := 14) (S := fun w' => Below WB.heap.size WB w') (ds := []) (bA 14 0) (by kernel_rfl) rfl rfl (bd1 HB.out) (fun hHeld => ?_)
   refine with_tabW nameR.tab6 nameR.bits6 (fun HT_ HW_ => ?_)
   generalize hWd : wr.drew = W at hHeld ⊢
   have HOd := Asd.mk (show Kd.R (Kd.int .u8) 5 W WB.heap.size (fun _ => True) (.slice A4 xs.length c4) xs from hWd ▸ Kd.R_below HO.out (bd1 (Below.refl _ _)))
   clear hWd
   refine pure_ (i := 0) (N := some 12) (v := ?_) (a' := ?_) (bA 14 1) rfl rfl (any_of HT_.out (by kernel_rfl)) (fun _ _ _ h => h) (Or.inl ⟨by rfl, ?_⟩) ?_ ?_
   rotate_left
   ·intro w'
    go_simp
    with_reducible rfl
   rotate_left
   ·simp only [Act.put, zA, zB, zC, i64_w, i32_w]
    rfl
   refine pure_ (i := 1) (N := some 13) (v := ?_) (a' := ?_) (bA 14 3) rfl rfl (any_of HT_.out (by kernel_rfl)) (fun _ _ _ h => h) (Or.inl ⟨by rfl, ?_⟩) ?_ ?_
   rotate_left
   ·intro w'
    go_simp
    with_reducible rfl
   rotate_left
   ·simp only [Act.put, zA, zB, zC, i64_w, i32_w]
    rfl
   refine pure_ (i := 2) (N := some 14) (v := ?_) (a' := ?_) (bA 14 7) rfl rfl (any_of HT_.out (by kernel_rfl)) (fun _ _ _ h => h) (Or.inl ⟨by rfl, ?_⟩) ?_ ?_
   rotate_left
   ·intro w'
    go_simp
    with_reducible rfl
   rotate_left
   ·simp only [Act.put, zA, zB, zC, i64_w, i32_w]
    rfl
   refine take_ (i := 3) (N := some 15) (v := .int .u8 x) (a' := ?_) (bA 14 15) rfl rfl (take_ofW HT_.out HW_.out (by kernel_rfl)) (fun _ _ _ h => h) (Or.inl ⟨by rfl, fun w' hS' => ?_⟩) hHeld ?_ ?_
   ·have hcv := (hS'.cell (p := ⟨b3, i, none⟩) (by have := HX.out; show b3 < _; omega)).trans hx
    go_simp
   rotate_left
   ·simp only [Act.put, zA, zB, zC, i64_w, i32_w]
    rfl
   refine pure_ (i := 4) (N := some 16) (v := .int .u8 (x / 16)) (a' := ?_) (bA 14 31) rfl rfl (any_of HT_.out (by kernel_rfl)) (fun _ _ _ h => h) (Or.inl ⟨by rfl, ?_⟩) ?_ ?_
   ·intro w'
    go_simp
    rw [Int.tdiv_eq_ediv_of_nonneg hx0]
    exact Int.emod_eq_of_lt (by omega) (by show _ < (256 : Int); omega)
   rotate_left
   ·simp only [Act.put, zA, zB, zC, i64_w, i32_w]
    rfl
   refine pure_ (i := 6) (N := some 18) (v := ?_) (a' := ?_) (bA 14 95) rfl rfl (any_of HT_.out (by kernel_rfl)) (fun _ _ _ h => h) (Or.inl ⟨by rfl, ?_⟩) ?_ ?_
   rotate_left
   ·intro w'
    go_simp
    with_reducible rfl
   rotate_left
   ·simp only [Act.put, zA, zB, zC, i64_w, i32_w]
    rfl
   refine pure_ (i := 7) (N := some 19) (v := ?_) (a' := ?_) (bA 14 223) rfl rfl (any_of HT_.out (by kernel_rfl)) (fun _ _ _ h => h) (Or.inl ⟨by rfl, ?_⟩) ?_ ?_
   rotate_left
   ·intro w'
    go_simp
    with_reducible rfl
   rotate_left
   ·simp only [Act.put, zA, zB, zC, i64_w, i32_w]
    rfl
   refine take_ (i := 8) (N := some 20) (v := .int .u8 x) (a' := ?_) (bA 14 479) rfl rfl (take_ofW HT_.out HW_.out (by kernel_rfl)) (fun _ _ _ h => h) (Or.inl ⟨by rfl, fun w' hS' => ?_⟩) hHeld ?_ ?_
   ·have hcv := (hS'.cell (p := ⟨b3, i, none⟩) (by have := HX.out; show b3 < _; omega)).trans hx
    go_simp
   rotate_left
   ·simp only [Act.put, zA, zB, zC, i64_w, i32_w]
    rfl
   refine pure_ (i := 9) (N := some 21) (v := .int .u8 (x % 16)) (a' := ?_) (bA 14 991) rfl rfl (any_of HT_.out (by kernel_rfl)) (fun _ _ _ h => h) (Or.inl ⟨by rfl, ?_⟩) ?_ ?_
   ·intro w'
    go_simp
    exact Int.tmod_eq_emod_of_nonneg hx0
   rotate_left
   ·simp only [Act.put, zA, zB, zC, i64_w, i32_w]
    rfl
   refine one_ (i := 5) (N := some 17) (bA 14 1023) rfl rfl (one_of HT_.out (by kernel_rfl)) (by decide) (fun K hK => ?_)
   refine goes_ Tryz.func50 (by kernel_rfl) rfl #[.int .u8 (x / 16)] (by rfl) rfl rfl (by (try simp only [List.map_toArray, List.map_cons, List.map_nil]); first | done | rfl) ?_
   refine (digit_calls (x / 16) _ (by omega) (by omega)).mono ?_
   rintro e V1 ⟨rfl, nq, hq⟩
   refine ⟨_, rfl, ?_⟩
   replace HOd : Asd (Kd.R (Kd.int .u8) 5 V1 WB.heap.size (fun _ => True) (.slice A4 xs.length c4) xs) := ⟨by rw [hq]; exact Kd.R_drewN HOd.out nq⟩
   have hBq : Below WB.heap.size WB V1 := by rw [hq]; exact pbN hHeld nq
   clear hq
   refine hK.out _ _ hBq (fun hHeld => ?_)
   clear hK K
   refine norm_ (a' := ?_) ?_ ?_
   rotate_left
   ·show Act.put _ (some 17) _ = _
    simp only [Act.put, zA, zB, zC, i64_w, i32_w]
    rfl
   refine one_ (i := 10) (N := some 22) (bA 14 2047) rfl rfl (one_of HT_.out (by kernel_rfl)) (by decide) (fun K hK => ?_)
   refine goes_ Tryz.func50 (by kernel_rfl) rfl #[.int .u8 (x % 16)] (by rfl) rfl rfl (by (try simp only [List.map_toArray, List.map_cons, List.map_nil]); first | done | rfl) ?_
   refine (digit_calls (x % 16) _ (by omega) (by omega)).mono ?_
   rintro e V2 ⟨rfl, nq, hq⟩
   refine ⟨_, rfl, ?_⟩
   replace HOd : Asd (Kd.R (Kd.int .u8) 5 V2 WB.heap.size (fun _ => True) (.slice A4 xs.length c4) xs) := ⟨by rw [hq]; exact Kd.R_drewN HOd.out nq⟩
   have hBq : Below WB.heap.size WB V2 := by rw [hq]; exact pbN hHeld nq
   clear hq
   refine hK.out _ _ hBq (fun hHeld => ?_)
   clear hK K
   refine norm_ (a' := ?_) ?_ ?_
   rotate_left
   ·show Act.put _ (some 22) _ = _
    simp only [Act.put, zA, zB, zC, i64_w, i32_w]
    rfl
   refine one_ (i := 11) (N := some 23) (bA 14 4095) rfl rfl (one_of HT_.out (by kernel_rfl)) (by decide) (fun K hK => ?_)
   refine value_ (w1 := ?_) (v := ?_) (by rfl) rfl ?_ ?_
   rotate_left 2
   ·go_simp
    constructor
    ·rfl
    ·rfl
   refine hK.out _ _ (bal hHeld _) (fun hHeld => ?_)
   clear hK K
   refine norm_ (a' := ?_) ?_ ?_
   rotate_left
   ·show Act.put _ (some 23) _ = _
    simp only [Act.put, zA, zB, zC, i64_w, i32_w]
    rfl
   refine one_ (i := 12) (N := some 24) (bA 14 8191) rfl rfl (one_of HT_.out (by kernel_rfl)) (by decide) (fun K hK => ?_)
   refine Kd.R_append_rows_step (Kd.int .u8) (w0 := WB) WB.heap.size (by rfl) (.tmp 12) (.tmp 23) 26 5 (.int .u8 0) 1 rfl Tryz.underlying26 info5 rfl (by decide) (by omega) (.slice A4 xs.length c4) xs [dig (x / 16), dig (x % 16)] _ 2 2 (fun _ => True) (fun k_ => some k_ ≠ (.slice A4 xs.length c4 : Value).ownBlock) rfl rfl (Kd.R_alloc HOd.out _) (C_two _ _ _) (fun _ _ h => h) (fun _ h => ⟨trivial, h⟩) (fun _ _ => trivial) hHeld hHeld.size (by have := HI.out; omega) ?_
   intro v1 w1 ho hb _ _
   have HN := Asd.mk ho
   clear ho HOd
   refine hK.out _ _ hb (fun hHeld => ?_)
   clear hK K
   refine norm_ (a' := ?_) ?_ ?_
   rotate_left
   ·show Act.put _ (some 24) _ = _
    simp only [Act.put, zA, zB, zC, i64_w, i32_w]
    rfl
   refine pure_ (i := 13) (N := some 4) (v := ?_) (a' := ?_) (bA 14 16383) rfl rfl (any_of HT_.out (by kernel_rfl)) (fun _ _ _ h => h) (Or.inl ⟨by rfl, ?_⟩) ?_ ?_
   rotate_left
   ·intro w'
    go_simp
    with_reducible rfl
   rotate_left
   ·simp only [Act.put, zA, zB, zC, i64_w, i32_w]
    rfl
   refine done_ (done_of HT_.out (by kernel_rfl)) ?_
   go_wp2
   go_round
   ·exact ⟨xs ++ [dig (x / 16), dig (x % 16)], i + 1, by simp, ⟨by have := HI.out; simp; omega⟩, ⟨HxN⟩, HN, ⟨hHeld⟩⟩
   ·simp [intOf]; omega
  ·have t1 : decide ((i : Int) < 32) = false := decide_eq_false (by omega)
   have hs := Kd.C_string (P := Tryz.prog) (src := 26) (dst := 9) (c := c4) Tryz.underlying26 Tryz.underlying5 Tryz.underlying9 (Kd.R_reads' HO.out).2.2
   go_wp2
   go_ret
   exact ⟨HB0.out.trans (HB.out.mono HB0.out.size), xs, rfl, by have := HI.out; omega, HH.out⟩
end Go.Proofs.YtlfenakgphmepaaGreatDoor.NameOf
