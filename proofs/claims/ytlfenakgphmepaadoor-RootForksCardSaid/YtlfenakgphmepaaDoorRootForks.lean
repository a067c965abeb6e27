/- The calls of RootForks answer true, whatever they are handed. -/
import Derived.Test.YtlfenakgphmepaaDoorRootGreat
import Derived.Test.YtlfenakgphmepaaDoorRootHeadW
import Derived.Sort.Walk0
namespace Go.Proofs.YtlfenakgphmepaaDoor.Root
open Go.RowKit Go.Proofs.YtlfenakgphmepaaDoorW.PrintWords Go.Proofs.YtlfenakgphmepaaDoorW.PrintLast Go.Proofs.YtlfenakgphmepaaDoorW.PrintMore Go.Proofs.YtlfenakgphmepaaDoor.Conv Go.Proofs.YtlfenakgphmepaaDoor.Print Go.Proofs.YtlfenakgphmepaaDoor.Build
set_option linter.unusedVariables false
set_option linter.unusedSimpArgs false
theorem less_trans {a b c : List UInt8} (h1 : Op.bytesLess a b = true) (h2 : Op.bytesLess b c = true) : Op.bytesLess a c = true := by
 rw [bytesLess_eq, decide_eq_true_iff] at *
 exact List.lt_trans h1 h2
theorem less_irrefl (a : List UInt8) : Op.bytesLess a a = false := by
 rw [bytesLess_eq]
 exact decide_eq_false (List.lt_irrefl a)
theorem rises : ∀ (l : List Fk) (p : Option ByteArray), forksGo l p = true -> ∀ (i : Nat) (h : i + 1 < l.length), Op.bytesLess (l[i]).f0.toList (l[i + 1]).f0.toList = true
 | [], _, _, i, h => by simp at h
 | [x], _, _, i, h => by simp at h
 | x :: y :: t, p, hg, i, h => by
  simp only [forksGo, Bool.and_eq_true] at hg
  cases i with
  | zero => exact hg.2.2.2.1
  | succ i => exact rises (y :: t) (some x.f0) (by simp only [forksGo, Bool.and_eq_true]; exact hg.2.2) i (by simpa using h)
theorem rises_far {l : List Fk} (h : ∀ (i : Nat) (h : i + 1 < l.length), Op.bytesLess (l[i]).f0.toList (l[i + 1]).f0.toList = true) : ∀ (d i : Nat) (hj : i + d + 1 < l.length), Op.bytesLess (l[i]).f0.toList (l[i + d + 1]).f0.toList = true
 | 0, i, hj => h i hj
 | d + 1, i, hj => less_trans (rises_far h d i (by omega)) (h (i + d + 1) hj)
theorem pos_at : ∀ (l : List Fk) (i : Nat) (hi : i < l.length), (∀ j (hj : j < i), (l[j]).f0.toList ≠ (l[i]).f0.toList) -> root_Find.pos (l[i]).f0 l = some i
 | x :: t, 0, hi, h => by
  simp only [root_Find.pos, List.getElem_cons_zero]
  rw [if_pos trivial]
 | x :: t, i + 1, hi, h => by
  have h0 := h 0 (by omega)
  simp only [List.getElem_cons_zero, List.getElem_cons_succ] at h0
  simp only [root_Find.pos, List.getElem_cons_succ]
  rw [if_neg h0, pos_at t i (by simpa using hi) (fun j hj => by have := h (j + 1) (by omega); simpa using this)]
  rfl
theorem ix_at {n : Int} {pool : List ByteArray} {forks : List Fk} (h : rootF n pool forks = true) (i : Nat) (hi : i < forks.length) : root_Find.ix (forks[i]).f0 forks = (i : Int) := by
 unfold rootF at h
 rw [Bool.and_eq_true] at h
 have hr := rises forks none h.1
 unfold root_Find.ix
 rw [pos_at forks i hi (fun j hj e => by
  have := rises_far hr (i - j - 1) j (by omega)
  simp only [show j + (i - j - 1) + 1 = i by omega] at this
  rw [e, less_irrefl] at this
  cases this)]
theorem pos_some (s : ByteArray) : ∀ l : List Fk, (root_Find.pos s l).isSome = l.any fun f => f.f0.toList == s.toList
 | [] => rfl
 | x :: t => by
  simp only [root_Find.pos, List.any_cons]
  by_cases c : x.f0.toList = s.toList
  ·rw [if_pos c, beq_iff_eq.2 c]; rfl
  ·rw [if_neg c, beq_eq_false_iff_ne.2 c, Bool.false_or, <- pos_some s t]
   cases root_Find.pos s t <;> rfl
theorem ix_any (s : ByteArray) (l : List Fk) : decide (0 <= root_Find.ix s l) = l.any fun f => f.f0.toList == s.toList := by
 rw [<- pos_some]
 unfold root_Find.ix
 cases root_Find.pos s l with
 | none => rfl
 | some i => exact decide_eq_true (by show 0 <= (i : Int); omega)
theorem root_named {n : Int} {pool : List ByteArray} {forks : List Fk} (h : rootF n pool forks = true) (i : Nat) (hi : i < forks.length) : rnF (forks[i]).f0 = true := (forkB_out ((rootF_out h).1 _ (List.getElem_mem hi))).1
def thereF (name : ByteArray) (l : List Fk) : Bool := l.any fun f => f.f0.toList == name.toList
theorem there_next (name : ByteArray) (l : List Fk) (i : Nat) (h : i < l.length) : thereF name (l.take (i + 1)) = (thereF name (l.take i) || ((l[i]).f0.toList == name.toList)) := by
 unfold thereF
 rw [List.take_succ_eq_append_getElem h, List.any_append]
 simp
set_option maxRecDepth 100000 in
set_option maxHeartbeats 16000000 in
theorem RootForks_core {w : World} (htab : Lib.TabIs Tryd.prog w "internal/strconv.uint64pow10" .u64 Lib.pow10Tab)
  (n0 : Int) (Ap : Option Addr) (cp : Nat) (pool : List ByteArray) (hrp : Kd.C Kd.string w Ap pool.length pool) (hcp : pool.length <= cp) (Af : Option Addr) (cf : Nat) (forks : List Fk) (hrf : Kd.C k40 w Af forks.length forks) (hcf : forks.length <= cf) (hok : okRoot (n0, pool, forks))
  (a1 : ByteArray) (y1 : a1.size <= maxLen) :
  Calls Tryd.prog 5 #[.agg #[.int .i64 n0, .slice Ap pool.length cp, .slice Af forks.length cf], .string a1] w fun e w' => e = .returned (.bool true) /\ Below w.heap.size w w' := by
 obtain ⟨kg, g, hgr, hsm⟩ := great_eq hok
 have HTB := Asd.mk (show Tb w from Lib.tabBelow_of_tabIs htab)
 have HG := Asd.mk hgr
 have HSM := Asd.mk hsm
 have HRP := Asd.mk hrp
 have HRF := Asd.mk hrf
 have HCP := Asd.mk hcp
 have HCF := Asd.mk hcf
 have HB0 := Asd.mk (bal (Below.refl w.heap.size w) (.cells #[.int .i64 n0, .slice Ap pool.length cp, .slice Af forks.length cf] 25))
 have HX0 := Asd.mk (heap_alloc_new w (.cells #[.int .i64 n0, .slice Ap pool.length cp, .slice Af forks.length cf] 25))
 have hmax : forks.length <= 9223372036854775807 := hrf.2.1
 clear htab hrp hcp hrf hcf hok hgr hsm y1
 go_enter Tryd.func5, Tryd.ntmps5
 go_upto_region 2 with (go_at_call 8; with_reducible refine (head_calls (HTB.out.below HB0.out)).mono ?_; rintro e W1 ⟨rfl, hb⟩; have HX := Asd.mk (below_box hb HX0.out); have HB := Asd.mk (below_step HB0.out hb); clear hb HB0 HX0)
 have kr0 : W1.cell? ⟨w.heap.size, 0, none⟩ = some (.int .i64 n0) := (box_cell HX.out 0 rfl).1
 have kr1 : W1.cell? ⟨w.heap.size, 1, none⟩ = some (.slice Ap pool.length cp) := (box_cell HX.out 1 rfl).1
 have kr2 : W1.cell? ⟨w.heap.size, 2, none⟩ = some (.slice Af forks.length cf) := (box_cell HX.out 2 rfl).1
 cases g with
 | true =>
  go_wp2_with (go_at_call 9; with_reducible refine (sacristylaw10_Great.calls kg n0 Ap cp pool Af cf forks true _ (Kd.C_below HRP.out HB.out) HCP.out (Kd.C_below HRF.out HB.out) HCF.out HG.out).mono ?_; rintro e W2 ⟨rfl, hb⟩; replace HB := Asd.mk (below_step HB.out hb); clear hb)
  go_ret
  exact ⟨rfl, HB.out⟩
 | false =>
 have hs := HSM.out rfl
 have HS := Asd.mk hs
 have HRT := Asd.mk (fun (W' : World) (hb : Below w.heap.size w W') => root_Right.calls 3000000 n0 Ap cp pool Af cf forks (rootF n0 pool forks) W' (Kd.C_below HRP.out hb) HCP.out (Kd.C_below HRF.out hb) HCF.out hs.sm.right)
 clear hs HSM
 by_cases g1 : (1000 : Int) < (a1.size : Int)
 ·have d1 : decide ((1000 : Int) < (a1.size : Int)) = true := decide_eq_true g1
  go_wp2_with (go_at_call 9; with_reducible refine (sacristylaw10_Great.calls kg n0 Ap cp pool Af cf forks false _ (Kd.C_below HRP.out HB.out) HCP.out (Kd.C_below HRF.out HB.out) HCF.out HG.out).mono ?_; rintro e W2 ⟨rfl, hb⟩; replace HB := Asd.mk (below_step HB.out hb); clear hb)
  go_ret
  exact ⟨rfl, HB.out⟩
 have d1 : decide ((1000 : Int) < (a1.size : Int)) = false := decide_eq_false g1
 have HNL : Asd (a1.size <= 1000) := ⟨by omega⟩
 clear g1
 cases hR : rootF n0 pool forks with
 | false =>
  rw [hR] at HRT
  clear hR
  go_wp2_with (first
   | (go_at_call 9; with_reducible refine (sacristylaw10_Great.calls kg n0 Ap cp pool Af cf forks false _ (Kd.C_below HRP.out HB.out) HCP.out (Kd.C_below HRF.out HB.out) HCF.out HG.out).mono ?_; rintro e W2 ⟨rfl, hb⟩; replace HB := Asd.mk (below_step HB.out hb); have hx := below_box hb HX.out; have ks0 : W2.cell? ⟨w.heap.size, 0, none⟩ = some (.int .i64 n0) := (box_cell hx 0 rfl).1; have ks1 : W2.cell? ⟨w.heap.size, 1, none⟩ = some (.slice Ap pool.length cp) := (box_cell hx 1 rfl).1; have ks2 : W2.cell? ⟨w.heap.size, 2, none⟩ = some (.slice Af forks.length cf) := (box_cell hx 2 rfl).1; clear hb hx)
   | (go_at_call 11; with_reducible refine (HRT.out _ HB.out).mono ?_; rintro e W3 ⟨rfl, hb⟩; replace HB := Asd.mk (below_step HB.out hb); clear hb))
  go_ret
  exact ⟨rfl, HB.out⟩
 | true =>
 rw [hR] at HRT
 have HR := Asd.mk hR
 clear hR
 go_upto_region 6 with (first
  | (go_at_call 9; with_reducible refine (sacristylaw10_Great.calls kg n0 Ap cp pool Af cf forks false _ (Kd.C_below HRP.out HB.out) HCP.out (Kd.C_below HRF.out HB.out) HCF.out HG.out).mono ?_; rintro e W2 ⟨rfl, hb⟩; replace HB := Asd.mk (below_step HB.out hb); replace HX := Asd.mk (below_box hb HX.out); have ks0 : W2.cell? ⟨w.heap.size, 0, none⟩ = some (.int .i64 n0) := (box_cell HX.out 0 rfl).1; have ks1 : W2.cell? ⟨w.heap.size, 1, none⟩ = some (.slice Ap pool.length cp) := (box_cell HX.out 1 rfl).1; have ks2 : W2.cell? ⟨w.heap.size, 2, none⟩ = some (.slice Af forks.length cf) := (box_cell HX.out 2 rfl).1; clear hb)
  | (go_at_call 11; with_reducible refine (HRT.out _ HB.out).mono ?_; rintro e W3 ⟨rfl, hb⟩; replace HB := Asd.mk (below_step HB.out hb); replace HX := Asd.mk (below_box hb HX.out); clear hb))
 clear kr0 kr1 kr2 HRT HG d1
 go_loopg [6, 7] forks.length (fun gg s6 s7 wr => ∃ kk : Nat, kk <= forks.length /\ forks.length - kk <= gg /\ s6 = .bool (thereF a1 (forks.take kk)) /\ s7 = .int .i64 kk /\ Asd (Below w.heap.size w wr) /\ Asd (wr.heap[w.heap.size]? = some (.cells #[.int .i64 n0, .slice Ap pool.length cp, .slice Af forks.length cf] 25 (0, 0))))
 case atStart => exact ⟨0, Nat.zero_le _, by omega, rfl, rfl, HB, HX⟩
 case round =>
  clear HB HX
  obtain ⟨kk, hkk, hgg, rfl, rfl, HB, HX⟩ := hrel
  have kr0 : wr.cell? ⟨w.heap.size, 0, none⟩ = some (.int .i64 n0) := (box_cell HX.out 0 rfl).1
  have kr1 : wr.cell? ⟨w.heap.size, 1, none⟩ = some (.slice Ap pool.length cp) := (box_cell HX.out 1 rfl).1
  have kr2 : wr.cell? ⟨w.heap.size, 2, none⟩ = some (.slice Af forks.length cf) := (box_cell HX.out 2 rfl).1
  have HFN := Asd.mk (fun (s : ByteArray) (W' : World) (hb : Below w.heap.size w W') => root_Find.calls n0 Ap cp pool Af cf forks s (root_Find.ix s forks) W' (Kd.C_below HRP.out hb) HCP.out (Kd.C_below HRF.out hb) HCF.out rfl)
  by_cases hlt : kk < forks.length
  ·have hltz : (kk : Int) < (forks.length : Int) := by omega
   obtain ⟨ad, A3, c3, A4, c4, hAf, q0, _, _, _, _, _, _, _, _⟩ := at_T40 (Kd.C_below HRF.out HB.out) (kk : Int) (by omega) hltz
   rw [rd_fk forks kk hlt, Int.toNat_natCast] at q0
   have hrs := rises forks none (by have := HR.out; unfold rootF at this; rw [Bool.and_eq_true] at this; exact this.1)
   have HFY : Asd (∀ W' : World, Below w.heap.size w W' -> Calls Tryd.prog 14 #[.agg #[.int .i64 n0, .slice Ap pool.length cp, .slice Af forks.length cf], .string (forks[kk]).f0] W' fun e w' => e = .returned (.int .i64 (kk : Int)) /\ Below W'.heap.size W' w') := ⟨fun W' hb => by rw [<- ix_at HR.out kk hlt]; exact HFN.out _ W' hb⟩
   have HNF := Asd.mk (show root_Named.f 1000000 (forks[kk]).f0 = some true from by rw [rn_eq _ (by have := (HS.out.f _ (List.getElem_mem hlt)).s.1; omega) (by have := (HS.out.f _ (List.getElem_mem hlt)).s.1; omega), root_named HR.out kk hlt])
   have HTN := Asd.mk (there_next a1 forks kk hlt)
   have hprev : ∀ (h0 : 0 < kk), Op.bytesLess (forks[kk - 1]'(by omega)).f0.toList (forks[kk]).f0.toList = true /\ wr.cell? (ad.add ((kk - 1) * 5)) = some (.string (forks[kk - 1]'(by omega)).f0) := fun h0 => by
    have h1 := hrs (kk - 1) (by omega)
    simp only [show kk - 1 + 1 = kk by omega] at h1
    obtain ⟨ad2, _, _, _, _, hA2, q2, _⟩ := at_T40 (Kd.C_below HRF.out HB.out) ((kk - 1 : Nat) : Int) (by omega) (by omega)
    rw [rd_fk forks (kk - 1) (by omega), Int.toNat_natCast] at q2
    rw [hAf] at hA2
    obtain rfl := Option.some.inj hA2
    exact ⟨h1, q2⟩
   clear hrs
   subst hAf
   have wk : IntKind.i64.wrap ((kk : Int) + 1) = ((kk + 1 : Nat) : Int) := by rw [i64_w, w64 (by omega) (by omega)]; omega
   obtain ⟨y, hy⟩ : ∃ y, y = (forks[kk]).f0 := ⟨_, rfl⟩
   rw [<- hy] at q0 HFY HNF HTN hprev
   have HY := Asd.mk hy
   clear hy
   by_cases h0 : kk = 0
   ·have d0 : decide ((0 : Int) < (kk : Int)) = false := decide_eq_false (by omega)
    have d0n : decide (0 < kk) = false := decide_eq_false (by omega)
    clear hprev h0
    go_upto_region 8 with (fail)
    refine start_ (n := 40) (S := fun w' => w'.cell? ⟨w.heap.size, 0, none⟩ = some (.int .i64 n0) /\ w'.cell? ⟨w.heap.size, 1, none⟩ = some (.slice Ap pool.length cp) /\ w'.cell? ⟨w.heap.size, 2, none⟩ = some (.slice (some ad) forks.length cf) /\ w'.cell? (ad.add (kk * 5)) = some (.string y)) (ds := []) (bA 40 0) (by kernel_rfl) rfl rfl ⟨(drew_cell kr0), (drew_cell kr1), (drew_cell kr2), (drew_cell q0)⟩ (fun hHeld => ?_)
    refine pure_ (i := 1) (N := some 30) (v := ?_) (a' := ?_) (bA 40 2) rfl rfl (by kernel_rfl) (fun _ _ _ h => h) (Or.inl ⟨by rfl, ?_⟩) ?_ ?_
    rotate_left
    ·intro w'
     go_simp
     with_reducible rfl
    rotate_left
    ·simp only [Act.put, zA, zB, zC, i64_w, i32_w]
     rfl
    refine pure_ (i := 3) (N := some 32) (v := ?_) (a' := ?_) (bA 40 10) rfl rfl (by kernel_rfl) (fun _ _ _ h => h) (Or.inl ⟨by rfl, ?_⟩) ?_ ?_
    rotate_left
    ·intro w'
     go_simp
     with_reducible rfl
    rotate_left
    ·simp only [Act.put, zA, zB, zC, i64_w, i32_w]
     rfl
    refine pure_ (i := 8) (N := some 37) (v := ?_) (a' := ?_) (bA 40 266) rfl rfl (by kernel_rfl) (fun _ _ _ h => h) (Or.inl ⟨by rfl, ?_⟩) ?_ ?_
    rotate_left
    ·intro w'
     go_simp
     with_reducible rfl
    rotate_left
    ·simp only [Act.put, zA, zB, zC, i64_w, i32_w]
     rfl
    refine take_ (i := 0) (N := some 29) (v := ?_) (a' := ?_) (bA 40 267) rfl rfl (by kernel_rfl) (fun _ _ _ h => h) (Or.inl ⟨by rfl, ?_⟩) hHeld ?_ ?_
    rotate_left
    ·rintro w' ⟨s0, s1, s2, s3⟩
     go_simp
     with_reducible rfl
    rotate_left
    ·simp only [Act.put, zA, zB, zC, i64_w, i32_w]
     rfl
    refine take_ (i := 2) (N := some 31) (v := ?_) (a' := ?_) (bA 40 271) rfl rfl (by kernel_rfl) (fun _ _ _ h => h) (Or.inl ⟨by rfl, ?_⟩) hHeld ?_ ?_
    rotate_left
    ·rintro w' ⟨s0, s1, s2, s3⟩
     go_simp
     with_reducible rfl
    rotate_left
    ·simp only [Act.put, zA, zB, zC, i64_w, i32_w]
     rfl
    refine pure_ (i := 4) (N := some 33) (v := ?_) (a' := ?_) (bA 40 287) rfl rfl (by kernel_rfl) (fun _ _ _ h => h) (Or.inl ⟨by rfl, ?_⟩) ?_ ?_
    rotate_left
    ·intro w'
     go_simp
     with_reducible rfl
    rotate_left
    ·simp only [Act.put, zA, zB, zC, i64_w, i32_w]
     rfl
    refine pure_ (i := 5) (N := some 34) (v := ?_) (a' := ?_) (bA 40 319) rfl rfl (by kernel_rfl) (fun _ _ _ h => h) (Or.inl ⟨by rfl, ?_⟩) ?_ ?_
    rotate_left
    ·intro w'
     go_simp
     with_reducible rfl
    rotate_left
    ·simp only [Act.put, zA, zB, zC, i64_w, i32_w]
     rfl
    refine take_ (i := 6) (N := some 35) (v := ?_) (a' := ?_) (bA 40 383) rfl rfl (by kernel_rfl) (fun _ _ _ h => h) (Or.inl ⟨by rfl, ?_⟩) hHeld ?_ ?_
    rotate_left
    ·rintro w' ⟨s0, s1, s2, s3⟩
     go_simp
     with_reducible rfl
    rotate_left
    ·simp only [Act.put, zA, zB, zC, i64_w, i32_w]
     rfl
    refine one_ (i := 7) (N := some 36) (bA 40 511) rfl rfl (by kernel_rfl) (by decide) (fun K hK => ?_)
    refine goes_ Tryd.func14 (by kernel_rfl) rfl #[.agg #[.int .i64 n0, .slice Ap pool.length cp, .slice (some ad) forks.length cf], .string y] (by rfl) rfl rfl (by simp only [List.map_toArray, List.map_cons, List.map_nil]; rfl) ?_
    with_reducible refine (HFY.out _ (below_step HB.out (bd1 (Below.refl _ _)))).mono ?_
    rintro e wf ⟨rfl, hbf⟩
    refine ⟨_, rfl, ?_⟩
    have HBF := Asd.mk (below_step (below_step HB.out (bd1 (Below.refl _ _))) hbf)
    have HXF := Asd.mk (below_box hbf (show wr.drew.heap[w.heap.size]? = _ from HX.out))
    refine hK.out _ _ ⟨(cell_below (drew_cell kr0) hbf), (cell_below (drew_cell kr1) hbf), (cell_below (drew_cell kr2) hbf), (cell_below (drew_cell q0) hbf)⟩ (fun hHeld => ?_)
    clear hK K
    refine norm_ (a' := ?_) ?_ ?_
    rotate_left
    ·show Act.put _ (some 36) _ = _
     simp only [Act.put, zA, zB, zC, i64_w, i32_w]
     rfl
    refine pure_ (i := 9) (N := some 38) (v := ?_) (a' := ?_) (bA 40 1023) rfl rfl (by kernel_rfl) (fun _ _ _ h => h) (Or.inl ⟨by rfl, ?_⟩) ?_ ?_
    rotate_left
    ·intro w'
     go_simp
     with_reducible rfl
    rotate_left
    ·simp only [Act.put, zA, zB, zC, i64_w, i32_w]
     rfl
    refine pure_ (i := 10) (N := some 39) (v := ?_) (a' := ?_) (bA 40 2047) rfl rfl (by kernel_rfl) (fun _ _ _ h => h) (Or.inl ⟨by rfl, ?_⟩) ?_ ?_
    rotate_left
    ·intro w'
     go_simp
     with_reducible rfl
    rotate_left
    ·simp only [Act.put, zA, zB, zC, i64_w, i32_w]
     rfl
    refine pure_ (i := 11) (N := some 40) (v := ?_) (a' := ?_) (bA 40 4095) rfl rfl (by kernel_rfl) (fun _ _ _ h => h) (Or.inl ⟨by rfl, ?_⟩) ?_ ?_
    rotate_left
    ·intro w'
     go_simp
     with_reducible rfl
    rotate_left
    ·simp only [Act.put, zA, zB, zC, i64_w, i32_w]
     rfl
    refine pure_ (i := 12) (N := some 41) (v := ?_) (a' := ?_) (bA 40 8191) rfl rfl (by kernel_rfl) (fun _ _ _ h => h) (Or.inl ⟨by rfl, ?_⟩) ?_ ?_
    rotate_left
    ·intro w'
     go_simp
     with_reducible rfl
    rotate_left
    ·simp only [Act.put, zA, zB, zC, i64_w, i32_w]
     rfl
    refine pure_ (i := 13) (N := some 42) (v := ?_) (a' := ?_) (bA 40 16383) rfl rfl (by kernel_rfl) (fun _ _ _ h => h) (Or.inl ⟨by rfl, ?_⟩) ?_ ?_
    rotate_left
    ·intro w'
     go_simp
     with_reducible rfl
    rotate_left
    ·simp only [Act.put, zA, zB, zC, i64_w, i32_w]
     rfl
    refine pure_ (i := 14) (N := some 43) (v := undef) (a' := ?_) (bA 40 32767) rfl rfl (by kernel_rfl) (fun _ _ _ h => h) (Or.inr ⟨by rfl, rfl⟩) ?_ ?_
    rotate_left
    ·simp only [Act.put, zA, zB, zC, i64_w, i32_w]
     rfl
    refine pure_ (i := 15) (N := some 44) (v := undef) (a' := ?_) (bA 40 65535) rfl rfl (by kernel_rfl) (fun _ _ _ h => h) (Or.inr ⟨by rfl, rfl⟩) ?_ ?_
    rotate_left
    ·simp only [Act.put, zA, zB, zC, i64_w, i32_w]
     rfl
    refine pure_ (i := 16) (N := some 45) (v := undef) (a' := ?_) (bA 40 131071) rfl rfl (by kernel_rfl) (fun _ _ _ h => h) (Or.inr ⟨by rfl, rfl⟩) ?_ ?_
    rotate_left
    ·simp only [Act.put, zA, zB, zC, i64_w, i32_w]
     rfl
    refine pure_ (i := 17) (N := some 46) (v := undef) (a' := ?_) (bA 40 262143) rfl rfl (by kernel_rfl) (fun _ _ _ h => h) (Or.inr ⟨by rfl, rfl⟩) ?_ ?_
    rotate_left
    ·simp only [Act.put, zA, zB, zC, i64_w, i32_w]
     rfl
    refine pure_ (i := 18) (N := some 47) (v := undef) (a' := ?_) (bA 40 524287) rfl rfl (by kernel_rfl) (fun _ _ _ h => h) (Or.inr ⟨by rfl, rfl⟩) ?_ ?_
    rotate_left
    ·simp only [Act.put, zA, zB, zC, i64_w, i32_w]
     rfl
    refine pure_ (i := 19) (N := some 48) (v := undef) (a' := ?_) (bA 40 1048575) rfl rfl (by kernel_rfl) (fun _ _ _ h => h) (Or.inr ⟨by rfl, rfl⟩) ?_ ?_
    rotate_left
    ·simp only [Act.put, zA, zB, zC, i64_w, i32_w]
     rfl
    refine pure_ (i := 20) (N := some 49) (v := undef) (a' := ?_) (bA 40 2097151) rfl rfl (by kernel_rfl) (fun _ _ _ h => h) (Or.inr ⟨by rfl, rfl⟩) ?_ ?_
    rotate_left
    ·simp only [Act.put, zA, zB, zC, i64_w, i32_w]
     rfl
    refine pure_ (i := 21) (N := some 50) (v := undef) (a' := ?_) (bA 40 4194303) rfl rfl (by kernel_rfl) (fun _ _ _ h => h) (Or.inr ⟨by rfl, rfl⟩) ?_ ?_
    rotate_left
    ·simp only [Act.put, zA, zB, zC, i64_w, i32_w]
     rfl
    refine pure_ (i := 22) (N := some 51) (v := undef) (a' := ?_) (bA 40 8388607) rfl rfl (by kernel_rfl) (fun _ _ _ h => h) (Or.inr ⟨by rfl, rfl⟩) ?_ ?_
    rotate_left
    ·simp only [Act.put, zA, zB, zC, i64_w, i32_w]
     rfl
    refine pure_ (i := 23) (N := some 52) (v := undef) (a' := ?_) (bA 40 16777215) rfl rfl (by kernel_rfl) (fun _ _ _ h => h) (Or.inr ⟨by rfl, rfl⟩) ?_ ?_
    rotate_left
    ·simp only [Act.put, zA, zB, zC, i64_w, i32_w]
     rfl
    refine pure_ (i := 24) (N := some 53) (v := undef) (a' := ?_) (bA 40 33554431) rfl rfl (by kernel_rfl) (fun _ _ _ h => h) (Or.inr ⟨by rfl, rfl⟩) ?_ ?_
    rotate_left
    ·simp only [Act.put, zA, zB, zC, i64_w, i32_w]
     rfl
    refine pure_ (i := 25) (N := some 54) (v := undef) (a' := ?_) (bA 40 67108863) rfl rfl (by kernel_rfl) (fun _ _ _ h => h) (Or.inr ⟨by rfl, rfl⟩) ?_ ?_
    rotate_left
    ·simp only [Act.put, zA, zB, zC, i64_w, i32_w]
     rfl
    refine pure_ (i := 26) (N := some 55) (v := undef) (a' := ?_) (bA 40 134217727) rfl rfl (by kernel_rfl) (fun _ _ _ h => h) (Or.inr ⟨by rfl, rfl⟩) ?_ ?_
    rotate_left
    ·simp only [Act.put, zA, zB, zC, i64_w, i32_w]
     rfl
    refine pure_ (i := 27) (N := some 56) (v := undef) (a' := ?_) (bA 40 268435455) rfl rfl (by kernel_rfl) (fun _ _ _ h => h) (Or.inr ⟨by rfl, rfl⟩) ?_ ?_
    rotate_left
    ·simp only [Act.put, zA, zB, zC, i64_w, i32_w]
     rfl
    refine pure_ (i := 28) (N := some 57) (v := ?_) (a' := ?_) (bA 40 536870911) rfl rfl (by kernel_rfl) (fun _ _ _ h => h) (Or.inl ⟨by rfl, ?_⟩) ?_ ?_
    rotate_left
    ·intro w'
     go_simp
     with_reducible rfl
    rotate_left
    ·simp only [Act.put, zA, zB, zC, i64_w, i32_w]
     rfl
    refine pure_ (i := 29) (N := some 58) (v := ?_) (a' := ?_) (bA 40 1073741823) rfl rfl (by kernel_rfl) (fun _ _ _ h => h) (Or.inl ⟨by rfl, ?_⟩) ?_ ?_
    rotate_left
    ·intro w'
     go_simp
     with_reducible rfl
    rotate_left
    ·simp only [Act.put, zA, zB, zC, i64_w, i32_w]
     rfl
    refine pure_ (i := 30) (N := some 59) (v := ?_) (a' := ?_) (bA 40 2147483647) rfl rfl (by kernel_rfl) (fun _ _ _ h => h) (Or.inl ⟨by rfl, ?_⟩) ?_ ?_
    rotate_left
    ·intro w'
     go_simp
     with_reducible rfl
    rotate_left
    ·simp only [Act.put, zA, zB, zC, i64_w, i32_w]
     rfl
    refine pure_ (i := 31) (N := some 60) (v := ?_) (a' := ?_) (bA 40 4294967295) rfl rfl (by kernel_rfl) (fun _ _ _ h => h) (Or.inl ⟨by rfl, ?_⟩) ?_ ?_
    rotate_left
    ·intro w'
     go_simp
     with_reducible rfl
    rotate_left
    ·simp only [Act.put, zA, zB, zC, i64_w, i32_w]
     rfl
    refine pure_ (i := 33) (N := some 62) (v := ?_) (a' := ?_) (bA 40 12884901887) rfl rfl (by kernel_rfl) (fun _ _ _ h => h) (Or.inl ⟨by rfl, ?_⟩) ?_ ?_
    rotate_left
    ·intro w'
     go_simp
     with_reducible rfl
    rotate_left
    ·simp only [Act.put, zA, zB, zC, i64_w, i32_w]
     rfl
    refine take_ (i := 32) (N := some 61) (v := ?_) (a' := ?_) (bA 40 17179869183) rfl rfl (by kernel_rfl) (fun _ _ _ h => h) (Or.inl ⟨by rfl, ?_⟩) hHeld ?_ ?_
    rotate_left
    ·rintro w' ⟨s0, s1, s2, s3⟩
     go_simp
     with_reducible rfl
    rotate_left
    ·simp only [Act.put, zA, zB, zC, i64_w, i32_w]
     rfl
    refine pure_ (i := 34) (N := some 63) (v := ?_) (a' := ?_) (bA 40 34359738367) rfl rfl (by kernel_rfl) (fun _ _ _ h => h) (Or.inl ⟨by rfl, ?_⟩) ?_ ?_
    rotate_left
    ·intro w'
     go_simp
     with_reducible rfl
    rotate_left
    ·simp only [Act.put, zA, zB, zC, i64_w, i32_w]
     rfl
    refine pure_ (i := 35) (N := some 64) (v := ?_) (a' := ?_) (bA 40 68719476735) rfl rfl (by kernel_rfl) (fun _ _ _ h => h) (Or.inl ⟨by rfl, ?_⟩) ?_ ?_
    rotate_left
    ·intro w'
     go_simp
     with_reducible rfl
    rotate_left
    ·simp only [Act.put, zA, zB, zC, i64_w, i32_w]
     rfl
    refine take_ (i := 36) (N := some 65) (v := ?_) (a' := ?_) (bA 40 137438953471) rfl rfl (by kernel_rfl) (fun _ _ _ h => h) (Or.inl ⟨by rfl, ?_⟩) hHeld ?_ ?_
    rotate_left
    ·rintro w' ⟨s0, s1, s2, s3⟩
     go_simp
     with_reducible rfl
    rotate_left
    ·simp only [Act.put, zA, zB, zC, i64_w, i32_w]
     rfl
    refine one_ (i := 37) (N := some 66) (bA 40 274877906943) rfl rfl (by kernel_rfl) (by decide) (fun K hK => ?_)
    refine goes_ Tryd.func15 (by kernel_rfl) rfl #[.string y] (by rfl) rfl rfl (by simp only [List.map_toArray, List.map_cons, List.map_nil]; rfl) ?_
    with_reducible refine (root_Named.calls 1000000 y true _ HNF.out).mono ?_
    rintro e wn ⟨rfl, hbn⟩
    refine ⟨_, rfl, ?_⟩
    replace HBF := Asd.mk (below_step HBF.out hbn.below)
    replace HXF := Asd.mk (below_box hbn.below HXF.out)
    refine hK.out _ _ ⟨(cell_below (cell_below (drew_cell kr0) hbf) hbn.below), (cell_below (cell_below (drew_cell kr1) hbf) hbn.below), (cell_below (cell_below (drew_cell kr2) hbf) hbn.below), (cell_below (cell_below (drew_cell q0) hbf) hbn.below)⟩ (fun hHeld => ?_)
    clear hK K
    refine norm_ (a' := ?_) ?_ ?_
    rotate_left
    ·show Act.put _ (some 66) _ = _
     simp only [Act.put, zA, zB, zC, i64_w, i32_w]
     rfl
    refine pure_ (i := 38) (N := some 67) (v := ?_) (a' := ?_) (bA 40 549755813887) rfl rfl (by kernel_rfl) (fun _ _ _ h => h) (Or.inl ⟨by rfl, ?_⟩) ?_ ?_
    rotate_left
    ·intro w'
     go_simp
     with_reducible rfl
    rotate_left
    ·simp only [Act.put, zA, zB, zC, i64_w, i32_w]
     rfl
    refine pure_ (i := 39) (N := some 68) (v := ?_) (a' := ?_) (bA 40 1099511627775) rfl rfl (by kernel_rfl) (fun _ _ _ h => h) (Or.inl ⟨by rfl, ?_⟩) ?_ ?_
    rotate_left
    ·intro w'
     go_simp
     with_reducible rfl
    rotate_left
    ·simp only [Act.put, zA, zB, zC, i64_w, i32_w]
     rfl
    refine done_ (by kernel_rfl) ?_
    have kn2 : wn.cell? ⟨w.heap.size, 2, none⟩ = some (.slice (some ad) forks.length cf) := (box_cell HXF.out 2 rfl).1
    have qn : wn.cell? (ad.add (kk * 5)) = some (.string y) := cell_below (cell_below (drew_cell q0) hbf) hbn.below
    clear q0 kr0 kr1 kr2 hHeld hbf hbn
    cases hth : thereF a1 (forks.take kk) with
    | true =>
     rw [hth] at HTN
     clear hth
     go_wp2
     go_roundg (forks.length - (kk + 1))
     case measure => omega
     case rel => exact ⟨kk + 1, by omega, Nat.le_refl _, by rw [HTN.out]; rfl, by go_num, HBF, HXF⟩
    | false =>
     rw [hth] at HTN
     clear hth
     go_wp2
     go_roundg (forks.length - (kk + 1))
     case measure => omega
     case rel => exact ⟨kk + 1, by omega, Nat.le_refl _, by rw [HTN.out, Bool.false_or], by go_num, HBF, HXF⟩
   ·obtain ⟨hpl, hpc⟩ := hprev (by omega)
    obtain ⟨j, hj⟩ : ∃ j, j = kk - 1 := ⟨_, rfl⟩
    have wj : IntKind.i64.wrap ((kk : Int) - 1) = (j : Int) := by rw [i64_w, w64 (by omega) (by omega)]; omega
    have hjl : (j : Int) < (forks.length : Int) := by omega
    obtain ⟨z, hz⟩ : ∃ z, z = (forks[kk - 1]'(by omega)).f0 := ⟨_, rfl⟩
    rw [<- hz] at hpl hpc
    rw [<- hj] at hpc
    have qp := hpc
    have d0 : decide ((0 : Int) < (kk : Int)) = true := decide_eq_true (by omega)
    have d0n : decide (0 < kk) = true := decide_eq_true (by omega)
    clear hprev h0 hz hpc hj
    go_upto_region 8 with (fail)
    refine start_ (n := 40) (S := fun w' => w'.cell? ⟨w.heap.size, 0, none⟩ = some (.int .i64 n0) /\ w'.cell? ⟨w.heap.size, 1, none⟩ = some (.slice Ap pool.length cp) /\ w'.cell? ⟨w.heap.size, 2, none⟩ = some (.slice (some ad) forks.length cf) /\ w'.cell? (ad.add (kk * 5)) = some (.string y) /\ w'.cell? (ad.add (j * 5)) = some (.string z)) (ds := []) (bA 40 0) (by kernel_rfl) rfl rfl ⟨(drew_cell kr0), (drew_cell kr1), (drew_cell kr2), (drew_cell q0), (drew_cell qp)⟩ (fun hHeld => ?_)
    refine pure_ (i := 1) (N := some 30) (v := ?_) (a' := ?_) (bA 40 2) rfl rfl (by kernel_rfl) (fun _ _ _ h => h) (Or.inl ⟨by rfl, ?_⟩) ?_ ?_
    rotate_left
    ·intro w'
     go_simp
     with_reducible rfl
    rotate_left
    ·simp only [Act.put, zA, zB, zC, i64_w, i32_w]
     rfl
    refine pure_ (i := 3) (N := some 32) (v := ?_) (a' := ?_) (bA 40 10) rfl rfl (by kernel_rfl) (fun _ _ _ h => h) (Or.inl ⟨by rfl, ?_⟩) ?_ ?_
    rotate_left
    ·intro w'
     go_simp
     with_reducible rfl
    rotate_left
    ·simp only [Act.put, zA, zB, zC, i64_w, i32_w]
     rfl
    refine pure_ (i := 8) (N := some 37) (v := ?_) (a' := ?_) (bA 40 266) rfl rfl (by kernel_rfl) (fun _ _ _ h => h) (Or.inl ⟨by rfl, ?_⟩) ?_ ?_
    rotate_left
    ·intro w'
     go_simp
     with_reducible rfl
    rotate_left
    ·simp only [Act.put, zA, zB, zC, i64_w, i32_w]
     rfl
    refine take_ (i := 0) (N := some 29) (v := ?_) (a' := ?_) (bA 40 267) rfl rfl (by kernel_rfl) (fun _ _ _ h => h) (Or.inl ⟨by rfl, ?_⟩) hHeld ?_ ?_
    rotate_left
    ·rintro w' ⟨s0, s1, s2, s3, s4⟩
     go_simp
     with_reducible rfl
    rotate_left
    ·simp only [Act.put, zA, zB, zC, i64_w, i32_w]
     rfl
    refine take_ (i := 2) (N := some 31) (v := ?_) (a' := ?_) (bA 40 271) rfl rfl (by kernel_rfl) (fun _ _ _ h => h) (Or.inl ⟨by rfl, ?_⟩) hHeld ?_ ?_
    rotate_left
    ·rintro w' ⟨s0, s1, s2, s3, s4⟩
     go_simp
     with_reducible rfl
    rotate_left
    ·simp only [Act.put, zA, zB, zC, i64_w, i32_w]
     rfl
    refine pure_ (i := 4) (N := some 33) (v := ?_) (a' := ?_) (bA 40 287) rfl rfl (by kernel_rfl) (fun _ _ _ h => h) (Or.inl ⟨by rfl, ?_⟩) ?_ ?_
    rotate_left
    ·intro w'
     go_simp
     with_reducible rfl
    rotate_left
    ·simp only [Act.put, zA, zB, zC, i64_w, i32_w]
     rfl
    refine pure_ (i := 5) (N := some 34) (v := ?_) (a' := ?_) (bA 40 319) rfl rfl (by kernel_rfl) (fun _ _ _ h => h) (Or.inl ⟨by rfl, ?_⟩) ?_ ?_
    rotate_left
    ·intro w'
     go_simp
     with_reducible rfl
    rotate_left
    ·simp only [Act.put, zA, zB, zC, i64_w, i32_w]
     rfl
    refine take_ (i := 6) (N := some 35) (v := ?_) (a' := ?_) (bA 40 383) rfl rfl (by kernel_rfl) (fun _ _ _ h => h) (Or.inl ⟨by rfl, ?_⟩) hHeld ?_ ?_
    rotate_left
    ·rintro w' ⟨s0, s1, s2, s3, s4⟩
     go_simp
     with_reducible rfl
    rotate_left
    ·simp only [Act.put, zA, zB, zC, i64_w, i32_w]
     rfl
    refine one_ (i := 7) (N := some 36) (bA 40 511) rfl rfl (by kernel_rfl) (by decide) (fun K hK => ?_)
    refine goes_ Tryd.func14 (by kernel_rfl) rfl #[.agg #[.int .i64 n0, .slice Ap pool.length cp, .slice (some ad) forks.length cf], .string y] (by rfl) rfl rfl (by simp only [List.map_toArray, List.map_cons, List.map_nil]; rfl) ?_
    with_reducible refine (HFY.out _ (below_step HB.out (bd1 (Below.refl _ _)))).mono ?_
    rintro e wf ⟨rfl, hbf⟩
    refine ⟨_, rfl, ?_⟩
    have HBF := Asd.mk (below_step (below_step HB.out (bd1 (Below.refl _ _))) hbf)
    have HXF := Asd.mk (below_box hbf (show wr.drew.heap[w.heap.size]? = _ from HX.out))
    refine hK.out _ _ ⟨(cell_below (drew_cell kr0) hbf), (cell_below (drew_cell kr1) hbf), (cell_below (drew_cell kr2) hbf), (cell_below (drew_cell q0) hbf), (cell_below (drew_cell qp) hbf)⟩ (fun hHeld => ?_)
    clear hK K
    refine norm_ (a' := ?_) ?_ ?_
    rotate_left
    ·show Act.put _ (some 36) _ = _
     simp only [Act.put, zA, zB, zC, i64_w, i32_w]
     rfl
    refine pure_ (i := 9) (N := some 38) (v := ?_) (a' := ?_) (bA 40 1023) rfl rfl (by kernel_rfl) (fun _ _ _ h => h) (Or.inl ⟨by rfl, ?_⟩) ?_ ?_
    rotate_left
    ·intro w'
     go_simp
     with_reducible rfl
    rotate_left
    ·simp only [Act.put, zA, zB, zC, i64_w, i32_w]
     rfl
    refine pure_ (i := 10) (N := some 39) (v := ?_) (a' := ?_) (bA 40 2047) rfl rfl (by kernel_rfl) (fun _ _ _ h => h) (Or.inl ⟨by rfl, ?_⟩) ?_ ?_
    rotate_left
    ·intro w'
     go_simp
     with_reducible rfl
    rotate_left
    ·simp only [Act.put, zA, zB, zC, i64_w, i32_w]
     rfl
    refine pure_ (i := 11) (N := some 40) (v := ?_) (a' := ?_) (bA 40 4095) rfl rfl (by kernel_rfl) (fun _ _ _ h => h) (Or.inl ⟨by rfl, ?_⟩) ?_ ?_
    rotate_left
    ·intro w'
     go_simp
     with_reducible rfl
    rotate_left
    ·simp only [Act.put, zA, zB, zC, i64_w, i32_w]
     rfl
    refine pure_ (i := 12) (N := some 41) (v := ?_) (a' := ?_) (bA 40 8191) rfl rfl (by kernel_rfl) (fun _ _ _ h => h) (Or.inl ⟨by rfl, ?_⟩) ?_ ?_
    rotate_left
    ·intro w'
     go_simp
     with_reducible rfl
    rotate_left
    ·simp only [Act.put, zA, zB, zC, i64_w, i32_w]
     rfl
    refine pure_ (i := 13) (N := some 42) (v := ?_) (a' := ?_) (bA 40 16383) rfl rfl (by kernel_rfl) (fun _ _ _ h => h) (Or.inl ⟨by rfl, ?_⟩) ?_ ?_
    rotate_left
    ·intro w'
     go_simp
     with_reducible rfl
    rotate_left
    ·simp only [Act.put, zA, zB, zC, i64_w, i32_w]
     rfl
    refine pure_ (i := 14) (N := some 43) (v := ?_) (a' := ?_) (bA 40 32767) rfl rfl (by kernel_rfl) (fun _ _ _ h => h) (Or.inl ⟨by rfl, ?_⟩) ?_ ?_
    rotate_left
    ·intro w'
     go_simp
     with_reducible rfl
    rotate_left
    ·simp only [Act.put, zA, zB, zC, i64_w, i32_w]
     rfl
    refine pure_ (i := 16) (N := some 45) (v := ?_) (a' := ?_) (bA 40 98303) rfl rfl (by kernel_rfl) (fun _ _ _ h => h) (Or.inl ⟨by rfl, ?_⟩) ?_ ?_
    rotate_left
    ·intro w'
     go_simp
     with_reducible rfl
    rotate_left
    ·simp only [Act.put, zA, zB, zC, i64_w, i32_w]
     rfl
    refine pure_ (i := 17) (N := some 46) (v := ?_) (a' := ?_) (bA 40 229375) rfl rfl (by kernel_rfl) (fun _ _ _ h => h) (Or.inl ⟨by rfl, ?_⟩) ?_ ?_
    rotate_left
    ·intro w'
     go_simp
     with_reducible rfl
    rotate_left
    ·simp only [Act.put, zA, zB, zC, i64_w, i32_w]
     rfl
    refine pure_ (i := 21) (N := some 50) (v := ?_) (a' := ?_) (bA 40 2326527) rfl rfl (by kernel_rfl) (fun _ _ _ h => h) (Or.inl ⟨by rfl, ?_⟩) ?_ ?_
    rotate_left
    ·intro w'
     go_simp
     with_reducible rfl
    rotate_left
    ·simp only [Act.put, zA, zB, zC, i64_w, i32_w]
     rfl
    refine pure_ (i := 23) (N := some 52) (v := ?_) (a' := ?_) (bA 40 10715135) rfl rfl (by kernel_rfl) (fun _ _ _ h => h) (Or.inl ⟨by rfl, ?_⟩) ?_ ?_
    rotate_left
    ·intro w'
     go_simp
     with_reducible rfl
    rotate_left
    ·simp only [Act.put, zA, zB, zC, i64_w, i32_w]
     rfl
    refine take_ (i := 15) (N := some 44) (v := ?_) (a' := ?_) (bA 40 10747903) rfl rfl (by kernel_rfl) (fun _ _ _ h => h) (Or.inl ⟨by rfl, ?_⟩) hHeld ?_ ?_
    rotate_left
    ·rintro w' ⟨s0, s1, s2, s3, s4⟩
     go_simp
     with_reducible rfl
    rotate_left
    ·simp only [Act.put, zA, zB, zC, i64_w, i32_w]
     rfl
    refine pure_ (i := 18) (N := some 47) (v := ?_) (a' := ?_) (bA 40 11010047) rfl rfl (by kernel_rfl) (fun _ _ _ h => h) (Or.inl ⟨by rfl, ?_⟩) ?_ ?_
    rotate_left
    ·intro w'
     go_simp
     with_reducible rfl
    rotate_left
    ·simp only [Act.put, zA, zB, zC, i64_w, i32_w]
     rfl
    refine pure_ (i := 19) (N := some 48) (v := ?_) (a' := ?_) (bA 40 11534335) rfl rfl (by kernel_rfl) (fun _ _ _ h => h) (Or.inl ⟨by rfl, ?_⟩) ?_ ?_
    rotate_left
    ·intro w'
     go_simp
     with_reducible rfl
    rotate_left
    ·simp only [Act.put, zA, zB, zC, i64_w, i32_w]
     rfl
    refine take_ (i := 20) (N := some 49) (v := ?_) (a' := ?_) (bA 40 12582911) rfl rfl (by kernel_rfl) (fun _ _ _ h => h) (Or.inl ⟨by rfl, ?_⟩) hHeld ?_ ?_
    rotate_left
    ·rintro w' ⟨s0, s1, s2, s3, s4⟩
     go_simp
     with_reducible rfl
    rotate_left
    ·simp only [Act.put, zA, zB, zC, i64_w, i32_w]
     rfl
    refine take_ (i := 22) (N := some 51) (v := ?_) (a' := ?_) (bA 40 16777215) rfl rfl (by kernel_rfl) (fun _ _ _ h => h) (Or.inl ⟨by rfl, ?_⟩) hHeld ?_ ?_
    rotate_left
    ·rintro w' ⟨s0, s1, s2, s3, s4⟩
     go_simp
     with_reducible rfl
    rotate_left
    ·simp only [Act.put, zA, zB, zC, i64_w, i32_w]
     rfl
    refine pure_ (i := 24) (N := some 53) (v := ?_) (a' := ?_) (bA 40 33554431) rfl rfl (by kernel_rfl) (fun _ _ _ h => h) (Or.inl ⟨by rfl, ?_⟩) ?_ ?_
    rotate_left
    ·intro w'
     go_simp
     with_reducible rfl
    rotate_left
    ·simp only [Act.put, zA, zB, zC, i64_w, i32_w]
     rfl
    refine pure_ (i := 25) (N := some 54) (v := ?_) (a' := ?_) (bA 40 67108863) rfl rfl (by kernel_rfl) (fun _ _ _ h => h) (Or.inl ⟨by rfl, ?_⟩) ?_ ?_
    rotate_left
    ·intro w'
     go_simp
     with_reducible rfl
    rotate_left
    ·simp only [Act.put, zA, zB, zC, i64_w, i32_w]
     rfl
    refine take_ (i := 26) (N := some 55) (v := ?_) (a' := ?_) (bA 40 134217727) rfl rfl (by kernel_rfl) (fun _ _ _ h => h) (Or.inl ⟨by rfl, ?_⟩) hHeld ?_ ?_
    rotate_left
    ·rintro w' ⟨s0, s1, s2, s3, s4⟩
     go_simp
     with_reducible rfl
    rotate_left
    ·simp only [Act.put, zA, zB, zC, i64_w, i32_w]
     rfl
    refine pure_ (i := 27) (N := some 56) (v := ?_) (a' := ?_) (bA 40 268435455) rfl rfl (by kernel_rfl) (fun _ _ _ h => h) (Or.inl ⟨by rfl, ?_⟩) ?_ ?_
    rotate_left
    ·intro w'
     go_simp
     with_reducible rfl
    rotate_left
    ·simp only [Act.put, zA, zB, zC, i64_w, i32_w]
     rfl
    refine pure_ (i := 28) (N := some 57) (v := ?_) (a' := ?_) (bA 40 536870911) rfl rfl (by kernel_rfl) (fun _ _ _ h => h) (Or.inl ⟨by rfl, ?_⟩) ?_ ?_
    rotate_left
    ·intro w'
     go_simp
     with_reducible rfl
    rotate_left
    ·simp only [Act.put, zA, zB, zC, i64_w, i32_w]
     rfl
    refine pure_ (i := 29) (N := some 58) (v := ?_) (a' := ?_) (bA 40 1073741823) rfl rfl (by kernel_rfl) (fun _ _ _ h => h) (Or.inl ⟨by rfl, ?_⟩) ?_ ?_
    rotate_left
    ·intro w'
     go_simp
     with_reducible rfl
    rotate_left
    ·simp only [Act.put, zA, zB, zC, i64_w, i32_w]
     rfl
    refine pure_ (i := 30) (N := some 59) (v := ?_) (a' := ?_) (bA 40 2147483647) rfl rfl (by kernel_rfl) (fun _ _ _ h => h) (Or.inl ⟨by rfl, ?_⟩) ?_ ?_
    rotate_left
    ·intro w'
     go_simp
     with_reducible rfl
    rotate_left
    ·simp only [Act.put, zA, zB, zC, i64_w, i32_w]
     rfl
    refine pure_ (i := 31) (N := some 60) (v := ?_) (a' := ?_) (bA 40 4294967295) rfl rfl (by kernel_rfl) (fun _ _ _ h => h) (Or.inl ⟨by rfl, ?_⟩) ?_ ?_
    rotate_left
    ·intro w'
     go_simp
     with_reducible rfl
    rotate_left
    ·simp only [Act.put, zA, zB, zC, i64_w, i32_w]
     rfl
    refine pure_ (i := 33) (N := some 62) (v := ?_) (a' := ?_) (bA 40 12884901887) rfl rfl (by kernel_rfl) (fun _ _ _ h => h) (Or.inl ⟨by rfl, ?_⟩) ?_ ?_
    rotate_left
    ·intro w'
     go_simp
     with_reducible rfl
    rotate_left
    ·simp only [Act.put, zA, zB, zC, i64_w, i32_w]
     rfl
    refine take_ (i := 32) (N := some 61) (v := ?_) (a' := ?_) (bA 40 17179869183) rfl rfl (by kernel_rfl) (fun _ _ _ h => h) (Or.inl ⟨by rfl, ?_⟩) hHeld ?_ ?_
    rotate_left
    ·rintro w' ⟨s0, s1, s2, s3, s4⟩
     go_simp
     with_reducible rfl
    rotate_left
    ·simp only [Act.put, zA, zB, zC, i64_w, i32_w]
     rfl
    refine pure_ (i := 34) (N := some 63) (v := ?_) (a' := ?_) (bA 40 34359738367) rfl rfl (by kernel_rfl) (fun _ _ _ h => h) (Or.inl ⟨by rfl, ?_⟩) ?_ ?_
    rotate_left
    ·intro w'
     go_simp
     with_reducible rfl
    rotate_left
    ·simp only [Act.put, zA, zB, zC, i64_w, i32_w]
     rfl
    refine pure_ (i := 35) (N := some 64) (v := ?_) (a' := ?_) (bA 40 68719476735) rfl rfl (by kernel_rfl) (fun _ _ _ h => h) (Or.inl ⟨by rfl, ?_⟩) ?_ ?_
    rotate_left
    ·intro w'
     go_simp
     with_reducible rfl
    rotate_left
    ·simp only [Act.put, zA, zB, zC, i64_w, i32_w]
     rfl
    refine take_ (i := 36) (N := some 65) (v := ?_) (a' := ?_) (bA 40 137438953471) rfl rfl (by kernel_rfl) (fun _ _ _ h => h) (Or.inl ⟨by rfl, ?_⟩) hHeld ?_ ?_
    rotate_left
    ·rintro w' ⟨s0, s1, s2, s3, s4⟩
     go_simp
     with_reducible rfl
    rotate_left
    ·simp only [Act.put, zA, zB, zC, i64_w, i32_w]
     rfl
    refine one_ (i := 37) (N := some 66) (bA 40 274877906943) rfl rfl (by kernel_rfl) (by decide) (fun K hK => ?_)
    refine goes_ Tryd.func15 (by kernel_rfl) rfl #[.string y] (by rfl) rfl rfl (by simp only [List.map_toArray, List.map_cons, List.map_nil]; rfl) ?_
    with_reducible refine (root_Named.calls 1000000 y true _ HNF.out).mono ?_
    rintro e wn ⟨rfl, hbn⟩
    refine ⟨_, rfl, ?_⟩
    replace HBF := Asd.mk (below_step HBF.out hbn.below)
    replace HXF := Asd.mk (below_box hbn.below HXF.out)
    refine hK.out _ _ ⟨(cell_below (cell_below (drew_cell kr0) hbf) hbn.below), (cell_below (cell_below (drew_cell kr1) hbf) hbn.below), (cell_below (cell_below (drew_cell kr2) hbf) hbn.below), (cell_below (cell_below (drew_cell q0) hbf) hbn.below), (cell_below (cell_below (drew_cell qp) hbf) hbn.below)⟩ (fun hHeld => ?_)
    clear hK K
    refine norm_ (a' := ?_) ?_ ?_
    rotate_left
    ·show Act.put _ (some 66) _ = _
     simp only [Act.put, zA, zB, zC, i64_w, i32_w]
     rfl
    refine pure_ (i := 38) (N := some 67) (v := ?_) (a' := ?_) (bA 40 549755813887) rfl rfl (by kernel_rfl) (fun _ _ _ h => h) (Or.inl ⟨by rfl, ?_⟩) ?_ ?_
    rotate_left
    ·intro w'
     go_simp
     with_reducible rfl
    rotate_left
    ·simp only [Act.put, zA, zB, zC, i64_w, i32_w]
     rfl
    refine pure_ (i := 39) (N := some 68) (v := ?_) (a' := ?_) (bA 40 1099511627775) rfl rfl (by kernel_rfl) (fun _ _ _ h => h) (Or.inl ⟨by rfl, ?_⟩) ?_ ?_
    rotate_left
    ·intro w'
     go_simp
     with_reducible rfl
    rotate_left
    ·simp only [Act.put, zA, zB, zC, i64_w, i32_w]
     rfl
    refine done_ (by kernel_rfl) ?_
    have kn2 : wn.cell? ⟨w.heap.size, 2, none⟩ = some (.slice (some ad) forks.length cf) := (box_cell HXF.out 2 rfl).1
    have qn : wn.cell? (ad.add (kk * 5)) = some (.string y) := cell_below (cell_below (drew_cell q0) hbf) hbn.below
    clear q0 kr0 kr1 kr2 hHeld hbf hbn
    cases hth : thereF a1 (forks.take kk) with
    | true =>
     rw [hth] at HTN
     clear hth
     go_wp2
     go_roundg (forks.length - (kk + 1))
     case measure => omega
     case rel => exact ⟨kk + 1, by omega, Nat.le_refl _, by rw [HTN.out]; rfl, by go_num, HBF, HXF⟩
    | false =>
     rw [hth] at HTN
     clear hth
     go_wp2
     go_roundg (forks.length - (kk + 1))
     case measure => omega
     case rel => exact ⟨kk + 1, by omega, Nat.le_refl _, by rw [HTN.out, Bool.false_or], by go_num, HBF, HXF⟩
  ·obtain rfl : kk = forks.length := by omega
   rw [List.take_length]
   have hix : decide (0 <= root_Find.ix a1 forks) = thereF a1 forks := ix_any a1 forks
   have HFA := Asd.mk (HFN.out a1)
   clear HFN
   obtain ⟨x, hx⟩ : ∃ x, root_Find.ix a1 forks = x := ⟨_, rfl⟩
   rw [hx] at HFA hix
   rw [<- hix]
   clear hx hix
   by_cases c : 0 <= x
   ·rw [decide_eq_true c]
    have c0 := eq_true c
    go_wp2_with (go_at_call 14; with_reducible refine (HFA.out _ HB.out).mono ?_; rintro e W5 ⟨rfl, hb⟩; replace HB := Asd.mk (below_step HB.out hb); clear hb)
    go_ret
    exact ⟨rfl, HB.out⟩
   ·rw [decide_eq_false c]
    have c0 := eq_false c
    go_wp2_with (go_at_call 14; with_reducible refine (HFA.out _ HB.out).mono ?_; rintro e W5 ⟨rfl, hb⟩; replace HB := Asd.mk (below_step HB.out hb); clear hb)
    go_ret
    exact ⟨rfl, HB.out⟩
end Go.Proofs.YtlfenakgphmepaaDoor.Root
