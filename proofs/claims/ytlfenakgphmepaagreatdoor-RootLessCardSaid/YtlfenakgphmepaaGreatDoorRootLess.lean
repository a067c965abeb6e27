/- The calls of RootLess answer true, whatever they are handed. -/
import Derived.Test.YtlfenakgphmepaaGreatDoorRootLessP
import Derived.Test.YtlfenakgphmepaaGreatDoorRootHeadW
import Derived.Test.YtlfenakgphmepaaGreatDoorNameId
namespace Go.Proofs.YtlfenakgphmepaaGreatDoor.Root
open Go.RowKit Go.Proofs.YtlfenakgphmepaaGreatDoorW.PrintWords Go.Proofs.YtlfenakgphmepaaGreatDoorW.PrintLast Go.Proofs.YtlfenakgphmepaaGreatDoorW.PrintMore Go.Proofs.YtlfenakgphmepaaGreatDoor.Conv Go.Proofs.YtlfenakgphmepaaGreatDoor.Print Go.Proofs.YtlfenakgphmepaaGreatDoor.Build
set_option linter.unusedVariables false
set_option linter.unusedSimpArgs false
abbrev zFk : Value := .agg #[.string ⟨#[]⟩, .bool false, .string ⟨#[]⟩, .slice none 0 0, .slice none 0 0]
theorem infoFk : (Tryz.prog.info? 39).map (fun i => (i.zero, i.size, i.bytes)) = some (some zFk, 5, 88) := by kernel_rfl
theorem heap_ref : Kd.Heap k83 := Kd.heap_iso _ (Kd.heap_pair Kd.heap_string Kd.heap_string)
theorem heap_fork : Kd.Heap k39 := Kd.heap_iso _ (Kd.heap_pair Kd.heap_string (Kd.heap_pair Kd.heap_bool (Kd.heap_pair Kd.heap_string (Kd.heap_pair (Kd.heap_slice _ heap_ref) (Kd.heap_slice _ Kd.heap_string)))))
theorem cell_below2 {B : Nat} {W W' : World} (h : Below B W W') {a : Addr} {v : Value} (hc : W.cell? a = some v) (hB : a.block < B := by first | assumption | omega) : W'.cell? a = some v := by
 unfold World.cell? at hc ⊢
 rw [h.block a.block hB]
 exact hc
theorem R_str {h1 : ∀ x : ByteArray, (Value.string x).oneCell' = true} {e : Nat} {W : World} {b : Nat} {ok : Nat -> Prop} {v : Value} {xs : List ByteArray} (h : Kd.R (Kd.scalar Value.string h1) e W b ok v xs) : Kd.R Kd.string e W b ok v xs := h
theorem C_str1 (W : World) (c : ByteArray) (t : TypeId) : Kd.C Kd.string (W.alloc (.cells #[.string c] t)) (some ⟨W.heap.size, 0, none⟩) 1 [c] :=
 C_strs [c] (heap_alloc_new W (.cells #[.string c] t)) (show 1 <= 9223372036854775807 by decide)
theorem right_smL {n : Int} {pool : List ByteArray} {forks : List Fk} (h : rootF n pool forks = true) : SmR n pool forks := by
 obtain ⟨hf, hn, hp, hm⟩ := rootF_out h
 refine ⟨fun s hs => by have := Hello.id_size ((packs_out hp).2.1 s hs); omega, fun g hg => ?_, by omega⟩
 obtain ⟨a, b, c, d, e⟩ := forkB_out (hf g hg)
 exact ⟨by have := rn_size a; omega, by have := Hello.named_size d; omega, fun y hy => by have := rf_size c y hy; omega, fun s hs => by have := Hello.id_size ((packs_out b).2.1 s hs); omega⟩
theorem cell_old {bS : Nat} {W W' : World} (h : ∀ k, k < bS -> W'.heap[k]? = W.heap[k]?) {a : Addr} {v : Value} (hc : W.cell? a = some v) (hB : a.block < bS) : W'.cell? a = some v := by
 unfold World.cell? at hc ⊢
 rw [h a.block hB]
 exact hc
theorem below_step2 {B : Nat} {W0 W W' : World} (h : Below B W0 W) (hB : B <= W0.heap.size) (h2 : Below W.heap.size W W') : Below B W0 W' := h.trans (below_less h2 (Nat.le_trans hB h.size))
theorem F_fork1 {W : World} {g : Nat} {t : TypeId} {fr : Nat × Nat} {S : Nat -> Prop} (x : Fk) {A3 A4 : Option Addr} {c3 c4 : Nat} (h : W.heap[g]? = some (.cells #[.string x.f0, .bool x.f1, .string x.f2, .slice A3 x.f3.length c3, .slice A4 x.f4.length c4] t fr))
  (l3 : x.f3.length <= c3) (g3 : Kd.F k83 W S A3 x.f3.length x.f3) (l4 : x.f4.length <= c4) (g4 : Kd.F Kd.string W S A4 x.f4.length x.f4) : Kd.F k39 W (fun k => k = g ∨ S k) (some ⟨g, 0, none⟩) 1 [x] := by
 intro W' hk
 exact C_fork1 x ((hk g (Or.inl rfl) (lt_box h)).trans h) l3 (g3 W' (fun k e hl => hk k (Or.inr e) hl)) l4 (g4 W' (fun k e hl => hk k (Or.inr e) hl))
theorem u8_wf {x : Int} (h : (Lit.int .u8 x).wf = true) : 0 <= x /\ x <= 255 := by
 simp [Lit.wf, IntKind.min, IntKind.max, IntKind.signed, IntKind.bits] at h
 exact ⟨by omega, by omega⟩
theorem cut_fk (A : Option Addr) (c : Nat) (xs : List Fk) (hc : xs.length <= c) (m m1 : Nat) (hm : m < xs.length) (hm1 : m1 <= xs.length) :
  ∃ A2, (∀ W : World, (Instr.slice 23 (.slice A xs.length c) none (some (.int .i64 (m : Int))) none).run Tryz.prog W = .ok (.slice A m c) W) /\ (∀ W : World, (Instr.slice 23 (.slice A xs.length c) (some (.int .i64 (m1 : Int))) none none).run Tryz.prog W = .ok (.slice A2 (xs.length - m1) (c - m1)) W) /\
   (∀ W S, Kd.F k39 W S A xs.length xs -> Kd.F k39 W S A m (xs.take m)) /\ (∀ W S, Kd.F k39 W S A xs.length xs -> Kd.F k39 W S A2 (xs.length - m1) (xs.drop m1)) := by
 obtain ⟨i, hi, hi2⟩ := Option.map_eq_some_iff.1 infoFk
 have hsz : i.size = 5 := congrArg (fun x => x.2.1) hi2
 refine ⟨_, ?_, cut_from (P := Tryz.prog) 23 39 .i64 Tryz.underlying23 hi 5 hsz A xs.length c (m1 : Int) (by omega) (by omega), fun W S h => ?_, fun W S h => ?_⟩
 ·intro W
  have := cut_to (P := Tryz.prog) 23 39 .i64 Tryz.underlying23 hi A xs.length c (m : Int) (by omega) (by omega) hc W
  rw [Int.toNat_natCast] at this
  exact this
 ·have := Kd.F_take h (m := m) (by omega)
  rw [List.length_take, Nat.min_eq_left (by omega)] at this
  exact this
 ·rw [Int.toNat_natCast]
  have := Kd.F_cut h (m := m1) (by omega) hc
  rw [List.length_drop] at this
  exact this
set_option maxRecDepth 100000 in
set_option maxHeartbeats 16000000 in
theorem RootLess_core {w : World} (htab : Lib.TabIs Tryz.prog w "internal/strconv.uint64pow10" .u64 Lib.pow10Tab)
  (n0 : Int) (Ap : Option Addr) (cp : Nat) (pool : List ByteArray) (hrp : Kd.C Kd.string w Ap pool.length pool) (hcp : pool.length <= cp) (Af : Option Addr) (cf : Nat) (forks : List Fk) (hrf : Kd.C k39 w Af forks.length forks) (hcf : forks.length <= cf) (hok : okRoot (n0, pool, forks))
  (a1 : Int) (w1 : (Lit.int .u8 a1).wf = true) (A2 : Option Addr) (c2 : Nat) (l2 : List Int) (hr2 : Kd.C (Kd.int .u8) w A2 l2.length l2) (hc2 : l2.length <= c2) (hm2 : l2.length <= maxLen) (hp2 : ∀ x ∈ l2, (Lit.int .u8 x).wf = true) :
  Calls Tryz.prog 4 #[.agg #[.int .i64 n0, .slice Ap pool.length cp, .slice Af forks.length cf], .int .u8 a1, .slice A2 l2.length c2] w fun e w' => e = .returned (.bool true) /\ Below w.heap.size w w' := by
 obtain ⟨kg, g, hgr, hsm⟩ := great_eq hok
 have HZ1 := Asd.mk (u8_wf w1)
 have HTB := Asd.mk (show Tb w from Lib.tabBelow_of_tabIs htab)
 have HG := Asd.mk hgr
 have HSM := Asd.mk hsm
 have HRP := Asd.mk hrp
 have HRF := Asd.mk hrf
 have HCP := Asd.mk hcp
 have HCF := Asd.mk hcf
 have HR2 := Asd.mk hr2
 have HC2 := Asd.mk hc2
 have HB0 := Asd.mk (bal (Below.refl w.heap.size w) (.cells #[.int .i64 n0, .slice Ap pool.length cp, .slice Af forks.length cf] 25))
 have HX0 := Asd.mk (heap_alloc_new w (.cells #[.int .i64 n0, .slice Ap pool.length cp, .slice Af forks.length cf] 25))
 clear htab hrp hcp hrf hcf hok hgr hsm w1 hr2 hc2 hm2 hp2
 go_enter Tryz.func4, Tryz.ntmps4
 go_upto_region 2 with (go_at_call 5; with_reducible refine (head_calls (HTB.out.below HB0.out)).mono ?_; rintro e W1 ⟨rfl, hb⟩; have HX := Asd.mk (below_box hb HX0.out); have HB := Asd.mk (below_step HB0.out hb); clear hb HB0 HX0)
 have kr0 : W1.cell? ⟨w.heap.size, 0, none⟩ = some (.int .i64 n0) := (box_cell HX.out 0 rfl).1
 have kr1 : W1.cell? ⟨w.heap.size, 1, none⟩ = some (.slice Ap pool.length cp) := (box_cell HX.out 1 rfl).1
 have kr2 : W1.cell? ⟨w.heap.size, 2, none⟩ = some (.slice Af forks.length cf) := (box_cell HX.out 2 rfl).1
 cases g with
 | true =>
  go_wp2_with (go_at_call 6; with_reducible refine (sacristylaw10_Great.calls kg n0 Ap cp pool Af cf forks true _ (Kd.C_below HRP.out HB.out) HCP.out (Kd.C_below HRF.out HB.out) HCF.out HG.out).mono ?_; rintro e W2 ⟨rfl, hb⟩; replace HB := Asd.mk (below_step HB.out hb); replace HX := Asd.mk (below_box hb HX.out); have ks0 : W2.cell? ⟨w.heap.size, 0, none⟩ = some (.int .i64 n0) := (box_cell HX.out 0 rfl).1; have ks1 : W2.cell? ⟨w.heap.size, 1, none⟩ = some (.slice Ap pool.length cp) := (box_cell HX.out 1 rfl).1; have ks2 : W2.cell? ⟨w.heap.size, 2, none⟩ = some (.slice Af forks.length cf) := (box_cell HX.out 2 rfl).1; clear hb)
  go_ret
  exact ⟨rfl, HB.out⟩
 | false =>
 have HS := Asd.mk (HSM.out rfl)
 have HRT := Asd.mk (fun (W' : World) (hb : Below w.heap.size w W') => root_Right.calls 3000000 n0 Ap cp pool Af cf forks (rootF n0 pool forks) W' (Kd.C_below HRP.out hb) HCP.out (Kd.C_below HRF.out hb) HCF.out HS.out.sm.right)
 clear HSM
 cases hR : rootF n0 pool forks with
 | false =>
  rw [hR] at HRT
  clear hR
  go_wp2_with (first
   | (go_at_call 6; with_reducible refine (sacristylaw10_Great.calls kg n0 Ap cp pool Af cf forks false _ (Kd.C_below HRP.out HB.out) HCP.out (Kd.C_below HRF.out HB.out) HCF.out HG.out).mono ?_; rintro e W2 ⟨rfl, hb⟩; replace HB := Asd.mk (below_step HB.out hb); replace HX := Asd.mk (below_box hb HX.out); have ks0 : W2.cell? ⟨w.heap.size, 0, none⟩ = some (.int .i64 n0) := (box_cell HX.out 0 rfl).1; have ks1 : W2.cell? ⟨w.heap.size, 1, none⟩ = some (.slice Ap pool.length cp) := (box_cell HX.out 1 rfl).1; have ks2 : W2.cell? ⟨w.heap.size, 2, none⟩ = some (.slice Af forks.length cf) := (box_cell HX.out 2 rfl).1; clear hb)
   | (go_at_call 11; with_reducible refine (HRT.out _ HB.out).mono ?_; rintro e W3 ⟨rfl, hb⟩; replace HB := Asd.mk (below_step HB.out hb); replace HX := Asd.mk (below_box hb HX.out); have kt0 : W3.cell? ⟨w.heap.size, 0, none⟩ = some (.int .i64 n0) := (box_cell HX.out 0 rfl).1; have kt1 : W3.cell? ⟨w.heap.size, 1, none⟩ = some (.slice Ap pool.length cp) := (box_cell HX.out 1 rfl).1; have kt2 : W3.cell? ⟨w.heap.size, 2, none⟩ = some (.slice Af forks.length cf) := (box_cell HX.out 2 rfl).1; clear hb))
  go_ret
  exact ⟨rfl, HB.out⟩
 | true =>
 rw [hR] at HRT
 have HR := Asd.mk hR
 clear hR
 by_cases g1 : (1000 : Int) < (l2.length : Int)
 ·have d1 : decide ((1000 : Int) < (l2.length : Int)) = true := decide_eq_true g1
  go_wp2_with (first
   | (go_at_call 6; with_reducible refine (sacristylaw10_Great.calls kg n0 Ap cp pool Af cf forks false _ (Kd.C_below HRP.out HB.out) HCP.out (Kd.C_below HRF.out HB.out) HCF.out HG.out).mono ?_; rintro e W2 ⟨rfl, hb⟩; replace HB := Asd.mk (below_step HB.out hb); replace HX := Asd.mk (below_box hb HX.out); have ks0 : W2.cell? ⟨w.heap.size, 0, none⟩ = some (.int .i64 n0) := (box_cell HX.out 0 rfl).1; have ks1 : W2.cell? ⟨w.heap.size, 1, none⟩ = some (.slice Ap pool.length cp) := (box_cell HX.out 1 rfl).1; have ks2 : W2.cell? ⟨w.heap.size, 2, none⟩ = some (.slice Af forks.length cf) := (box_cell HX.out 2 rfl).1; clear hb)
   | (go_at_call 11; with_reducible refine (HRT.out _ HB.out).mono ?_; rintro e W3 ⟨rfl, hb⟩; replace HB := Asd.mk (below_step HB.out hb); replace HX := Asd.mk (below_box hb HX.out); have kt0 : W3.cell? ⟨w.heap.size, 0, none⟩ = some (.int .i64 n0) := (box_cell HX.out 0 rfl).1; have kt1 : W3.cell? ⟨w.heap.size, 1, none⟩ = some (.slice Ap pool.length cp) := (box_cell HX.out 1 rfl).1; have kt2 : W3.cell? ⟨w.heap.size, 2, none⟩ = some (.slice Af forks.length cf) := (box_cell HX.out 2 rfl).1; clear hb))
  go_ret
  exact ⟨rfl, HB.out⟩
 have d1 : decide ((1000 : Int) < (l2.length : Int)) = false := decide_eq_false g1
 have HL2 : Asd (l2.length <= 1000) := ⟨by omega⟩
 clear g1
 go_upto_region 4 with (first
  | (go_at_call 6; with_reducible refine (sacristylaw10_Great.calls kg n0 Ap cp pool Af cf forks false _ (Kd.C_below HRP.out HB.out) HCP.out (Kd.C_below HRF.out HB.out) HCF.out HG.out).mono ?_; rintro e W2 ⟨rfl, hb⟩; replace HB := Asd.mk (below_step HB.out hb); replace HX := Asd.mk (below_box hb HX.out); have ks0 : W2.cell? ⟨w.heap.size, 0, none⟩ = some (.int .i64 n0) := (box_cell HX.out 0 rfl).1; have ks1 : W2.cell? ⟨w.heap.size, 1, none⟩ = some (.slice Ap pool.length cp) := (box_cell HX.out 1 rfl).1; have ks2 : W2.cell? ⟨w.heap.size, 2, none⟩ = some (.slice Af forks.length cf) := (box_cell HX.out 2 rfl).1; clear hb)
  | (go_at_call 11; with_reducible refine (HRT.out _ HB.out).mono ?_; rintro e W3 ⟨rfl, hb⟩; replace HB := Asd.mk (below_step HB.out hb); replace HX := Asd.mk (below_box hb HX.out); have kt0 : W3.cell? ⟨w.heap.size, 0, none⟩ = some (.int .i64 n0) := (box_cell HX.out 0 rfl).1; have kt1 : W3.cell? ⟨w.heap.size, 1, none⟩ = some (.slice Ap pool.length cp) := (box_cell HX.out 1 rfl).1; have kt2 : W3.cell? ⟨w.heap.size, 2, none⟩ = some (.slice Af forks.length cf) := (box_cell HX.out 2 rfl).1; clear hb))
 clear HG HRT d1 kr0 kr1 kr2 ks0 ks1 ks2
 have HFL : Asd (forks.length <= 16) := ⟨(rootF_out HR.out).2.2.2⟩
 by_cases hfk : forks = []
 ·have d2 : decide ((0 : Int) < (forks.length : Int)) = false := decide_eq_false (by rw [hfk]; decide)
  have d2n : decide (0 < forks.length) = false := decide_eq_false (by rw [hfk]; decide)
  have hnil : (forks = []) = True := eq_true hfk
  clear hfk
  go_upto_region 12 with (fail)
  clear d2 d2n hnil kt0 kt1 kt2
  have HPM : Asd (pool.length <= 24) := ⟨(packs_out (rootF_out HR.out).2.2.1).1⟩
  go_upto_region 15 with (go_at_call 18; refine (Hello.name_any A2 c2 l2 W3 (Kd.C_below HR2.out HB.out) HC2.out (by have := HL2.out; omega)).mono ?_; rintro e Wn ⟨hb, idn, rfl, hid⟩; replace HB := Asd.mk (below_step HB.out hb); replace HX := Asd.mk (below_box hb HX.out); have HID := Asd.mk hid; clear hb hid)
  go_loopg [12, 13] pool.length (fun gg s12 s13 wr => ∃ kk : Nat, kk <= pool.length /\ pool.length - kk <= gg /\ s12 = .bool (hasT (pool.take kk) idn) /\ s13 = .int .i64 kk /\ Asd (Below w.heap.size w wr) /\ Asd (wr.heap[w.heap.size]? = some (.cells #[.int .i64 n0, .slice Ap pool.length cp, .slice Af forks.length cf] 25 (0, 0))))
  case atStart => exact ⟨0, Nat.zero_le _, by omega, rfl, rfl, HB, HX⟩
  case round =>
   clear HB HX
   obtain ⟨kk, hkk, hgg, rfl, rfl, HB, HX⟩ := hrel
   have kq0 : wr.cell? ⟨w.heap.size, 0, none⟩ = some (.int .i64 n0) := (box_cell HX.out 0 rfl).1
   have kq1 : wr.cell? ⟨w.heap.size, 1, none⟩ = some (.slice Ap pool.length cp) := (box_cell HX.out 1 rfl).1
   have kq2 : wr.cell? ⟨w.heap.size, 2, none⟩ = some (.slice Af forks.length cf) := (box_cell HX.out 2 rfl).1
   by_cases hlt : kk < pool.length
   ·have hltz : (kk : Int) < (pool.length : Int) := by omega
    obtain ⟨ap, hAp, hcl⟩ := (Kd.reads_of_C (enc := Value.string) (d := ByteArray.empty) (h1 := fun _ => rfl) (Kd.C_below HRP.out HB.out)).2.2 (by omega)
    have kp := hcl kk hlt
    rw [List.getD_eq_getElem?_getD, List.getElem?_eq_getElem hlt] at kp
    have kp' : wr.cell? (ap.add kk) = some (.string (pool[kk])) := kp
    have HTN := Asd.mk (has_next pool idn kk hlt)
    obtain ⟨yp, hyp⟩ : ∃ yp, yp = pool[kk] := ⟨_, rfl⟩
    rw [<- hyp] at kp' HTN
    have wk : IntKind.i64.wrap ((kk : Int) + 1) = ((kk + 1 : Nat) : Int) := by have := HPM.out; rw [i64_w, w64 (by omega) (by omega)]; omega
    clear hcl kp hyp
    subst hAp
    cases hth : hasT (pool.take kk) idn with
    | true =>
     rw [hth] at HTN
     clear hth
     go_wp2
     go_roundg (pool.length - (kk + 1))
     case measure => omega
     case rel => exact ⟨kk + 1, by omega, Nat.le_refl _, by rw [HTN.out]; rfl, by go_num, HB, HX⟩
    | false =>
     rw [hth] at HTN
     clear hth
     go_wp2
     go_roundg (pool.length - (kk + 1))
     case measure => omega
     case rel => exact ⟨kk + 1, by omega, Nat.le_refl _, by rw [HTN.out, Bool.false_or], by go_num, HB, HX⟩
   ·obtain rfl : kk = pool.length := by omega
    rw [List.take_length]
    clear hgg hkk hlt
    obtain ⟨th, hth⟩ : ∃ th, th = hasT pool idn := ⟨_, rfl⟩
    rw [<- hth]
    have HTH := Asd.mk hth
    clear hth
    go_upto_region 19 with (fail)
    generalize hWq : World.alloc _ _ = Wq
    obtain ⟨bQ, hbQ⟩ : ∃ bQ, bQ = wr.heap.size := ⟨_, rfl⟩
    rw [<- hbQ]
    have hbq : Below wr.heap.size wr Wq := by rw [<- hWq]; exact bal (Below.refl _ _) _
    have HQ : Asd (Wq.heap[bQ]? = some (.cells #[.int .i64 n0, .slice Ap pool.length cp, .slice Af forks.length cf] 25 (0, 0))) := ⟨by rw [<- hWq, hbQ]; exact heap_alloc_new _ _⟩
    have HBQ : Asd (w.heap.size < bQ /\ bQ < Wq.heap.size) := ⟨by rw [hbQ]; exact lt_box HX.out, lt_box HQ.out⟩
    replace HB := Asd.mk (below_step HB.out hbq)
    replace HX := Asd.mk (below_box hbq HX.out)
    clear hWq hbq hbQ kq0 kq1 kq2
    have kq0 : Wq.cell? ⟨w.heap.size, 0, none⟩ = some (.int .i64 n0) := (box_cell HX.out 0 rfl).1
    have kq1 : Wq.cell? ⟨w.heap.size, 1, none⟩ = some (.slice Ap pool.length cp) := (box_cell HX.out 1 rfl).1
    have kq2 : Wq.cell? ⟨w.heap.size, 2, none⟩ = some (.slice Af forks.length cf) := (box_cell HX.out 2 rfl).1
    have HCP5 := Asd.mk (Kd.C_below HRP.out HB.out)
    go_upto_region 20 with (first
     | ((with_reducible refine gate_dst (N := 116) rfl ?_); refine Kd.R_lit Kd.string (w0 := Wq) Wq.heap.size 9 ?hg (N := 116) ?hd (xs := ([] : List ByteArray)) (inner := []) (ok := fun _ => True) (okp := fun _ => True) ?hr ?hp (fun _ hk => hk) trivial (Below.refl _ _) (Nat.le_refl _) (by simp) ?_; (case hd => rfl); (case hg => rfl); (case hr => first | (go_simp; done) | (go_simp; rfl)); (case hp => exact (Reps.none _ _)); intro v6 X6 ho hb hg_ hnew_; have HO := Asd.mk ho; have HB6 := Asd.mk hb; have kw1 : X6.cell? ⟨w.heap.size, 1, none⟩ = some (.slice Ap pool.length cp) := (box_cell (below_box hb HX.out) 1 rfl).1; clear ho hb hg_ hnew_)
     | ((with_reducible refine gate_builtin (b := .append) (xs := #[.tmp 116, .tmp 118]) rfl ?_); at_builtin; refine Kd.R_append_row Value.string ByteArray.empty (w0 := Wq) Wq.heap.size rfl (.tmp 116) (.tmp 118) 22 9 (.string ⟨#[]⟩) 16 rfl Tryz.underlying22 info9 rfl (by decide) v6 [] pool Ap pool.length cp (fun _ => True) rfl rfl (fun _ _ => trivial) HO.out (Kd.C_below HCP5.out HB6.out) HB6.out HB6.out.size (by have := HPM.out; simp; omega) ?_; intro v7 X7 ho hb hg hat; have HB7 := Asd.mk hb; replace HO := Asd.mk ho; clear hb ho hg hat)
     | ((with_reducible refine gate_builtin (b := .append) (xs := #[.tmp 119, .tmp 121]) rfl ?_); at_builtin; refine Kd.R_append_row Value.string ByteArray.empty (w0 := Wq) Wq.heap.size rfl (.tmp 119) (.tmp 121) 22 9 (.string ⟨#[]⟩) 16 rfl Tryz.underlying22 info9 rfl (by decide) v7 pool [idn] (some ⟨X7.heap.size, 0, none⟩) 1 1 (fun _ => True) rfl rfl (fun _ _ => trivial) (Kd.R_below HO.out (bal (Below.refl _ _) _)) (C_str1 X7 idn 9) (below_step HB7.out (below_less (bal (Below.refl _ _) _) (Nat.le_refl _))) (Nat.le_trans HB7.out.size (by rw [sz_alloc]; exact Nat.le_succ _)) (by have := HPM.out; simp; omega) ?_; intro v8 X8 ho hb hg hat; have HB8 := Asd.mk hb; have HO8 := Asd.mk (R_str ho); clear hb ho hg hat; obtain ⟨A8q, c8q, rfl⟩ := Kd.R_slice HO8.out; have hyb := (HB8.out.block bQ HBQ.out.2).trans HQ.out; have kst := (box_cell hyb 1 rfl).1; have kfr := (box_cell hyb 1 rfl).2; clear hyb))
    generalize hWZ : World.setCell _ _ _ = WZ
    have hq8 := (HB8.out.block bQ HBQ.out.2).trans HQ.out
    have hZ : WZ.heap[bQ]? = some (.cells #[.int .i64 n0, .slice A8q (pool.length + 1) c8q, .slice Af forks.length cf] 25 (0, 0)) := by
     rw [<- hWZ]
     exact (heap_set_same X8 bQ 1 _ _ _ hq8).trans rfl
    have hRZ : Kd.R Kd.string 9 WZ Wq.heap.size (fun _ => True) (.slice A8q (pool ++ [idn]).length c8q) (pool ++ [idn]) := by
     rw [<- hWZ]
     exact R_keepsO HO8.out (Keeps.set (own := fun k => k = bQ) rfl) (fun k e => by have h1 : k = bQ := e; have := HBQ.out; omega)
    have hBZ : Below w.heap.size w WZ := by
     rw [<- hWZ]
     exact below_set (below_step HB.out HB8.out) (by have := HBQ.out; omega)
    have hXZ : WZ.heap[w.heap.size]? = some (.cells #[.int .i64 n0, .slice Ap pool.length cp, .slice Af forks.length cf] 25 (0, 0)) := by
     rw [<- hWZ]
     exact (Below.heap_setCell X8 ⟨bQ, 1, none⟩ _ w.heap.size (fun e => by have h1 : w.heap.size = bQ := e; have := HBQ.out; omega)).trans ((HB8.out.block w.heap.size (by have := HBQ.out; omega)).trans HX.out)
    have kz0 : WZ.cell? ⟨bQ, 0, none⟩ = some (.int .i64 n0) := (box_cell hZ 0 rfl).1
    have kz1 : WZ.cell? ⟨bQ, 1, none⟩ = some (.slice A8q (pool.length + 1) c8q) := (box_cell hZ 1 rfl).1
    have kz2 : WZ.cell? ⟨bQ, 2, none⟩ = some (.slice Af forks.length cf) := (box_cell hZ 2 rfl).1
    have hlp : (pool ++ [idn]).length = pool.length + 1 := by simp
    have hRZr := Kd.R_reads' hRZ
    rw [hlp] at hRZr
    have HVAL := Asd.mk (more_right HR.out HID.out)
    have hsm : SmR n0 (pool ++ [idn]) forks := ⟨fun s hs => by
     rcases List.mem_append.1 hs with hs | hs
     ·exact (right_smL HR.out).p s hs
     ·rw [List.mem_singleton.1 hs, Hello.id_size HID.out]; decide, (right_smL HR.out).f, (right_smL HR.out).l⟩
    obtain ⟨rv, hrv⟩ : ∃ rv, rv = rootF n0 (pool ++ [idn]) forks := ⟨_, rfl⟩
    have HC7 := Asd.mk (show Calls Tryz.prog 11 #[.agg #[.int .i64 n0, .slice A8q (pool.length + 1) c8q, .slice Af forks.length cf]] WZ (fun e w' => e = .returned (.bool rv) /\ Below WZ.heap.size WZ w') by
     have h := root_Right.calls 3000000 n0 A8q c8q (pool ++ [idn]) Af cf forks rv WZ (by rw [hlp]; exact hRZr.2.2) (by rw [hlp]; exact hRZr.2.1) (Kd.C_below HRF.out hBZ) HCF.out (by rw [hsm.right, hrv])
     rw [hlp] at h
     exact h)
    have HRV : Asd (rv = (!th && decide (pool.length < 24))) := ⟨by rw [hrv, HTH.out]; exact HVAL.out⟩
    have HBZ := Asd.mk hBZ
    have ky1 : WZ.cell? ⟨w.heap.size, 1, none⟩ = some (.slice Ap pool.length cp) := (box_cell hXZ 1 rfl).1
    have HXZ := Asd.mk hXZ
    clear hq8 hZ hRZ hXZ hlp hRZr hsm hrv hBZ kq0 kq1 kq2 HO HO8 HB6 HB7 HB8 HCP5 kst kfr
    cases th with
    | true =>
     have e1 : rv = false := by rw [HRV.out]; rfl
     subst e1
     go_wp2_with (go_at_call 11; with_reducible refine HC7.out.mono ?_; rintro e Wf ⟨rfl, hb⟩; replace HBZ := Asd.mk (below_step HBZ.out hb); clear hb)
     go_ret
     exact ⟨rfl, HBZ.out⟩
    | false =>
     obtain ⟨lt, hlt⟩ : ∃ lt, lt = decide (pool.length < 24) := ⟨_, rfl⟩
     have e1 : rv = lt := by rw [HRV.out, <- hlt]; rfl
     subst e1
     have hlz : decide ((pool.length : Int) < 24) = rv := by rw [hlt, decide_eq_decide]; omega
     have hln : decide (pool.length < 24) = rv := hlt.symm
     clear hlt HRV
     go_wp2_with (go_at_call 11; with_reducible refine HC7.out.mono ?_; rintro e Wf ⟨rfl, hb⟩; replace HBZ := Asd.mk (below_step HBZ.out hb); have ky2 : Wf.cell? ⟨w.heap.size, 1, none⟩ = some (.slice Ap pool.length cp) := (box_cell (below_box hb HXZ.out) 1 rfl).1; clear hb)
     go_ret
     exact ⟨by first | rfl | (simp; done) | (simp [*]; done), HBZ.out⟩
 have hfl : 0 < forks.length := List.length_pos_iff.2 hfk
 have d2 : decide ((0 : Int) < (forks.length : Int)) = true := decide_eq_true (by omega)
 have d2n : decide (0 < forks.length) = true := decide_eq_true hfl
 have hne : ((forks.length : Int) == 0) = false := beq_eq_false_iff_ne.2 (by omega)
 have hnil : (forks = []) = False := eq_false hfk
 obtain ⟨m, hm, hml⟩ : ∃ m : Nat, Int.tmod a1 (forks.length : Int) = (m : Int) /\ m < forks.length := by
  have h0 := HZ1.out.1
  have h1 := Int.tmod_nonneg (forks.length : Int) h0
  have h2 := Int.tmod_lt_of_pos a1 (show (0 : Int) < (forks.length : Int) by omega)
  exact ⟨(Int.tmod a1 (forks.length : Int)).toNat, by omega, by omega⟩
 have HML := Asd.mk hml
 have hmw : IntKind.i64.wrap (m : Int) = (m : Int) := by have := HFL.out; rw [i64_w, w64 (by omega) (by omega)]
 have hw1 : IntKind.i64.wrap a1 = a1 := by have := HZ1.out; rw [i64_w, w64 (by omega) (by omega)]
 obtain ⟨ad, _, hAf, _⟩ := (Kd.C_get HRF.out z39 0 (Int.le_refl _) (by omega))
 subst hAf
 obtain ⟨m1, hm1⟩ : ∃ m1, m1 = m + 1 := ⟨_, rfl⟩
 obtain ⟨A2d, hcut1, hcut2, hF1, hF2⟩ := cut_fk (some ad) cf forks HCF.out m m1 hml (by omega)
 have hm1w : IntKind.i64.wrap ((m : Int) + 1) = (m1 : Int) := by have := HFL.out; rw [i64_w, w64 (by omega) (by omega)]; omega
 have HM1 := Asd.mk hm1
 clear hm1
 have HF1 := Asd.mk hF1
 have HF2 := Asd.mk hF2
 clear hml hfk hfl
 go_upto_region 7 with (fail)
 generalize hWs : World.alloc _ _ = Ws
 obtain ⟨bS, hbS⟩ : ∃ bS, bS = W3.heap.size := ⟨_, rfl⟩
 rw [<- hbS]
 have hbs : Below W3.heap.size W3 Ws := by rw [<- hWs]; exact bal (Below.refl _ _) _
 have HY : Asd (Ws.heap[bS]? = some (.cells #[.int .i64 n0, .slice Ap pool.length cp, .slice (some ad) forks.length cf] 25 (0, 0))) := ⟨by rw [<- hWs, hbS]; exact heap_alloc_new _ _⟩
 have HSB : Asd (w.heap.size < bS /\ bS < Ws.heap.size) := ⟨by rw [hbS]; exact lt_box HX.out, lt_box HY.out⟩
 have HBW3 := HB
 have HBS := Asd.mk hbS
 have HFS : Asd (Kd.F k39 W3 (fun k => k < bS) (some ad) forks.length forks) := ⟨by rw [hbS]; exact Kd.C_F heap_fork (Kd.C_below HRF.out HBW3.out)⟩
 have HOLDS : Asd (∀ k, k < bS -> Ws.heap[k]? = W3.heap[k]?) := ⟨fun k e => hbs.block k (by omega)⟩
 have HFT := Asd.mk (fun (W' : World) (hb : Below Ws.heap.size Ws.drew W') => HF1.out W' _ (Kd.F_step HFS.out (fun k e hl => (hb.block k (by have h1 : k < bS := e; have := HSB.out; omega)).trans (HOLDS.out k e))))
 have HFD := Asd.mk (fun (W' : World) (hb : Below Ws.heap.size Ws.drew W') => HF2.out W' _ (Kd.F_step HFS.out (fun k e hl => (hb.block k (by have h1 : k < bS := e; have := HSB.out; omega)).trans (HOLDS.out k e))))
 replace HB := Asd.mk (below_step HB.out hbs)
 replace HX := Asd.mk (below_box hbs HX.out)
 clear hWs hbs hbS hm hmw hw1 hne hnil d2 d2n kt0 kt1 kt2
 have kx0 : Ws.cell? ⟨w.heap.size, 0, none⟩ = some (.int .i64 n0) := (box_cell HX.out 0 rfl).1
 have kx1 : Ws.cell? ⟨w.heap.size, 1, none⟩ = some (.slice Ap pool.length cp) := (box_cell HX.out 1 rfl).1
 have kx2 : Ws.cell? ⟨w.heap.size, 2, none⟩ = some (.slice (some ad) forks.length cf) := (box_cell HX.out 2 rfl).1
 have hlw : w.heap.size < Ws.heap.size := by have := HSB.out; omega
 clear hF1 hF2
 refine start_ (n := 14) (S := fun w' => w'.cell? ⟨w.heap.size, 2, none⟩ = some (.slice (some ad) forks.length cf)) (ds := []) (bA 14 0) (by kernel_rfl) rfl rfl ((drew_cell kx2)) (fun hHeld => ?_)
 refine pure_ (i := 1) (N := some 41) (v := ?_) (a' := ?_) (bA 14 2) rfl rfl (by kernel_rfl) (fun _ _ _ h => h) (Or.inl ⟨by rfl, ?_⟩) ?_ ?_
 rotate_left
 ·intro w'
  go_simp
  with_reducible rfl
 rotate_left
 ·simp only [Act.put, zA, zB, zC, i64_w, i32_w]
  rfl
 refine pure_ (i := 3) (N := some 43) (v := ?_) (a' := ?_) (bA 14 10) rfl rfl (by kernel_rfl) (fun _ _ _ h => h) (Or.inl ⟨by rfl, ?_⟩) ?_ ?_
 rotate_left
 ·intro w'
  go_simp
  with_reducible rfl
 rotate_left
 ·simp only [Act.put, zA, zB, zC, i64_w, i32_w]
  rfl
 refine pure_ (i := 6) (N := some 46) (v := ?_) (a' := ?_) (bA 14 74) rfl rfl (by kernel_rfl) (fun _ _ _ h => h) (Or.inl ⟨by rfl, ?_⟩) ?_ ?_
 rotate_left
 ·intro w'
  go_simp
  with_reducible rfl
 rotate_left
 ·simp only [Act.put, zA, zB, zC, i64_w, i32_w]
  rfl
 refine pure_ (i := 8) (N := some 48) (v := ?_) (a' := ?_) (bA 14 330) rfl rfl (by kernel_rfl) (fun _ _ _ h => h) (Or.inl ⟨by rfl, ?_⟩) ?_ ?_
 rotate_left
 ·intro w'
  go_simp
  with_reducible rfl
 rotate_left
 ·simp only [Act.put, zA, zB, zC, i64_w, i32_w]
  rfl
 refine pure_ (i := 9) (N := some 49) (v := ?_) (a' := ?_) (bA 14 842) rfl rfl (by kernel_rfl) (fun _ _ _ h => h) (Or.inl ⟨by rfl, ?_⟩) ?_ ?_
 rotate_left
 ·intro w'
  go_simp
  with_reducible rfl
 rotate_left
 ·simp only [Act.put, zA, zB, zC, i64_w, i32_w]
  rfl
 refine take_ (i := 2) (N := some 42) (v := ?_) (a' := ?_) (bA 14 846) rfl rfl (by kernel_rfl) (fun _ _ _ h => h) (Or.inl ⟨by rfl, ?_⟩) hHeld ?_ ?_
 rotate_left
 ·intro w' s0
  go_simp
  with_reducible rfl
 rotate_left
 ·simp only [Act.put, zA, zB, zC, i64_w, i32_w]
  rfl
 refine pure_ (i := 4) (N := some 44) (v := ?_) (a' := ?_) (bA 14 862) rfl rfl (by kernel_rfl) (fun _ _ _ h => h) (Or.inl ⟨by rfl, ?_⟩) ?_ ?_
 rotate_left
 ·intro w'
  go_simp
  with_reducible rfl
 rotate_left
 ·simp only [Act.put, zA, zB, zC, i64_w, i32_w]
  rfl
 refine take_ (i := 7) (N := some 47) (v := ?_) (a' := ?_) (bA 14 990) rfl rfl (by kernel_rfl) (fun _ _ _ h => h) (Or.inl ⟨by rfl, ?_⟩) hHeld ?_ ?_
 rotate_left
 ·intro w' s0
  go_simp
  with_reducible rfl
 rotate_left
 ·simp only [Act.put, zA, zB, zC, i64_w, i32_w]
  rfl
 refine pure_ (i := 10) (N := some 50) (v := ?_) (a' := ?_) (bA 14 2014) rfl rfl (by kernel_rfl) (fun _ _ _ h => h) (Or.inl ⟨by rfl, ?_⟩) ?_ ?_
 rotate_left
 ·intro w'
  go_simp
  with_reducible rfl
 rotate_left
 ·simp only [Act.put, zA, zB, zC, i64_w, i32_w]
  rfl
 refine one_ (i := 0) (N := some 40) (bA 14 2015) rfl rfl (by kernel_rfl) (by decide) (fun K hK => ?_)
 refine Kd.N_lit_step k39 (w0 := Ws.drew) Ws.heap.size 39 (by rfl) (N' := 40) (by rfl) (xs := ([] : List Fk)) (inner := []) (ok := (fun k_ => k_ ≠ bS)) (okp := fun _ => False) ?_ (Reps.none _ _) (fun _ hk => hk.elim) (by have := HSB.out.2; show Ws.heap.size ≠ bS; omega) (Below.refl _ _) (Nat.le_refl _) (by simp) ?_
 ·first | (go_simp; done) | (go_simp; rfl)
 intro v6 W6 ho hb hg_ hnew_
 have HO6 := Asd.mk ho
 have HB_W6 := Asd.mk hb
 clear ho hb hg_ hnew_
 refine hK.out _ _ (((cell_below2 HB_W6.out (drew_cell kx2)))) (fun hHeld => ?_)
 clear hK K
 refine norm_ (a' := ?_) ?_ ?_
 rotate_left
 ·show Act.put _ (some 40) _ = _
  simp only [Act.put, zA, zB, zC, i64_w, i32_w]
  rfl
 refine one_ (i := 5) (N := some 45) (bA 14 2047) rfl rfl (by kernel_rfl) (by decide) (fun K hK => ?_)
 refine Kd.N_append_rows_step k39 (w0 := Ws.drew) Ws.heap.size (by rfl) (.tmp 40) (.tmp 44) 23 39 zFk 88 (by rfl) Tryz.underlying23 infoFk rfl (by decide) (by decide) v6 [] (forks.take m) (some ad) m cf (fun k_ => k_ ≠ bS) (fun k_ => k_ < bS) (by rfl) (by rfl) HO6.out (HFT.out _ HB_W6.out) (fun k_ e => ⟨by omega, fun e2 => by have := Kd.N_base HO6.out k_ e2.symm; have := HSB.out.2; omega⟩) (fun k_ e => by have := HB_W6.out.size; have : Ws.heap.size <= W6.heap.size := this; have := HSB.out.2; omega) HB_W6.out HB_W6.out.size ?_ ?_
 ·have h1 := HFL.out; have h2 := HML.out; simp; omega
 intro v7 W7 ho hb hg hat
 have HO7 := Asd.mk ho
 have HB_W7 := Asd.mk hb
 clear ho hb hg hat
 refine hK.out _ _ (((cell_below2 HB_W7.out (drew_cell kx2)))) (fun hHeld => ?_)
 clear hK K
 refine norm_ (a' := ?_) ?_ ?_
 rotate_left
 ·show Act.put _ (some 45) _ = _
  simp only [Act.put, zA, zB, zC, i64_w, i32_w]
  rfl
 refine one_ (i := 11) (N := some 51) (bA 14 4095) rfl rfl (by kernel_rfl) (by decide) (fun K hK => ?_)
 refine Kd.N_append_rows_step k39 (w0 := Ws.drew) Ws.heap.size (by rfl) (.tmp 45) (.tmp 50) 23 39 zFk 88 (by rfl) Tryz.underlying23 infoFk rfl (by decide) (by decide) v7 ([] ++ forks.take m) (forks.drop m1) A2d (forks.length - m1) (cf - m1) (fun k_ => k_ ≠ bS) (fun k_ => k_ < bS) (by rfl) (by rfl) HO7.out (HFD.out _ HB_W7.out) (fun k_ e => ⟨by omega, fun e2 => by have := Kd.N_base HO7.out k_ e2.symm; have := HSB.out.2; omega⟩) (fun k_ e => by have := HB_W7.out.size; have : Ws.heap.size <= W7.heap.size := this; have := HSB.out.2; omega) HB_W7.out HB_W7.out.size ?_ ?_
 ·have h1 := HFL.out; have h2 := HML.out; simp; omega
 intro v8 W8 ho hb hg hat
 have HO8 := Asd.mk ho
 have HB_W8 := Asd.mk hb
 obtain ⟨A8, c8, rfl⟩ := Kd.N_slice HO8.out
 clear ho hb hg hat
 refine hK.out _ _ (((cell_below2 HB_W8.out (drew_cell kx2)))) (fun hHeld => ?_)
 clear hK K
 refine norm_ (a' := ?_) ?_ ?_
 rotate_left
 ·show Act.put _ (some 51) _ = _
  simp only [Act.put, zA, zB, zC, i64_w, i32_w]
  rfl
 refine pure_ (i := 12) (N := some 52) (v := ?_) (a' := ?_) (bA 14 8191) rfl rfl (by kernel_rfl) (fun _ _ _ h => h) (Or.inl ⟨by rfl, ?_⟩) ?_ ?_
 rotate_left
 ·intro w'
  go_simp
  with_reducible rfl
 rotate_left
 ·simp only [Act.put, zA, zB, zC, i64_w, i32_w]
  rfl
 refine one_ (i := 13) (N := none) (bA 14 16383) rfl rfl (by kernel_rfl) (by decide) (fun K hK => ?_)
 have hyb := (HB_W8.out.block bS HSB.out.2).trans HY.out
 have kst := (box_cell hyb 2 rfl).1
 have kfr := (box_cell hyb 2 rfl).2
 refine skip_ (w1 := ?_) (by rfl) rfl ?_ ?_
 rotate_left
 ·go_simp
  rfl
 refine hK.out _ _ (((World.cell?_setCell_far _ _ _ _ (fun e => by have h1 : bS = w.heap.size := e; have := HSB.out.1; omega)).trans (cell_below2 HB_W8.out (drew_cell kx2)))) (fun hHeld => ?_)
 clear hK K
 refine done_ (by kernel_rfl) ?_
 obtain ⟨fs, hfs⟩ : ∃ fs, fs = ([] ++ forks.take m) ++ forks.drop m1 := ⟨_, rfl⟩
 have hn8 := HO8.out
 rw [<- hfs] at hn8
 have hfl : min m forks.length + (forks.length - m1) = fs.length := by rw [hfs]; simp
 rw [hfl]
 generalize hWT : World.setCell _ _ _ = WT
 have hn8' : Kd.N k39 39 WT Ws.heap.size (fun k_ => k_ ≠ bS) (.slice A8 fs.length c8) fs := by
  rw [<- hWT]
  exact Kd.N_far hn8 (fun k e => e) _
 have hB8 := below_step HB.out (below_step (bd1 (Below.refl Ws.heap.size Ws)) HB_W8.out)
 have hB8s : Below Ws.heap.size Ws W8 := below_step (bd1 (Below.refl Ws.heap.size Ws)) HB_W8.out
 have HBT : Asd (Below w.heap.size w WT) := ⟨by rw [<- hWT]; exact below_set hB8 (by have := HSB.out; omega)⟩
 have HYT : Asd (WT.heap[bS]? = some (.cells #[.int .i64 n0, .slice Ap pool.length cp, .slice A8 fs.length c8] 25 (0, 0))) := ⟨by
  rw [<- hWT]
  exact (heap_set_same W8 bS 2 _ _ _ ((hB8s.block bS HSB.out.2).trans HY.out)).trans rfl⟩
 have HXT : Asd (WT.heap[w.heap.size]? = some (.cells #[.int .i64 n0, .slice Ap pool.length cp, .slice (some ad) forks.length cf] 25 (0, 0))) := ⟨by
  rw [<- hWT]
  exact (Below.heap_setCell W8 ⟨bS, 2, none⟩ _ w.heap.size (fun e => by have h1 : w.heap.size = bS := e; have := HSB.out; omega)).trans ((hB8s.block w.heap.size hlw).trans HX.out)⟩
 have HWS : Asd (Ws.heap.size <= WT.heap.size) := ⟨by rw [<- hWT]; show Ws.heap.size <= (W8.setCell _ _).heap.size; simp only [World.setCell, Array.size_modify]; exact hB8s.size⟩
 have HOLDT : Asd (∀ k, k < bS -> WT.heap[k]? = W3.heap[k]?) := ⟨fun k e => by
  rw [<- hWT]
  exact (Below.heap_setCell W8 ⟨bS, 2, none⟩ _ k (fun e2 => by have h1 : k = bS := e2; omega)).trans ((hB8s.block k (by have := HSB.out; omega)).trans (HOLDS.out k e))⟩
 have HNS := Asd.mk hn8'
 clear hfl hWT hn8 hn8' hB8 hB8s HO6 HO7 HO8 HB_W6 HB_W7 HB_W8 HY HX HB hHeld
 have kz0 : WT.cell? ⟨w.heap.size, 0, none⟩ = some (.int .i64 n0) := (box_cell HXT.out 0 rfl).1
 have kz1 : WT.cell? ⟨w.heap.size, 1, none⟩ = some (.slice Ap pool.length cp) := (box_cell HXT.out 1 rfl).1
 have kz2 : WT.cell? ⟨w.heap.size, 2, none⟩ = some (.slice (some ad) forks.length cf) := (box_cell HXT.out 2 rfl).1
 clear kx0 kx1 kx2 hlw
 go_upto_region 9 with (fail)
 generalize hWU : World.alloc _ _ = WU
 obtain ⟨bT, hbT⟩ : ∃ bT, bT = WT.heap.size := ⟨_, rfl⟩
 rw [<- hbT]
 have hbu : Below WT.heap.size WT WU := by rw [<- hWU]; exact bal (Below.refl _ _) _
 have HT : Asd (WU.heap[bT]? = some (.cells #[.int .i64 n0, .slice Ap pool.length cp, .slice (some ad) forks.length cf] 25 (0, 0))) := ⟨by rw [<- hWU, hbT]; exact heap_alloc_new _ _⟩
 have HTB2 : Asd (bS < bT /\ bT < WU.heap.size) := ⟨by have := HSB.out.2; have := HWS.out; omega, lt_box HT.out⟩
 have HBU := Asd.mk (below_step HBT.out hbu)
 have HX := Asd.mk (below_box hbu HXT.out)
 have HYU := Asd.mk (below_box hbu HYT.out)
 have HNU : Asd (Kd.N k39 39 WU Ws.heap.size (fun k_ => k_ ≠ bT) (.slice A8 fs.length c8) fs) := ⟨Kd.N_below (Kd.N_mono (Kd.N_bound HNS.out) (fun k e => by have h1 := e.2; show k ≠ bT; omega)) hbu⟩
 have HOLDU : Asd (∀ k, k < bS -> WU.heap[k]? = W3.heap[k]?) := ⟨fun k e => (hbu.block k (by have := HSB.out; have := HWS.out; omega)).trans (HOLDT.out k e)⟩
 clear hWU hbu hbT HBT HXT HYT HNS kz0 kz1 kz2 HFT HFD HOLDS HOLDT
 have ky0 : WU.cell? ⟨w.heap.size, 0, none⟩ = some (.int .i64 n0) := (box_cell HX.out 0 rfl).1
 have ky1 : WU.cell? ⟨w.heap.size, 1, none⟩ = some (.slice Ap pool.length cp) := (box_cell HX.out 1 rfl).1
 have ky2 : WU.cell? ⟨w.heap.size, 2, none⟩ = some (.slice (some ad) forks.length cf) := (box_cell HX.out 2 rfl).1
 have hlw : w.heap.size < WU.heap.size := by have := HSB.out; have := HTB2.out; omega
 obtain ⟨yf, hyf⟩ : ∃ yf, yf = forks[m]'HML.out := ⟨_, rfl⟩
 obtain ⟨ad2, A3, c3, A4, c4, hA2, e0, e1, e2, e3, e4, l3, g3, l4, g4⟩ := at_T39 (Kd.C_below HRF.out HBW3.out) (m : Int) (by omega) (by have := HML.out; omega)
 obtain rfl := Option.some.inj hA2
 rw [rd_fk forks m HML.out, <- hyf] at e0 e1 e2 e3 e4 l3 g3 l4 g4
 rw [Int.toNat_natCast] at e0 e1 e2 e3 e4
 have HEB : Asd ((ad.add (m * 5)).block < bS) := ⟨by rw [HBS.out]; exact row_lt e0⟩
 have heb : (ad.add (m * 5)).block < WU.heap.size := by have := HEB.out; have := HSB.out; have := HTB2.out; omega
 replace e0 := cell_old HOLDU.out e0 HEB.out
 replace e1 := cell_old HOLDU.out e1 HEB.out
 replace e2 := cell_old HOLDU.out e2 HEB.out
 replace e3 := cell_old HOLDU.out e3 HEB.out
 replace e4 := cell_old HOLDU.out e4 HEB.out
 have HLY := Asd.mk (And.intro l3 l4)
 have hold := fun (W' : World) (hb : Below WU.heap.size WU.drew W') (k : Nat) (e : k < bS) => (hb.block k (by have := HSB.out; have := HTB2.out; omega)).trans (HOLDU.out k e)
 have HFW := Asd.mk (fun (W' : World) (hb : Below WU.heap.size WU.drew W') => Kd.F_step HFS.out (fun k e hl => hold W' hb k e))
 have HF3 : Asd (∀ W' : World, Below WU.heap.size WU.drew W' -> Kd.F k83 W' (fun k => k < bS) A3 yf.f3.length yf.f3) := ⟨fun W' hb => Kd.F_step (show Kd.F k83 W3 (fun k => k < bS) A3 yf.f3.length yf.f3 by rw [HBS.out]; exact Kd.C_F heap_ref g3) (fun k e hl => hold W' hb k e)⟩
 have HF4 : Asd (∀ W' : World, Below WU.heap.size WU.drew W' -> Kd.F Kd.string W' (fun k => k < bS) A4 yf.f4.length yf.f4) := ⟨fun W' hb => Kd.F_step (show Kd.F Kd.string W3 (fun k => k < bS) A4 yf.f4.length yf.f4 by rw [HBS.out]; exact Kd.C_F Kd.heap_string g4) (fun k e hl => hold W' hb k e)⟩
 have HYF := Asd.mk hyf
 clear hyf hA2 l3 g3 l4 g4 hold
 have hmN : m < forks.length := HML.out
 have hmZ : (m : Int) < (forks.length : Int) := by omega
 refine start_ (n := 13) (S := fun w' => w'.cell? ⟨w.heap.size, 2, none⟩ = some (.slice (some ad) forks.length cf) /\ w'.cell? (ad.add (m * 5)) = some (.string yf.f0) /\ w'.cell? ⟨(ad.add (m * 5)).block, (ad.add (m * 5)).off + 1, none⟩ = some (.bool yf.f1) /\ w'.cell? ⟨(ad.add (m * 5)).block, (ad.add (m * 5)).off + 2, none⟩ = some (.string yf.f2) /\ w'.cell? ⟨(ad.add (m * 5)).block, (ad.add (m * 5)).off + 3, none⟩ = some (.slice A3 yf.f3.length c3) /\ w'.cell? ⟨(ad.add (m * 5)).block, (ad.add (m * 5)).off + 4, none⟩ = some (.slice A4 yf.f4.length c4)) (ds := []) (bA 13 0) (by kernel_rfl) rfl rfl ⟨(drew_cell ky2), (drew_cell e0), (drew_cell e1), (drew_cell e2), (drew_cell e3), (drew_cell e4)⟩ (fun hHeld => ?_)
 have dky2 := drew_cell ky2
 have de0 := drew_cell e0
 have de1 := drew_cell e1
 have de2 := drew_cell e2
 have de3 := drew_cell e3
 have de4 := drew_cell e4
 have HTD : Asd (WU.drew.heap[bT]? = some (.cells #[.int .i64 n0, .slice Ap pool.length cp, .slice (some ad) forks.length cf] 25 (0, 0))) := ⟨HT.out⟩
 have hsz : WU.drew.heap.size = WU.heap.size := rfl
 have HWB : Asd (Below WU.heap.size WU WU.drew) := ⟨bd1 (Below.refl _ _)⟩
 generalize WU.drew = WD at *
 refine pure_ (i := 1) (N := some 55) (v := ?_) (a' := ?_) (bA 13 2) rfl rfl (by kernel_rfl) (fun _ _ _ h => h) (Or.inl ⟨by rfl, ?_⟩) ?_ ?_
 rotate_left
 ·intro w'
  go_simp
  with_reducible rfl
 rotate_left
 ·simp only [Act.put, zA, zB, zC, i64_w, i32_w]
  rfl
 refine pure_ (i := 4) (N := some 58) (v := ?_) (a' := ?_) (bA 13 18) rfl rfl (by kernel_rfl) (fun _ _ _ h => h) (Or.inl ⟨by rfl, ?_⟩) ?_ ?_
 rotate_left
 ·intro w'
  go_simp
  with_reducible rfl
 rotate_left
 ·simp only [Act.put, zA, zB, zC, i64_w, i32_w]
  rfl
 refine pure_ (i := 6) (N := some 60) (v := ?_) (a' := ?_) (bA 13 82) rfl rfl (by kernel_rfl) (fun _ _ _ h => h) (Or.inl ⟨by rfl, ?_⟩) ?_ ?_
 rotate_left
 ·intro w'
  go_simp
  with_reducible rfl
 rotate_left
 ·simp only [Act.put, zA, zB, zC, i64_w, i32_w]
  rfl
 refine take_ (i := 2) (N := some 56) (v := ?_) (a' := ?_) (bA 13 86) rfl rfl (by kernel_rfl) (fun _ _ _ h => h) (Or.inl ⟨by rfl, ?_⟩) hHeld ?_ ?_
 rotate_left
 ·rintro w' ⟨s0, s1, s2, s3, s4, s5⟩
  go_simp
  with_reducible rfl
 rotate_left
 ·simp only [Act.put, zA, zB, zC, i64_w, i32_w]
  rfl
 refine take_ (i := 5) (N := some 59) (v := ?_) (a' := ?_) (bA 13 118) rfl rfl (by kernel_rfl) (fun _ _ _ h => h) (Or.inl ⟨by rfl, ?_⟩) hHeld ?_ ?_
 rotate_left
 ·rintro w' ⟨s0, s1, s2, s3, s4, s5⟩
  go_simp
  with_reducible rfl
 rotate_left
 ·simp only [Act.put, zA, zB, zC, i64_w, i32_w]
  rfl
 refine pure_ (i := 7) (N := some 61) (v := ?_) (a' := ?_) (bA 13 246) rfl rfl (by kernel_rfl) (fun _ _ _ h => h) (Or.inl ⟨by rfl, ?_⟩) ?_ ?_
 rotate_left
 ·intro w'
  go_simp
  with_reducible rfl
 rotate_left
 ·simp only [Act.put, zA, zB, zC, i64_w, i32_w]
  rfl
 refine take_ (i := 8) (N := some 62) (v := ?_) (a' := ?_) (bA 13 502) rfl rfl (by kernel_rfl) (fun _ _ _ h => h) (Or.inl ⟨by rfl, ?_⟩) hHeld ?_ ?_
 rotate_left
 ·rintro w' ⟨s0, s1, s2, s3, s4, s5⟩
  go_simp
  with_reducible rfl
 rotate_left
 ·simp only [Act.put, zA, zB, zC, i64_w, i32_w]
  rfl
 refine join_ (σ := Value × Value × Nat) 3 (bA 13 1023) (fun s => [(54, s.1), (57, s.2.1), (63, .slice (some ⟨s.2.2, 0, none⟩) 1 1)]) (fun s w' => (w'.cell? ⟨w.heap.size, 2, none⟩ = some (.slice (some ad) forks.length cf) /\ w'.cell? (ad.add (m * 5)) = some (.string yf.f0) /\ w'.cell? ⟨(ad.add (m * 5)).block, (ad.add (m * 5)).off + 1, none⟩ = some (.bool yf.f1) /\ w'.cell? ⟨(ad.add (m * 5)).block, (ad.add (m * 5)).off + 2, none⟩ = some (.string yf.f2) /\ w'.cell? ⟨(ad.add (m * 5)).block, (ad.add (m * 5)).off + 3, none⟩ = some (.slice A3 yf.f3.length c3) /\ w'.cell? ⟨(ad.add (m * 5)).block, (ad.add (m * 5)).off + 4, none⟩ = some (.slice A4 yf.f4.length c4)) /\ Kd.N k39 39 w' WU.heap.size (fun k_ => k_ ≠ bT) s.2.1 ([] ++ forks) /\ w'.heap[s.2.2]? = some (.cells #[.string yf.f0, .bool yf.f1, .string yf.f2, .slice A3 yf.f3.length c3, .slice A4 yf.f4.length c4] 39 (0, 0)) /\ Below WU.heap.size WD w' /\ WU.heap.size <= s.2.2 /\ s.2.1.ownBlock ≠ some s.2.2) ?_ ?_
 rotate_left
 ·intro hCont
  refine two_ (i := 0) (j := 9) (Ni := some 54) (Nj := some 63) (bA 13 503) (bA 13 1014) rfl rfl rfl rfl (by kernel_rfl) (by decide) (by decide) (fun K hK => ?_) (fun K hK => ?_)
  ·skip
   refine Kd.N_lit_step k39 (w0 := WD) WU.heap.size 39 (by rfl) (N' := 54) (by rfl) (xs := ([] : List Fk)) (inner := []) (ok := (fun k_ => k_ ≠ bT)) (okp := fun _ => False) ?_ (Reps.none _ _) (fun _ hk => hk.elim) (by have := HTB2.out.2; have h5 := hsz; show WD.heap.size ≠ bT; omega) (Below.refl _ _) (Nat.le_of_eq hsz.symm) (by simp) ?_
   ·first | (go_simp; done) | (go_simp; rfl)
   intro v0 X0 ho hb hg_ hnew_
   have HN0 := Asd.mk ho
   have HB_X0 := Asd.mk hb
   clear ho hb hg_ hnew_
   refine hK.out _ _ ⟨(cell_below2 HB_X0.out dky2), (cell_below2 HB_X0.out de0), (cell_below2 HB_X0.out de1), (cell_below2 HB_X0.out de2), (cell_below2 HB_X0.out de3), (cell_below2 HB_X0.out de4)⟩ (fun hHeld => ?_)
   clear hK K
   refine norm_ (a' := ?_) ?_ ?_
   rotate_left
   ·show Act.put _ (some 54) _ = _
    simp only [Act.put, zA, zB, zC, i64_w, i32_w]
    rfl
   refine two_ (i := 3) (j := 9) (Ni := some 57) (Nj := some 63) (bA 13 511) (bA 13 1015) rfl rfl rfl rfl (by kernel_rfl) (by decide) (by decide) (fun K hK => ?_) (fun K hK => ?_)
   ·skip
    refine Kd.N_append_rows_step k39 (w0 := WD) WU.heap.size (by rfl) (.tmp 54) (.tmp 56) 23 39 zFk 88 (by rfl) Tryz.underlying23 infoFk rfl (by decide) (by decide) v0 [] forks (some ad) forks.length cf (fun k_ => k_ ≠ bT) (fun k_ => k_ < bS) (by rfl) (by rfl) HN0.out (HFW.out _ HB_X0.out) (fun k_ e => ⟨by have := HTB2.out.1; omega, fun e2 => by have := Kd.N_base HN0.out k_ e2.symm; have := HTB2.out; omega⟩) (fun k_ e => by have h3 := HB_X0.out.size; have h5 := hsz; have := HTB2.out.2; omega) HB_X0.out (Nat.le_trans (Nat.le_of_eq hsz.symm) HB_X0.out.size) ?_ ?_
    ·have h1 := HFL.out; have h2 := HML.out; simp; omega
    intro v3 X3 ho hb hg hat
    have HN3 := Asd.mk ho
    have HB_X3 := Asd.mk hb
    clear ho hb hg hat
    refine hK.out _ _ ⟨(cell_below2 HB_X3.out dky2), (cell_below2 HB_X3.out de0), (cell_below2 HB_X3.out de1), (cell_below2 HB_X3.out de2), (cell_below2 HB_X3.out de3), (cell_below2 HB_X3.out de4)⟩ (fun hHeld => ?_)
    clear hK K
    refine norm_ (a' := ?_) ?_ ?_
    rotate_left
    ·show Act.put _ (some 57) _ = _
     simp only [Act.put, zA, zB, zC, i64_w, i32_w]
     rfl
    refine one_ (i := 9) (N := some 63) (bA 13 1023) rfl rfl (by kernel_rfl) (by decide) (fun K hK => ?_)
    refine value_ (w1 := ?_) (v := ?_) (by rfl) rfl ?_ ?_
    rotate_left 2
    ·go_simp
     constructor
     ·rfl
     ·rfl
    generalize hX9 : World.alloc _ _ = X9
    have hbx : Below X3.heap.size X3 X9 := by rw [<- hX9]; exact bal (Below.refl _ _) _
    have hhx : X9.heap[X3.heap.size]? = some (.cells #[.string yf.f0, .bool yf.f1, .string yf.f2, .slice A3 yf.f3.length c3, .slice A4 yf.f4.length c4] 39 (0, 0)) := by rw [<- hX9]; exact heap_alloc_new _ _
    clear hX9
    obtain ⟨g9, hg9⟩ : ∃ g9, g9 = X3.heap.size := ⟨_, rfl⟩
    rw [<- hg9] at hhx
    first | rw [<- hg9] | rw [<- hsz, <- hg9]
    have HG9 := Asd.mk hhx
    have HGE := Asd.mk (show WU.heap.size <= g9 by rw [hg9]; exact (Nat.le_trans (Nat.le_of_eq hsz.symm) HB_X3.out.size))
    have HB_X9 := Asd.mk (show Below WU.heap.size WD X9 from below_step2 HB_X3.out (Nat.le_of_eq hsz.symm) hbx)
    have HNE3 := Asd.mk (show v3.ownBlock ≠ some g9 from fun e => by have := Kd.N_lt HN3.out _ e; omega)
    replace HN3 := Asd.mk (Kd.N_below HN3.out hbx)
    clear hhx hbx hg9
    refine hK.out _ _ ⟨(cell_below2 HB_X9.out dky2), (cell_below2 HB_X9.out de0), (cell_below2 HB_X9.out de1), (cell_below2 HB_X9.out de2), (cell_below2 HB_X9.out de3), (cell_below2 HB_X9.out de4)⟩ (fun hHeld => ?_)
    clear hK K
    refine norm_ (a' := ?_) ?_ ?_
    rotate_left
    ·show Act.put _ (some 63) _ = _
     simp only [Act.put, zA, zB, zC, i64_w, i32_w]
     rfl
    exact norm_ (by simp only [putAll, Act.put, zA, zB, zC]) (hCont (v0, v3, g9) _ ⟨⟨(cell_below2 HB_X9.out dky2), (cell_below2 HB_X9.out de0), (cell_below2 HB_X9.out de1), (cell_below2 HB_X9.out de2), (cell_below2 HB_X9.out de3), (cell_below2 HB_X9.out de4)⟩, HN3.out, HG9.out, HB_X9.out, HGE.out, HNE3.out⟩)
   ·skip
    refine value_ (w1 := ?_) (v := ?_) (by rfl) rfl ?_ ?_
    rotate_left 2
    ·go_simp
     constructor
     ·rfl
     ·rfl
    generalize hX9 : World.alloc _ _ = X9
    have hbx : Below X0.heap.size X0 X9 := by rw [<- hX9]; exact bal (Below.refl _ _) _
    have hhx : X9.heap[X0.heap.size]? = some (.cells #[.string yf.f0, .bool yf.f1, .string yf.f2, .slice A3 yf.f3.length c3, .slice A4 yf.f4.length c4] 39 (0, 0)) := by rw [<- hX9]; exact heap_alloc_new _ _
    clear hX9
    obtain ⟨g9, hg9⟩ : ∃ g9, g9 = X0.heap.size := ⟨_, rfl⟩
    rw [<- hg9] at hhx
    first | rw [<- hg9] | rw [<- hsz, <- hg9]
    have HG9 := Asd.mk hhx
    have HGE := Asd.mk (show WU.heap.size <= g9 by rw [hg9]; exact (Nat.le_trans (Nat.le_of_eq hsz.symm) HB_X0.out.size))
    have HB_X9 := Asd.mk (show Below WU.heap.size WD X9 from below_step2 HB_X0.out (Nat.le_of_eq hsz.symm) hbx)
    have HNE := Asd.mk (show v0.ownBlock ≠ some g9 from fun e => by have := Kd.N_lt HN0.out _ e; omega)
    replace HN0 := Asd.mk (Kd.N_below HN0.out hbx)
    clear hhx hbx hg9
    refine hK.out _ _ ⟨(cell_below2 HB_X9.out dky2), (cell_below2 HB_X9.out de0), (cell_below2 HB_X9.out de1), (cell_below2 HB_X9.out de2), (cell_below2 HB_X9.out de3), (cell_below2 HB_X9.out de4)⟩ (fun hHeld => ?_)
    clear hK K
    refine norm_ (a' := ?_) ?_ ?_
    rotate_left
    ·show Act.put _ (some 63) _ = _
     simp only [Act.put, zA, zB, zC, i64_w, i32_w]
     rfl
    refine one_ (i := 3) (N := some 57) (bA 13 1023) rfl rfl (by kernel_rfl) (by decide) (fun K hK => ?_)
    refine Kd.N_append_rows_step k39 (w0 := WD) WU.heap.size (by rfl) (.tmp 54) (.tmp 56) 23 39 zFk 88 (by rfl) Tryz.underlying23 infoFk rfl (by decide) (by decide) v0 [] forks (some ad) forks.length cf (fun k_ => k_ ≠ bT) (fun k_ => k_ < bS) (by rfl) (by rfl) HN0.out (HFW.out _ HB_X9.out) (fun k_ e => ⟨by have := HTB2.out.1; omega, fun e2 => by have := Kd.N_base HN0.out k_ e2.symm; have := HTB2.out; omega⟩) (fun k_ e => by have h3 := HB_X9.out.size; have h5 := hsz; have := HTB2.out.2; omega) HB_X9.out (Nat.le_trans (Nat.le_of_eq hsz.symm) HB_X9.out.size) ?_ ?_
    ·have h1 := HFL.out; have h2 := HML.out; simp; omega
    intro v3 X3 ho hb hg hat
    have HN3 := Asd.mk ho
    have HB_X3 := Asd.mk hb
    have hg9 := lt_box HG9.out
    replace HG9 := Asd.mk ((hg.block g9 hg9 (fun e => HNE.out e.symm)).trans HG9.out)
    have HNE3 := Asd.mk (show v3.ownBlock ≠ some g9 from fun e => by rcases hat with h_ | ⟨b_, hb_, hb2_⟩; { exact HNE.out (h_ ▸ e) }; { rw [hb_] at e; have := Option.some.inj e; omega })
    clear hg9
    clear ho hb hg hat
    refine hK.out _ _ ⟨(cell_below2 HB_X3.out dky2), (cell_below2 HB_X3.out de0), (cell_below2 HB_X3.out de1), (cell_below2 HB_X3.out de2), (cell_below2 HB_X3.out de3), (cell_below2 HB_X3.out de4)⟩ (fun hHeld => ?_)
    clear hK K
    refine norm_ (a' := ?_) ?_ ?_
    rotate_left
    ·show Act.put _ (some 57) _ = _
     simp only [Act.put, zA, zB, zC, i64_w, i32_w]
     rfl
    exact norm_ (by simp only [putAll, Act.put, zA, zB, zC]) (hCont (v0, v3, g9) _ ⟨⟨(cell_below2 HB_X3.out dky2), (cell_below2 HB_X3.out de0), (cell_below2 HB_X3.out de1), (cell_below2 HB_X3.out de2), (cell_below2 HB_X3.out de3), (cell_below2 HB_X3.out de4)⟩, HN3.out, HG9.out, HB_X3.out, HGE.out, HNE3.out⟩)
  ·skip
   refine value_ (w1 := ?_) (v := ?_) (by rfl) rfl ?_ ?_
   rotate_left 2
   ·go_simp
    constructor
    ·rfl
    ·rfl
   generalize hX9 : World.alloc _ _ = X9
   have hbx : Below WD.heap.size WD X9 := by rw [<- hX9]; exact bal (Below.refl _ _) _
   have hhx : X9.heap[WD.heap.size]? = some (.cells #[.string yf.f0, .bool yf.f1, .string yf.f2, .slice A3 yf.f3.length c3, .slice A4 yf.f4.length c4] 39 (0, 0)) := by rw [<- hX9]; exact heap_alloc_new _ _
   clear hX9
   obtain ⟨g9, hg9⟩ : ∃ g9, g9 = WD.heap.size := ⟨_, rfl⟩
   rw [<- hg9] at hhx
   first | rw [<- hg9] | rw [<- hsz, <- hg9]
   have HG9 := Asd.mk hhx
   have HGE := Asd.mk (show WU.heap.size <= g9 by rw [hg9]; exact (Nat.le_of_eq hsz.symm))
   have HB_X9 := Asd.mk (show Below WU.heap.size WD X9 from below_step2 (Below.refl _ _) (Nat.le_of_eq hsz.symm) hbx)
   clear hhx hbx hg9
   refine hK.out _ _ ⟨(cell_below2 HB_X9.out dky2), (cell_below2 HB_X9.out de0), (cell_below2 HB_X9.out de1), (cell_below2 HB_X9.out de2), (cell_below2 HB_X9.out de3), (cell_below2 HB_X9.out de4)⟩ (fun hHeld => ?_)
   clear hK K
   refine norm_ (a' := ?_) ?_ ?_
   rotate_left
   ·show Act.put _ (some 63) _ = _
    simp only [Act.put, zA, zB, zC, i64_w, i32_w]
    rfl
   refine one_ (i := 0) (N := some 54) (bA 13 1015) rfl rfl (by kernel_rfl) (by decide) (fun K hK => ?_)
   refine Kd.N_lit_step k39 (w0 := WD) WU.heap.size 39 (by rfl) (N' := 54) (by rfl) (xs := ([] : List Fk)) (inner := []) (ok := (fun k_ => k_ ≠ bT)) (okp := fun _ => False) ?_ (Reps.none _ _) (fun _ hk => hk.elim) (by have h3 := HB_X9.out.size; have h5 := hsz; have := HTB2.out.2; show X9.heap.size ≠ bT; omega) HB_X9.out (Nat.le_trans (Nat.le_of_eq hsz.symm) HB_X9.out.size) (by simp) ?_
   ·first | (go_simp; done) | (go_simp; rfl)
   intro v0 X0 ho hb hg_ hnew_
   have HN0 := Asd.mk ho
   have HB_X0 := Asd.mk hb
   have hg9 := lt_box HG9.out
   replace HG9 := Asd.mk ((hg_.block g9 hg9 (by simp)).trans HG9.out)
   have HNE := Asd.mk (show v0.ownBlock ≠ some g9 from fun e => by obtain ⟨b_, hb_, hb2_⟩ := hnew_; rw [hb_] at e; have := Option.some.inj e; omega)
   clear hg9
   clear ho hb hg_ hnew_
   refine hK.out _ _ ⟨(cell_below2 HB_X0.out dky2), (cell_below2 HB_X0.out de0), (cell_below2 HB_X0.out de1), (cell_below2 HB_X0.out de2), (cell_below2 HB_X0.out de3), (cell_below2 HB_X0.out de4)⟩ (fun hHeld => ?_)
   clear hK K
   refine norm_ (a' := ?_) ?_ ?_
   rotate_left
   ·show Act.put _ (some 54) _ = _
    simp only [Act.put, zA, zB, zC, i64_w, i32_w]
    rfl
   refine one_ (i := 3) (N := some 57) (bA 13 1023) rfl rfl (by kernel_rfl) (by decide) (fun K hK => ?_)
   refine Kd.N_append_rows_step k39 (w0 := WD) WU.heap.size (by rfl) (.tmp 54) (.tmp 56) 23 39 zFk 88 (by rfl) Tryz.underlying23 infoFk rfl (by decide) (by decide) v0 [] forks (some ad) forks.length cf (fun k_ => k_ ≠ bT) (fun k_ => k_ < bS) (by rfl) (by rfl) HN0.out (HFW.out _ HB_X0.out) (fun k_ e => ⟨by have := HTB2.out.1; omega, fun e2 => by have := Kd.N_base HN0.out k_ e2.symm; have := HTB2.out; omega⟩) (fun k_ e => by have h3 := HB_X0.out.size; have h5 := hsz; have := HTB2.out.2; omega) HB_X0.out (Nat.le_trans (Nat.le_of_eq hsz.symm) HB_X0.out.size) ?_ ?_
   ·have h1 := HFL.out; have h2 := HML.out; simp; omega
   intro v3 X3 ho hb hg hat
   have HN3 := Asd.mk ho
   have HB_X3 := Asd.mk hb
   have hg9 := lt_box HG9.out
   replace HG9 := Asd.mk ((hg.block g9 hg9 (fun e => HNE.out e.symm)).trans HG9.out)
   have HNE3 := Asd.mk (show v3.ownBlock ≠ some g9 from fun e => by rcases hat with h_ | ⟨b_, hb_, hb2_⟩; { exact HNE.out (h_ ▸ e) }; { rw [hb_] at e; have := Option.some.inj e; omega })
   clear hg9
   clear ho hb hg hat
   refine hK.out _ _ ⟨(cell_below2 HB_X3.out dky2), (cell_below2 HB_X3.out de0), (cell_below2 HB_X3.out de1), (cell_below2 HB_X3.out de2), (cell_below2 HB_X3.out de3), (cell_below2 HB_X3.out de4)⟩ (fun hHeld => ?_)
   clear hK K
   refine norm_ (a' := ?_) ?_ ?_
   rotate_left
   ·show Act.put _ (some 57) _ = _
    simp only [Act.put, zA, zB, zC, i64_w, i32_w]
    rfl
   exact norm_ (by simp only [putAll, Act.put, zA, zB, zC]) (hCont (v0, v3, g9) _ ⟨⟨(cell_below2 HB_X3.out dky2), (cell_below2 HB_X3.out de0), (cell_below2 HB_X3.out de1), (cell_below2 HB_X3.out de2), (cell_below2 HB_X3.out de3), (cell_below2 HB_X3.out de4)⟩, HN3.out, HG9.out, HB_X3.out, HGE.out, HNE3.out⟩)
 rintro ⟨v0, v3, g9⟩ X ⟨hHeld, hn3, hg9, hbx, hge, hne3⟩
 have HN3 : Asd (Kd.N k39 39 X WU.heap.size (fun k_ => k_ ≠ bT) v3 ([] ++ forks)) := ⟨hn3⟩
 have HG9 : Asd (X.heap[g9]? = some (.cells #[.string yf.f0, .bool yf.f1, .string yf.f2, .slice A3 yf.f3.length c3, .slice A4 yf.f4.length c4] 39 (0, 0))) := ⟨hg9⟩
 have HB_X := Asd.mk hbx
 have HGE : Asd (WU.heap.size <= g9) := ⟨hge⟩
 have HNE3 : Asd (v3.ownBlock ≠ some g9) := ⟨hne3⟩
 replace hHeld : (fun w' => w'.cell? ⟨w.heap.size, 2, none⟩ = some (.slice (some ad) forks.length cf) /\ w'.cell? (ad.add (m * 5)) = some (.string yf.f0) /\ w'.cell? ⟨(ad.add (m * 5)).block, (ad.add (m * 5)).off + 1, none⟩ = some (.bool yf.f1) /\ w'.cell? ⟨(ad.add (m * 5)).block, (ad.add (m * 5)).off + 2, none⟩ = some (.string yf.f2) /\ w'.cell? ⟨(ad.add (m * 5)).block, (ad.add (m * 5)).off + 3, none⟩ = some (.slice A3 yf.f3.length c3) /\ w'.cell? ⟨(ad.add (m * 5)).block, (ad.add (m * 5)).off + 4, none⟩ = some (.slice A4 yf.f4.length c4)) X := hHeld
 have hHeld := Asd.mk hHeld
 clear hn3 hg9 hbx hge hne3
 refine norm_ (a' := ?_) ?_ ?_
 rotate_left
 ·simp only [putAll, Act.put, zA, zB, zC]
  rfl
 refine one_ (i := 10) (N := some 64) (bA 13 2047) rfl rfl (by kernel_rfl) (by decide) (fun K hK => ?_)
 refine Kd.N_append_rows_step k39 (w0 := WD) WU.heap.size (by rfl) (.tmp 57) (.tmp 63) 23 39 zFk 88 (by rfl) Tryz.underlying23 infoFk rfl (by decide) (by decide) v3 ([] ++ forks) [yf] (some ⟨g9, 0, none⟩) 1 1 (fun k_ => k_ ≠ bT) (fun k_ => k_ = g9 ∨ k_ < bS) (by rfl) (by rfl) HN3.out (F_fork1 yf HG9.out HLY.out.1 (HF3.out _ HB_X.out) HLY.out.2 (HF4.out _ HB_X.out)) (fun k_ e => ⟨by have e_ : k_ = g9 ∨ k_ < bS := e; have h1 := HTB2.out; have h2 := HGE.out; show k_ ≠ bT; omega, fun e2 => by rcases e with e | e; { exact HNE3.out (by rw [<- e2, e]) }; { have := Kd.N_base HN3.out k_ e2.symm; have := HTB2.out; omega }⟩) (fun k_ e => by have h3 := HB_X.out.size; have h5 := hsz; have := HTB2.out.2; omega) HB_X.out (Nat.le_trans (Nat.le_of_eq hsz.symm) HB_X.out.size) ?_ ?_
 ·have h1 := HFL.out; have h2 := HML.out; simp; omega
 intro v10 X10 ho hb hg hat
 have HN10 := Asd.mk ho
 have HB_X10 := Asd.mk hb
 obtain ⟨A10, c10, rfl⟩ := Kd.N_slice HN10.out
 clear ho hb hg hat
 refine hK.out _ _ ⟨(cell_below2 HB_X10.out dky2), (cell_below2 HB_X10.out de0), (cell_below2 HB_X10.out de1), (cell_below2 HB_X10.out de2), (cell_below2 HB_X10.out de3), (cell_below2 HB_X10.out de4)⟩ (fun hHeld => ?_)
 clear hK K
 refine norm_ (a' := ?_) ?_ ?_
 rotate_left
 ·show Act.put _ (some 64) _ = _
  simp only [Act.put, zA, zB, zC, i64_w, i32_w]
  rfl
 refine pure_ (i := 11) (N := some 65) (v := ?_) (a' := ?_) (bA 13 4095) rfl rfl (by kernel_rfl) (fun _ _ _ h => h) (Or.inl ⟨by rfl, ?_⟩) ?_ ?_
 rotate_left
 ·intro w'
  go_simp
  with_reducible rfl
 rotate_left
 ·simp only [Act.put, zA, zB, zC, i64_w, i32_w]
  rfl
 refine one_ (i := 12) (N := none) (bA 13 8191) rfl rfl (by kernel_rfl) (by decide) (fun K hK => ?_)
 have hyb := (HB_X10.out.block bT HTB2.out.2).trans HTD.out
 have kst := (box_cell hyb 2 rfl).1
 have kfr := (box_cell hyb 2 rfl).2
 refine skip_ (w1 := ?_) (by rfl) rfl ?_ ?_
 rotate_left
 ·go_simp
  rfl
 refine hK.out _ _ ⟨((World.cell?_setCell_far _ _ _ _ (fun e => by have h1 : bT = w.heap.size := e; have := HTB2.out; have := HSB.out; have := HEB.out; omega)).trans (cell_below2 HB_X10.out dky2)), ((World.cell?_setCell_far _ _ _ _ (fun e => by have h1 : bT = (ad.add (m * 5)).block := e; have := HTB2.out; have := HSB.out; have := HEB.out; omega)).trans (cell_below2 HB_X10.out de0)), ((World.cell?_setCell_far _ _ _ _ (fun e => by have h1 : bT = (ad.add (m * 5)).block := e; have := HTB2.out; have := HSB.out; have := HEB.out; omega)).trans (cell_below2 HB_X10.out de1)), ((World.cell?_setCell_far _ _ _ _ (fun e => by have h1 : bT = (ad.add (m * 5)).block := e; have := HTB2.out; have := HSB.out; have := HEB.out; omega)).trans (cell_below2 HB_X10.out de2)), ((World.cell?_setCell_far _ _ _ _ (fun e => by have h1 : bT = (ad.add (m * 5)).block := e; have := HTB2.out; have := HSB.out; have := HEB.out; omega)).trans (cell_below2 HB_X10.out de3)), ((World.cell?_setCell_far _ _ _ _ (fun e => by have h1 : bT = (ad.add (m * 5)).block := e; have := HTB2.out; have := HSB.out; have := HEB.out; omega)).trans (cell_below2 HB_X10.out de4))⟩ (fun hHeld => ?_)
 clear hK K
 refine done_ (by kernel_rfl) ?_
 obtain ⟨ft, hft⟩ : ∃ ft, ft = ([] ++ forks) ++ [yf] := ⟨_, rfl⟩
 have hn10 := HN10.out
 rw [<- hft] at hn10
 have hfl : forks.length + 1 = ft.length := by rw [hft]; simp
 rw [hfl]
 generalize hWV : World.setCell _ _ _ = WV
 have hBU : Below WU.heap.size WU X10 := (HWB.out).trans HB_X10.out
 have HB := Asd.mk (show Below w.heap.size w WV by rw [<- hWV]; exact below_set (below_step HBU.out hBU) (by have := HSB.out; have := HTB2.out; omega))
 have hoth : ∀ k, k ≠ bT -> k < WU.heap.size -> WV.heap[k]? = WU.heap[k]? := fun k e hk => by
  rw [<- hWV]
  exact (Below.heap_setCell X10 ⟨bT, 2, none⟩ _ k (fun e2 => e e2)).trans (hBU.block k hk)
 replace HX := Asd.mk ((hoth w.heap.size (by have := HSB.out; have := HTB2.out; omega) hlw).trans HX.out)
 have HYV := Asd.mk ((hoth bS (by have := HTB2.out; omega) (by have := HTB2.out; omega)).trans HYU.out)
 have HTV : Asd (WV.heap[bT]? = some (.cells #[.int .i64 n0, .slice Ap pool.length cp, .slice A10 ft.length c10] 25 (0, 0))) := ⟨by
  rw [<- hWV]
  exact (heap_set_same X10 bT 2 _ _ _ ((hBU.block bT HTB2.out.2).trans HT.out)).trans rfl⟩
 have hnS : Kd.N k39 39 WV Ws.heap.size (fun k_ => k_ ≠ bT) (.slice A8 fs.length c8) fs := by
  rw [<- hWV]
  exact Kd.N_far (Kd.N_below HNU.out hBU) (fun k e => e) _
 have hnT : Kd.N k39 39 WV WU.heap.size (fun k_ => k_ ≠ bT) (.slice A10 ft.length c10) ft := by
  rw [<- hWV]
  exact Kd.N_far hn10 (fun k e => e) _
 have hrS := Kd.N_reads' hnS
 have hrT := Kd.N_reads' hnT
 obtain ⟨yn, hyn⟩ : ∃ yn, yn = yf.f0 := ⟨_, rfl⟩
 have kn : WV.cell? (ad.add (m * 5)) = some (.string yn) := by
  rw [hyn]
  exact cell_old (bS := bS) (fun k e => hoth k (by have := HTB2.out; omega) (by have := HTB2.out; have := HSB.out; omega)) e0 HEB.out
 have hrgt := right_smL HR.out
 have hfsE : fs = forks.take m ++ forks.drop (m + 1) := by rw [hfs, HM1.out, List.nil_append]
 have hftE : ft = forks ++ [forks[m]'HML.out] := by rw [hft, HYF.out, List.nil_append]
 have hynE : yn = (forks[m]'HML.out).f0 := by rw [hyn, HYF.out]
 have hsmS : SmR n0 pool fs := ⟨hrgt.p, fun f hf => by
  rw [hfsE] at hf
  rcases List.mem_append.1 hf with hf | hf
  ·exact hrgt.f f (List.mem_of_mem_take hf)
  ·exact hrgt.f f (List.mem_of_mem_drop hf), by rw [hfsE, List.length_append, List.length_take, List.length_drop]; have := HFL.out; omega⟩
 have hsmT : SmR n0 pool ft := ⟨hrgt.p, fun f hf => by
  rw [hftE] at hf
  rcases List.mem_append.1 hf with hf | hf
  ·exact hrgt.f f hf
  ·rw [List.mem_singleton.1 hf]; exact hrgt.f _ (List.getElem_mem HML.out), by rw [hftE, List.length_append, List.length_singleton]; have := HFL.out; omega⟩
 have hbV := HB.out
 have HCS := Asd.mk (fun (W' : World) (hb : Below WV.heap.size WV W') => root_Right.calls 3000000 n0 Ap cp pool A8 c8 fs true W' (Kd.C_below HRP.out (below_step hbV hb)) HCP.out (Kd.C_below hrS.2.2 hb) hrS.2.1 (by rw [hsmS.right, hfsE, less_right HR.out HML.out]))
 have HCT := Asd.mk (fun (W' : World) (hb : Below WV.heap.size WV W') => root_Right.calls 3000000 n0 Ap cp pool A10 c10 ft false W' (Kd.C_below HRP.out (below_step hbV hb)) HCP.out (Kd.C_below hrT.2.2 hb) hrT.2.1 (by rw [hsmT.right, hftE, twice_wrong n0 pool forks HML.out]))
 obtain ⟨gx, hgx⟩ : ∃ gx, gx = root_Find.ix yn fs := ⟨_, rfl⟩
 have hgx0 : gx < 0 := by rw [hgx, hynE, hfsE]; exact gone_ix HR.out HML.out
 have HCG := Asd.mk (fun (W' : World) (hb : Below WV.heap.size WV W') => root_Find.calls n0 Ap cp pool A8 c8 fs yn gx W' (Kd.C_below HRP.out (below_step hbV hb)) HCP.out (Kd.C_below hrS.2.2 hb) hrS.2.1 (by rw [hgx]; rfl))
 have HCR := Asd.mk (fun (W' : World) (hb : Below WV.heap.size WV W') => root_Find.calls n0 Ap cp pool (some ad) cf forks yn (m : Int) W' (Kd.C_below HRP.out (below_step hbV hb)) HCP.out (Kd.C_below HRF.out (below_step hbV hb)) HCF.out (by rw [hynE]; exact congrArg some (ix_at HR.out m HML.out)))
 have c0 : decide ((0 : Int) <= gx) = false := decide_eq_false (by omega)
 have c1 : ((0 : Int) <= gx) = False := eq_false (by omega)
 have kr0 : WV.cell? ⟨w.heap.size, 0, none⟩ = some (.int .i64 n0) := (box_cell HX.out 0 rfl).1
 have kr1 : WV.cell? ⟨w.heap.size, 1, none⟩ = some (.slice Ap pool.length cp) := (box_cell HX.out 1 rfl).1
 have kr2 : WV.cell? ⟨w.heap.size, 2, none⟩ = some (.slice (some ad) forks.length cf) := (box_cell HX.out 2 rfl).1
 have ks0 : WV.cell? ⟨bS, 0, none⟩ = some (.int .i64 n0) := (box_cell HYV.out 0 rfl).1
 have ks1 : WV.cell? ⟨bS, 1, none⟩ = some (.slice Ap pool.length cp) := (box_cell HYV.out 1 rfl).1
 have ks2 : WV.cell? ⟨bS, 2, none⟩ = some (.slice A8 fs.length c8) := (box_cell HYV.out 2 rfl).1
 have kt0 : WV.cell? ⟨bT, 0, none⟩ = some (.int .i64 n0) := (box_cell HTV.out 0 rfl).1
 have kt1 : WV.cell? ⟨bT, 1, none⟩ = some (.slice Ap pool.length cp) := (box_cell HTV.out 1 rfl).1
 have kt2 : WV.cell? ⟨bT, 2, none⟩ = some (.slice A10 ft.length c10) := (box_cell HTV.out 2 rfl).1
 clear hfs hft hfl hWV hBU hoth hn10 hnS hnT hrS hrT hyn hrgt hfsE hftE hynE hsmS hsmT hbV hgx hgx0 e0 e1 e2 e3 e4 ky0 ky1 ky2 hlw heb
 go_upto_region 10 with (fail)
 refine start_ (n := 30) (S := fun w' => w'.cell? ⟨w.heap.size, 0, none⟩ = some (.int .i64 n0) /\ w'.cell? ⟨w.heap.size, 1, none⟩ = some (.slice Ap pool.length cp) /\ w'.cell? ⟨w.heap.size, 2, none⟩ = some (.slice (some ad) forks.length cf) /\ w'.cell? ⟨bS, 0, none⟩ = some (.int .i64 n0) /\ w'.cell? ⟨bS, 1, none⟩ = some (.slice Ap pool.length cp) /\ w'.cell? ⟨bS, 2, none⟩ = some (.slice A8 fs.length c8) /\ w'.cell? ⟨bT, 0, none⟩ = some (.int .i64 n0) /\ w'.cell? ⟨bT, 1, none⟩ = some (.slice Ap pool.length cp) /\ w'.cell? ⟨bT, 2, none⟩ = some (.slice A10 ft.length c10) /\ w'.cell? (ad.add (m * 5)) = some (.string yn)) (ds := []) (bA 30 0) (by kernel_rfl) rfl rfl ⟨(cell_below kr0 (bd1 (Below.refl WV.heap.size WV))), (cell_below kr1 (bd1 (Below.refl WV.heap.size WV))), (cell_below kr2 (bd1 (Below.refl WV.heap.size WV))), (cell_below ks0 (bd1 (Below.refl WV.heap.size WV))), (cell_below ks1 (bd1 (Below.refl WV.heap.size WV))), (cell_below ks2 (bd1 (Below.refl WV.heap.size WV))), (cell_below kt0 (bd1 (Below.refl WV.heap.size WV))), (cell_below kt1 (bd1 (Below.refl WV.heap.size WV))), (cell_below kt2 (bd1 (Below.refl WV.heap.size WV))), (cell_below kn (bd1 (Below.refl WV.heap.size WV)))⟩ (fun hHeld => ?_)
 refine take_ (i := 0) (N := some 66) (v := ?_) (a' := ?_) (bA 30 1) rfl rfl (by kernel_rfl) (fun _ _ _ h => h) (Or.inl ⟨by rfl, ?_⟩) hHeld ?_ ?_
 rotate_left
 ·rintro w' ⟨s0, s1, s2, s3, s4, s5, s6, s7, s8, s9⟩
  go_simp
  with_reducible rfl
 rotate_left
 ·simp only [Act.put, zA, zB, zC, i64_w, i32_w]
  rfl
 refine one_ (i := 1) (N := some 67) (bA 30 3) rfl rfl (by kernel_rfl) (by decide) (fun K hK => ?_)
 refine goes_ Tryz.func11 (by kernel_rfl) rfl #[.agg #[.int .i64 n0, .slice Ap pool.length cp, .slice A8 fs.length c8]] (by rfl) rfl rfl (by simp only [List.map_toArray, List.map_cons, List.map_nil]; rfl) ?_
 with_reducible refine (HCS.out _ (bd1 (Below.refl WV.heap.size WV))).mono ?_
 rintro e Y1 ⟨rfl, hb_Y1⟩
 refine ⟨_, rfl, ?_⟩
 have HB_Y1 := Asd.mk (below_step (bd1 (Below.refl WV.heap.size WV)) hb_Y1)
 refine hK.out _ _ ⟨(cell_below kr0 HB_Y1.out), (cell_below kr1 HB_Y1.out), (cell_below kr2 HB_Y1.out), (cell_below ks0 HB_Y1.out), (cell_below ks1 HB_Y1.out), (cell_below ks2 HB_Y1.out), (cell_below kt0 HB_Y1.out), (cell_below kt1 HB_Y1.out), (cell_below kt2 HB_Y1.out), (cell_below kn HB_Y1.out)⟩ (fun hHeld => ?_)
 clear hK K
 refine norm_ (a' := ?_) ?_ ?_
 rotate_left
 ·show Act.put _ (some 67) _ = _
  simp only [Act.put, zA, zB, zC, i64_w, i32_w]
  rfl
 refine pure_ (i := 2) (N := some 68) (v := ?_) (a' := ?_) (bA 30 7) rfl rfl (by kernel_rfl) (fun _ _ _ h => h) (Or.inl ⟨by rfl, ?_⟩) ?_ ?_
 rotate_left
 ·intro w'
  go_simp
  with_reducible rfl
 rotate_left
 ·simp only [Act.put, zA, zB, zC, i64_w, i32_w]
  rfl
 refine pure_ (i := 3) (N := some 69) (v := ?_) (a' := ?_) (bA 30 15) rfl rfl (by kernel_rfl) (fun _ _ _ h => h) (Or.inl ⟨by rfl, ?_⟩) ?_ ?_
 rotate_left
 ·intro w'
  go_simp
  with_reducible rfl
 rotate_left
 ·simp only [Act.put, zA, zB, zC, i64_w, i32_w]
  rfl
 refine take_ (i := 4) (N := some 70) (v := ?_) (a' := ?_) (bA 30 31) rfl rfl (by kernel_rfl) (fun _ _ _ h => h) (Or.inl ⟨by rfl, ?_⟩) hHeld ?_ ?_
 rotate_left
 ·rintro w' ⟨s0, s1, s2, s3, s4, s5, s6, s7, s8, s9⟩
  go_simp
  with_reducible rfl
 rotate_left
 ·simp only [Act.put, zA, zB, zC, i64_w, i32_w]
  rfl
 refine one_ (i := 5) (N := some 71) (bA 30 63) rfl rfl (by kernel_rfl) (by decide) (fun K hK => ?_)
 refine goes_ Tryz.func11 (by kernel_rfl) rfl #[.agg #[.int .i64 n0, .slice Ap pool.length cp, .slice A10 ft.length c10]] (by rfl) rfl rfl (by simp only [List.map_toArray, List.map_cons, List.map_nil]; rfl) ?_
 with_reducible refine (HCT.out _ HB_Y1.out).mono ?_
 rintro e Y2 ⟨rfl, hb_Y2⟩
 refine ⟨_, rfl, ?_⟩
 have HB_Y2 := Asd.mk (below_step HB_Y1.out hb_Y2)
 refine hK.out _ _ ⟨(cell_below kr0 HB_Y2.out), (cell_below kr1 HB_Y2.out), (cell_below kr2 HB_Y2.out), (cell_below ks0 HB_Y2.out), (cell_below ks1 HB_Y2.out), (cell_below ks2 HB_Y2.out), (cell_below kt0 HB_Y2.out), (cell_below kt1 HB_Y2.out), (cell_below kt2 HB_Y2.out), (cell_below kn HB_Y2.out)⟩ (fun hHeld => ?_)
 clear hK K
 refine norm_ (a' := ?_) ?_ ?_
 rotate_left
 ·show Act.put _ (some 71) _ = _
  simp only [Act.put, zA, zB, zC, i64_w, i32_w]
  rfl
 refine pure_ (i := 6) (N := some 72) (v := ?_) (a' := ?_) (bA 30 127) rfl rfl (by kernel_rfl) (fun _ _ _ h => h) (Or.inl ⟨by rfl, ?_⟩) ?_ ?_
 rotate_left
 ·intro w'
  go_simp
  with_reducible rfl
 rotate_left
 ·simp only [Act.put, zA, zB, zC, i64_w, i32_w]
  rfl
 refine pure_ (i := 7) (N := some 73) (v := ?_) (a' := ?_) (bA 30 255) rfl rfl (by kernel_rfl) (fun _ _ _ h => h) (Or.inl ⟨by rfl, ?_⟩) ?_ ?_
 rotate_left
 ·intro w'
  go_simp
  with_reducible rfl
 rotate_left
 ·simp only [Act.put, zA, zB, zC, i64_w, i32_w]
  rfl
 refine pure_ (i := 9) (N := some 75) (v := ?_) (a' := ?_) (bA 30 767) rfl rfl (by kernel_rfl) (fun _ _ _ h => h) (Or.inl ⟨by rfl, ?_⟩) ?_ ?_
 rotate_left
 ·intro w'
  go_simp
  with_reducible rfl
 rotate_left
 ·simp only [Act.put, zA, zB, zC, i64_w, i32_w]
  rfl
 refine pure_ (i := 11) (N := some 77) (v := ?_) (a' := ?_) (bA 30 2815) rfl rfl (by kernel_rfl) (fun _ _ _ h => h) (Or.inl ⟨by rfl, ?_⟩) ?_ ?_
 rotate_left
 ·intro w'
  go_simp
  with_reducible rfl
 rotate_left
 ·simp only [Act.put, zA, zB, zC, i64_w, i32_w]
  rfl
 refine take_ (i := 8) (N := some 74) (v := ?_) (a' := ?_) (bA 30 3071) rfl rfl (by kernel_rfl) (fun _ _ _ h => h) (Or.inl ⟨by rfl, ?_⟩) hHeld ?_ ?_
 rotate_left
 ·rintro w' ⟨s0, s1, s2, s3, s4, s5, s6, s7, s8, s9⟩
  go_simp
  with_reducible rfl
 rotate_left
 ·simp only [Act.put, zA, zB, zC, i64_w, i32_w]
  rfl
 refine take_ (i := 10) (N := some 76) (v := ?_) (a' := ?_) (bA 30 4095) rfl rfl (by kernel_rfl) (fun _ _ _ h => h) (Or.inl ⟨by rfl, ?_⟩) hHeld ?_ ?_
 rotate_left
 ·rintro w' ⟨s0, s1, s2, s3, s4, s5, s6, s7, s8, s9⟩
  go_simp
  with_reducible rfl
 rotate_left
 ·simp only [Act.put, zA, zB, zC, i64_w, i32_w]
  rfl
 refine pure_ (i := 12) (N := some 78) (v := ?_) (a' := ?_) (bA 30 8191) rfl rfl (by kernel_rfl) (fun _ _ _ h => h) (Or.inl ⟨by rfl, ?_⟩) ?_ ?_
 rotate_left
 ·intro w'
  go_simp
  with_reducible rfl
 rotate_left
 ·simp only [Act.put, zA, zB, zC, i64_w, i32_w]
  rfl
 refine pure_ (i := 13) (N := some 79) (v := ?_) (a' := ?_) (bA 30 16383) rfl rfl (by kernel_rfl) (fun _ _ _ h => h) (Or.inl ⟨by rfl, ?_⟩) ?_ ?_
 rotate_left
 ·intro w'
  go_simp
  with_reducible rfl
 rotate_left
 ·simp only [Act.put, zA, zB, zC, i64_w, i32_w]
  rfl
 refine take_ (i := 14) (N := some 80) (v := ?_) (a' := ?_) (bA 30 32767) rfl rfl (by kernel_rfl) (fun _ _ _ h => h) (Or.inl ⟨by rfl, ?_⟩) hHeld ?_ ?_
 rotate_left
 ·rintro w' ⟨s0, s1, s2, s3, s4, s5, s6, s7, s8, s9⟩
  go_simp
  with_reducible rfl
 rotate_left
 ·simp only [Act.put, zA, zB, zC, i64_w, i32_w]
  rfl
 refine one_ (i := 15) (N := some 81) (bA 30 65535) rfl rfl (by kernel_rfl) (by decide) (fun K hK => ?_)
 refine goes_ Tryz.func16 (by kernel_rfl) rfl #[.agg #[.int .i64 n0, .slice Ap pool.length cp, .slice A8 fs.length c8], .string yn] (by rfl) rfl rfl (by simp only [List.map_toArray, List.map_cons, List.map_nil]; rfl) ?_
 with_reducible refine (HCG.out _ HB_Y2.out).mono ?_
 rintro e Y3 ⟨rfl, hb_Y3⟩
 refine ⟨_, rfl, ?_⟩
 have HB_Y3 := Asd.mk (below_step HB_Y2.out hb_Y3)
 refine hK.out _ _ ⟨(cell_below kr0 HB_Y3.out), (cell_below kr1 HB_Y3.out), (cell_below kr2 HB_Y3.out), (cell_below ks0 HB_Y3.out), (cell_below ks1 HB_Y3.out), (cell_below ks2 HB_Y3.out), (cell_below kt0 HB_Y3.out), (cell_below kt1 HB_Y3.out), (cell_below kt2 HB_Y3.out), (cell_below kn HB_Y3.out)⟩ (fun hHeld => ?_)
 clear hK K
 refine norm_ (a' := ?_) ?_ ?_
 rotate_left
 ·show Act.put _ (some 81) _ = _
  simp only [Act.put, zA, zB, zC, i64_w, i32_w]
  rfl
 refine pure_ (i := 16) (N := some 82) (v := ?_) (a' := ?_) (bA 30 131071) rfl rfl (by kernel_rfl) (fun _ _ _ h => h) (Or.inl ⟨by rfl, ?_⟩) ?_ ?_
 rotate_left
 ·intro w'
  go_simp
  with_reducible rfl
 rotate_left
 ·simp only [Act.put, zA, zB, zC, i64_w, i32_w]
  rfl
 refine pure_ (i := 17) (N := some 83) (v := ?_) (a' := ?_) (bA 30 262143) rfl rfl (by kernel_rfl) (fun _ _ _ h => h) (Or.inl ⟨by rfl, ?_⟩) ?_ ?_
 rotate_left
 ·intro w'
  go_simp
  with_reducible rfl
 rotate_left
 ·simp only [Act.put, zA, zB, zC, i64_w, i32_w]
  rfl
 refine pure_ (i := 18) (N := some 84) (v := ?_) (a' := ?_) (bA 30 524287) rfl rfl (by kernel_rfl) (fun _ _ _ h => h) (Or.inl ⟨by rfl, ?_⟩) ?_ ?_
 rotate_left
 ·intro w'
  go_simp
  with_reducible rfl
 rotate_left
 ·simp only [Act.put, zA, zB, zC, i64_w, i32_w]
  rfl
 refine pure_ (i := 20) (N := some 86) (v := ?_) (a' := ?_) (bA 30 1572863) rfl rfl (by kernel_rfl) (fun _ _ _ h => h) (Or.inl ⟨by rfl, ?_⟩) ?_ ?_
 rotate_left
 ·intro w'
  go_simp
  with_reducible rfl
 rotate_left
 ·simp only [Act.put, zA, zB, zC, i64_w, i32_w]
  rfl
 refine pure_ (i := 22) (N := some 88) (v := ?_) (a' := ?_) (bA 30 5767167) rfl rfl (by kernel_rfl) (fun _ _ _ h => h) (Or.inl ⟨by rfl, ?_⟩) ?_ ?_
 rotate_left
 ·intro w'
  go_simp
  with_reducible rfl
 rotate_left
 ·simp only [Act.put, zA, zB, zC, i64_w, i32_w]
  rfl
 refine pure_ (i := 27) (N := some 93) (v := ?_) (a' := ?_) (bA 30 139984895) rfl rfl (by kernel_rfl) (fun _ _ _ h => h) (Or.inl ⟨by rfl, ?_⟩) ?_ ?_
 rotate_left
 ·intro w'
  go_simp
  with_reducible rfl
 rotate_left
 ·simp only [Act.put, zA, zB, zC, i64_w, i32_w]
  rfl
 refine take_ (i := 19) (N := some 85) (v := ?_) (a' := ?_) (bA 30 140509183) rfl rfl (by kernel_rfl) (fun _ _ _ h => h) (Or.inl ⟨by rfl, ?_⟩) hHeld ?_ ?_
 rotate_left
 ·rintro w' ⟨s0, s1, s2, s3, s4, s5, s6, s7, s8, s9⟩
  go_simp
  with_reducible rfl
 rotate_left
 ·simp only [Act.put, zA, zB, zC, i64_w, i32_w]
  rfl
 refine take_ (i := 21) (N := some 87) (v := ?_) (a' := ?_) (bA 30 142606335) rfl rfl (by kernel_rfl) (fun _ _ _ h => h) (Or.inl ⟨by rfl, ?_⟩) hHeld ?_ ?_
 rotate_left
 ·rintro w' ⟨s0, s1, s2, s3, s4, s5, s6, s7, s8, s9⟩
  go_simp
  with_reducible rfl
 rotate_left
 ·simp only [Act.put, zA, zB, zC, i64_w, i32_w]
  rfl
 refine pure_ (i := 23) (N := some 89) (v := ?_) (a' := ?_) (bA 30 150994943) rfl rfl (by kernel_rfl) (fun _ _ _ h => h) (Or.inl ⟨by rfl, ?_⟩) ?_ ?_
 rotate_left
 ·intro w'
  go_simp
  with_reducible rfl
 rotate_left
 ·simp only [Act.put, zA, zB, zC, i64_w, i32_w]
  rfl
 refine pure_ (i := 24) (N := some 90) (v := ?_) (a' := ?_) (bA 30 167772159) rfl rfl (by kernel_rfl) (fun _ _ _ h => h) (Or.inl ⟨by rfl, ?_⟩) ?_ ?_
 rotate_left
 ·intro w'
  go_simp
  with_reducible rfl
 rotate_left
 ·simp only [Act.put, zA, zB, zC, i64_w, i32_w]
  rfl
 refine take_ (i := 25) (N := some 91) (v := ?_) (a' := ?_) (bA 30 201326591) rfl rfl (by kernel_rfl) (fun _ _ _ h => h) (Or.inl ⟨by rfl, ?_⟩) hHeld ?_ ?_
 rotate_left
 ·rintro w' ⟨s0, s1, s2, s3, s4, s5, s6, s7, s8, s9⟩
  go_simp
  with_reducible rfl
 rotate_left
 ·simp only [Act.put, zA, zB, zC, i64_w, i32_w]
  rfl
 refine one_ (i := 26) (N := some 92) (bA 30 268435455) rfl rfl (by kernel_rfl) (by decide) (fun K hK => ?_)
 refine goes_ Tryz.func16 (by kernel_rfl) rfl #[.agg #[.int .i64 n0, .slice Ap pool.length cp, .slice (some ad) forks.length cf], .string yn] (by rfl) rfl rfl (by simp only [List.map_toArray, List.map_cons, List.map_nil]; rfl) ?_
 with_reducible refine (HCR.out _ HB_Y3.out).mono ?_
 rintro e Y4 ⟨rfl, hb_Y4⟩
 refine ⟨_, rfl, ?_⟩
 have HB_Y4 := Asd.mk (below_step HB_Y3.out hb_Y4)
 refine hK.out _ _ ⟨(cell_below kr0 HB_Y4.out), (cell_below kr1 HB_Y4.out), (cell_below kr2 HB_Y4.out), (cell_below ks0 HB_Y4.out), (cell_below ks1 HB_Y4.out), (cell_below ks2 HB_Y4.out), (cell_below kt0 HB_Y4.out), (cell_below kt1 HB_Y4.out), (cell_below kt2 HB_Y4.out), (cell_below kn HB_Y4.out)⟩ (fun hHeld => ?_)
 clear hK K
 refine norm_ (a' := ?_) ?_ ?_
 rotate_left
 ·show Act.put _ (some 92) _ = _
  simp only [Act.put, zA, zB, zC, i64_w, i32_w]
  rfl
 refine pure_ (i := 28) (N := some 94) (v := ?_) (a' := ?_) (bA 30 536870911) rfl rfl (by kernel_rfl) (fun _ _ _ h => h) (Or.inl ⟨by rfl, ?_⟩) ?_ ?_
 rotate_left
 ·intro w'
  go_simp
  with_reducible rfl
 rotate_left
 ·simp only [Act.put, zA, zB, zC, i64_w, i32_w]
  rfl
 refine pure_ (i := 29) (N := some 95) (v := ?_) (a' := ?_) (bA 30 1073741823) rfl rfl (by kernel_rfl) (fun _ _ _ h => h) (Or.inl ⟨by rfl, ?_⟩) ?_ ?_
 rotate_left
 ·intro w'
  go_simp
  with_reducible rfl
 rotate_left
 ·simp only [Act.put, zA, zB, zC, i64_w, i32_w]
  rfl
 refine done_ (by kernel_rfl) ?_
 replace HX := Asd.mk (below_box HB_Y4.out HX.out)
 replace HB := Asd.mk (below_step HB.out HB_Y4.out)
 clear kr0 kr1 kr2 ks0 ks1 ks2 kt0 kt1 kt2 kn c0 c1 HCS HCT HCG HCR hmN hmZ
 go_upto_region 12 with (fail)
 have HPM : Asd (pool.length <= 24) := ⟨(packs_out (rootF_out HR.out).2.2.1).1⟩
 go_upto_region 15 with (go_at_call 18; refine (Hello.name_any A2 c2 l2 Y4 (Kd.C_below HR2.out HB.out) HC2.out (by have := HL2.out; omega)).mono ?_; rintro e Wn ⟨hb, idn, rfl, hid⟩; replace HB := Asd.mk (below_step HB.out hb); replace HX := Asd.mk (below_box hb HX.out); have HID := Asd.mk hid; clear hb hid)
 go_loopg [12, 13] pool.length (fun gg s12 s13 wr => ∃ kk : Nat, kk <= pool.length /\ pool.length - kk <= gg /\ s12 = .bool (hasT (pool.take kk) idn) /\ s13 = .int .i64 kk /\ Asd (Below w.heap.size w wr) /\ Asd (wr.heap[w.heap.size]? = some (.cells #[.int .i64 n0, .slice Ap pool.length cp, .slice (some ad) forks.length cf] 25 (0, 0))))
 case atStart => exact ⟨0, Nat.zero_le _, by omega, rfl, rfl, HB, HX⟩
 case round =>
  clear HB HX
  obtain ⟨kk, hkk, hgg, rfl, rfl, HB, HX⟩ := hrel
  have kq0 : wr.cell? ⟨w.heap.size, 0, none⟩ = some (.int .i64 n0) := (box_cell HX.out 0 rfl).1
  have kq1 : wr.cell? ⟨w.heap.size, 1, none⟩ = some (.slice Ap pool.length cp) := (box_cell HX.out 1 rfl).1
  have kq2 : wr.cell? ⟨w.heap.size, 2, none⟩ = some (.slice (some ad) forks.length cf) := (box_cell HX.out 2 rfl).1
  by_cases hlt : kk < pool.length
  ·have hltz : (kk : Int) < (pool.length : Int) := by omega
   obtain ⟨ap, hAp, hcl⟩ := (Kd.reads_of_C (enc := Value.string) (d := ByteArray.empty) (h1 := fun _ => rfl) (Kd.C_below HRP.out HB.out)).2.2 (by omega)
   have kp := hcl kk hlt
   rw [List.getD_eq_getElem?_getD, List.getElem?_eq_getElem hlt] at kp
   have kp' : wr.cell? (ap.add kk) = some (.string (pool[kk])) := kp
   have HTN := Asd.mk (has_next pool idn kk hlt)
   obtain ⟨yp, hyp⟩ : ∃ yp, yp = pool[kk] := ⟨_, rfl⟩
   rw [<- hyp] at kp' HTN
   have wk : IntKind.i64.wrap ((kk : Int) + 1) = ((kk + 1 : Nat) : Int) := by have := HPM.out; rw [i64_w, w64 (by omega) (by omega)]; omega
   clear hcl kp hyp
   subst hAp
   cases hth : hasT (pool.take kk) idn with
   | true =>
    rw [hth] at HTN
    clear hth
    go_wp2
    go_roundg (pool.length - (kk + 1))
    case measure => omega
    case rel => exact ⟨kk + 1, by omega, Nat.le_refl _, by rw [HTN.out]; rfl, by go_num, HB, HX⟩
   | false =>
    rw [hth] at HTN
    clear hth
    go_wp2
    go_roundg (pool.length - (kk + 1))
    case measure => omega
    case rel => exact ⟨kk + 1, by omega, Nat.le_refl _, by rw [HTN.out, Bool.false_or], by go_num, HB, HX⟩
  ·obtain rfl : kk = pool.length := by omega
   rw [List.take_length]
   clear hgg hkk hlt
   obtain ⟨th, hth⟩ : ∃ th, th = hasT pool idn := ⟨_, rfl⟩
   rw [<- hth]
   have HTH := Asd.mk hth
   clear hth
   go_upto_region 19 with (fail)
   generalize hWq : World.alloc _ _ = Wq
   obtain ⟨bQ, hbQ⟩ : ∃ bQ, bQ = wr.heap.size := ⟨_, rfl⟩
   rw [<- hbQ]
   have hbq : Below wr.heap.size wr Wq := by rw [<- hWq]; exact bal (Below.refl _ _) _
   have HQ : Asd (Wq.heap[bQ]? = some (.cells #[.int .i64 n0, .slice Ap pool.length cp, .slice (some ad) forks.length cf] 25 (0, 0))) := ⟨by rw [<- hWq, hbQ]; exact heap_alloc_new _ _⟩
   have HBQ : Asd (w.heap.size < bQ /\ bQ < Wq.heap.size) := ⟨by rw [hbQ]; exact lt_box HX.out, lt_box HQ.out⟩
   replace HB := Asd.mk (below_step HB.out hbq)
   replace HX := Asd.mk (below_box hbq HX.out)
   clear hWq hbq hbQ kq0 kq1 kq2
   have kq0 : Wq.cell? ⟨w.heap.size, 0, none⟩ = some (.int .i64 n0) := (box_cell HX.out 0 rfl).1
   have kq1 : Wq.cell? ⟨w.heap.size, 1, none⟩ = some (.slice Ap pool.length cp) := (box_cell HX.out 1 rfl).1
   have kq2 : Wq.cell? ⟨w.heap.size, 2, none⟩ = some (.slice (some ad) forks.length cf) := (box_cell HX.out 2 rfl).1
   have HCP5 := Asd.mk (Kd.C_below HRP.out HB.out)
   go_upto_region 20 with (first
    | ((with_reducible refine gate_dst (N := 116) rfl ?_); refine Kd.R_lit Kd.string (w0 := Wq) Wq.heap.size 9 ?hg (N := 116) ?hd (xs := ([] : List ByteArray)) (inner := []) (ok := fun _ => True) (okp := fun _ => True) ?hr ?hp (fun _ hk => hk) trivial (Below.refl _ _) (Nat.le_refl _) (by simp) ?_; (case hd => rfl); (case hg => rfl); (case hr => first | (go_simp; done) | (go_simp; rfl)); (case hp => exact (Reps.none _ _)); intro v6 X6 ho hb hg_ hnew_; have HO := Asd.mk ho; have HB6 := Asd.mk hb; have kw1 : X6.cell? ⟨w.heap.size, 1, none⟩ = some (.slice Ap pool.length cp) := (box_cell (below_box hb HX.out) 1 rfl).1; clear ho hb hg_ hnew_)
    | ((with_reducible refine gate_builtin (b := .append) (xs := #[.tmp 116, .tmp 118]) rfl ?_); at_builtin; refine Kd.R_append_row Value.string ByteArray.empty (w0 := Wq) Wq.heap.size rfl (.tmp 116) (.tmp 118) 22 9 (.string ⟨#[]⟩) 16 rfl Tryz.underlying22 info9 rfl (by decide) v6 [] pool Ap pool.length cp (fun _ => True) rfl rfl (fun _ _ => trivial) HO.out (Kd.C_below HCP5.out HB6.out) HB6.out HB6.out.size (by have := HPM.out; simp; omega) ?_; intro v7 X7 ho hb hg hat; have HB7 := Asd.mk hb; replace HO := Asd.mk ho; clear hb ho hg hat)
    | ((with_reducible refine gate_builtin (b := .append) (xs := #[.tmp 119, .tmp 121]) rfl ?_); at_builtin; refine Kd.R_append_row Value.string ByteArray.empty (w0 := Wq) Wq.heap.size rfl (.tmp 119) (.tmp 121) 22 9 (.string ⟨#[]⟩) 16 rfl Tryz.underlying22 info9 rfl (by decide) v7 pool [idn] (some ⟨X7.heap.size, 0, none⟩) 1 1 (fun _ => True) rfl rfl (fun _ _ => trivial) (Kd.R_below HO.out (bal (Below.refl _ _) _)) (C_str1 X7 idn 9) (below_step HB7.out (below_less (bal (Below.refl _ _) _) (Nat.le_refl _))) (Nat.le_trans HB7.out.size (by rw [sz_alloc]; exact Nat.le_succ _)) (by have := HPM.out; simp; omega) ?_; intro v8 X8 ho hb hg hat; have HB8 := Asd.mk hb; have HO8 := Asd.mk (R_str ho); clear hb ho hg hat; obtain ⟨A8q, c8q, rfl⟩ := Kd.R_slice HO8.out; have hyb := (HB8.out.block bQ HBQ.out.2).trans HQ.out; have kst := (box_cell hyb 1 rfl).1; have kfr := (box_cell hyb 1 rfl).2; clear hyb))
   generalize hWZ : World.setCell _ _ _ = WZ
   have hq8 := (HB8.out.block bQ HBQ.out.2).trans HQ.out
   have hZ : WZ.heap[bQ]? = some (.cells #[.int .i64 n0, .slice A8q (pool.length + 1) c8q, .slice (some ad) forks.length cf] 25 (0, 0)) := by
    rw [<- hWZ]
    exact (heap_set_same X8 bQ 1 _ _ _ hq8).trans rfl
   have hRZ : Kd.R Kd.string 9 WZ Wq.heap.size (fun _ => True) (.slice A8q (pool ++ [idn]).length c8q) (pool ++ [idn]) := by
    rw [<- hWZ]
    exact R_keepsO HO8.out (Keeps.set (own := fun k => k = bQ) rfl) (fun k e => by have h1 : k = bQ := e; have := HBQ.out; omega)
   have hBZ : Below w.heap.size w WZ := by
    rw [<- hWZ]
    exact below_set (below_step HB.out HB8.out) (by have := HBQ.out; omega)
   have hXZ : WZ.heap[w.heap.size]? = some (.cells #[.int .i64 n0, .slice Ap pool.length cp, .slice (some ad) forks.length cf] 25 (0, 0)) := by
    rw [<- hWZ]
    exact (Below.heap_setCell X8 ⟨bQ, 1, none⟩ _ w.heap.size (fun e => by have h1 : w.heap.size = bQ := e; have := HBQ.out; omega)).trans ((HB8.out.block w.heap.size (by have := HBQ.out; omega)).trans HX.out)
   have kz0 : WZ.cell? ⟨bQ, 0, none⟩ = some (.int .i64 n0) := (box_cell hZ 0 rfl).1
   have kz1 : WZ.cell? ⟨bQ, 1, none⟩ = some (.slice A8q (pool.length + 1) c8q) := (box_cell hZ 1 rfl).1
   have kz2 : WZ.cell? ⟨bQ, 2, none⟩ = some (.slice (some ad) forks.length cf) := (box_cell hZ 2 rfl).1
   have hlp : (pool ++ [idn]).length = pool.length + 1 := by simp
   have hRZr := Kd.R_reads' hRZ
   rw [hlp] at hRZr
   have HVAL := Asd.mk (more_right HR.out HID.out)
   have hsm : SmR n0 (pool ++ [idn]) forks := ⟨fun s hs => by
    rcases List.mem_append.1 hs with hs | hs
    ·exact (right_smL HR.out).p s hs
    ·rw [List.mem_singleton.1 hs, Hello.id_size HID.out]; decide, (right_smL HR.out).f, (right_smL HR.out).l⟩
   obtain ⟨rv, hrv⟩ : ∃ rv, rv = rootF n0 (pool ++ [idn]) forks := ⟨_, rfl⟩
   have HC7 := Asd.mk (show Calls Tryz.prog 11 #[.agg #[.int .i64 n0, .slice A8q (pool.length + 1) c8q, .slice (some ad) forks.length cf]] WZ (fun e w' => e = .returned (.bool rv) /\ Below WZ.heap.size WZ w') by
    have h := root_Right.calls 3000000 n0 A8q c8q (pool ++ [idn]) (some ad) cf forks rv WZ (by rw [hlp]; exact hRZr.2.2) (by rw [hlp]; exact hRZr.2.1) (Kd.C_below HRF.out hBZ) HCF.out (by rw [hsm.right, hrv])
    rw [hlp] at h
    exact h)
   have HRV : Asd (rv = (!th && decide (pool.length < 24))) := ⟨by rw [hrv, HTH.out]; exact HVAL.out⟩
   have HBZ := Asd.mk hBZ
   have ky1 : WZ.cell? ⟨w.heap.size, 1, none⟩ = some (.slice Ap pool.length cp) := (box_cell hXZ 1 rfl).1
   have HXZ := Asd.mk hXZ
   clear hq8 hZ hRZ hXZ hlp hRZr hsm hrv hBZ kq0 kq1 kq2 HO HO8 HB6 HB7 HB8 HCP5 kst kfr
   cases th with
   | true =>
    have e1 : rv = false := by rw [HRV.out]; rfl
    subst e1
    go_wp2_with (go_at_call 11; with_reducible refine HC7.out.mono ?_; rintro e Wf ⟨rfl, hb⟩; replace HBZ := Asd.mk (below_step HBZ.out hb); clear hb)
    go_ret
    exact ⟨rfl, HBZ.out⟩
   | false =>
    obtain ⟨lt, hlt⟩ : ∃ lt, lt = decide (pool.length < 24) := ⟨_, rfl⟩
    have e1 : rv = lt := by rw [HRV.out, <- hlt]; rfl
    subst e1
    have hlz : decide ((pool.length : Int) < 24) = rv := by rw [hlt, decide_eq_decide]; omega
    have hln : decide (pool.length < 24) = rv := hlt.symm
    clear hlt HRV
    go_wp2_with (go_at_call 11; with_reducible refine HC7.out.mono ?_; rintro e Wf ⟨rfl, hb⟩; replace HBZ := Asd.mk (below_step HBZ.out hb); have ky2 : Wf.cell? ⟨w.heap.size, 1, none⟩ = some (.slice Ap pool.length cp) := (box_cell (below_box hb HXZ.out) 1 rfl).1; clear hb)
    go_ret
    exact ⟨by first | rfl | (simp; done) | (simp [*]; done), HBZ.out⟩
end Go.Proofs.YtlfenakgphmepaaGreatDoor.Root
