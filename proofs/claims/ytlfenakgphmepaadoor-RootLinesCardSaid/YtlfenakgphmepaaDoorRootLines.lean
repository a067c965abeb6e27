/- The calls of RootLines answer true, whatever they are handed. -/
import Derived.Test.YtlfenakgphmepaaDoorRootCut
import Derived.Test.YtlfenakgphmepaaDoorLinePure
namespace Go.Proofs.YtlfenakgphmepaaDoor.Root
open Go.RowKit Go.Proofs.YtlfenakgphmepaaDoorW.PrintWords Go.Proofs.YtlfenakgphmepaaDoorW.PrintLast Go.Proofs.YtlfenakgphmepaaDoorW.PrintMore Go.Proofs.YtlfenakgphmepaaDoor.Conv Go.Proofs.YtlfenakgphmepaaDoor.Print Go.Proofs.YtlfenakgphmepaaDoor.Build
set_option linter.unusedVariables false
set_option linter.unusedSimpArgs false
theorem bytesOf_app (a b : ByteArray) : bytesOf (a ++ b) = bytesOf a ++ bytesOf b := by
 unfold bytesOf
 rw [ByteArray.data_append, Array.toList_append, List.map_append]
theorem bytesOf_list (s : ByteArray) : bytesOf s = s.data.toList.map fun b => (b.toNat : Int) := rfl
theorem count_plain {s : ByteArray} (h : plainC 10 s) : (bytesOf s).count 10 = 0 := by
 rw [bytesOf_list]
 refine List.count_eq_zero.2 (fun e => ?_)
 obtain ⟨b, hb, e2⟩ := List.mem_map.1 e
 have : b = 10 := UInt8.toNat_inj.1 (by show b.toNat = 10; omega)
 subst this
 exact h hb
theorem count_join : ∀ (l : List ByteArray) (acc : ByteArray), (∀ s ∈ l, plainC 10 s) -> (bytesOf (joinA acc l)).count 10 = (bytesOf acc).count 10 + l.length
 | [], acc, h => rfl
 | x :: t, acc, h => by
  show (bytesOf (joinA (acc ++ (x ++ (⟨#[10]⟩ : ByteArray))) t)).count 10 = _
  rw [count_join t _ (fun s hs => h s (List.mem_cons_of_mem _ hs)), bytesOf_app, bytesOf_app, List.count_append, List.count_append, count_plain (h x List.mem_cons_self), List.length_cons]
  have : (bytesOf (⟨#[10]⟩ : ByteArray)).count 10 = 1 := by rw [bytesOf_list]; rfl
  rw [this]
  omega
theorem join_end : ∀ (l : List ByteArray) (acc : ByteArray), l ≠ [] -> ∃ p, joinA acc l = p ++ (⟨#[10]⟩ : ByteArray)
 | [], acc, h => absurd rfl h
 | [x], acc, h => ⟨acc ++ x, by show acc ++ (x ++ (⟨#[10]⟩ : ByteArray)) = _; rw [ByteArray.append_assoc]⟩
 | x :: y :: t, acc, h => join_end (y :: t) (acc ++ (x ++ (⟨#[10]⟩ : ByteArray))) (by simp)
def perF (f : Fk) : Nat := 1 + f.f3.length + f.f4.length
def wantF (pool : List ByteArray) (l : List Fk) : Nat := 3 + pool.length + (l.map perF).sum
theorem flat_len : ∀ l : List Fk, (l.flatMap forkLs).length = (l.map perF).sum
 | [] => rfl
 | f :: t => by
  rw [List.flatMap_cons, List.length_append, flat_len t, List.map_cons, List.sum_cons]
  unfold forkLs perF
  rw [List.length_cons, List.length_append, List.length_map]
  omega
theorem count_text {n : Int} {pool : List ByteArray} {forks : List Fk} (h : rootF n pool forks = true) : (bytesOf (textR n pool forks)).count 10 = wantF pool forks := by
 rw [textR_lines h, count_join _ _ (root_lines h)]
 unfold rootLs wantF
 rw [List.length_cons, List.length_cons, List.length_append, List.length_cons, flat_len]
 have : (bytesOf (⟨#[]⟩ : ByteArray)).count 10 = 0 := count_plain (plain_nil 10)
 omega
theorem last_text {n : Int} {pool : List ByteArray} {forks : List Fk} (h : rootF n pool forks = true) : ∃ p, bytesOf (textR n pool forks) = p ++ [10] := by
 obtain ⟨p, hp⟩ := join_end (rootLs n pool forks) ⟨#[]⟩ (by unfold rootLs; simp)
 refine ⟨bytesOf p, ?_⟩
 rw [textR_lines h, hp, bytesOf_app]
 rfl
theorem want_next (pool : List ByteArray) (l : List Fk) (i : Nat) (h : i < l.length) : wantF pool (l.take (i + 1)) = wantF pool (l.take i) + 1 + (l[i]).f3.length + (l[i]).f4.length := by
 unfold wantF
 rw [List.take_succ_eq_append_getElem h, List.map_append, List.sum_append]
 simp only [List.map_cons, List.map_nil, List.sum_cons, List.sum_nil]
 unfold perF
 omega
theorem want_le {pool : List ByteArray} {n : Int} {forks : List Fk} (h : rootF n pool forks = true) (i : Nat) : wantF pool (forks.take i) <= 1000000 := by
 obtain ⟨hf, hn, hp, hm⟩ := rootF_out h
 have hpl := (packs_out hp).1
 have key : ∀ l : List Fk, (∀ f ∈ l, forkB f = true) -> (l.map perF).sum <= 89 * l.length := by
  intro l hl
  induction l with
  | nil => exact Nat.le_refl _
  | cons f t ih =>
   obtain ⟨a, b, c, d, e⟩ := forkB_out (hl f List.mem_cons_self)
   have h1 := (rightF_out c).1
   have h2 := (packs_out b).1
   have h3 := ih (fun g hg => hl g (List.mem_cons_of_mem _ hg))
   rw [List.map_cons, List.sum_cons, List.length_cons]
   unfold perF at h3 ⊢
   omega
 have := key (forks.take i) (fun f hf2 => hf f (List.mem_of_mem_take hf2))
 have hl : (forks.take i).length <= 16 := by rw [List.length_take]; omega
 unfold wantF
 omega
theorem count_next (l : List Int) (i : Nat) (h : i < l.length) : (l.take (i + 1)).count 10 = (l.take i).count 10 + (if l[i] = 10 then 1 else 0) := by
 rw [List.take_succ_eq_append_getElem h, List.count_append]
 congr 1
 by_cases c : l[i] = 10
 ·rw [if_pos c, c]; rfl
 ·rw [if_neg c, List.count_eq_zero.2 (fun e => c (List.mem_singleton.1 e).symm)]
theorem set_eq (l : List Int) (k : Nat) (c : Int) (h : k < l.length) : l.set k c = l <-> c = l[k] := by
 constructor
 ·intro e
  have : (l.set k c)[k]? = l[k]? := by rw [e]
  rw [List.getElem?_set_self h, List.getElem?_eq_getElem h] at this
  exact Option.some.inj this
 ·intro e
  rw [e]
  exact List.set_getElem_self h
theorem store_u8 {W : World} {g n : Nat} {l : List Int} (h : Kd.C (Kd.int .u8) W (some ⟨g, 0, none⟩) n l) (k : Nat) (hk : k < l.length) (c : Int) : Kd.C (Kd.int .u8) (W.setCell ⟨g, k, none⟩ (.int .u8 c)) (some ⟨g, 0, none⟩) n (l.set k c) := by
 obtain ⟨h1, h2, h3⟩ := Kd.reads_of_C (enc := Value.int .u8) (d := (0 : Int)) (h1 := fun _ => rfl) h
 obtain ⟨ad, e, hc⟩ := h3 (by omega)
 obtain rfl := Option.some.inj e
 refine Kd.C_of_reads (enc := Value.int .u8) (d := (0 : Int)) (h1 := fun _ => rfl) ⟨by rw [List.length_set]; exact h1, h2, fun _ => ⟨_, rfl, fun j hj => ?_⟩⟩
 have hcj := hc j hj
 rw [add_plain] at hcj ⊢
 by_cases ejk : j = k
 ·subst ejk
  rw [World.cell?_setCell_same _ _ _ hcj, List.getD_eq_getElem?_getD, List.getElem?_set_self hk]
  rfl
 ·rw [World.cell?_setCell_other _ _ _ _ (fun e => ejk (by injection e with _ e2 _; exact e2.symm)), hcj, List.getD_eq_getElem?_getD, List.getD_eq_getElem?_getD, List.getElem?_set_ne (fun e => ejk e.symm)]
set_option maxRecDepth 100000 in
set_option maxHeartbeats 16000000 in
theorem RootLines_core {w : World} (htab : Lib.TabIs Tryd.prog w "internal/strconv.uint64pow10" .u64 Lib.pow10Tab)
  (n0 : Int) (Ap : Option Addr) (cp : Nat) (pool : List ByteArray) (hrp : Kd.C Kd.string w Ap pool.length pool) (hcp : pool.length <= cp) (Af : Option Addr) (cf : Nat) (forks : List Fk) (hrf : Kd.C k40 w Af forks.length forks) (hcf : forks.length <= cf) (hok : okRoot (n0, pool, forks))
  (a1 : Int) (w1 : (Lit.int .u16 a1).wf = true) (a2 : Int) (w2 : (Lit.int .u8 a2).wf = true) :
  Calls Tryd.prog 6 #[.agg #[.int .i64 n0, .slice Ap pool.length cp, .slice Af forks.length cf], .int .u16 a1, .int .u8 a2] w fun e w' => e = .returned (.bool true) /\ Below w.heap.size w w' := by
 obtain ⟨kg, g, hgr, hsm⟩ := great_eq hok
 have HZ1 := Asd.mk (u16_wf w1)
 have HZ2 := Asd.mk (u8_wf w2)
 have HTB := Asd.mk (show Tb w from Lib.tabBelow_of_tabIs htab)
 have HG := Asd.mk hgr
 have HSM := Asd.mk hsm
 have HRP := Asd.mk hrp
 have HRF := Asd.mk hrf
 have HCP := Asd.mk hcp
 have HCF := Asd.mk hcf
 have hmax : forks.length <= 9223372036854775807 := hrf.2.1
 have HB0 := Asd.mk (bal (Below.refl w.heap.size w) (.cells #[.int .i64 n0, .slice Ap pool.length cp, .slice Af forks.length cf] 25))
 have HX0 := Asd.mk (heap_alloc_new w (.cells #[.int .i64 n0, .slice Ap pool.length cp, .slice Af forks.length cf] 25))
 clear htab hrp hcp hrf hcf hok hgr hsm w1 w2
 go_enter Tryd.func6, Tryd.ntmps6
 go_upto_region 2 with (go_at_call 8; with_reducible refine (head_calls (HTB.out.below HB0.out)).mono ?_; rintro e W1 ⟨rfl, hb⟩; have HX := Asd.mk (below_box hb HX0.out); have HB := Asd.mk (below_step HB0.out hb); clear hb HB0 HX0)
 have kr0 : W1.cell? ⟨w.heap.size, 0, none⟩ = some (.int .i64 n0) := (box_cell HX.out 0 rfl).1
 have kr1 : W1.cell? ⟨w.heap.size, 1, none⟩ = some (.slice Ap pool.length cp) := (box_cell HX.out 1 rfl).1
 have kr2 : W1.cell? ⟨w.heap.size, 2, none⟩ = some (.slice Af forks.length cf) := (box_cell HX.out 2 rfl).1
 cases g with
 | true =>
  go_wp2_with (go_at_call 9; with_reducible refine (sacristylaw10_Great.calls kg n0 Ap cp pool Af cf forks true _ (Kd.C_below HRP.out HB.out) HCP.out (Kd.C_below HRF.out HB.out) HCF.out HG.out).mono ?_; rintro e W2 ⟨rfl, hb⟩; replace HB := Asd.mk (below_step HB.out hb); replace HX := Asd.mk (below_box hb HX.out); have ks0 : W2.cell? ⟨w.heap.size, 0, none⟩ = some (.int .i64 n0) := (box_cell HX.out 0 rfl).1; have ks1 : W2.cell? ⟨w.heap.size, 1, none⟩ = some (.slice Ap pool.length cp) := (box_cell HX.out 1 rfl).1; have ks2 : W2.cell? ⟨w.heap.size, 2, none⟩ = some (.slice Af forks.length cf) := (box_cell HX.out 2 rfl).1; clear hb)
  go_ret
  exact ⟨rfl, HB.out⟩
 | false =>
 have HS := Asd.mk (HSM.out rfl)
 clear HSM
 go_upto_region 4 with (go_at_call 9; with_reducible refine (sacristylaw10_Great.calls kg n0 Ap cp pool Af cf forks false _ (Kd.C_below HRP.out HB.out) HCP.out (Kd.C_below HRF.out HB.out) HCF.out HG.out).mono ?_; rintro e W2 ⟨rfl, hb⟩; replace HB := Asd.mk (below_step HB.out hb); replace HX := Asd.mk (below_box hb HX.out); have ks0 : W2.cell? ⟨w.heap.size, 0, none⟩ = some (.int .i64 n0) := (box_cell HX.out 0 rfl).1; have ks1 : W2.cell? ⟨w.heap.size, 1, none⟩ = some (.slice Ap pool.length cp) := (box_cell HX.out 1 rfl).1; have ks2 : W2.cell? ⟨w.heap.size, 2, none⟩ = some (.slice Af forks.length cf) := (box_cell HX.out 2 rfl).1; clear hb)
 clear HG kr0 kr1 kr2
 cases hR : rootF n0 pool forks with
 | false =>
  have HPN := Asd.mk (put_R_no HS.out.sm hR Ap cp Af cf W2 (Kd.C_below HRP.out HB.out) HCP.out (Kd.C_below HRF.out HB.out) HCF.out)
  clear hR
  go_wp2_with (go_at_call 10; with_reducible refine HPN.out.mono ?_; rintro e W3 ⟨rfl, hb⟩; replace HB := Asd.mk (below_step HB.out hb); clear hb)
  go_ret
  exact ⟨rfl, HB.out⟩
 | true =>
 have HPT := Asd.mk (put_R HS.out.sm hR Ap cp Af cf W2 (Kd.C_below HRP.out HB.out) HCP.out (Kd.C_below HRF.out HB.out) HCF.out (HTB.out.below HB.out))
 have HR := Asd.mk hR
 clear hR
 go_upto_region 5 with (go_at_call 10; refine HPT.out.mono ?_; rintro e W3 ⟨v3, rfl, ⟨A3, c3, rfl, hl3, hF3⟩, hb⟩; have HF3 := Asd.mk hF3; have HL3 := Asd.mk hl3; replace HB := Asd.mk (below_step HB.out hb); replace HX := Asd.mk (below_box hb HX.out); clear hb hl3 hF3)
 clear HPT ks0 ks1 ks2
 have HCT := Asd.mk (count_text HR.out)
 have HLT := Asd.mk (last_text HR.out)
 generalize hbt : bytesOf (textR n0 pool forks) = bt3 at HF3 HL3 HCT HLT ⊢
 obtain ⟨tr, htr⟩ : ∃ tr, tr = textR n0 pool forks := ⟨_, rfl⟩
 have HTR := Asd.mk htr
 have HBT : Asd (strOfNums bt3 = tr) := ⟨by rw [<- hbt, strOf_bytesOf, htr]⟩
 have HBY : Asd (Line.Bytes bt3) := ⟨by rw [<- hbt]; exact Line.bytesOf_bytes _⟩
 have hbl : bt3.length = tr.size := by rw [<- hbt, bytesOf_len, htr]
 have hzr : tr.size <= 200000 := by rw [htr]; exact textR_size HR.out
 have hz0 : 0 < tr.size := by rw [htr]; exact textR_pos HR.out
 have HBL : Asd (bt3.length <= 200000 /\ 0 < bt3.length) := ⟨by omega, by omega⟩
 have hnil : (bt3 = []) = False := eq_false (fun e => by rw [e] at hbl; simp at hbl; omega)
 have hne0 : ((bt3.length : Int) == 0) = false := beq_eq_false_iff_ne.2 (by omega)
 clear hbt htr hbl hzr hz0
 obtain ⟨ad, hA3, _⟩ := (Kd.reads_of_C (enc := Value.int .u8) (d := (0 : Int)) (h1 := fun _ => rfl) (Kd.F_now HF3.out)).2.2 HBL.out.2
 subst hA3
 have HCE := Asd.mk (fun (W' : World) (hb : Below W3.heap.size W3 W') (j : Nat) (hj : j < bt3.length) => show W'.cell? (ad.add j) = some (.int .u8 (bt3[j])) by
  obtain ⟨ad2, e, hc⟩ := (Kd.reads_of_C (enc := Value.int .u8) (d := (0 : Int)) (h1 := fun _ => rfl) (Kd.F_now (Kd.F_below HF3.out hb))).2.2 HBL.out.2
  obtain rfl := Option.some.inj e
  have := hc j hj
  rw [List.getD_eq_getElem?_getD, List.getElem?_eq_getElem hj] at this
  exact this)
 go_upto_region 9 with (fail)
 clear hnil hne0
 have hbmax : bt3.length <= 200000 := HBL.out.1
 have HBC := Asd.mk (Below.refl W3.heap.size W3)
 go_loopg [10, 11] bt3.length (fun gg s10 s11 wr => ∃ (i cnt : Nat), i <= bt3.length /\ bt3.length - i <= gg /\ s10 = .int .i64 (cnt : Int) /\ s11 = .int .i64 (i : Int) /\ Asd (cnt = (bt3.take i).count 10 /\ cnt <= i) /\ Asd (Below w.heap.size w wr) /\ Asd (Below W3.heap.size W3 wr) /\ Asd (wr.heap[w.heap.size]? = some (.cells #[.int .i64 n0, .slice Ap pool.length cp, .slice Af forks.length cf] 25 (0, 0))))
 case atStart => exact ⟨0, 0, Nat.zero_le _, by omega, rfl, rfl, ⟨rfl, Nat.le_refl _⟩, HB, HBC, HX⟩
 case round =>
  clear HB HBC HX
  obtain ⟨i, cnt, hi, hgg, rfl, rfl, HCN, HB, HBC, HX⟩ := hrel
  by_cases hlt : i < bt3.length
  ·have hltz : (i : Int) < (bt3.length : Int) := by omega
   have kc := HCE.out wr HBC.out i hlt
   have hcx := count_next bt3 i hlt
   obtain ⟨x, hx⟩ : ∃ x, x = bt3[i] := ⟨_, rfl⟩
   rw [<- hx] at kc hcx
   have hcn := HCN.out.2
   have wi : IntKind.i64.wrap ((i : Int) + 1) = ((i + 1 : Nat) : Int) := by rw [i64_w, w64 (by omega) (by omega)]; omega
   have wc : IntKind.i64.wrap ((cnt : Int) + 1) = ((cnt + 1 : Nat) : Int) := by rw [i64_w, w64 (by omega) (by omega)]; omega
   clear hx hcn
   by_cases hx10 : x = 10
   ·subst hx10
    have HN2 : Asd (cnt + 1 = (bt3.take (i + 1)).count 10 /\ cnt + 1 <= i + 1) := ⟨by rw [hcx, if_pos rfl, HCN.out.1], by have := HCN.out.2; omega⟩
    clear hcx
    go_wp2
    go_roundg (bt3.length - (i + 1))
    case measure => omega
    case rel => exact ⟨i + 1, cnt + 1, by omega, Nat.le_refl _, by go_num, by go_num, HN2, HB, HBC, HX⟩
   ·have e10 : (x == 10) = false := beq_eq_false_iff_ne.2 hx10
    have HN2 : Asd (cnt = (bt3.take (i + 1)).count 10 /\ cnt <= i + 1) := ⟨by rw [hcx, if_neg hx10, HCN.out.1]; rfl, by have := HCN.out.2; omega⟩
    have f10 : (x = 10) = False := eq_false hx10
    clear hcx hx10
    go_wp2
    go_roundg (bt3.length - (i + 1))
    case measure => omega
    case rel => exact ⟨i + 1, cnt, by omega, Nat.le_refl _, rfl, by go_num, HN2, HB, HBC, HX⟩
  ·obtain rfl : i = bt3.length := by omega
   have hct : cnt = wantF pool forks := by rw [HCN.out.1, List.take_length, HCT.out]
   subst hct
   clear HCN hgg hi hlt HCT
   have kq0 : wr.cell? ⟨w.heap.size, 0, none⟩ = some (.int .i64 n0) := (box_cell HX.out 0 rfl).1
   have kq1 : wr.cell? ⟨w.heap.size, 1, none⟩ = some (.slice Ap pool.length cp) := (box_cell HX.out 1 rfl).1
   have kq2 : wr.cell? ⟨w.heap.size, 2, none⟩ = some (.slice Af forks.length cf) := (box_cell HX.out 2 rfl).1
   have wp : IntKind.i64.wrap (3 + (pool.length : Int)) = ((3 + pool.length : Nat) : Int) := by have h := want_le HR.out 0; unfold wantF at h; rw [i64_w, w64 (by omega) (by omega)]; omega
   obtain ⟨tot, htot⟩ : ∃ tot, tot = wantF pool forks := ⟨_, rfl⟩
   rw [<- htot]
   have HTOT := Asd.mk htot
   clear htot
   go_upto_region 15 with (fail)
   clear kq0 kq1 kq2
   go_loopg [12, 13] forks.length (fun gg s12 s13 wr => ∃ (kk wn : Nat), kk <= forks.length /\ forks.length - kk <= gg /\ s12 = .int .i64 (wn : Int) /\ s13 = .int .i64 (kk : Int) /\ Asd (wn = wantF pool (forks.take kk)) /\ Asd (Below w.heap.size w wr) /\ Asd (Below W3.heap.size W3 wr) /\ Asd (wr.heap[w.heap.size]? = some (.cells #[.int .i64 n0, .slice Ap pool.length cp, .slice Af forks.length cf] 25 (0, 0))))
   case atStart => exact ⟨0, 3 + pool.length, Nat.zero_le _, by omega, by go_num, rfl, ⟨by unfold wantF; simp⟩, HB, HBC, HX⟩
   case round =>
    clear HB HBC HX wp
    obtain ⟨kk, wn, hkk, hgg, rfl, rfl, HWN, HB, HBC, HX⟩ := hrel
    have kr2 : wr.cell? ⟨w.heap.size, 2, none⟩ = some (.slice Af forks.length cf) := (box_cell HX.out 2 rfl).1
    by_cases hlt : kk < forks.length
    ·have hltz : (kk : Int) < (forks.length : Int) := by omega
     obtain ⟨ae, A5, c5, A6, c6, hAf, _, _, _, q3, q4, _, _, _, _⟩ := at_T40 (Kd.C_below HRF.out HB.out) (kk : Int) (by omega) hltz
     rw [rd_fk forks kk hlt, Int.toNat_natCast] at q3 q4
     have hwn := want_next pool forks kk hlt
     have hwl := want_le HR.out (kk + 1)
     obtain ⟨rr, hrr⟩ : ∃ rr, rr = (forks[kk]).f3.length := ⟨_, rfl⟩
     obtain ⟨pp, hpp⟩ : ∃ pp, pp = (forks[kk]).f4.length := ⟨_, rfl⟩
     rw [<- hrr] at q3 hwn
     rw [<- hpp] at q4 hwn
     rw [<- HWN.out] at hwn
     obtain ⟨x1, hx1⟩ : ∃ x1, x1 = wn + 1 := ⟨_, rfl⟩
     obtain ⟨x2, hx2⟩ : ∃ x2, x2 = x1 + rr := ⟨_, rfl⟩
     obtain ⟨x3, hx3⟩ : ∃ x3, x3 = x2 + pp := ⟨_, rfl⟩
     have e1 : IntKind.i64.wrap ((wn : Int) + 1) = (x1 : Int) := by rw [i64_w, w64 (by omega) (by omega)]; omega
     have e2 : IntKind.i64.wrap ((x1 : Int) + (rr : Int)) = (x2 : Int) := by rw [i64_w, w64 (by omega) (by omega)]; omega
     have e3 : IntKind.i64.wrap ((x2 : Int) + (pp : Int)) = (x3 : Int) := by rw [i64_w, w64 (by omega) (by omega)]; omega
     have HW3 : Asd (x3 = wantF pool (forks.take (kk + 1))) := ⟨by rw [hwn]; omega⟩
     have wk : IntKind.i64.wrap ((kk : Int) + 1) = ((kk + 1 : Nat) : Int) := by rw [i64_w, w64 (by omega) (by omega)]; omega
     subst hAf
     clear hrr hpp hwn hwl hx1 hx2 hx3
     go_upto_region 17 with (fail)
     refine start_ (n := 19) (S := fun w' => w'.cell? ⟨w.heap.size, 2, none⟩ = some (.slice (some ae) forks.length cf) /\ w'.cell? ⟨(ae.add (kk * 5)).block, (ae.add (kk * 5)).off + 3, none⟩ = some (.slice A5 rr c5) /\ w'.cell? ⟨(ae.add (kk * 5)).block, (ae.add (kk * 5)).off + 4, none⟩ = some (.slice A6 pp c6)) (ds := []) (bA 19 0) (by kernel_rfl) rfl rfl ⟨(drew_cell kr2), (drew_cell q3), (drew_cell q4)⟩ (fun hHeld => ?_)
     refine pure_ (i := 0) (N := some 63) (v := ?_) (a' := ?_) (bA 19 1) rfl rfl (by kernel_rfl) (fun _ _ _ h => h) (Or.inl ⟨by rfl, ?_⟩) ?_ ?_
     rotate_left
     ·intro w'
      go_simp
      with_reducible rfl
     rotate_left
     ·simp only [Act.put, zA, zB, zC, i64_w, i32_w]
      rfl
     refine pure_ (i := 1) (N := some 64) (v := ?_) (a' := ?_) (bA 19 3) rfl rfl (by kernel_rfl) (fun _ _ _ h => h) (Or.inl ⟨by rfl, ?_⟩) ?_ ?_
     rotate_left
     ·intro w'
      go_simp
      with_reducible rfl
     rotate_left
     ·simp only [Act.put, zA, zB, zC, i64_w, i32_w]
      rfl
     refine pure_ (i := 2) (N := some 65) (v := ?_) (a' := ?_) (bA 19 7) rfl rfl (by kernel_rfl) (fun _ _ _ h => h) (Or.inl ⟨by rfl, ?_⟩) ?_ ?_
     rotate_left
     ·intro w'
      go_simp
      with_reducible rfl
     rotate_left
     ·simp only [Act.put, zA, zB, zC, i64_w, i32_w]
      rfl
     refine pure_ (i := 4) (N := some 67) (v := ?_) (a' := ?_) (bA 19 23) rfl rfl (by kernel_rfl) (fun _ _ _ h => h) (Or.inl ⟨by rfl, ?_⟩) ?_ ?_
     rotate_left
     ·intro w'
      go_simp
      with_reducible rfl
     rotate_left
     ·simp only [Act.put, zA, zB, zC, i64_w, i32_w]
      rfl
     refine pure_ (i := 10) (N := some 73) (v := ?_) (a' := ?_) (bA 19 1047) rfl rfl (by kernel_rfl) (fun _ _ _ h => h) (Or.inl ⟨by rfl, ?_⟩) ?_ ?_
     rotate_left
     ·intro w'
      go_simp
      with_reducible rfl
     rotate_left
     ·simp only [Act.put, zA, zB, zC, i64_w, i32_w]
      rfl
     refine pure_ (i := 12) (N := some 75) (v := ?_) (a' := ?_) (bA 19 5143) rfl rfl (by kernel_rfl) (fun _ _ _ h => h) (Or.inl ⟨by rfl, ?_⟩) ?_ ?_
     rotate_left
     ·intro w'
      go_simp
      with_reducible rfl
     rotate_left
     ·simp only [Act.put, zA, zB, zC, i64_w, i32_w]
      rfl
     refine take_ (i := 3) (N := some 66) (v := ?_) (a' := ?_) (bA 19 5151) rfl rfl (by kernel_rfl) (fun _ _ _ h => h) (Or.inl ⟨by rfl, ?_⟩) hHeld ?_ ?_
     rotate_left
     ·rintro w' ⟨s0, s1, s2⟩
      go_simp
      with_reducible rfl
     rotate_left
     ·simp only [Act.put, zA, zB, zC, i64_w, i32_w]
      rfl
     refine pure_ (i := 5) (N := some 68) (v := ?_) (a' := ?_) (bA 19 5183) rfl rfl (by kernel_rfl) (fun _ _ _ h => h) (Or.inl ⟨by rfl, ?_⟩) ?_ ?_
     rotate_left
     ·intro w'
      go_simp
      with_reducible rfl
     rotate_left
     ·simp only [Act.put, zA, zB, zC, i64_w, i32_w]
      rfl
     refine pure_ (i := 6) (N := some 69) (v := ?_) (a' := ?_) (bA 19 5247) rfl rfl (by kernel_rfl) (fun _ _ _ h => h) (Or.inl ⟨by rfl, ?_⟩) ?_ ?_
     rotate_left
     ·intro w'
      go_simp
      with_reducible rfl
     rotate_left
     ·simp only [Act.put, zA, zB, zC, i64_w, i32_w]
      rfl
     refine take_ (i := 7) (N := some 70) (v := ?_) (a' := ?_) (bA 19 5375) rfl rfl (by kernel_rfl) (fun _ _ _ h => h) (Or.inl ⟨by rfl, ?_⟩) hHeld ?_ ?_
     rotate_left
     ·rintro w' ⟨s0, s1, s2⟩
      go_simp
      with_reducible rfl
     rotate_left
     ·simp only [Act.put, zA, zB, zC, i64_w, i32_w]
      rfl
     refine pure_ (i := 8) (N := some 71) (v := ?_) (a' := ?_) (bA 19 5631) rfl rfl (by kernel_rfl) (fun _ _ _ h => h) (Or.inl ⟨by rfl, ?_⟩) ?_ ?_
     rotate_left
     ·intro w'
      go_simp
      with_reducible rfl
     rotate_left
     ·simp only [Act.put, zA, zB, zC, i64_w, i32_w]
      rfl
     refine pure_ (i := 9) (N := some 72) (v := ?_) (a' := ?_) (bA 19 6143) rfl rfl (by kernel_rfl) (fun _ _ _ h => h) (Or.inl ⟨by rfl, ?_⟩) ?_ ?_
     rotate_left
     ·intro w'
      go_simp
      with_reducible rfl
     rotate_left
     ·simp only [Act.put, zA, zB, zC, i64_w, i32_w]
      rfl
     refine take_ (i := 11) (N := some 74) (v := ?_) (a' := ?_) (bA 19 8191) rfl rfl (by kernel_rfl) (fun _ _ _ h => h) (Or.inl ⟨by rfl, ?_⟩) hHeld ?_ ?_
     rotate_left
     ·rintro w' ⟨s0, s1, s2⟩
      go_simp
      with_reducible rfl
     rotate_left
     ·simp only [Act.put, zA, zB, zC, i64_w, i32_w]
      rfl
     refine pure_ (i := 13) (N := some 76) (v := ?_) (a' := ?_) (bA 19 16383) rfl rfl (by kernel_rfl) (fun _ _ _ h => h) (Or.inl ⟨by rfl, ?_⟩) ?_ ?_
     rotate_left
     ·intro w'
      go_simp
      with_reducible rfl
     rotate_left
     ·simp only [Act.put, zA, zB, zC, i64_w, i32_w]
      rfl
     refine pure_ (i := 14) (N := some 77) (v := ?_) (a' := ?_) (bA 19 32767) rfl rfl (by kernel_rfl) (fun _ _ _ h => h) (Or.inl ⟨by rfl, ?_⟩) ?_ ?_
     rotate_left
     ·intro w'
      go_simp
      with_reducible rfl
     rotate_left
     ·simp only [Act.put, zA, zB, zC, i64_w, i32_w]
      rfl
     refine take_ (i := 15) (N := some 78) (v := ?_) (a' := ?_) (bA 19 65535) rfl rfl (by kernel_rfl) (fun _ _ _ h => h) (Or.inl ⟨by rfl, ?_⟩) hHeld ?_ ?_
     rotate_left
     ·rintro w' ⟨s0, s1, s2⟩
      go_simp
      with_reducible rfl
     rotate_left
     ·simp only [Act.put, zA, zB, zC, i64_w, i32_w]
      rfl
     refine pure_ (i := 16) (N := some 79) (v := ?_) (a' := ?_) (bA 19 131071) rfl rfl (by kernel_rfl) (fun _ _ _ h => h) (Or.inl ⟨by rfl, ?_⟩) ?_ ?_
     rotate_left
     ·intro w'
      go_simp
      with_reducible rfl
     rotate_left
     ·simp only [Act.put, zA, zB, zC, i64_w, i32_w]
      rfl
     refine pure_ (i := 17) (N := some 80) (v := ?_) (a' := ?_) (bA 19 262143) rfl rfl (by kernel_rfl) (fun _ _ _ h => h) (Or.inl ⟨by rfl, ?_⟩) ?_ ?_
     rotate_left
     ·intro w'
      go_simp
      with_reducible rfl
     rotate_left
     ·simp only [Act.put, zA, zB, zC, i64_w, i32_w]
      rfl
     refine pure_ (i := 18) (N := some 12) (v := ?_) (a' := ?_) (bA 19 524287) rfl rfl (by kernel_rfl) (fun _ _ _ h => h) (Or.inl ⟨by rfl, ?_⟩) ?_ ?_
     rotate_left
     ·intro w'
      go_simp
      with_reducible rfl
     rotate_left
     ·simp only [Act.put, zA, zB, zC, i64_w, i32_w]
      rfl
     refine done_ (by kernel_rfl) ?_
     replace HB := Asd.mk (below_step HB.out (bd1 (Below.refl _ _)))
     replace HBC := Asd.mk (below_step HBC.out (bd1 (Below.refl _ _)))
     replace HX := Asd.mk (below_box (bd1 (Below.refl _ _)) HX.out)
     clear q3 q4 kr2 e1 e2 e3
     (try go_wp2)
     go_roundg (forks.length - (kk + 1))
     case measure => omega
     case rel => exact ⟨kk + 1, x3, by omega, Nat.le_refl _, rfl, by go_num, HW3, HB, HBC, HX⟩
    ·obtain rfl : kk = forks.length := by omega
     have hwt : wn = tot := by rw [HWN.out, List.take_length, HTOT.out]
     subst hwt
     clear HWN hgg hkk hlt HTOT
     obtain ⟨m, hm, hml⟩ : ∃ m : Nat, Int.tmod a1 (bt3.length : Int) = (m : Int) /\ m < bt3.length := by
      have h0 := HZ1.out.1
      have h1 := Int.tmod_nonneg (bt3.length : Int) h0
      have h2 := Int.tmod_lt_of_pos a1 (show (0 : Int) < (bt3.length : Int) by have := HBL.out.2; omega)
      exact ⟨(Int.tmod a1 (bt3.length : Int)).toNat, by omega, by omega⟩
     have HML := Asd.mk hml
     have hmw : IntKind.i64.wrap (m : Int) = (m : Int) := by have := HBL.out; rw [i64_w, w64 (by omega) (by omega)]
     have hw2 : IntKind.i64.wrap a1 = a1 := by have := HZ1.out; rw [i64_w, w64 (by omega) (by omega)]
     have hne : ((bt3.length : Int) == 0) = false := beq_eq_false_iff_ne.2 (by have := HBL.out.2; omega)
     have hnil : (bt3 = []) = False := eq_false (fun e => by have := HBL.out.2; rw [e] at this; simp at this)
     have HC5 := Asd.mk (Kd.F_now (Kd.F_below HF3.out HBC.out))
     clear hml
     go_upto_region 20 with (first
      | ((with_reducible refine gate_dst (N := 86) rfl ?_); refine Kd.R_lit (Kd.int .u8) (w0 := wr) wr.heap.size 5 ?hg (N := 86) ?hd (xs := ([] : List Int)) (inner := []) (ok := fun _ => True) (okp := fun _ => True) ?hr ?hp (fun _ hk => hk) trivial (Below.refl _ _) (Nat.le_refl _) (by simp) ?_; (case hd => rfl); (case hg => rfl); (case hr => first | (go_simp; done) | (go_simp; rfl)); (case hp => exact (Reps.none _ _)); intro v6 W6 ho hb hg_ hnew_; have HO := Asd.mk ho; have HB6 := Asd.mk hb; clear ho hb hg_ hnew_)
      | ((with_reducible refine gate_builtin (b := .append) (xs := #[.tmp 86, .tmp 87]) rfl ?_); at_builtin; refine Kd.R_append_row (Value.int .u8) (0 : Int) (w0 := wr) wr.heap.size rfl (.tmp 86) (.tmp 87) 26 5 (.int .u8 0) 1 rfl Tryd.underlying26 info_u8 rfl (by decide) v6 [] bt3 (some ad) bt3.length c3 (fun _ => True) rfl rfl (fun _ _ => trivial) HO.out (Kd.C_below HC5.out HB6.out) HB6.out HB6.out.size (by have := HBL.out; simp; omega) ?_; intro v7 W7 ho hb hg hat; have HB7 := Asd.mk hb; have HO7 := Asd.mk (R_u8 ho); clear hb ho hg hat))
     have ho7 := HO7.out
     rw [List.nil_append] at ho7
     obtain ⟨g7, c7, rfl, hg7, hg7s, cs7, hcs7⟩ := Kd.R_form ho7 HBL.out.2
     have hC7 := (Kd.R_reads' ho7).2.2
     have hB7 := HB7.out
     have kx : W7.cell? ⟨g7, m, none⟩ = some (.int .u8 (bt3.getD m 0)) := by
      obtain ⟨ad2, e, hc⟩ := (Kd.reads_of_C (enc := Value.int .u8) (d := (0 : Int)) (h1 := fun _ => rfl) hC7).2.2 HBL.out.2
      obtain rfl := Option.some.inj e
      have := hc m HML.out
      rw [add_plain] at this
      exact this
     have kf : W7.frozen? ⟨g7, m, none⟩ = false := frozen_of_row W7 g7 m cs7 _ hcs7
     have HC8 := Asd.mk (store_u8 hC7 m HML.out a2)
     have HB8 := Asd.mk (below_set (w := wr) (j := m) (v := .int .u8 a2) hB7 hg7)
     have hml : (m : Int) < (bt3.length : Int) := by have := HML.out; omega
     clear ho7 hC7 hB7 hcs7 hg7s HO HO7 HB6 HB7 HC5 hm hmw hw2 hne hnil
     go_upto_region 21 with (fail)
     clear kx kf hml
     generalize hWS : World.setCell _ _ _ = WS at HC8 HB8 ⊢
     replace HB := Asd.mk (below_step HB.out HB8.out)
     replace HBC := Asd.mk (below_step HBC.out HB8.out)
     replace HX := Asd.mk (below_box HB8.out HX.out)
     clear hWS HB8
     obtain ⟨l1, hl1⟩ : ∃ l1, l1 = bt3.length - 1 := ⟨_, rfl⟩
     have hl1w : IntKind.i64.wrap ((bt3.length : Int) - 1) = (l1 : Int) := by have := HBL.out; rw [i64_w, w64 (by omega) (by omega)]; omega
     have hl1l : (l1 : Int) < (bt3.length : Int) := by have := HBL.out; omega
     have HL1 : Asd (∀ W', Below W3.heap.size W3 W' -> W'.cell? (ad.add l1) = some (.int .u8 10)) := ⟨fun W' hb => by
      obtain ⟨p, hp⟩ := HLT.out
      have h1 : l1 < bt3.length := by have := HBL.out; omega
      rw [HCE.out W' hb l1 h1]
      have : bt3[l1]? = some 10 := by
       have e : l1 = p.length := by rw [hl1, hp, List.length_append]; simp
       rw [e, hp]
       simp
      rw [List.getElem?_eq_getElem h1] at this
      rw [Option.some.inj this]⟩
     clear hl1
     have hbkl : (m : Int) < (bt3.length : Int) := by have := HML.out; omega
     obtain ⟨bk, hbk⟩ : ∃ bk, bk = bt3[m]'HML.out := ⟨_, rfl⟩
     have HBK : Asd (∀ W', Below W3.heap.size W3 W' -> W'.cell? (ad.add m) = some (.int .u8 bk)) := ⟨fun W' hb => by rw [hbk]; exact HCE.out W' hb m HML.out⟩
     have HSQ : Asd (strOfNums (bt3.set m a2) = tr <-> a2 = bk) := ⟨by
      rw [hbk, <- set_eq bt3 m a2 HML.out, <- HBT.out]
      constructor
      ·intro e
       have hB2 : Line.Bytes (bt3.set m a2) := fun x hx => by
        rcases List.mem_or_eq_of_mem_set hx with hx | rfl
        ·exact HBY.out x hx
        ·exact ⟨by have := HZ2.out; omega, by have := HZ2.out; omega⟩
       have := congrArg bytesOf e
       rw [Line.bytesOf_strOf hB2, Line.bytesOf_strOf HBY.out] at this
       exact this
      ·intro e
       rw [e]⟩
     clear hbk
     obtain ⟨sx, hsx⟩ : ∃ sx, sx = strOfNums (bt3.set m a2) := ⟨_, rfl⟩
     have HSX := Asd.mk hsx
     have HSZ : Asd (sx.size <= 800000) := ⟨by rw [hsx, str_size, List.length_set]; have := HBL.out; omega⟩
     clear hsx
     cases hg : getR sx with
     | none =>
      have HGB := Asd.mk (get_R_none sx HSZ.out hg (some ⟨g7, 0, none⟩) bt3.length c7 (bt3.set m a2) WS HC8.out HSX.out.symm (HTB.out.below HB.out))
      clear hg
      go_upto_region 22 with (go_at_call 12; with_reducible refine HGB.out.mono ?_; rintro r W8 ⟨hb8, rfl⟩; replace HB := Asd.mk (below_step HB.out hb8); replace HBC := Asd.mk (below_step HBC.out hb8); clear hb8)
      generalize hWF : World.alloc _ _ = WF
      have hbf : Below W8.heap.size W8 WF := by rw [<- hWF]; exact bal (Below.refl _ _) _
      replace HB := Asd.mk (below_step HB.out hbf)
      replace HBC := Asd.mk (below_step HBC.out hbf)
      have kl := HL1.out WF HBC.out
      clear hWF hbf HGB
      refine start_ (n := 32) (S := fun w' => w'.cell? (ad.add l1) = some (.int .u8 10)) (ds := []) (bA 32 0) (by kernel_rfl) rfl rfl ((cell_below kl (bd1 (Below.refl _ _)))) (fun hHeld => ?_)
      refine pure_ (i := 0) (N := some 98) (v := ?_) (a' := ?_) (bA 32 1) rfl rfl (by kernel_rfl) (fun _ _ _ h => h) (Or.inl ⟨by rfl, ?_⟩) ?_ ?_
      rotate_left
      ·intro w'
       go_simp
       with_reducible rfl
      rotate_left
      ·simp only [Act.put, zA, zB, zC, i64_w, i32_w]
       rfl
      refine pure_ (i := 1) (N := some 99) (v := ?_) (a' := ?_) (bA 32 3) rfl rfl (by kernel_rfl) (fun _ _ _ h => h) (Or.inl ⟨by rfl, ?_⟩) ?_ ?_
      rotate_left
      ·intro w'
       go_simp
       with_reducible rfl
      rotate_left
      ·simp only [Act.put, zA, zB, zC, i64_w, i32_w]
       rfl
      refine pure_ (i := 2) (N := some 100) (v := ?_) (a' := ?_) (bA 32 7) rfl rfl (by kernel_rfl) (fun _ _ _ h => h) (Or.inl ⟨by rfl, ?_⟩) ?_ ?_
      rotate_left
      ·intro w'
       go_simp
       with_reducible rfl
      rotate_left
      ·simp only [Act.put, zA, zB, zC, i64_w, i32_w]
       rfl
      refine pure_ (i := 3) (N := some 101) (v := ?_) (a' := ?_) (bA 32 15) rfl rfl (by kernel_rfl) (fun _ _ _ h => h) (Or.inl ⟨by rfl, ?_⟩) ?_ ?_
      rotate_left
      ·intro w'
       go_simp
       with_reducible rfl
      rotate_left
      ·simp only [Act.put, zA, zB, zC, i64_w, i32_w]
       rfl
      refine pure_ (i := 4) (N := some 102) (v := ?_) (a' := ?_) (bA 32 31) rfl rfl (by kernel_rfl) (fun _ _ _ h => h) (Or.inl ⟨by rfl, ?_⟩) ?_ ?_
      rotate_left
      ·intro w'
       go_simp
       with_reducible rfl
      rotate_left
      ·simp only [Act.put, zA, zB, zC, i64_w, i32_w]
       rfl
      refine pure_ (i := 5) (N := some 103) (v := ?_) (a' := ?_) (bA 32 63) rfl rfl (by kernel_rfl) (fun _ _ _ h => h) (Or.inl ⟨by rfl, ?_⟩) ?_ ?_
      rotate_left
      ·intro w'
       go_simp
       with_reducible rfl
      rotate_left
      ·simp only [Act.put, zA, zB, zC, i64_w, i32_w]
       rfl
      refine pure_ (i := 6) (N := some 104) (v := ?_) (a' := ?_) (bA 32 127) rfl rfl (by kernel_rfl) (fun _ _ _ h => h) (Or.inl ⟨by rfl, ?_⟩) ?_ ?_
      rotate_left
      ·intro w'
       go_simp
       with_reducible rfl
      rotate_left
      ·simp only [Act.put, zA, zB, zC, i64_w, i32_w]
       rfl
      refine pure_ (i := 7) (N := some 105) (v := ?_) (a' := ?_) (bA 32 255) rfl rfl (by kernel_rfl) (fun _ _ _ h => h) (Or.inl ⟨by rfl, ?_⟩) ?_ ?_
      rotate_left
      ·intro w'
       go_simp
       with_reducible rfl
      rotate_left
      ·simp only [Act.put, zA, zB, zC, i64_w, i32_w]
       rfl
      refine pure_ (i := 8) (N := some 106) (v := ?_) (a' := ?_) (bA 32 511) rfl rfl (by kernel_rfl) (fun _ _ _ h => h) (Or.inl ⟨by rfl, ?_⟩) ?_ ?_
      rotate_left
      ·intro w'
       go_simp
       with_reducible rfl
      rotate_left
      ·simp only [Act.put, zA, zB, zC, i64_w, i32_w]
       rfl
      refine pure_ (i := 9) (N := some 107) (v := ?_) (a' := ?_) (bA 32 1023) rfl rfl (by kernel_rfl) (fun _ _ _ h => h) (Or.inl ⟨by rfl, ?_⟩) ?_ ?_
      rotate_left
      ·intro w'
       go_simp
       with_reducible rfl
      rotate_left
      ·simp only [Act.put, zA, zB, zC, i64_w, i32_w]
       rfl
      refine pure_ (i := 10) (N := some 108) (v := ?_) (a' := ?_) (bA 32 2047) rfl rfl (by kernel_rfl) (fun _ _ _ h => h) (Or.inl ⟨by rfl, ?_⟩) ?_ ?_
      rotate_left
      ·intro w'
       go_simp
       with_reducible rfl
      rotate_left
      ·simp only [Act.put, zA, zB, zC, i64_w, i32_w]
       rfl
      refine pure_ (i := 11) (N := some 109) (v := ?_) (a' := ?_) (bA 32 4095) rfl rfl (by kernel_rfl) (fun _ _ _ h => h) (Or.inl ⟨by rfl, ?_⟩) ?_ ?_
      rotate_left
      ·intro w'
       go_simp
       with_reducible rfl
      rotate_left
      ·simp only [Act.put, zA, zB, zC, i64_w, i32_w]
       rfl
      refine take_ (i := 12) (N := some 110) (v := ?_) (a' := ?_) (bA 32 8191) rfl rfl (by kernel_rfl) (fun _ _ _ h => h) (Or.inl ⟨by rfl, ?_⟩) hHeld ?_ ?_
      rotate_left
      ·intro w' s0
       go_simp
       with_reducible rfl
      rotate_left
      ·simp only [Act.put, zA, zB, zC, i64_w, i32_w]
       rfl
      refine pure_ (i := 13) (N := some 111) (v := ?_) (a' := ?_) (bA 32 16383) rfl rfl (by kernel_rfl) (fun _ _ _ h => h) (Or.inl ⟨by rfl, ?_⟩) ?_ ?_
      rotate_left
      ·intro w'
       go_simp
       with_reducible rfl
      rotate_left
      ·simp only [Act.put, zA, zB, zC, i64_w, i32_w]
       rfl
      refine pure_ (i := 14) (N := some 112) (v := ?_) (a' := ?_) (bA 32 32767) rfl rfl (by kernel_rfl) (fun _ _ _ h => h) (Or.inl ⟨by rfl, ?_⟩) ?_ ?_
      rotate_left
      ·intro w'
       go_simp
       with_reducible rfl
      rotate_left
      ·simp only [Act.put, zA, zB, zC, i64_w, i32_w]
       rfl
      refine pure_ (i := 15) (N := some 113) (v := ?_) (a' := ?_) (bA 32 65535) rfl rfl (by kernel_rfl) (fun _ _ _ h => h) (Or.inl ⟨by rfl, ?_⟩) ?_ ?_
      rotate_left
      ·intro w'
       go_simp
       with_reducible rfl
      rotate_left
      ·simp only [Act.put, zA, zB, zC, i64_w, i32_w]
       rfl
      refine pure_ (i := 16) (N := some 114) (v := ?_) (a' := ?_) (bA 32 131071) rfl rfl (by kernel_rfl) (fun _ _ _ h => h) (Or.inl ⟨by rfl, ?_⟩) ?_ ?_
      rotate_left
      ·intro w'
       go_simp
       with_reducible rfl
      rotate_left
      ·simp only [Act.put, zA, zB, zC, i64_w, i32_w]
       rfl
      refine pure_ (i := 17) (N := some 115) (v := ?_) (a' := ?_) (bA 32 262143) rfl rfl (by kernel_rfl) (fun _ _ _ h => h) (Or.inl ⟨by rfl, ?_⟩) ?_ ?_
      rotate_left
      ·intro w'
       go_simp
       with_reducible rfl
      rotate_left
      ·simp only [Act.put, zA, zB, zC, i64_w, i32_w]
       rfl
      refine pure_ (i := 18) (N := some 116) (v := ?_) (a' := ?_) (bA 32 524287) rfl rfl (by kernel_rfl) (fun _ _ _ h => h) (Or.inl ⟨by rfl, ?_⟩) ?_ ?_
      rotate_left
      ·intro w'
       go_simp
       with_reducible rfl
      rotate_left
      ·simp only [Act.put, zA, zB, zC, i64_w, i32_w]
       rfl
      refine pure_ (i := 19) (N := some 117) (v := undef) (a' := ?_) (bA 32 1048575) rfl rfl (by kernel_rfl) (fun _ _ _ h => h) (Or.inr ⟨by rfl, rfl⟩) ?_ ?_
      rotate_left
      ·simp only [Act.put, zA, zB, zC, i64_w, i32_w]
       rfl
      refine pure_ (i := 20) (N := some 118) (v := undef) (a' := ?_) (bA 32 2097151) rfl rfl (by kernel_rfl) (fun _ _ _ h => h) (Or.inr ⟨by rfl, rfl⟩) ?_ ?_
      rotate_left
      ·simp only [Act.put, zA, zB, zC, i64_w, i32_w]
       rfl
      refine pure_ (i := 21) (N := some 119) (v := undef) (a' := ?_) (bA 32 4194303) rfl rfl (by kernel_rfl) (fun _ _ _ h => h) (Or.inr ⟨by rfl, rfl⟩) ?_ ?_
      rotate_left
      ·simp only [Act.put, zA, zB, zC, i64_w, i32_w]
       rfl
      refine pure_ (i := 22) (N := some 120) (v := undef) (a' := ?_) (bA 32 8388607) rfl rfl (by kernel_rfl) (fun _ _ _ h => h) (Or.inr ⟨by rfl, rfl⟩) ?_ ?_
      rotate_left
      ·simp only [Act.put, zA, zB, zC, i64_w, i32_w]
       rfl
      refine pure_ (i := 23) (N := some 121) (v := undef) (a' := ?_) (bA 32 16777215) rfl rfl (by kernel_rfl) (fun _ _ _ h => h) (Or.inr ⟨by rfl, rfl⟩) ?_ ?_
      rotate_left
      ·simp only [Act.put, zA, zB, zC, i64_w, i32_w]
       rfl
      refine pure_ (i := 24) (N := some 122) (v := undef) (a' := ?_) (bA 32 33554431) rfl rfl (by kernel_rfl) (fun _ _ _ h => h) (Or.inr ⟨by rfl, rfl⟩) ?_ ?_
      rotate_left
      ·simp only [Act.put, zA, zB, zC, i64_w, i32_w]
       rfl
      refine pure_ (i := 25) (N := some 123) (v := undef) (a' := ?_) (bA 32 67108863) rfl rfl (by kernel_rfl) (fun _ _ _ h => h) (Or.inr ⟨by rfl, rfl⟩) ?_ ?_
      rotate_left
      ·simp only [Act.put, zA, zB, zC, i64_w, i32_w]
       rfl
      refine pure_ (i := 26) (N := some 124) (v := undef) (a' := ?_) (bA 32 134217727) rfl rfl (by kernel_rfl) (fun _ _ _ h => h) (Or.inr ⟨by rfl, rfl⟩) ?_ ?_
      rotate_left
      ·simp only [Act.put, zA, zB, zC, i64_w, i32_w]
       rfl
      refine pure_ (i := 27) (N := some 125) (v := undef) (a' := ?_) (bA 32 268435455) rfl rfl (by kernel_rfl) (fun _ _ _ h => h) (Or.inr ⟨by rfl, rfl⟩) ?_ ?_
      rotate_left
      ·simp only [Act.put, zA, zB, zC, i64_w, i32_w]
       rfl
      refine pure_ (i := 28) (N := some 126) (v := undef) (a' := ?_) (bA 32 536870911) rfl rfl (by kernel_rfl) (fun _ _ _ h => h) (Or.inr ⟨by rfl, rfl⟩) ?_ ?_
      rotate_left
      ·simp only [Act.put, zA, zB, zC, i64_w, i32_w]
       rfl
      refine pure_ (i := 29) (N := some 127) (v := ?_) (a' := ?_) (bA 32 1073741823) rfl rfl (by kernel_rfl) (fun _ _ _ h => h) (Or.inl ⟨by rfl, ?_⟩) ?_ ?_
      rotate_left
      ·intro w'
       go_simp
       with_reducible rfl
      rotate_left
      ·simp only [Act.put, zA, zB, zC, i64_w, i32_w]
       rfl
      refine pure_ (i := 30) (N := some 128) (v := ?_) (a' := ?_) (bA 32 2147483647) rfl rfl (by kernel_rfl) (fun _ _ _ h => h) (Or.inl ⟨by rfl, ?_⟩) ?_ ?_
      rotate_left
      ·intro w'
       go_simp
       with_reducible rfl
      rotate_left
      ·simp only [Act.put, zA, zB, zC, i64_w, i32_w]
       rfl
      refine pure_ (i := 31) (N := some 6) (v := ?_) (a' := ?_) (bA 32 4294967295) rfl rfl (by kernel_rfl) (fun _ _ _ h => h) (Or.inl ⟨by rfl, ?_⟩) ?_ ?_
      rotate_left
      ·intro w'
       go_simp
       with_reducible rfl
      rotate_left
      ·simp only [Act.put, zA, zB, zC, i64_w, i32_w]
       rfl
      refine done_ (by kernel_rfl) ?_
      (try go_wp2)
      go_ret
      exact ⟨rfl, below_step HB.out (bd1 (Below.refl _ _))⟩
     | some u =>
      obtain ⟨m2, pl, fl⟩ := u
      obtain ⟨hur, hut⟩ := getR_out hg
      have HGB := Asd.mk (get_R_some sx HSZ.out hg (some ⟨g7, 0, none⟩) bt3.length c7 (bt3.set m a2) WS HC8.out HSX.out.symm (HTB.out.below HB.out))
      obtain ⟨bo, hbo, hbs⟩ : ∃ bo : Bool, (a2 == bk) = bo /\ (bo = true <-> (m2, pl, fl) = (n0, pool, forks)) := by
       refine ⟨_, rfl, ?_⟩
       rw [beq_iff_eq, <- HSQ.out, <- HSX.out, <- hut]
       constructor
       ·intro e
        rw [HTR.out] at e
        exact textR_inj hur HR.out e
       ·intro e
        obtain ⟨e1, e2⟩ := Prod.mk.inj e
        obtain ⟨e3, e4⟩ := Prod.mk.inj e2
        rw [HTR.out, e1, e3, e4]
      have HUR := Asd.mk hur
      have HBS := Asd.mk hbs
      clear hg hur hut hbs
      go_upto_region 22 with (go_at_call 12; with_reducible refine HGB.out.mono ?_; rintro r W8 ⟨hb8, Au, cu, Av, cv, rfl, hpu, hcu, hfv, hcv⟩; replace HB := Asd.mk (below_step HB.out hb8); replace HBC := Asd.mk (below_step HBC.out hb8); replace HX := Asd.mk (below_box hb8 HX.out); have HPU := Asd.mk hpu; have HCU := Asd.mk hcu; have HFV := Asd.mk hfv; have HCV := Asd.mk hcv; clear hb8 hpu hcu hfv hcv)
      generalize hWF : World.alloc _ _ = WF
      have hbf : Below W8.heap.size W8 WF := by rw [<- hWF]; exact bal (Below.refl _ _) _
      have hxf : WF.heap[W8.heap.size]? = some (.cells #[.int .i64 m2, .slice Au pl.length cu, .slice Av fl.length cv] 25 (0, 0)) := by rw [<- hWF]; exact heap_alloc_new _ _
      have ku0 : WF.cell? ⟨W8.heap.size, 0, none⟩ = some (.int .i64 m2) := (box_cell hxf 0 rfl).1
      have ku1 : WF.cell? ⟨W8.heap.size, 1, none⟩ = some (.slice Au pl.length cu) := (box_cell hxf 1 rfl).1
      have ku2 : WF.cell? ⟨W8.heap.size, 2, none⟩ = some (.slice Av fl.length cv) := (box_cell hxf 2 rfl).1
      replace HB := Asd.mk (below_step HB.out hbf)
      replace HBC := Asd.mk (below_step HBC.out hbf)
      replace HX := Asd.mk (below_box hbf HX.out)
      have kl := HL1.out WF HBC.out
      have kb := HBK.out WF HBC.out
      have HSA := Asd.mk (fun (W' : World) (hb : Below WF.heap.size WF W') => same_calls (right_len HUR.out) bo HBS.out Au cu Av cv Ap cp Af cf W' (Kd.C_below HPU.out (below_step hbf hb)) HCU.out (Kd.C_below HFV.out (below_step hbf hb)) HCV.out (Kd.C_below HRP.out (below_step HB.out hb)) HCP.out (Kd.C_below HRF.out (below_step HB.out hb)) HCF.out)
      clear hWF hbf hxf HGB
      have ke0 : WF.cell? ⟨w.heap.size, 0, none⟩ = some (.int .i64 n0) := (box_cell HX.out 0 rfl).1
      have ke1 : WF.cell? ⟨w.heap.size, 1, none⟩ = some (.slice Ap pool.length cp) := (box_cell HX.out 1 rfl).1
      have ke2 : WF.cell? ⟨w.heap.size, 2, none⟩ = some (.slice Af forks.length cf) := (box_cell HX.out 2 rfl).1
      refine start_ (n := 32) (S := fun w' => w'.cell? (ad.add l1) = some (.int .u8 10) /\ w'.cell? ⟨w.heap.size, 0, none⟩ = some (.int .i64 n0) /\ w'.cell? ⟨w.heap.size, 1, none⟩ = some (.slice Ap pool.length cp) /\ w'.cell? ⟨w.heap.size, 2, none⟩ = some (.slice Af forks.length cf) /\ w'.cell? ⟨W8.heap.size, 0, none⟩ = some (.int .i64 m2) /\ w'.cell? ⟨W8.heap.size, 1, none⟩ = some (.slice Au pl.length cu) /\ w'.cell? ⟨W8.heap.size, 2, none⟩ = some (.slice Av fl.length cv) /\ w'.cell? (ad.add m) = some (.int .u8 bk)) (ds := []) (bA 32 0) (by kernel_rfl) rfl rfl ⟨(cell_below kl (bd1 (Below.refl _ _))), (cell_below ke0 (bd1 (Below.refl _ _))), (cell_below ke1 (bd1 (Below.refl _ _))), (cell_below ke2 (bd1 (Below.refl _ _))), (cell_below ku0 (bd1 (Below.refl _ _))), (cell_below ku1 (bd1 (Below.refl _ _))), (cell_below ku2 (bd1 (Below.refl _ _))), (cell_below kb (bd1 (Below.refl _ _)))⟩ (fun hHeld => ?_)
      refine pure_ (i := 0) (N := some 98) (v := ?_) (a' := ?_) (bA 32 1) rfl rfl (by kernel_rfl) (fun _ _ _ h => h) (Or.inl ⟨by rfl, ?_⟩) ?_ ?_
      rotate_left
      ·intro w'
       go_simp
       with_reducible rfl
      rotate_left
      ·simp only [Act.put, zA, zB, zC, i64_w, i32_w]
       rfl
      refine pure_ (i := 1) (N := some 99) (v := ?_) (a' := ?_) (bA 32 3) rfl rfl (by kernel_rfl) (fun _ _ _ h => h) (Or.inl ⟨by rfl, ?_⟩) ?_ ?_
      rotate_left
      ·intro w'
       go_simp
       with_reducible rfl
      rotate_left
      ·simp only [Act.put, zA, zB, zC, i64_w, i32_w]
       rfl
      refine pure_ (i := 2) (N := some 100) (v := ?_) (a' := ?_) (bA 32 7) rfl rfl (by kernel_rfl) (fun _ _ _ h => h) (Or.inl ⟨by rfl, ?_⟩) ?_ ?_
      rotate_left
      ·intro w'
       go_simp
       with_reducible rfl
      rotate_left
      ·simp only [Act.put, zA, zB, zC, i64_w, i32_w]
       rfl
      refine pure_ (i := 3) (N := some 101) (v := ?_) (a' := ?_) (bA 32 15) rfl rfl (by kernel_rfl) (fun _ _ _ h => h) (Or.inl ⟨by rfl, ?_⟩) ?_ ?_
      rotate_left
      ·intro w'
       go_simp
       with_reducible rfl
      rotate_left
      ·simp only [Act.put, zA, zB, zC, i64_w, i32_w]
       rfl
      refine pure_ (i := 4) (N := some 102) (v := ?_) (a' := ?_) (bA 32 31) rfl rfl (by kernel_rfl) (fun _ _ _ h => h) (Or.inl ⟨by rfl, ?_⟩) ?_ ?_
      rotate_left
      ·intro w'
       go_simp
       with_reducible rfl
      rotate_left
      ·simp only [Act.put, zA, zB, zC, i64_w, i32_w]
       rfl
      refine pure_ (i := 5) (N := some 103) (v := ?_) (a' := ?_) (bA 32 63) rfl rfl (by kernel_rfl) (fun _ _ _ h => h) (Or.inl ⟨by rfl, ?_⟩) ?_ ?_
      rotate_left
      ·intro w'
       go_simp
       with_reducible rfl
      rotate_left
      ·simp only [Act.put, zA, zB, zC, i64_w, i32_w]
       rfl
      refine pure_ (i := 6) (N := some 104) (v := ?_) (a' := ?_) (bA 32 127) rfl rfl (by kernel_rfl) (fun _ _ _ h => h) (Or.inl ⟨by rfl, ?_⟩) ?_ ?_
      rotate_left
      ·intro w'
       go_simp
       with_reducible rfl
      rotate_left
      ·simp only [Act.put, zA, zB, zC, i64_w, i32_w]
       rfl
      refine pure_ (i := 7) (N := some 105) (v := ?_) (a' := ?_) (bA 32 255) rfl rfl (by kernel_rfl) (fun _ _ _ h => h) (Or.inl ⟨by rfl, ?_⟩) ?_ ?_
      rotate_left
      ·intro w'
       go_simp
       with_reducible rfl
      rotate_left
      ·simp only [Act.put, zA, zB, zC, i64_w, i32_w]
       rfl
      refine pure_ (i := 8) (N := some 106) (v := ?_) (a' := ?_) (bA 32 511) rfl rfl (by kernel_rfl) (fun _ _ _ h => h) (Or.inl ⟨by rfl, ?_⟩) ?_ ?_
      rotate_left
      ·intro w'
       go_simp
       with_reducible rfl
      rotate_left
      ·simp only [Act.put, zA, zB, zC, i64_w, i32_w]
       rfl
      refine pure_ (i := 9) (N := some 107) (v := ?_) (a' := ?_) (bA 32 1023) rfl rfl (by kernel_rfl) (fun _ _ _ h => h) (Or.inl ⟨by rfl, ?_⟩) ?_ ?_
      rotate_left
      ·intro w'
       go_simp
       with_reducible rfl
      rotate_left
      ·simp only [Act.put, zA, zB, zC, i64_w, i32_w]
       rfl
      refine pure_ (i := 10) (N := some 108) (v := ?_) (a' := ?_) (bA 32 2047) rfl rfl (by kernel_rfl) (fun _ _ _ h => h) (Or.inl ⟨by rfl, ?_⟩) ?_ ?_
      rotate_left
      ·intro w'
       go_simp
       with_reducible rfl
      rotate_left
      ·simp only [Act.put, zA, zB, zC, i64_w, i32_w]
       rfl
      refine pure_ (i := 11) (N := some 109) (v := ?_) (a' := ?_) (bA 32 4095) rfl rfl (by kernel_rfl) (fun _ _ _ h => h) (Or.inl ⟨by rfl, ?_⟩) ?_ ?_
      rotate_left
      ·intro w'
       go_simp
       with_reducible rfl
      rotate_left
      ·simp only [Act.put, zA, zB, zC, i64_w, i32_w]
       rfl
      refine take_ (i := 12) (N := some 110) (v := ?_) (a' := ?_) (bA 32 8191) rfl rfl (by kernel_rfl) (fun _ _ _ h => h) (Or.inl ⟨by rfl, ?_⟩) hHeld ?_ ?_
      rotate_left
      ·rintro w' ⟨s0, s1, s2, s3, s4, s5, s6, s7⟩
       go_simp
       with_reducible rfl
      rotate_left
      ·simp only [Act.put, zA, zB, zC, i64_w, i32_w]
       rfl
      refine pure_ (i := 13) (N := some 111) (v := ?_) (a' := ?_) (bA 32 16383) rfl rfl (by kernel_rfl) (fun _ _ _ h => h) (Or.inl ⟨by rfl, ?_⟩) ?_ ?_
      rotate_left
      ·intro w'
       go_simp
       with_reducible rfl
      rotate_left
      ·simp only [Act.put, zA, zB, zC, i64_w, i32_w]
       rfl
      refine pure_ (i := 14) (N := some 112) (v := ?_) (a' := ?_) (bA 32 32767) rfl rfl (by kernel_rfl) (fun _ _ _ h => h) (Or.inl ⟨by rfl, ?_⟩) ?_ ?_
      rotate_left
      ·intro w'
       go_simp
       with_reducible rfl
      rotate_left
      ·simp only [Act.put, zA, zB, zC, i64_w, i32_w]
       rfl
      refine pure_ (i := 15) (N := some 113) (v := ?_) (a' := ?_) (bA 32 65535) rfl rfl (by kernel_rfl) (fun _ _ _ h => h) (Or.inl ⟨by rfl, ?_⟩) ?_ ?_
      rotate_left
      ·intro w'
       go_simp
       with_reducible rfl
      rotate_left
      ·simp only [Act.put, zA, zB, zC, i64_w, i32_w]
       rfl
      refine pure_ (i := 16) (N := some 114) (v := ?_) (a' := ?_) (bA 32 131071) rfl rfl (by kernel_rfl) (fun _ _ _ h => h) (Or.inl ⟨by rfl, ?_⟩) ?_ ?_
      rotate_left
      ·intro w'
       go_simp
       with_reducible rfl
      rotate_left
      ·simp only [Act.put, zA, zB, zC, i64_w, i32_w]
       rfl
      refine pure_ (i := 17) (N := some 115) (v := ?_) (a' := ?_) (bA 32 262143) rfl rfl (by kernel_rfl) (fun _ _ _ h => h) (Or.inl ⟨by rfl, ?_⟩) ?_ ?_
      rotate_left
      ·intro w'
       go_simp
       with_reducible rfl
      rotate_left
      ·simp only [Act.put, zA, zB, zC, i64_w, i32_w]
       rfl
      refine pure_ (i := 18) (N := some 116) (v := ?_) (a' := ?_) (bA 32 524287) rfl rfl (by kernel_rfl) (fun _ _ _ h => h) (Or.inl ⟨by rfl, ?_⟩) ?_ ?_
      rotate_left
      ·intro w'
       go_simp
       with_reducible rfl
      rotate_left
      ·simp only [Act.put, zA, zB, zC, i64_w, i32_w]
       rfl
      refine pure_ (i := 22) (N := some 120) (v := ?_) (a' := ?_) (bA 32 4718591) rfl rfl (by kernel_rfl) (fun _ _ _ h => h) (Or.inl ⟨by rfl, ?_⟩) ?_ ?_
      rotate_left
      ·intro w'
       go_simp
       with_reducible rfl
      rotate_left
      ·simp only [Act.put, zA, zB, zC, i64_w, i32_w]
       rfl
      refine pure_ (i := 23) (N := some 121) (v := ?_) (a' := ?_) (bA 32 13107199) rfl rfl (by kernel_rfl) (fun _ _ _ h => h) (Or.inl ⟨by rfl, ?_⟩) ?_ ?_
      rotate_left
      ·intro w'
       go_simp
       with_reducible rfl
      rotate_left
      ·simp only [Act.put, zA, zB, zC, i64_w, i32_w]
       rfl
      refine pure_ (i := 24) (N := some 122) (v := ?_) (a' := ?_) (bA 32 29884415) rfl rfl (by kernel_rfl) (fun _ _ _ h => h) (Or.inl ⟨by rfl, ?_⟩) ?_ ?_
      rotate_left
      ·intro w'
       go_simp
       with_reducible rfl
      rotate_left
      ·simp only [Act.put, zA, zB, zC, i64_w, i32_w]
       rfl
      refine pure_ (i := 25) (N := some 123) (v := ?_) (a' := ?_) (bA 32 63438847) rfl rfl (by kernel_rfl) (fun _ _ _ h => h) (Or.inl ⟨by rfl, ?_⟩) ?_ ?_
      rotate_left
      ·intro w'
       go_simp
       with_reducible rfl
      rotate_left
      ·simp only [Act.put, zA, zB, zC, i64_w, i32_w]
       rfl
      refine take_ (i := 19) (N := some 117) (v := ?_) (a' := ?_) (bA 32 63963135) rfl rfl (by kernel_rfl) (fun _ _ _ h => h) (Or.inl ⟨by rfl, ?_⟩) hHeld ?_ ?_
      rotate_left
      ·rintro w' ⟨s0, s1, s2, s3, s4, s5, s6, s7⟩
       go_simp
       with_reducible rfl
      rotate_left
      ·simp only [Act.put, zA, zB, zC, i64_w, i32_w]
       rfl
      refine take_ (i := 20) (N := some 118) (v := ?_) (a' := ?_) (bA 32 65011711) rfl rfl (by kernel_rfl) (fun _ _ _ h => h) (Or.inl ⟨by rfl, ?_⟩) hHeld ?_ ?_
      rotate_left
      ·rintro w' ⟨s0, s1, s2, s3, s4, s5, s6, s7⟩
       go_simp
       with_reducible rfl
      rotate_left
      ·simp only [Act.put, zA, zB, zC, i64_w, i32_w]
       rfl
      refine take_ (i := 26) (N := some 124) (v := ?_) (a' := ?_) (bA 32 132120575) rfl rfl (by kernel_rfl) (fun _ _ _ h => h) (Or.inl ⟨by rfl, ?_⟩) hHeld ?_ ?_
      rotate_left
      ·rintro w' ⟨s0, s1, s2, s3, s4, s5, s6, s7⟩
       go_simp
       with_reducible rfl
      rotate_left
      ·simp only [Act.put, zA, zB, zC, i64_w, i32_w]
       rfl
      refine pure_ (i := 27) (N := some 125) (v := ?_) (a' := ?_) (bA 32 266338303) rfl rfl (by kernel_rfl) (fun _ _ _ h => h) (Or.inl ⟨by rfl, ?_⟩) ?_ ?_
      rotate_left
      ·intro w'
       go_simp
       with_reducible rfl
      rotate_left
      ·simp only [Act.put, zA, zB, zC, i64_w, i32_w]
       rfl
      refine one_ (i := 21) (N := some 119) (bA 32 268435455) rfl rfl (by kernel_rfl) (by decide) (fun K hK => ?_)
      refine goes_ Tryd.func13 (by kernel_rfl) rfl #[.agg #[.int .i64 m2, .slice Au pl.length cu, .slice Av fl.length cv], .agg #[.int .i64 n0, .slice Ap pool.length cp, .slice Af forks.length cf]] (by rfl) rfl rfl (by simp only [List.map_toArray, List.map_cons, List.map_nil]; rfl) ?_
      with_reducible refine (HSA.out _ (bd1 (Below.refl _ _))).mono ?_
      rintro e we ⟨rfl, hbe⟩
      refine ⟨_, rfl, ?_⟩
      have HBE := Asd.mk (below_step (bd1 (Below.refl WF.heap.size WF)) hbe)
      refine hK.out _ _ ⟨(cell_below kl HBE.out), (cell_below ke0 HBE.out), (cell_below ke1 HBE.out), (cell_below ke2 HBE.out), (cell_below ku0 HBE.out), (cell_below ku1 HBE.out), (cell_below ku2 HBE.out), (cell_below kb HBE.out)⟩ (fun hHeld => ?_)
      clear hK K
      refine norm_ (a' := ?_) ?_ ?_
      rotate_left
      ·show Act.put _ (some 119) _ = _
       simp only [Act.put, zA, zB, zC, i64_w, i32_w]
       rfl
      refine pure_ (i := 28) (N := some 126) (v := ?_) (a' := ?_) (bA 32 536870911) rfl rfl (by kernel_rfl) (fun _ _ _ h => h) (Or.inl ⟨by rfl, ?_⟩) ?_ ?_
      rotate_left
      ·intro w'
       go_simp
       with_reducible rfl
      rotate_left
      ·simp only [Act.put, zA, zB, zC, i64_w, i32_w]
       rfl
      refine pure_ (i := 29) (N := some 127) (v := ?_) (a' := ?_) (bA 32 1073741823) rfl rfl (by kernel_rfl) (fun _ _ _ h => h) (Or.inl ⟨by rfl, ?_⟩) ?_ ?_
      rotate_left
      ·intro w'
       go_simp
       with_reducible rfl
      rotate_left
      ·simp only [Act.put, zA, zB, zC, i64_w, i32_w]
       rfl
      refine pure_ (i := 30) (N := some 128) (v := ?_) (a' := ?_) (bA 32 2147483647) rfl rfl (by kernel_rfl) (fun _ _ _ h => h) (Or.inl ⟨by rfl, ?_⟩) ?_ ?_
      rotate_left
      ·intro w'
       go_simp
       with_reducible rfl
      rotate_left
      ·simp only [Act.put, zA, zB, zC, i64_w, i32_w]
       rfl
      refine pure_ (i := 31) (N := some 6) (v := ?_) (a' := ?_) (bA 32 4294967295) rfl rfl (by kernel_rfl) (fun _ _ _ h => h) (Or.inl ⟨by rfl, ?_⟩) ?_ ?_
      rotate_left
      ·intro w'
       go_simp
       with_reducible rfl
      rotate_left
      ·simp only [Act.put, zA, zB, zC, i64_w, i32_w]
       rfl
      refine done_ (by kernel_rfl) ?_
      (try go_wp2)
      go_ret
      exact ⟨rfl, below_step HB.out HBE.out⟩
end Go.Proofs.YtlfenakgphmepaaDoor.Root
