/- The calls of RootCut answer true, whatever they are handed. -/
import Derived.Test.YtlfenakgphmepaaDoorRootBackC
namespace Go.Proofs.YtlfenakgphmepaaDoor.Root
open Go.RowKit Go.Proofs.YtlfenakgphmepaaDoorW.PrintWords Go.Proofs.YtlfenakgphmepaaDoorW.PrintLast Go.Proofs.YtlfenakgphmepaaDoorW.PrintMore Go.Proofs.YtlfenakgphmepaaDoor.Conv Go.Proofs.YtlfenakgphmepaaDoor.Print Go.Proofs.YtlfenakgphmepaaDoor.Build
set_option linter.unusedVariables false
set_option linter.unusedSimpArgs false
theorem str_app (a b : List Int) : strOfNums (a ++ b) = strOfNums a ++ strOfNums b := by
 refine ba_ext ?_
 rw [ByteArray.data_append, Array.toList_append]
 simp [strOfNums]
theorem textR_pos {n : Int} {pool : List ByteArray} {forks : List Fk} (h : rootF n pool forks = true) : 0 < (textR n pool forks).size := by
 rw [textR_lines h, joinA_size]
 unfold rootLs
 rw [sizeT_cons]
 omega
theorem bytesOf_len (s : ByteArray) : (bytesOf s).length = s.size := by rw [<- str_size, strOf_bytesOf]
theorem u8_wf {x : Int} (h : (Lit.int .u8 x).wf = true) : 0 <= x /\ x <= 255 := by
 simp [Lit.wf, IntKind.min, IntKind.max, IntKind.signed, IntKind.bits] at h
 exact ⟨by omega, by omega⟩
theorem u16_wf {x : Int} (h : (Lit.int .u16 x).wf = true) : 0 <= x /\ x <= 65535 := by
 simp [Lit.wf, IntKind.min, IntKind.max, IntKind.signed, IntKind.bits] at h
 exact ⟨by omega, by omega⟩
theorem R_u8 {h1 : ∀ x : Int, (Value.int .u8 x).oneCell' = true} {e : Nat} {W : World} {b : Nat} {ok : Nat -> Prop} {v : Value} {xs : List Int} (h : Kd.R (Kd.scalar (Value.int .u8) h1) e W b ok v xs) : Kd.R (Kd.int .u8) e W b ok v xs := h
theorem info_u8 : (Tryd.prog.info? 5).map (fun i => (i.zero, i.size, i.bytes)) = some (some (.int .u8 0), 1, 1) := by kernel_rfl
theorem C_one (W : World) (c : Int) (t : TypeId) : Kd.C (Kd.int .u8) (W.alloc (.cells #[.int .u8 c] t)) (some ⟨W.heap.size, 0, none⟩) 1 [c] :=
 Kd.C_of_reads (enc := Value.int .u8) (d := (0 : Int)) (h1 := fun _ => rfl) ⟨rfl, by decide, fun _ => ⟨_, rfl, fun j hj => by
  rw [add_plain, cell_of_row _ _ j _ t _ (heap_alloc_new W _)]
  have : j = 0 := by have := hj; simp at this; omega
  subst this
  rfl⟩⟩
set_option maxRecDepth 100000 in
set_option maxHeartbeats 16000000 in
theorem RootCut_core {w : World} (htab : Lib.TabIs Tryd.prog w "internal/strconv.uint64pow10" .u64 Lib.pow10Tab)
  (n0 : Int) (Ap : Option Addr) (cp : Nat) (pool : List ByteArray) (hrp : Kd.C Kd.string w Ap pool.length pool) (hcp : pool.length <= cp) (Af : Option Addr) (cf : Nat) (forks : List Fk) (hrf : Kd.C k40 w Af forks.length forks) (hcf : forks.length <= cf) (hok : okRoot (n0, pool, forks))
  (n1 : Int) (Bp : Option Addr) (dp : Nat) (pool2 : List ByteArray) (hsp : Kd.C Kd.string w Bp pool2.length pool2) (hdp : pool2.length <= dp) (Bf : Option Addr) (df : Nat) (forks2 : List Fk) (hsf : Kd.C k40 w Bf forks2.length forks2) (hdf : forks2.length <= df) (hok2 : okRoot (n1, pool2, forks2))
  (a2 : Int) (w2 : (Lit.int .u16 a2).wf = true) (a3 : Int) (w3 : (Lit.int .u8 a3).wf = true) :
  Calls Tryd.prog 4 #[.agg #[.int .i64 n0, .slice Ap pool.length cp, .slice Af forks.length cf], .agg #[.int .i64 n1, .slice Bp pool2.length dp, .slice Bf forks2.length df], .int .u16 a2, .int .u8 a3] w fun e w' => e = .returned (.bool true) /\ Below w.heap.size w w' := by
 obtain ⟨kg, g, hgr, hsm⟩ := great_eq hok
 obtain ⟨kh, h, hgs, hsn⟩ := great_eq hok2
 have HZ2 := Asd.mk (u16_wf w2)
 have HZ3 := Asd.mk (u8_wf w3)
 have HTB := Asd.mk (show Tb w from Lib.tabBelow_of_tabIs htab)
 have HG0 := Asd.mk hgr
 have HG1 := Asd.mk hgs
 have HSM := Asd.mk hsm
 have HSN := Asd.mk hsn
 have HRP := Asd.mk hrp
 have HRF := Asd.mk hrf
 have HCP := Asd.mk hcp
 have HCF := Asd.mk hcf
 have HSP := Asd.mk hsp
 have HSF := Asd.mk hsf
 have HDP := Asd.mk hdp
 have HDF := Asd.mk hdf
 have HB0 := Asd.mk (bal (bal (Below.refl w.heap.size w) (.cells #[.int .i64 n0, .slice Ap pool.length cp, .slice Af forks.length cf] 25)) (.cells #[.int .i64 n1, .slice Bp pool2.length dp, .slice Bf forks2.length df] 25))
 have HX0 := Asd.mk (below_box (bal (Below.refl _ _) (.cells #[.int .i64 n1, .slice Bp pool2.length dp, .slice Bf forks2.length df] 25)) (heap_alloc_new w (.cells #[.int .i64 n0, .slice Ap pool.length cp, .slice Af forks.length cf] 25)))
 have hy0 := heap_alloc_new (w.alloc (.cells #[.int .i64 n0, .slice Ap pool.length cp, .slice Af forks.length cf] 25)) (.cells #[.int .i64 n1, .slice Bp pool2.length dp, .slice Bf forks2.length df] 25)
 rw [sz_alloc] at hy0
 have HY0 := Asd.mk hy0
 clear htab hrp hcp hrf hcf hok hgr hsm hsp hdp hsf hdf hok2 hgs hsn w2 w3 hy0
 go_enter Tryd.func4, Tryd.ntmps4
 go_upto_region 2 with (go_at_call 8; with_reducible refine (head_calls (HTB.out.below HB0.out)).mono ?_; rintro e W1 ⟨rfl, hb⟩; have HX := Asd.mk (below_box hb HX0.out); have HY := Asd.mk (below_box hb HY0.out); have HB := Asd.mk (below_step HB0.out hb); clear hb HB0 HX0 HY0)
 have kr0 : W1.cell? ⟨w.heap.size, 0, none⟩ = some (.int .i64 n0) := (box_cell HX.out 0 rfl).1
 have kr1 : W1.cell? ⟨w.heap.size, 1, none⟩ = some (.slice Ap pool.length cp) := (box_cell HX.out 1 rfl).1
 have kr2 : W1.cell? ⟨w.heap.size, 2, none⟩ = some (.slice Af forks.length cf) := (box_cell HX.out 2 rfl).1
 have krs0 : W1.cell? ⟨w.heap.size + 1, 0, none⟩ = some (.int .i64 n1) := (box_cell HY.out 0 rfl).1
 have krs1 : W1.cell? ⟨w.heap.size + 1, 1, none⟩ = some (.slice Bp pool2.length dp) := (box_cell HY.out 1 rfl).1
 have krs2 : W1.cell? ⟨w.heap.size + 1, 2, none⟩ = some (.slice Bf forks2.length df) := (box_cell HY.out 2 rfl).1
 cases g with
 | true =>
  go_wp2_with (go_at_call 9; with_reducible refine (sacristylaw10_Great.calls kg n0 Ap cp pool Af cf forks true _ (Kd.C_below HRP.out HB.out) HCP.out (Kd.C_below HRF.out HB.out) HCF.out HG0.out).mono ?_; rintro e W20 ⟨rfl, hb⟩; replace HB := Asd.mk (below_step HB.out hb); replace HX := Asd.mk (below_box hb HX.out); replace HY := Asd.mk (below_box hb HY.out); have k00 : W20.cell? ⟨w.heap.size, 0, none⟩ = some (.int .i64 n0) := (box_cell HX.out 0 rfl).1; have k01 : W20.cell? ⟨w.heap.size, 1, none⟩ = some (.slice Ap pool.length cp) := (box_cell HX.out 1 rfl).1; have k02 : W20.cell? ⟨w.heap.size, 2, none⟩ = some (.slice Af forks.length cf) := (box_cell HX.out 2 rfl).1; have k0s0 : W20.cell? ⟨w.heap.size + 1, 0, none⟩ = some (.int .i64 n1) := (box_cell HY.out 0 rfl).1; have k0s1 : W20.cell? ⟨w.heap.size + 1, 1, none⟩ = some (.slice Bp pool2.length dp) := (box_cell HY.out 1 rfl).1; have k0s2 : W20.cell? ⟨w.heap.size + 1, 2, none⟩ = some (.slice Bf forks2.length df) := (box_cell HY.out 2 rfl).1; clear hb)
  go_ret
  exact ⟨rfl, HB.out⟩
 | false =>
 cases h with
 | true =>
  go_wp2_with (first
   | (go_at_call 9; with_reducible refine (sacristylaw10_Great.calls kg n0 Ap cp pool Af cf forks false _ (Kd.C_below HRP.out HB.out) HCP.out (Kd.C_below HRF.out HB.out) HCF.out HG0.out).mono ?_; rintro e W20 ⟨rfl, hb⟩; replace HB := Asd.mk (below_step HB.out hb); replace HX := Asd.mk (below_box hb HX.out); replace HY := Asd.mk (below_box hb HY.out); have k00 : W20.cell? ⟨w.heap.size, 0, none⟩ = some (.int .i64 n0) := (box_cell HX.out 0 rfl).1; have k01 : W20.cell? ⟨w.heap.size, 1, none⟩ = some (.slice Ap pool.length cp) := (box_cell HX.out 1 rfl).1; have k02 : W20.cell? ⟨w.heap.size, 2, none⟩ = some (.slice Af forks.length cf) := (box_cell HX.out 2 rfl).1; have k0s0 : W20.cell? ⟨w.heap.size + 1, 0, none⟩ = some (.int .i64 n1) := (box_cell HY.out 0 rfl).1; have k0s1 : W20.cell? ⟨w.heap.size + 1, 1, none⟩ = some (.slice Bp pool2.length dp) := (box_cell HY.out 1 rfl).1; have k0s2 : W20.cell? ⟨w.heap.size + 1, 2, none⟩ = some (.slice Bf forks2.length df) := (box_cell HY.out 2 rfl).1; clear hb)
   | (go_at_call 9; with_reducible refine (sacristylaw10_Great.calls kh n1 Bp dp pool2 Bf df forks2 true _ (Kd.C_below HSP.out HB.out) HDP.out (Kd.C_below HSF.out HB.out) HDF.out HG1.out).mono ?_; rintro e W21 ⟨rfl, hb⟩; replace HB := Asd.mk (below_step HB.out hb); replace HX := Asd.mk (below_box hb HX.out); replace HY := Asd.mk (below_box hb HY.out); have k10 : W21.cell? ⟨w.heap.size, 0, none⟩ = some (.int .i64 n0) := (box_cell HX.out 0 rfl).1; have k11 : W21.cell? ⟨w.heap.size, 1, none⟩ = some (.slice Ap pool.length cp) := (box_cell HX.out 1 rfl).1; have k12 : W21.cell? ⟨w.heap.size, 2, none⟩ = some (.slice Af forks.length cf) := (box_cell HX.out 2 rfl).1; have k1s0 : W21.cell? ⟨w.heap.size + 1, 0, none⟩ = some (.int .i64 n1) := (box_cell HY.out 0 rfl).1; have k1s1 : W21.cell? ⟨w.heap.size + 1, 1, none⟩ = some (.slice Bp pool2.length dp) := (box_cell HY.out 1 rfl).1; have k1s2 : W21.cell? ⟨w.heap.size + 1, 2, none⟩ = some (.slice Bf forks2.length df) := (box_cell HY.out 2 rfl).1; clear hb))
  go_ret
  exact ⟨rfl, HB.out⟩
 | false =>
 have HS := Asd.mk (HSM.out rfl)
 have HS2 := Asd.mk (HSN.out rfl)
 clear HSM HSN
 go_upto_region 4 with (first
  | (go_at_call 9; with_reducible refine (sacristylaw10_Great.calls kg n0 Ap cp pool Af cf forks false _ (Kd.C_below HRP.out HB.out) HCP.out (Kd.C_below HRF.out HB.out) HCF.out HG0.out).mono ?_; rintro e W20 ⟨rfl, hb⟩; replace HB := Asd.mk (below_step HB.out hb); replace HX := Asd.mk (below_box hb HX.out); replace HY := Asd.mk (below_box hb HY.out); have k00 : W20.cell? ⟨w.heap.size, 0, none⟩ = some (.int .i64 n0) := (box_cell HX.out 0 rfl).1; have k01 : W20.cell? ⟨w.heap.size, 1, none⟩ = some (.slice Ap pool.length cp) := (box_cell HX.out 1 rfl).1; have k02 : W20.cell? ⟨w.heap.size, 2, none⟩ = some (.slice Af forks.length cf) := (box_cell HX.out 2 rfl).1; have k0s0 : W20.cell? ⟨w.heap.size + 1, 0, none⟩ = some (.int .i64 n1) := (box_cell HY.out 0 rfl).1; have k0s1 : W20.cell? ⟨w.heap.size + 1, 1, none⟩ = some (.slice Bp pool2.length dp) := (box_cell HY.out 1 rfl).1; have k0s2 : W20.cell? ⟨w.heap.size + 1, 2, none⟩ = some (.slice Bf forks2.length df) := (box_cell HY.out 2 rfl).1; clear hb)
  | (go_at_call 9; with_reducible refine (sacristylaw10_Great.calls kh n1 Bp dp pool2 Bf df forks2 false _ (Kd.C_below HSP.out HB.out) HDP.out (Kd.C_below HSF.out HB.out) HDF.out HG1.out).mono ?_; rintro e W21 ⟨rfl, hb⟩; replace HB := Asd.mk (below_step HB.out hb); replace HX := Asd.mk (below_box hb HX.out); replace HY := Asd.mk (below_box hb HY.out); have k10 : W21.cell? ⟨w.heap.size, 0, none⟩ = some (.int .i64 n0) := (box_cell HX.out 0 rfl).1; have k11 : W21.cell? ⟨w.heap.size, 1, none⟩ = some (.slice Ap pool.length cp) := (box_cell HX.out 1 rfl).1; have k12 : W21.cell? ⟨w.heap.size, 2, none⟩ = some (.slice Af forks.length cf) := (box_cell HX.out 2 rfl).1; have k1s0 : W21.cell? ⟨w.heap.size + 1, 0, none⟩ = some (.int .i64 n1) := (box_cell HY.out 0 rfl).1; have k1s1 : W21.cell? ⟨w.heap.size + 1, 1, none⟩ = some (.slice Bp pool2.length dp) := (box_cell HY.out 1 rfl).1; have k1s2 : W21.cell? ⟨w.heap.size + 1, 2, none⟩ = some (.slice Bf forks2.length df) := (box_cell HY.out 2 rfl).1; clear hb))
 clear HG0 HG1 kr0 kr1 kr2 krs0 krs1 krs2 k00 k01 k02 k0s0 k0s1 k0s2
 have HPS : Asd (∃ ts : ByteArray, (rootF n1 pool2 forks2 = true -> ts = textR n1 pool2 forks2) /\ ∀ W', Below w.heap.size w W' -> Calls Tryd.prog 10 #[.agg #[.int .i64 n1, .slice Bp pool2.length dp, .slice Bf forks2.length df]] W' fun e w' => ∃ A c bt, e = .returned (.tuple #[.slice A bt.length c, .bool (rootF n1 pool2 forks2)]) /\ (rootF n1 pool2 forks2 = true -> strOfNums bt = ts /\ Kd.F (Kd.int .u8) w' (fun k_ => W'.heap.size <= k_) A bt.length bt) /\ Below W'.heap.size W' w') := ⟨by
  cases hR2 : rootF n1 pool2 forks2 with
  | false =>
   exact ⟨⟨#[]⟩, (fun e => Bool.noConfusion e), fun W' hb => (put_R_no HS2.out.sm hR2 Bp dp Bf df W' (Kd.C_below HSP.out hb) HDP.out (Kd.C_below HSF.out hb) HDF.out).mono fun e w' he => ⟨none, 0, [], he.1, fun e => Bool.noConfusion e, he.2⟩⟩
  | true =>
   refine ⟨textR n1 pool2 forks2, fun _ => rfl, fun W' hb => (put_R HS2.out.sm hR2 Bp dp Bf df W' (Kd.C_below HSP.out hb) HDP.out (Kd.C_below HSF.out hb) HDF.out (HTB.out.below hb)).mono ?_⟩
   rintro e w' ⟨v, rfl, ⟨A, c, rfl, hl, hF⟩, hb2⟩
   exact ⟨A, c, _, rfl, fun _ => ⟨strOf_bytesOf _, hF⟩, hb2⟩⟩
 obtain ⟨ts, hts, hps⟩ := HPS.out
 have HTS := Asd.mk hts
 have HPC := Asd.mk hps
 clear hts hps HPS
 cases hR : rootF n0 pool forks with
 | false =>
  have HPN := Asd.mk (put_R_no HS.out.sm hR Ap cp Af cf W21 (Kd.C_below HRP.out HB.out) HCP.out (Kd.C_below HRF.out HB.out) HCF.out)
  clear hR
  go_wp2_with (first
   | (go_at_call 10; with_reducible refine HPN.out.mono ?_; rintro e W3 ⟨rfl, hb⟩; replace HB := Asd.mk (below_step HB.out hb); replace HX := Asd.mk (below_box hb HX.out); replace HY := Asd.mk (below_box hb HY.out); have kts0 : W3.cell? ⟨w.heap.size + 1, 0, none⟩ = some (.int .i64 n1) := (box_cell HY.out 0 rfl).1; have kts1 : W3.cell? ⟨w.heap.size + 1, 1, none⟩ = some (.slice Bp pool2.length dp) := (box_cell HY.out 1 rfl).1; have kts2 : W3.cell? ⟨w.heap.size + 1, 2, none⟩ = some (.slice Bf forks2.length df) := (box_cell HY.out 2 rfl).1; clear hb)
   | (go_at_call 10; with_reducible refine (HPC.out _ HB.out).mono ?_; rintro e W4 ⟨A4, c4, bt4, rfl, _, hb⟩; replace HB := Asd.mk (below_step HB.out hb); clear hb))
  go_ret
  exact ⟨rfl, HB.out⟩
 | true =>
 have HPT := Asd.mk (put_R HS.out.sm hR Ap cp Af cf W21 (Kd.C_below HRP.out HB.out) HCP.out (Kd.C_below HRF.out HB.out) HCF.out (HTB.out.below HB.out))
 have HR := Asd.mk hR
 clear hR
 go_upto_region 5 with (go_at_call 10; refine HPT.out.mono ?_; rintro e W3 ⟨v3, rfl, ⟨A3, c3, rfl, hl3, hF3⟩, hb⟩; have HF3 := Asd.mk hF3; have HL3 := Asd.mk hl3; replace HB := Asd.mk (below_step HB.out hb); replace HX := Asd.mk (below_box hb HX.out); replace HY := Asd.mk (below_box hb HY.out); have kts0 : W3.cell? ⟨w.heap.size + 1, 0, none⟩ = some (.int .i64 n1) := (box_cell HY.out 0 rfl).1; have kts1 : W3.cell? ⟨w.heap.size + 1, 1, none⟩ = some (.slice Bp pool2.length dp) := (box_cell HY.out 1 rfl).1; have kts2 : W3.cell? ⟨w.heap.size + 1, 2, none⟩ = some (.slice Bf forks2.length df) := (box_cell HY.out 2 rfl).1; clear hb hl3 hF3)
 clear HPT k10 k11 k12 k1s0 k1s1 k1s2
 generalize hbt : bytesOf (textR n0 pool forks) = bt3 at HF3 HL3 ⊢
 obtain ⟨tr, htr⟩ : ∃ tr, tr = textR n0 pool forks := ⟨_, rfl⟩
 have HTR := Asd.mk htr
 have HBT : Asd (strOfNums bt3 = tr) := ⟨by rw [<- hbt, strOf_bytesOf, htr]⟩
 have hbl : bt3.length = tr.size := by rw [<- hbt, bytesOf_len, htr]
 have hzr : tr.size <= 200000 := by rw [htr]; exact textR_size HR.out
 have hz0 : 0 < tr.size := by rw [htr]; exact textR_pos HR.out
 have HBL : Asd (bt3.length <= 200000 /\ 0 < bt3.length) := ⟨by omega, by omega⟩
 have hne : ((bt3.length : Int) == 0) = false := beq_eq_false_iff_ne.2 (by omega)
 have hne2 : (bt3.length == 0) = false := beq_eq_false_iff_ne.2 (by omega)
 have hnil : (bt3 = []) = False := eq_false (fun e => by rw [e] at hbl; simp at hbl; omega)
 clear hbt htr hbl hzr hz0
 obtain ⟨m, hm, hml⟩ : ∃ m : Nat, Int.tmod a2 (bt3.length : Int) = (m : Int) /\ m < bt3.length := by
  have h0 := HZ2.out.1
  have h1 := Int.tmod_nonneg (bt3.length : Int) h0
  have h2 := Int.tmod_lt_of_pos a2 (show (0 : Int) < (bt3.length : Int) by have := HBL.out.2; omega)
  exact ⟨(Int.tmod a2 (bt3.length : Int)).toNat, by omega, by omega⟩
 have HML := Asd.mk hml
 obtain ⟨ii, hii, hii2⟩ := Option.map_eq_some_iff.1 info_u8
 have hcut : ∀ W : World, (Instr.slice 26 (.slice A3 bt3.length c3) none (some (.int .i64 (m : Int))) none).run Tryd.prog W = .ok (.slice A3 m c3) W := by
  intro W
  have := cut_to (P := Tryd.prog) 26 5 .i64 Tryd.underlying26 hii A3 bt3.length c3 (m : Int) (by omega) (by omega) HL3.out W
  rw [Int.toNat_natCast] at this
  exact this
 have hmw : IntKind.i64.wrap (m : Int) = (m : Int) := by have := HBL.out; rw [i64_w, w64 (by omega) (by omega)]
 have hw2 : IntKind.i64.wrap a2 = a2 := by have := HZ2.out; rw [i64_w, w64 (by omega) (by omega)]
 have htk : (bt3.take m).length = m := by rw [List.length_take]; omega
 have HGN := Asd.mk (fun (W' : World) (hb : Below W3.heap.size W3 W') (hT : Tb W') => get_R_none (strOfNums (bt3.take m)) (by rw [str_size, htk]; have := HBL.out; omega) (getR_less HR.out (s := strOfNums (bt3.take m)) (t := strOfNums (bt3.drop m)) (by rw [<- str_app, List.take_append_drop, HBT.out, HTR.out]) (by rw [str_size, List.length_drop]; omega)) A3 m c3 (bt3.take m) W' (by have := Kd.C_take (Kd.F_now (Kd.F_below HF3.out hb)) (m := m) (by omega); rw [htk] at this; exact this) rfl hT)
 clear hml hii hii2 htk
 have HBC := Asd.mk (Below.refl W3.heap.size W3)
 go_upto_region 9 with (first
  | (go_at_call 10; with_reducible refine (HPC.out _ HB.out).mono ?_; rintro e W4 ⟨A4, c4, bt4, rfl, h4, hb⟩; have H4 := Asd.mk h4; replace HB := Asd.mk (below_step HB.out hb); replace HBC := Asd.mk (below_step HBC.out hb); have HB4 := Asd.mk (Below.refl W4.heap.size W4); replace HX := Asd.mk (below_box hb HX.out); replace HY := Asd.mk (below_box hb HY.out); clear hb h4)
  | (go_at_call 12; with_reducible refine (HGN.out _ HBC.out (HTB.out.below HB.out)).mono ?_; rintro r W5 ⟨hb5, rfl⟩; replace HB := Asd.mk (below_step HB.out hb5); replace HBC := Asd.mk (below_step HBC.out hb5); replace HB4 := Asd.mk (below_step HB4.out hb5); replace HX := Asd.mk (below_box hb5 HX.out); replace HY := Asd.mk (below_box hb5 HY.out); clear hb5))
 generalize hW5 : World.alloc _ _ = W5b
 have hb5b : Below W5.heap.size W5 W5b := by rw [<- hW5]; exact bal (Below.refl _ _) _
 replace HB := Asd.mk (below_step HB.out hb5b)
 replace HBC := Asd.mk (below_step HBC.out hb5b)
 replace HB4 := Asd.mk (below_step HB4.out hb5b)
 replace HX := Asd.mk (below_box hb5b HX.out)
 replace HY := Asd.mk (below_box hb5b HY.out)
 clear hW5 hb5b hcut hmw hw2 hm HGN hne hne2 hnil
 have HC5 := Asd.mk (Kd.F_now (Kd.F_below HF3.out HBC.out))
 have HGM := Asd.mk (get_R_none (strOfNums (bt3 ++ [a3])) (by rw [str_size, List.length_append, List.length_singleton]; have := HBL.out; omega) (by rw [str_app, HBT.out, HTR.out]; exact getR_more HR.out (by rw [str_size]; exact Nat.zero_lt_one)))
 go_upto_region 10 with (first
  | ((with_reducible refine gate_dst (N := 60) rfl ?_); refine Kd.R_lit (Kd.int .u8) (w0 := W5b) W5b.heap.size 5 ?hg (N := 60) ?hd (xs := ([] : List Int)) (inner := []) (ok := fun _ => True) (okp := fun _ => True) ?hr ?hp (fun _ hk => hk) trivial (Below.refl _ _) (Nat.le_refl _) (by simp) ?_; (case hd => rfl); (case hg => rfl); (case hr => first | (go_simp; done) | (go_simp; rfl)); (case hp => exact (Reps.none _ _)); intro v6 W6 ho hb hg_ hnew_; have HO := Asd.mk ho; have HB6 := Asd.mk hb; clear ho hb hg_ hnew_)
  | ((with_reducible refine gate_builtin (b := .append) (xs := #[.tmp 60, .tmp 61]) rfl ?_); at_builtin; refine Kd.R_append_row (Value.int .u8) (0 : Int) (w0 := W5b) W5b.heap.size rfl (.tmp 60) (.tmp 61) 26 5 (.int .u8 0) 1 rfl Tryd.underlying26 info_u8 rfl (by decide) v6 [] bt3 A3 bt3.length c3 (fun _ => True) rfl rfl (fun _ _ => trivial) HO.out (Kd.C_below HC5.out HB6.out) HB6.out HB6.out.size (by have := HBL.out; simp; omega) ?_; intro v7 W7 ho hb hg hat; have HB7 := Asd.mk hb; replace HO := Asd.mk ho; clear hb ho hg hat)
  | ((with_reducible refine gate_builtin (b := .append) (xs := #[.tmp 62, .tmp 64]) rfl ?_); at_builtin; refine Kd.R_append_row (Value.int .u8) (0 : Int) (w0 := W5b) W5b.heap.size rfl (.tmp 62) (.tmp 64) 26 5 (.int .u8 0) 1 rfl Tryd.underlying26 info_u8 rfl (by decide) v7 bt3 [a3] (some ⟨W7.heap.size, 0, none⟩) 1 1 (fun _ => True) rfl rfl (fun _ _ => trivial) (Kd.R_below HO.out (bal (Below.refl _ _) _)) (C_one W7 a3 5) (below_step HB7.out (below_less (bal (Below.refl _ _) _) (Nat.le_refl _))) (Nat.le_trans HB7.out.size (by rw [sz_alloc]; exact Nat.le_succ _)) (by have := HBL.out; simp; omega) ?_; intro v8 W8 ho hb hg hat; have HB8 := Asd.mk hb; have HO8 := Asd.mk (R_u8 ho); clear hb ho hg hat; obtain ⟨A8, c8, rfl⟩ := Kd.R_slice HO8.out)
  | (go_at_call 12; with_reducible refine (HGM.out A8 (bt3.length + 1) c8 (bt3 ++ [a3]) W8 (by have := (Kd.R_reads' HO8.out).2.2; rw [List.length_append, List.length_singleton] at this; exact this) rfl (HTB.out.below (below_step HB.out HB8.out))).mono ?_; rintro r W9 ⟨hb9, rfl⟩; have HB9 := Asd.mk (below_step HB8.out hb9); clear hb9))
 generalize hWF : World.alloc _ _ = WF
 have hbf : Below W9.heap.size W9 WF := by rw [<- hWF]; exact bal (Below.refl _ _) _
 have hb5f := below_step HB9.out hbf
 replace HB := Asd.mk (below_step HB.out hb5f)
 replace HBC := Asd.mk (below_step HBC.out hb5f)
 replace HB4 := Asd.mk (below_step HB4.out hb5f)
 replace HX := Asd.mk (below_box hb5f HX.out)
 replace HY := Asd.mk (below_box hb5f HY.out)
 clear hWF hbf hb5f HO HO8 HB6 HB7 HB8 HB9 HC5 HGM
 have ke0 : WF.cell? ⟨w.heap.size, 0, none⟩ = some (.int .i64 n0) := (box_cell HX.out 0 rfl).1
 have ke1 : WF.cell? ⟨w.heap.size, 1, none⟩ = some (.slice Ap pool.length cp) := (box_cell HX.out 1 rfl).1
 have ke2 : WF.cell? ⟨w.heap.size, 2, none⟩ = some (.slice Af forks.length cf) := (box_cell HX.out 2 rfl).1
 have kes0 : WF.cell? ⟨w.heap.size + 1, 0, none⟩ = some (.int .i64 n1) := (box_cell HY.out 0 rfl).1
 have kes1 : WF.cell? ⟨w.heap.size + 1, 1, none⟩ = some (.slice Bp pool2.length dp) := (box_cell HY.out 1 rfl).1
 have kes2 : WF.cell? ⟨w.heap.size + 1, 2, none⟩ = some (.slice Bf forks2.length df) := (box_cell HY.out 2 rfl).1
 have hcv1 : ∀ W' : World, Below WF.heap.size WF W' -> (convert 26 9 (.slice A3 bt3.length c3)).run Tryd.prog W' = .ok (.string tr) W' := fun W' hb => by
  have := Kd.C_string (P := Tryd.prog) (src := 26) (dst := 9) (c := c3) Tryd.underlying26 Tryd.underlying5 Tryd.underlying9 (Kd.F_now (Kd.F_below HF3.out (below_step HBC.out hb)))
  rw [HBT.out] at this
  exact this
 cases hR2 : rootF n1 pool2 forks2 with
 | false =>
  clear hcv1
  refine start_ (n := 25) (S := fun w' => True) (ds := []) (bA 25 0) (by kernel_rfl) rfl rfl trivial (fun hHeld => ?_)
  refine pure_ (i := 0) (N := some 69) (v := ?_) (a' := ?_) (bA 25 1) rfl rfl (by kernel_rfl) (fun _ _ _ h => h) (Or.inl ⟨by rfl, ?_⟩) ?_ ?_
  rotate_left
  ·intro w'
   go_simp
   with_reducible rfl
  rotate_left
  ·simp only [Act.put, zA, zB, zC, i64_w, i32_w]
   rfl
  refine pure_ (i := 1) (N := some 70) (v := ?_) (a' := ?_) (bA 25 3) rfl rfl (by kernel_rfl) (fun _ _ _ h => h) (Or.inl ⟨by rfl, ?_⟩) ?_ ?_
  rotate_left
  ·intro w'
   go_simp
   with_reducible rfl
  rotate_left
  ·simp only [Act.put, zA, zB, zC, i64_w, i32_w]
   rfl
  refine pure_ (i := 2) (N := some 71) (v := ?_) (a' := ?_) (bA 25 7) rfl rfl (by kernel_rfl) (fun _ _ _ h => h) (Or.inl ⟨by rfl, ?_⟩) ?_ ?_
  rotate_left
  ·intro w'
   go_simp
   with_reducible rfl
  rotate_left
  ·simp only [Act.put, zA, zB, zC, i64_w, i32_w]
   rfl
  refine pure_ (i := 3) (N := some 72) (v := ?_) (a' := ?_) (bA 25 15) rfl rfl (by kernel_rfl) (fun _ _ _ h => h) (Or.inl ⟨by rfl, ?_⟩) ?_ ?_
  rotate_left
  ·intro w'
   go_simp
   with_reducible rfl
  rotate_left
  ·simp only [Act.put, zA, zB, zC, i64_w, i32_w]
   rfl
  refine pure_ (i := 4) (N := some 73) (v := ?_) (a' := ?_) (bA 25 31) rfl rfl (by kernel_rfl) (fun _ _ _ h => h) (Or.inl ⟨by rfl, ?_⟩) ?_ ?_
  rotate_left
  ·intro w'
   go_simp
   with_reducible rfl
  rotate_left
  ·simp only [Act.put, zA, zB, zC, i64_w, i32_w]
   rfl
  refine pure_ (i := 5) (N := some 74) (v := ?_) (a' := ?_) (bA 25 63) rfl rfl (by kernel_rfl) (fun _ _ _ h => h) (Or.inl ⟨by rfl, ?_⟩) ?_ ?_
  rotate_left
  ·intro w'
   go_simp
   with_reducible rfl
  rotate_left
  ·simp only [Act.put, zA, zB, zC, i64_w, i32_w]
   rfl
  refine pure_ (i := 6) (N := some 75) (v := ?_) (a' := ?_) (bA 25 127) rfl rfl (by kernel_rfl) (fun _ _ _ h => h) (Or.inl ⟨by rfl, ?_⟩) ?_ ?_
  rotate_left
  ·intro w'
   go_simp
   with_reducible rfl
  rotate_left
  ·simp only [Act.put, zA, zB, zC, i64_w, i32_w]
   rfl
  refine pure_ (i := 7) (N := some 76) (v := ?_) (a' := ?_) (bA 25 255) rfl rfl (by kernel_rfl) (fun _ _ _ h => h) (Or.inl ⟨by rfl, ?_⟩) ?_ ?_
  rotate_left
  ·intro w'
   go_simp
   with_reducible rfl
  rotate_left
  ·simp only [Act.put, zA, zB, zC, i64_w, i32_w]
   rfl
  refine pure_ (i := 8) (N := some 77) (v := ?_) (a' := ?_) (bA 25 511) rfl rfl (by kernel_rfl) (fun _ _ _ h => h) (Or.inl ⟨by rfl, ?_⟩) ?_ ?_
  rotate_left
  ·intro w'
   go_simp
   with_reducible rfl
  rotate_left
  ·simp only [Act.put, zA, zB, zC, i64_w, i32_w]
   rfl
  refine pure_ (i := 9) (N := some 78) (v := ?_) (a' := ?_) (bA 25 1023) rfl rfl (by kernel_rfl) (fun _ _ _ h => h) (Or.inl ⟨by rfl, ?_⟩) ?_ ?_
  rotate_left
  ·intro w'
   go_simp
   with_reducible rfl
  rotate_left
  ·simp only [Act.put, zA, zB, zC, i64_w, i32_w]
   rfl
  refine pure_ (i := 10) (N := some 79) (v := ?_) (a' := ?_) (bA 25 2047) rfl rfl (by kernel_rfl) (fun _ _ _ h => h) (Or.inl ⟨by rfl, ?_⟩) ?_ ?_
  rotate_left
  ·intro w'
   go_simp
   with_reducible rfl
  rotate_left
  ·simp only [Act.put, zA, zB, zC, i64_w, i32_w]
   rfl
  refine pure_ (i := 11) (N := some 80) (v := ?_) (a' := ?_) (bA 25 4095) rfl rfl (by kernel_rfl) (fun _ _ _ h => h) (Or.inl ⟨by rfl, ?_⟩) ?_ ?_
  rotate_left
  ·intro w'
   go_simp
   with_reducible rfl
  rotate_left
  ·simp only [Act.put, zA, zB, zC, i64_w, i32_w]
   rfl
  refine pure_ (i := 12) (N := some 81) (v := ?_) (a' := ?_) (bA 25 8191) rfl rfl (by kernel_rfl) (fun _ _ _ h => h) (Or.inl ⟨by rfl, ?_⟩) ?_ ?_
  rotate_left
  ·intro w'
   go_simp
   with_reducible rfl
  rotate_left
  ·simp only [Act.put, zA, zB, zC, i64_w, i32_w]
   rfl
  refine pure_ (i := 13) (N := some 82) (v := undef) (a' := ?_) (bA 25 16383) rfl rfl (by kernel_rfl) (fun _ _ _ h => h) (Or.inr ⟨by rfl, rfl⟩) ?_ ?_
  rotate_left
  ·simp only [Act.put, zA, zB, zC, i64_w, i32_w]
   rfl
  refine pure_ (i := 14) (N := some 83) (v := undef) (a' := ?_) (bA 25 32767) rfl rfl (by kernel_rfl) (fun _ _ _ h => h) (Or.inr ⟨by rfl, rfl⟩) ?_ ?_
  rotate_left
  ·simp only [Act.put, zA, zB, zC, i64_w, i32_w]
   rfl
  refine pure_ (i := 15) (N := some 84) (v := undef) (a' := ?_) (bA 25 65535) rfl rfl (by kernel_rfl) (fun _ _ _ h => h) (Or.inr ⟨by rfl, rfl⟩) ?_ ?_
  rotate_left
  ·simp only [Act.put, zA, zB, zC, i64_w, i32_w]
   rfl
  refine pure_ (i := 16) (N := some 85) (v := undef) (a' := ?_) (bA 25 131071) rfl rfl (by kernel_rfl) (fun _ _ _ h => h) (Or.inr ⟨by rfl, rfl⟩) ?_ ?_
  rotate_left
  ·simp only [Act.put, zA, zB, zC, i64_w, i32_w]
   rfl
  refine pure_ (i := 17) (N := some 86) (v := undef) (a' := ?_) (bA 25 262143) rfl rfl (by kernel_rfl) (fun _ _ _ h => h) (Or.inr ⟨by rfl, rfl⟩) ?_ ?_
  rotate_left
  ·simp only [Act.put, zA, zB, zC, i64_w, i32_w]
   rfl
  refine pure_ (i := 18) (N := some 87) (v := undef) (a' := ?_) (bA 25 524287) rfl rfl (by kernel_rfl) (fun _ _ _ h => h) (Or.inr ⟨by rfl, rfl⟩) ?_ ?_
  rotate_left
  ·simp only [Act.put, zA, zB, zC, i64_w, i32_w]
   rfl
  refine pure_ (i := 19) (N := some 88) (v := undef) (a' := ?_) (bA 25 1048575) rfl rfl (by kernel_rfl) (fun _ _ _ h => h) (Or.inr ⟨by rfl, rfl⟩) ?_ ?_
  rotate_left
  ·simp only [Act.put, zA, zB, zC, i64_w, i32_w]
   rfl
  refine pure_ (i := 20) (N := some 89) (v := undef) (a' := ?_) (bA 25 2097151) rfl rfl (by kernel_rfl) (fun _ _ _ h => h) (Or.inr ⟨by rfl, rfl⟩) ?_ ?_
  rotate_left
  ·simp only [Act.put, zA, zB, zC, i64_w, i32_w]
   rfl
  refine pure_ (i := 21) (N := some 90) (v := undef) (a' := ?_) (bA 25 4194303) rfl rfl (by kernel_rfl) (fun _ _ _ h => h) (Or.inr ⟨by rfl, rfl⟩) ?_ ?_
  rotate_left
  ·simp only [Act.put, zA, zB, zC, i64_w, i32_w]
   rfl
  refine pure_ (i := 22) (N := some 91) (v := ?_) (a' := ?_) (bA 25 8388607) rfl rfl (by kernel_rfl) (fun _ _ _ h => h) (Or.inl ⟨by rfl, ?_⟩) ?_ ?_
  rotate_left
  ·intro w'
   go_simp
   with_reducible rfl
  rotate_left
  ·simp only [Act.put, zA, zB, zC, i64_w, i32_w]
   rfl
  refine pure_ (i := 23) (N := some 92) (v := ?_) (a' := ?_) (bA 25 16777215) rfl rfl (by kernel_rfl) (fun _ _ _ h => h) (Or.inl ⟨by rfl, ?_⟩) ?_ ?_
  rotate_left
  ·intro w'
   go_simp
   with_reducible rfl
  rotate_left
  ·simp only [Act.put, zA, zB, zC, i64_w, i32_w]
   rfl
  refine pure_ (i := 24) (N := some 8) (v := ?_) (a' := ?_) (bA 25 33554431) rfl rfl (by kernel_rfl) (fun _ _ _ h => h) (Or.inl ⟨by rfl, ?_⟩) ?_ ?_
  rotate_left
  ·intro w'
   go_simp
   with_reducible rfl
  rotate_left
  ·simp only [Act.put, zA, zB, zC, i64_w, i32_w]
   rfl
  refine done_ (by kernel_rfl) ?_
  clear HF3
  (try go_wp2)
  go_ret
  exact ⟨rfl, below_step HB.out (bd1 (Below.refl _ _))⟩
 | true =>
  have hts := HTS.out hR2
  obtain ⟨h4s, h4F⟩ := H4.out hR2
  have H4F := Asd.mk h4F
  have hcv2 : ∀ W' : World, Below WF.heap.size WF W' -> (convert 26 9 (.slice A4 bt4.length c4)).run Tryd.prog W' = .ok (.string ts) W' := fun W' hb => by
   have := Kd.C_string (P := Tryd.prog) (src := 26) (dst := 9) (c := c4) Tryd.underlying26 Tryd.underlying5 Tryd.underlying9 (Kd.F_now (Kd.F_below H4F.out (below_step HB4.out hb)))
   rw [h4s] at this
   exact this
  obtain ⟨bo, hbo, hbs⟩ : ∃ bo : Bool, (tr.toList == ts.toList) = bo /\ (bo = true <-> (n0, pool, forks) = (n1, pool2, forks2)) := by
   refine ⟨_, rfl, ?_⟩
   rw [beq_iff_eq]
   constructor
   ·intro e
    have := Hello.toList_inj e
    rw [HTR.out, hts] at this
    exact textR_inj HR.out hR2 this
   ·intro e
    obtain ⟨e1, e2⟩ := Prod.mk.inj e
    obtain ⟨e3, e4⟩ := Prod.mk.inj e2
    rw [HTR.out, hts, e1, e3, e4]
  have HSA := Asd.mk (fun (W' : World) (hb : Below WF.heap.size WF W') => same_calls (right_len HR.out) bo hbs Ap cp Af cf Bp dp Bf df W' (Kd.C_below HRP.out (below_step HB.out hb)) HCP.out (Kd.C_below HRF.out (below_step HB.out hb)) HCF.out (Kd.C_below HSP.out (below_step HB.out hb)) HDP.out (Kd.C_below HSF.out (below_step HB.out hb)) HDF.out)
  have hbb : (bo == bo) = true := by simp
  clear hts h4s h4F hbs hR2
  refine start_ (n := 25) (S := fun w' => (convert 26 9 (.slice A3 bt3.length c3)).run Tryd.prog w' = .ok (.string tr) w' /\ (convert 26 9 (.slice A4 bt4.length c4)).run Tryd.prog w' = .ok (.string ts) w' /\ w'.cell? ⟨w.heap.size, 0, none⟩ = some (.int .i64 n0) /\ w'.cell? ⟨w.heap.size, 1, none⟩ = some (.slice Ap pool.length cp) /\ w'.cell? ⟨w.heap.size, 2, none⟩ = some (.slice Af forks.length cf) /\ w'.cell? ⟨w.heap.size + 1, 0, none⟩ = some (.int .i64 n1) /\ w'.cell? ⟨w.heap.size + 1, 1, none⟩ = some (.slice Bp pool2.length dp) /\ w'.cell? ⟨w.heap.size + 1, 2, none⟩ = some (.slice Bf forks2.length df)) (ds := []) (bA 25 0) (by kernel_rfl) rfl rfl ⟨(hcv1 _ (bd1 (Below.refl _ _))), (hcv2 _ (bd1 (Below.refl _ _))), (cell_below ke0 (bd1 (Below.refl _ _))), (cell_below ke1 (bd1 (Below.refl _ _))), (cell_below ke2 (bd1 (Below.refl _ _))), (cell_below kes0 (bd1 (Below.refl _ _))), (cell_below kes1 (bd1 (Below.refl _ _))), (cell_below kes2 (bd1 (Below.refl _ _)))⟩ (fun hHeld => ?_)
  refine pure_ (i := 0) (N := some 69) (v := ?_) (a' := ?_) (bA 25 1) rfl rfl (by kernel_rfl) (fun _ _ _ h => h) (Or.inl ⟨by rfl, ?_⟩) ?_ ?_
  rotate_left
  ·intro w'
   go_simp
   with_reducible rfl
  rotate_left
  ·simp only [Act.put, zA, zB, zC, i64_w, i32_w]
   rfl
  refine pure_ (i := 1) (N := some 70) (v := ?_) (a' := ?_) (bA 25 3) rfl rfl (by kernel_rfl) (fun _ _ _ h => h) (Or.inl ⟨by rfl, ?_⟩) ?_ ?_
  rotate_left
  ·intro w'
   go_simp
   with_reducible rfl
  rotate_left
  ·simp only [Act.put, zA, zB, zC, i64_w, i32_w]
   rfl
  refine pure_ (i := 2) (N := some 71) (v := ?_) (a' := ?_) (bA 25 7) rfl rfl (by kernel_rfl) (fun _ _ _ h => h) (Or.inl ⟨by rfl, ?_⟩) ?_ ?_
  rotate_left
  ·intro w'
   go_simp
   with_reducible rfl
  rotate_left
  ·simp only [Act.put, zA, zB, zC, i64_w, i32_w]
   rfl
  refine pure_ (i := 3) (N := some 72) (v := ?_) (a' := ?_) (bA 25 15) rfl rfl (by kernel_rfl) (fun _ _ _ h => h) (Or.inl ⟨by rfl, ?_⟩) ?_ ?_
  rotate_left
  ·intro w'
   go_simp
   with_reducible rfl
  rotate_left
  ·simp only [Act.put, zA, zB, zC, i64_w, i32_w]
   rfl
  refine pure_ (i := 4) (N := some 73) (v := ?_) (a' := ?_) (bA 25 31) rfl rfl (by kernel_rfl) (fun _ _ _ h => h) (Or.inl ⟨by rfl, ?_⟩) ?_ ?_
  rotate_left
  ·intro w'
   go_simp
   with_reducible rfl
  rotate_left
  ·simp only [Act.put, zA, zB, zC, i64_w, i32_w]
   rfl
  refine pure_ (i := 5) (N := some 74) (v := ?_) (a' := ?_) (bA 25 63) rfl rfl (by kernel_rfl) (fun _ _ _ h => h) (Or.inl ⟨by rfl, ?_⟩) ?_ ?_
  rotate_left
  ·intro w'
   go_simp
   with_reducible rfl
  rotate_left
  ·simp only [Act.put, zA, zB, zC, i64_w, i32_w]
   rfl
  refine pure_ (i := 6) (N := some 75) (v := ?_) (a' := ?_) (bA 25 127) rfl rfl (by kernel_rfl) (fun _ _ _ h => h) (Or.inl ⟨by rfl, ?_⟩) ?_ ?_
  rotate_left
  ·intro w'
   go_simp
   with_reducible rfl
  rotate_left
  ·simp only [Act.put, zA, zB, zC, i64_w, i32_w]
   rfl
  refine pure_ (i := 7) (N := some 76) (v := ?_) (a' := ?_) (bA 25 255) rfl rfl (by kernel_rfl) (fun _ _ _ h => h) (Or.inl ⟨by rfl, ?_⟩) ?_ ?_
  rotate_left
  ·intro w'
   go_simp
   with_reducible rfl
  rotate_left
  ·simp only [Act.put, zA, zB, zC, i64_w, i32_w]
   rfl
  refine pure_ (i := 8) (N := some 77) (v := ?_) (a' := ?_) (bA 25 511) rfl rfl (by kernel_rfl) (fun _ _ _ h => h) (Or.inl ⟨by rfl, ?_⟩) ?_ ?_
  rotate_left
  ·intro w'
   go_simp
   with_reducible rfl
  rotate_left
  ·simp only [Act.put, zA, zB, zC, i64_w, i32_w]
   rfl
  refine pure_ (i := 9) (N := some 78) (v := ?_) (a' := ?_) (bA 25 1023) rfl rfl (by kernel_rfl) (fun _ _ _ h => h) (Or.inl ⟨by rfl, ?_⟩) ?_ ?_
  rotate_left
  ·intro w'
   go_simp
   with_reducible rfl
  rotate_left
  ·simp only [Act.put, zA, zB, zC, i64_w, i32_w]
   rfl
  refine pure_ (i := 10) (N := some 79) (v := ?_) (a' := ?_) (bA 25 2047) rfl rfl (by kernel_rfl) (fun _ _ _ h => h) (Or.inl ⟨by rfl, ?_⟩) ?_ ?_
  rotate_left
  ·intro w'
   go_simp
   with_reducible rfl
  rotate_left
  ·simp only [Act.put, zA, zB, zC, i64_w, i32_w]
   rfl
  refine pure_ (i := 11) (N := some 80) (v := ?_) (a' := ?_) (bA 25 4095) rfl rfl (by kernel_rfl) (fun _ _ _ h => h) (Or.inl ⟨by rfl, ?_⟩) ?_ ?_
  rotate_left
  ·intro w'
   go_simp
   with_reducible rfl
  rotate_left
  ·simp only [Act.put, zA, zB, zC, i64_w, i32_w]
   rfl
  refine pure_ (i := 12) (N := some 81) (v := ?_) (a' := ?_) (bA 25 8191) rfl rfl (by kernel_rfl) (fun _ _ _ h => h) (Or.inl ⟨by rfl, ?_⟩) ?_ ?_
  rotate_left
  ·intro w'
   go_simp
   with_reducible rfl
  rotate_left
  ·simp only [Act.put, zA, zB, zC, i64_w, i32_w]
   rfl
  refine pure_ (i := 13) (N := some 82) (v := ?_) (a' := ?_) (bA 25 16383) rfl rfl (by kernel_rfl) (fun _ _ _ h => h) (Or.inl ⟨by rfl, ?_⟩) ?_ ?_
  rotate_left
  ·intro w'
   go_simp
   with_reducible rfl
  rotate_left
  ·simp only [Act.put, zA, zB, zC, i64_w, i32_w]
   rfl
  refine pure_ (i := 15) (N := some 84) (v := ?_) (a' := ?_) (bA 25 49151) rfl rfl (by kernel_rfl) (fun _ _ _ h => h) (Or.inl ⟨by rfl, ?_⟩) ?_ ?_
  rotate_left
  ·intro w'
   go_simp
   with_reducible rfl
  rotate_left
  ·simp only [Act.put, zA, zB, zC, i64_w, i32_w]
   rfl
  refine take_ (i := 14) (N := some 83) (v := ?_) (a' := ?_) (bA 25 65535) rfl rfl (by kernel_rfl) (fun _ _ _ h => h) (Or.inl ⟨by rfl, ?_⟩) hHeld ?_ ?_
  rotate_left
  ·rintro w' ⟨s0, s1, s2, s3, s4, s5, s6, s7⟩
   go_simp
   with_reducible rfl
  rotate_left
  ·simp only [Act.put, zA, zB, zC, i64_w, i32_w]
   rfl
  refine take_ (i := 16) (N := some 85) (v := ?_) (a' := ?_) (bA 25 131071) rfl rfl (by kernel_rfl) (fun _ _ _ h => h) (Or.inl ⟨by rfl, ?_⟩) hHeld ?_ ?_
  rotate_left
  ·rintro w' ⟨s0, s1, s2, s3, s4, s5, s6, s7⟩
   go_simp
   with_reducible rfl
  rotate_left
  ·simp only [Act.put, zA, zB, zC, i64_w, i32_w]
   rfl
  refine pure_ (i := 17) (N := some 86) (v := ?_) (a' := ?_) (bA 25 262143) rfl rfl (by kernel_rfl) (fun _ _ _ h => h) (Or.inl ⟨by rfl, ?_⟩) ?_ ?_
  rotate_left
  ·intro w'
   go_simp
   with_reducible rfl
  rotate_left
  ·simp only [Act.put, zA, zB, zC, i64_w, i32_w]
   rfl
  refine take_ (i := 18) (N := some 87) (v := ?_) (a' := ?_) (bA 25 524287) rfl rfl (by kernel_rfl) (fun _ _ _ h => h) (Or.inl ⟨by rfl, ?_⟩) hHeld ?_ ?_
  rotate_left
  ·rintro w' ⟨s0, s1, s2, s3, s4, s5, s6, s7⟩
   go_simp
   with_reducible rfl
  rotate_left
  ·simp only [Act.put, zA, zB, zC, i64_w, i32_w]
   rfl
  refine take_ (i := 19) (N := some 88) (v := ?_) (a' := ?_) (bA 25 1048575) rfl rfl (by kernel_rfl) (fun _ _ _ h => h) (Or.inl ⟨by rfl, ?_⟩) hHeld ?_ ?_
  rotate_left
  ·rintro w' ⟨s0, s1, s2, s3, s4, s5, s6, s7⟩
   go_simp
   with_reducible rfl
  rotate_left
  ·simp only [Act.put, zA, zB, zC, i64_w, i32_w]
   rfl
  refine one_ (i := 20) (N := some 89) (bA 25 2097151) rfl rfl (by kernel_rfl) (by decide) (fun K hK => ?_)
  refine goes_ Tryd.func13 (by kernel_rfl) rfl #[.agg #[.int .i64 n0, .slice Ap pool.length cp, .slice Af forks.length cf], .agg #[.int .i64 n1, .slice Bp pool2.length dp, .slice Bf forks2.length df]] (by rfl) rfl rfl (by simp only [List.map_toArray, List.map_cons, List.map_nil]; rfl) ?_
  with_reducible refine (HSA.out _ (bd1 (Below.refl _ _))).mono ?_
  rintro e we ⟨rfl, hbe⟩
  refine ⟨_, rfl, ?_⟩
  have HBE := Asd.mk (below_step (bd1 (Below.refl WF.heap.size WF)) hbe)
  refine hK.out _ _ ⟨(hcv1 _ HBE.out), (hcv2 _ HBE.out), (cell_below ke0 HBE.out), (cell_below ke1 HBE.out), (cell_below ke2 HBE.out), (cell_below kes0 HBE.out), (cell_below kes1 HBE.out), (cell_below kes2 HBE.out)⟩ (fun hHeld => ?_)
  clear hK K
  refine norm_ (a' := ?_) ?_ ?_
  rotate_left
  ·show Act.put _ (some 89) _ = _
   simp only [Act.put, zA, zB, zC, i64_w, i32_w]
   rfl
  refine pure_ (i := 21) (N := some 90) (v := ?_) (a' := ?_) (bA 25 4194303) rfl rfl (by kernel_rfl) (fun _ _ _ h => h) (Or.inl ⟨by rfl, ?_⟩) ?_ ?_
  rotate_left
  ·intro w'
   go_simp
   with_reducible rfl
  rotate_left
  ·simp only [Act.put, zA, zB, zC, i64_w, i32_w]
   rfl
  refine pure_ (i := 22) (N := some 91) (v := ?_) (a' := ?_) (bA 25 8388607) rfl rfl (by kernel_rfl) (fun _ _ _ h => h) (Or.inl ⟨by rfl, ?_⟩) ?_ ?_
  rotate_left
  ·intro w'
   go_simp
   with_reducible rfl
  rotate_left
  ·simp only [Act.put, zA, zB, zC, i64_w, i32_w]
   rfl
  refine pure_ (i := 23) (N := some 92) (v := ?_) (a' := ?_) (bA 25 16777215) rfl rfl (by kernel_rfl) (fun _ _ _ h => h) (Or.inl ⟨by rfl, ?_⟩) ?_ ?_
  rotate_left
  ·intro w'
   go_simp
   with_reducible rfl
  rotate_left
  ·simp only [Act.put, zA, zB, zC, i64_w, i32_w]
   rfl
  refine pure_ (i := 24) (N := some 8) (v := ?_) (a' := ?_) (bA 25 33554431) rfl rfl (by kernel_rfl) (fun _ _ _ h => h) (Or.inl ⟨by rfl, ?_⟩) ?_ ?_
  rotate_left
  ·intro w'
   go_simp
   with_reducible rfl
  rotate_left
  ·simp only [Act.put, zA, zB, zC, i64_w, i32_w]
   rfl
  refine done_ (by kernel_rfl) ?_
  (try go_wp2)
  go_ret
  exact ⟨rfl, below_step HB.out HBE.out⟩
end Go.Proofs.YtlfenakgphmepaaDoor.Root
