/- The calls of RootTells answer true, whatever they are handed. -/
import Derived.Test.YtlfenakgphmepaaGreatDoorRootTellsA
import Derived.Test.YtlfenakgphmepaaGreatDoorRootHeadW
namespace Go.Proofs.YtlfenakgphmepaaGreatDoor.Root
open Go.RowKit YtlfenakgphmepaaGreatDoorW.PrintWords YtlfenakgphmepaaGreatDoorW.PrintLast YtlfenakgphmepaaGreatDoorW.PrintMore YtlfenakgphmepaaGreatDoor.Conv Print Build
set_option linter.unusedVariables false
set_option linter.unusedSimpArgs false
set_option maxRecDepth 100000 in
set_option maxHeartbeats 16000000 in
theorem RootTells_core {w : World} (htab : Lib.TabIs Tryz.prog w "internal/strconv.uint64pow10" .u64 Lib.pow10Tab)
  (n0 : Int) (Ap : Option Addr) (cp : Nat) (pool : List ByteArray) (hrp : Kd.C Kd.string w Ap pool.length pool) (hcp : pool.length <= cp) (Af : Option Addr) (cf : Nat) (forks : List Fk) (hrf : Kd.C k39 w Af forks.length forks) (hcf : forks.length <= cf) (hok : okRoot (n0, pool, forks))
  (A1 : Option Addr) (c1 : Nat) (l1 : List Int) (hr1 : Kd.C (Kd.int .u8) w A1 l1.length l1) (hc1 : l1.length <= c1) (hm1 : l1.length <= maxLen) (hp1 : ∀ x ∈ l1, (Lit.int .u8 x).wf = true) (a2 : ByteArray) (y2 : a2.size <= maxLen) :
  Calls Tryz.prog 3 #[.agg #[.int .i64 n0, .slice Ap pool.length cp, .slice Af forks.length cf], .slice A1 l1.length c1, .string a2] w fun e w' => e = .returned (.bool true) /\ Below w.heap.size w w' := by
 obtain ⟨kg, g, hgr, hsm⟩ := great_eq hok
 have HTB := am (show Tb w from Lib.tabBelow_of_tabIs htab)
 have HG := am hgr
 have HSM := am hsm
 have HRP := am hrp
 have HRF := am hrf
 have HCP := am hcp
 have HCF := am hcf
 have HR1 := am hr1
 have HC1 := am hc1
 have HB0 := am (bal (Below.refl w.heap.size w) (.cells #[.int .i64 n0, .slice Ap pool.length cp, .slice Af forks.length cf] 25))
 have HX0 := am (heap_alloc_new w (.cells #[.int .i64 n0, .slice Ap pool.length cp, .slice Af forks.length cf] 25))
 clear htab hrp hcp hrf hcf hok hgr hsm hr1 hc1 hm1 hp1 y2
 go_enter Tryz.func3, Tryz.ntmps3
 go_upto_region 2 with (go_at_call 5; with_reducible refine (head_calls (HTB.out.below HB0.out)).mono ?_; rintro e W1 ⟨rfl, hb⟩; have HX := am (qB hb HX0.out); have HB := am (qW HB0.out hb); clear hb HB0 HX0)
 have kr0 : W1.cell? ⟨w.heap.size, 0, none⟩ = some (.int .i64 n0) := (qx HX.out 0 rfl).1
 have kr1 : W1.cell? ⟨w.heap.size, 1, none⟩ = some (.slice Ap pool.length cp) := (qx HX.out 1 rfl).1
 have kr2 : W1.cell? ⟨w.heap.size, 2, none⟩ = some (.slice Af forks.length cf) := (qx HX.out 2 rfl).1
 cases g with
 | true =>
  go_wp2_with (go_at_call 6; with_reducible refine (sacristylaw10_Great.calls kg n0 Ap cp pool Af cf forks true _ (Kd.C_below HRP.out HB.out) HCP.out (Kd.C_below HRF.out HB.out) HCF.out HG.out).mono ?_; rintro e W2 ⟨rfl, hb⟩; replace HB := am (qW HB.out hb); replace HX := am (qB hb HX.out); have ks0 : W2.cell? ⟨w.heap.size, 0, none⟩ = some (.int .i64 n0) := (qx HX.out 0 rfl).1; have ks1 : W2.cell? ⟨w.heap.size, 1, none⟩ = some (.slice Ap pool.length cp) := (qx HX.out 1 rfl).1; have ks2 : W2.cell? ⟨w.heap.size, 2, none⟩ = some (.slice Af forks.length cf) := (qx HX.out 2 rfl).1; clear hb)
  go_ret
  exact ⟨rfl, HB.out⟩
 | false =>
 have hs := HSM.out rfl
 have HS := am hs
 clear HSM
 by_cases g1 : (20000 : Int) < (l1.length : Int)
 ·have d1 : decide ((20000 : Int) < (l1.length : Int)) = true := dt g1
  go_wp2_with (go_at_call 6; with_reducible refine (sacristylaw10_Great.calls kg n0 Ap cp pool Af cf forks false _ (Kd.C_below HRP.out HB.out) HCP.out (Kd.C_below HRF.out HB.out) HCF.out HG.out).mono ?_; rintro e W2 ⟨rfl, hb⟩; replace HB := am (qW HB.out hb); replace HX := am (qB hb HX.out); have ks0 : W2.cell? ⟨w.heap.size, 0, none⟩ = some (.int .i64 n0) := (qx HX.out 0 rfl).1; have ks1 : W2.cell? ⟨w.heap.size, 1, none⟩ = some (.slice Ap pool.length cp) := (qx HX.out 1 rfl).1; have ks2 : W2.cell? ⟨w.heap.size, 2, none⟩ = some (.slice Af forks.length cf) := (qx HX.out 2 rfl).1; clear hb)
  go_ret
  exact ⟨rfl, HB.out⟩
 have d1 : decide ((20000 : Int) < (l1.length : Int)) = false := df g1
 by_cases g2 : (3000 : Int) < (a2.size : Int)
 ·have d2 : decide ((3000 : Int) < (a2.size : Int)) = true := dt g2
  go_wp2_with (go_at_call 6; with_reducible refine (sacristylaw10_Great.calls kg n0 Ap cp pool Af cf forks false _ (Kd.C_below HRP.out HB.out) HCP.out (Kd.C_below HRF.out HB.out) HCF.out HG.out).mono ?_; rintro e W2 ⟨rfl, hb⟩; replace HB := am (qW HB.out hb); replace HX := am (qB hb HX.out); have ks0 : W2.cell? ⟨w.heap.size, 0, none⟩ = some (.int .i64 n0) := (qx HX.out 0 rfl).1; have ks1 : W2.cell? ⟨w.heap.size, 1, none⟩ = some (.slice Ap pool.length cp) := (qx HX.out 1 rfl).1; have ks2 : W2.cell? ⟨w.heap.size, 2, none⟩ = some (.slice Af forks.length cf) := (qx HX.out 2 rfl).1; clear hb)
  go_ret
  exact ⟨rfl, HB.out⟩
 have d2 : decide ((3000 : Int) < (a2.size : Int)) = false := df g2
 obtain ⟨s1, hs1⟩ : ∃ s1, strOfNums l1 = s1 := ⟨_, rfl⟩
 have hzb : s1.size <= 20000 := by rw [<- hs1, str_size]; omega
 obtain ⟨bs, bo, hpu⟩ : ∃ a b, putU n0 pool forks = (a, b) := two_of _
 obtain ⟨m, pl, fl, on, hgu⟩ : ∃ a b c d, getU s1 = (a, b, c, d) := four_of _
 have HPA := am (fun (W' : World) (hb : Below w.heap.size w W') => put_U hs.sm hpu Ap cp Af cf W' (Kd.C_below HRP.out hb) HCP.out (Kd.C_below HRF.out hb) HCF.out (HTB.out.below hb))
 have HPB := am (fun (W' : World) (hb : Below w.heap.size w W') => rput_U hs hpu Ap cp Af cf W' (Kd.C_below HRP.out hb) HCP.out (Kd.C_below HRF.out hb) HCF.out)
 have HGA := am (fun (W' : World) (hb : Below w.heap.size w W') => get_U s1 (by omega) hgu A1 l1.length c1 l1 W' (Kd.C_below HR1.out hb) hs1 (HTB.out.below hb))
 have HGB := am (fun (W' : World) (hb : Below w.heap.size w W') => rget_U s1 hzb hgu A1 l1.length c1 l1 W' (Kd.C_below HR1.out hb) hs1)
 have HLE := am (getU_len hgu)
 have HNZ : Asd (a2.size <= 3000) := ⟨by omega⟩
 clear hs hs1 hzb hpu hgu g1 g2
 go_upto_region 6 with (first
  | (go_at_call 6; with_reducible refine (sacristylaw10_Great.calls kg n0 Ap cp pool Af cf forks false _ (Kd.C_below HRP.out HB.out) HCP.out (Kd.C_below HRF.out HB.out) HCF.out HG.out).mono ?_; rintro e W2 ⟨rfl, hb⟩; replace HB := am (qW HB.out hb); replace HX := am (qB hb HX.out); have ks0 : W2.cell? ⟨w.heap.size, 0, none⟩ = some (.int .i64 n0) := (qx HX.out 0 rfl).1; have ks1 : W2.cell? ⟨w.heap.size, 1, none⟩ = some (.slice Ap pool.length cp) := (qx HX.out 1 rfl).1; have ks2 : W2.cell? ⟨w.heap.size, 2, none⟩ = some (.slice Af forks.length cf) := (qx HX.out 2 rfl).1; clear hb)
  | (go_at_call 7; with_reducible refine (HPA.out _ HB.out).mono ?_; rintro e W3 ⟨hb, A3, m3, c3, rfl, hF3⟩; replace HB := am (qW HB.out hb); replace HX := am (qB hb HX.out); have HF3 := am hF3; have kt0 : W3.cell? ⟨w.heap.size, 0, none⟩ = some (.int .i64 n0) := (qx HX.out 0 rfl).1; have kt1 : W3.cell? ⟨w.heap.size, 1, none⟩ = some (.slice Ap pool.length cp) := (qx HX.out 1 rfl).1; have kt2 : W3.cell? ⟨w.heap.size, 2, none⟩ = some (.slice Af forks.length cf) := (qx HX.out 2 rfl).1; clear hb hF3)
  | (go_at_call 8; with_reducible refine (HPB.out _ HB.out).mono ?_; rintro e W4 ⟨hb, A4, m4, c4, rfl, hF4⟩; replace HB := am (qW HB.out hb); replace HX := am (qB hb HX.out); replace HF3 := am (Kd.C_below HF3.out hb); have HF4 := am hF4; clear hb hF4))
 clear HG HPA HPB d1 d2 kr0 kr1 kr2 ks0 ks1 ks2 kt0 kt1 kt2
 go_upto_region 7 with (go_at_call 9; with_reducible refine (HGA.out _ HB.out).mono ?_; rintro r W6 ⟨hb, Au, cu, Av, cv, rfl, hp, hcp, hf, hcf⟩; replace HB := am (qW HB.out hb); replace HX := am (qB hb HX.out); replace HF3 := am (Kd.C_below HF3.out hb); replace HF4 := am (Kd.C_below HF4.out hb); have HPu := am hp; have HCPu := am hcp; have HFFu := am hf; have HCFu := am hcf; clear hb hp hcp hf hcf)
 generalize hW : World.alloc _ _ = W6b
 have hb : Below W6.heap.size W6 W6b := by rw [<- hW]; exact bal (Below.refl _ _) _
 have HU : Asd (W6b.heap[W6.heap.size]? = some (.cells #[.int .i64 m, .slice Au pl.length cu, .slice Av fl.length cv] 25 (0, 0))) := ⟨by rw [<- hW]; exact heap_alloc_new _ _⟩
 obtain ⟨bU, hbU⟩ : ∃ b, b = W6.heap.size := ⟨_, rfl⟩
 rw [<- hbU] at HU ⊢
 replace HB := am (qW HB.out hb); replace HX := am (qB hb HX.out)
 replace HF3 := am (Kd.C_below HF3.out hb)
 replace HF4 := am (Kd.C_below HF4.out hb)
 replace HPu := am (Kd.C_below HPu.out hb)
 replace HFFu := am (Kd.C_below HFFu.out hb)
 clear hW hb hbU
 go_upto_region 8 with (go_at_call 10; with_reducible refine (HGB.out _ HB.out).mono ?_; rintro r W7 ⟨hb, Bu, du, Bv, dv, rfl, hp, hcp, hf, hcf⟩; replace HB := am (qW HB.out hb); replace HX := am (qB hb HX.out); replace HF3 := am (Kd.C_below HF3.out hb); replace HF4 := am (Kd.C_below HF4.out hb); replace HU := am (qB hb HU.out); replace HPu := am (Kd.C_below HPu.out hb); replace HFFu := am (Kd.C_below HFFu.out hb); have HPv := am hp; have HCPv := am hcp; have HFFv := am hf; have HCFv := am hcf; clear hb hp hcp hf hcf)
 generalize hW : World.alloc _ _ = W7b
 have hb : Below W7.heap.size W7 W7b := by rw [<- hW]; exact bal (Below.refl _ _) _
 have HV : Asd (W7b.heap[W7.heap.size]? = some (.cells #[.int .i64 m, .slice Bu pl.length du, .slice Bv fl.length dv] 25 (0, 0))) := ⟨by rw [<- hW]; exact heap_alloc_new _ _⟩
 obtain ⟨bV, hbV⟩ : ∃ b, b = W7.heap.size := ⟨_, rfl⟩
 rw [<- hbV] at HV ⊢
 replace HB := am (qW HB.out hb); replace HX := am (qB hb HX.out)
 replace HF3 := am (Kd.C_below HF3.out hb)
 replace HF4 := am (Kd.C_below HF4.out hb)
 replace HPv := am (Kd.C_below HPv.out hb)
 replace HFFv := am (Kd.C_below HFFv.out hb)
 replace HU := am (qB hb HU.out)
 replace HPu := am (Kd.C_below HPu.out hb)
 replace HFFu := am (Kd.C_below HFFu.out hb)
 clear hW hb hbV HGA HGB
 generalize W7b = WV at *
 obtain ⟨rt, hrt⟩ : ∃ b, rootF n0 pool forks = b := ⟨_, rfl⟩
 obtain ⟨nm, hnm⟩ : ∃ b, rnF a2 = b := ⟨_, rfl⟩
 obtain ⟨ix, hix⟩ : ∃ b, root_Find.ix a2 forks = b := ⟨_, rfl⟩
 obtain ⟨sx, hsx⟩ : ∃ b, strOfNums bs = b := ⟨_, rfl⟩
 have hbV := HB.out
 have hs := HS.out
 have hnz := HNZ.out
 have HC0 := am (fun (W' : World) (hb : Below WV.heap.size WV W') => root_Right.calls 3000000 n0 Ap cp pool Af cf forks rt W' (Kd.C_below HRP.out (qW hbV hb)) HCP.out (Kd.C_below HRF.out (qW hbV hb)) HCF.out (by rw [hs.sm.right, hrt]))
 have HC1 := am (fun (W' : World) (hb : Below WV.heap.size WV W') => sacristyref10_Right.calls 900000000 n0 Ap cp pool Af cf forks rt W' (Kd.C_below HRP.out (qW hbV hb)) HCP.out (Kd.C_below HRF.out (qW hbV hb)) HCF.out (by
  rw [rroot_eq n0 pool forks (by have := hs.pl; omega) (fun f hf => by
   have a := hs.f f hf
   obtain ⟨s0, s2, _, _⟩ := a.s
   have := a.r
   have := a.p
   omega) (by have := hs.l; omega) (Nat.le_refl _), hrt]))
 have HC2 := am (fun (W' : World) (hb : Below WV.heap.size WV W') => same_self (n := m) HLE.out Au cu Av cv Bu du Bv dv W' (Kd.C_below HPu.out hb) HCPu.out (Kd.C_below HFFu.out hb) HCFu.out (Kd.C_below HPv.out hb) HCPv.out (Kd.C_below HFFv.out hb) HCFv.out)
 have HC3 := am (fun (W' : World) (hb : Below WV.heap.size WV W') => (root_Named.calls 1000000 a2 nm W' (by rw [rn_eq _ (by omega) (by omega), hnm])).mono (fun e w' h => (⟨h.1, h.2.below⟩ : e = .returned (.bool nm) /\ Below W'.heap.size W' w')))
 have HC4 := am (fun (W' : World) (hb : Below WV.heap.size WV W') => (sacristyref10_Named.calls 1000000 a2 nm W' (by rw [rrn_eq _ (by omega) (by omega), hnm])).mono (fun e w' h => (⟨h.1, h.2.below⟩ : e = .returned (.bool nm) /\ Below W'.heap.size W' w')))
 have HC5 := am (fun (W' : World) (hb : Below WV.heap.size WV W') => root_Find.calls n0 Ap cp pool Af cf forks a2 ix W' (Kd.C_below HRP.out (qW hbV hb)) HCP.out (Kd.C_below HRF.out (qW hbV hb)) HCF.out (by rw [<- hix]; rfl))
 have HC6 := am (fun (W' : World) (hb : Below WV.heap.size WV W') => sacristyref10_Find.calls 2000000 n0 Ap cp pool Af cf forks a2 ix W' (Kd.C_below HRP.out (qW hbV hb)) HCP.out (Kd.C_below HRF.out (qW hbV hb)) HCF.out (by rw [rfind_eq n0 pool forks a2 (by have := hs.l; omega), hix]))
 have CV1 : Asd (∀ W' : World, Below WV.heap.size WV W' -> (convert 26 9 (.slice A3 m3 c3)).run Tryz.prog W' = .ok (.string sx) W') := ⟨fun W' hb => by
  rw [<- hsx]
  exact Kd.C_string (P := Tryz.prog) (src := 26) (dst := 9) (c := c3) Tryz.underlying26 Tryz.underlying5 Tryz.underlying9 (Kd.C_below HF3.out hb)⟩
 have CV2 : Asd (∀ W' : World, Below WV.heap.size WV W' -> (convert 26 9 (.slice A4 m4 c4)).run Tryz.prog W' = .ok (.string sx) W') := ⟨fun W' hb => by
  rw [<- hsx]
  exact Kd.C_string (P := Tryz.prog) (src := 26) (dst := 9) (c := c4) Tryz.underlying26 Tryz.underlying5 Tryz.underlying9 (Kd.C_below HF4.out hb)⟩
 clear hrt hnm hix hsx hbV hs hnz
 have kr0 : WV.cell? ⟨w.heap.size, 0, none⟩ = some (.int .i64 n0) := (qx HX.out 0 rfl).1
 have kr1 : WV.cell? ⟨w.heap.size, 1, none⟩ = some (.slice Ap pool.length cp) := (qx HX.out 1 rfl).1
 have kr2 : WV.cell? ⟨w.heap.size, 2, none⟩ = some (.slice Af forks.length cf) := (qx HX.out 2 rfl).1
 have ku0 : WV.cell? ⟨bU, 0, none⟩ = some (.int .i64 m) := (qx HU.out 0 rfl).1
 have ku1 : WV.cell? ⟨bU, 1, none⟩ = some (.slice Au pl.length cu) := (qx HU.out 1 rfl).1
 have ku2 : WV.cell? ⟨bU, 2, none⟩ = some (.slice Av fl.length cv) := (qx HU.out 2 rfl).1
 have kv0 : WV.cell? ⟨bV, 0, none⟩ = some (.int .i64 m) := (qx HV.out 0 rfl).1
 have kv1 : WV.cell? ⟨bV, 1, none⟩ = some (.slice Bu pl.length du) := (qx HV.out 1 rfl).1
 have kv2 : WV.cell? ⟨bV, 2, none⟩ = some (.slice Bv fl.length dv) := (qx HV.out 2 rfl).1
 refine start_ (n := 47) (S := fun w' => w'.cell? ⟨w.heap.size, 0, none⟩ = some (.int .i64 n0) /\ w'.cell? ⟨w.heap.size, 1, none⟩ = some (.slice Ap pool.length cp) /\ w'.cell? ⟨w.heap.size, 2, none⟩ = some (.slice Af forks.length cf) /\ w'.cell? ⟨bU, 0, none⟩ = some (.int .i64 m) /\ w'.cell? ⟨bU, 1, none⟩ = some (.slice Au pl.length cu) /\ w'.cell? ⟨bU, 2, none⟩ = some (.slice Av fl.length cv) /\ w'.cell? ⟨bV, 0, none⟩ = some (.int .i64 m) /\ w'.cell? ⟨bV, 1, none⟩ = some (.slice Bu pl.length du) /\ w'.cell? ⟨bV, 2, none⟩ = some (.slice Bv fl.length dv) /\ (convert 26 9 (.slice A3 m3 c3)).run Tryz.prog w' = .ok (.string sx) w' /\ (convert 26 9 (.slice A4 m4 c4)).run Tryz.prog w' = .ok (.string sx) w') (ds := []) (bA 47 0) (by kernel_rfl) rfl rfl ⟨(qb kr0 (bd1 (Below.refl WV.heap.size WV))), (qb kr1 (bd1 (Below.refl WV.heap.size WV))), (qb kr2 (bd1 (Below.refl WV.heap.size WV))), (qb ku0 (bd1 (Below.refl WV.heap.size WV))), (qb ku1 (bd1 (Below.refl WV.heap.size WV))), (qb ku2 (bd1 (Below.refl WV.heap.size WV))), (qb kv0 (bd1 (Below.refl WV.heap.size WV))), (qb kv1 (bd1 (Below.refl WV.heap.size WV))), (qb kv2 (bd1 (Below.refl WV.heap.size WV))), (CV1.out _ (bd1 (Below.refl WV.heap.size WV))), (CV2.out _ (bd1 (Below.refl WV.heap.size WV)))⟩ (fun hHeld => ?_)
 refine pz_ 0 50 (bA 47 1) (by kernel_rfl) ?_
 refine pz_ 1 51 (bA 47 3) (by kernel_rfl) ?_
 refine tz_ 2 52 (bA 47 7) (by kernel_rfl) hHeld ?_
 refine tz_ 4 54 (bA 47 23) (by kernel_rfl) hHeld ?_
 refine one_ (i := 3) (N := some 53) (bA 47 31) rfl rfl (by kernel_rfl) (by decide) (fun K hK => ?_)
 refine goes_ Tryz.func11 (by kernel_rfl) rfl #[.agg #[.int .i64 n0, .slice Ap pool.length cp, .slice Af forks.length cf]] (by rfl) rfl rfl (by simp only [List.map_toArray, List.map_cons, List.map_nil]; rfl) ?_
 with_reducible refine (HC0.out _ (bd1 (Below.refl WV.heap.size WV))).mono ?_
 rintro e Y1 ⟨rfl, hb_⟩
 refine ⟨_, rfl, ?_⟩
 have HB_Y1 := am (qW (bd1 (Below.refl WV.heap.size WV)) hb_)
 clear hb_
 refine hK.out _ _ ⟨(qb kr0 HB_Y1.out), (qb kr1 HB_Y1.out), (qb kr2 HB_Y1.out), (qb ku0 HB_Y1.out), (qb ku1 HB_Y1.out), (qb ku2 HB_Y1.out), (qb kv0 HB_Y1.out), (qb kv1 HB_Y1.out), (qb kv2 HB_Y1.out), (CV1.out _ HB_Y1.out), (CV2.out _ HB_Y1.out)⟩ (fun hHeld => ?_)
 clear hK K
 refine nz_ 53 ?_
 refine one_ (i := 5) (N := some 55) (bA 47 63) rfl rfl (by kernel_rfl) (by decide) (fun K hK => ?_)
 refine goes_ Tryz.func12 (by kernel_rfl) rfl #[.agg #[.int .i64 n0, .slice Ap pool.length cp, .slice Af forks.length cf]] (by rfl) rfl rfl (by simp only [List.map_toArray, List.map_cons, List.map_nil]; rfl) ?_
 with_reducible refine (HC1.out _ HB_Y1.out).mono ?_
 rintro e Y2 ⟨rfl, hb_⟩
 refine ⟨_, rfl, ?_⟩
 have HB_Y2 := am (qW HB_Y1.out hb_)
 clear hb_
 refine hK.out _ _ ⟨(qb kr0 HB_Y2.out), (qb kr1 HB_Y2.out), (qb kr2 HB_Y2.out), (qb ku0 HB_Y2.out), (qb ku1 HB_Y2.out), (qb ku2 HB_Y2.out), (qb kv0 HB_Y2.out), (qb kv1 HB_Y2.out), (qb kv2 HB_Y2.out), (CV1.out _ HB_Y2.out), (CV2.out _ HB_Y2.out)⟩ (fun hHeld => ?_)
 clear hK K
 refine nz_ 55 ?_
 refine pz_ 6 56 (bA 47 127) (by kernel_rfl) ?_
 refine pz_ 7 57 (bA 47 255) (by kernel_rfl) ?_
 refine pz_ 8 58 (bA 47 511) (by kernel_rfl) ?_
 refine pz_ 9 59 (bA 47 1023) (by kernel_rfl) ?_
 refine pz_ 11 61 (bA 47 3071) (by kernel_rfl) ?_
 refine tz_ 10 60 (bA 47 4095) (by kernel_rfl) hHeld ?_
 refine tz_ 12 62 (bA 47 8191) (by kernel_rfl) hHeld ?_
 refine pz_ 13 63 (bA 47 16383) (by kernel_rfl) ?_
 refine pz_ 14 64 (bA 47 32767) (by kernel_rfl) ?_
 refine pz_ 15 65 (bA 47 65535) (by kernel_rfl) ?_
 refine pz_ 16 66 (bA 47 131071) (by kernel_rfl) ?_
 refine pz_ 17 67 (bA 47 262143) (by kernel_rfl) ?_
 refine pz_ 18 68 (bA 47 524287) (by kernel_rfl) ?_
 refine pz_ 19 69 (bA 47 1048575) (by kernel_rfl) ?_
 refine pz_ 20 70 (bA 47 2097151) (by kernel_rfl) ?_
 refine tz_ 21 71 (bA 47 4194303) (by kernel_rfl) hHeld ?_
 refine tz_ 22 72 (bA 47 8388607) (by kernel_rfl) hHeld ?_
 refine one_ (i := 23) (N := some 73) (bA 47 16777215) rfl rfl (by kernel_rfl) (by decide) (fun K hK => ?_)
 refine goes_ Tryz.func13 (by kernel_rfl) rfl #[.agg #[.int .i64 m, .slice Au pl.length cu, .slice Av fl.length cv], .agg #[.int .i64 m, .slice Bu pl.length du, .slice Bv fl.length dv]] (by rfl) rfl rfl (by simp only [List.map_toArray, List.map_cons, List.map_nil]; rfl) ?_
 with_reducible refine (HC2.out _ HB_Y2.out).mono ?_
 rintro e Y3 ⟨rfl, hb_⟩
 refine ⟨_, rfl, ?_⟩
 have HB_Y3 := am (qW HB_Y2.out hb_)
 clear hb_
 refine hK.out _ _ ⟨(qb kr0 HB_Y3.out), (qb kr1 HB_Y3.out), (qb kr2 HB_Y3.out), (qb ku0 HB_Y3.out), (qb ku1 HB_Y3.out), (qb ku2 HB_Y3.out), (qb kv0 HB_Y3.out), (qb kv1 HB_Y3.out), (qb kv2 HB_Y3.out), (CV1.out _ HB_Y3.out), (CV2.out _ HB_Y3.out)⟩ (fun hHeld => ?_)
 clear hK K
 refine nz_ 73 ?_
 refine pz_ 24 74 (bA 47 33554431) (by kernel_rfl) ?_
 refine pz_ 25 75 (bA 47 67108863) (by kernel_rfl) ?_
 refine pz_ 26 76 (bA 47 134217727) (by kernel_rfl) ?_
 refine pz_ 27 77 (bA 47 268435455) (by kernel_rfl) ?_
 refine pz_ 28 78 (bA 47 536870911) (by kernel_rfl) ?_
 refine pz_ 29 79 (bA 47 1073741823) (by kernel_rfl) ?_
 refine pz_ 30 80 (bA 47 2147483647) (by kernel_rfl) ?_
 refine pz_ 31 81 (bA 47 4294967295) (by kernel_rfl) ?_
 refine pz_ 33 83 (bA 47 12884901887) (by kernel_rfl) ?_
 refine one_ (i := 32) (N := some 82) (bA 47 17179869183) rfl rfl (by kernel_rfl) (by decide) (fun K hK => ?_)
 refine goes_ Tryz.func14 (by kernel_rfl) rfl #[.string a2] (by rfl) rfl rfl (by simp only [List.map_toArray, List.map_cons, List.map_nil]; rfl) ?_
 with_reducible refine (HC3.out _ HB_Y3.out).mono ?_
 rintro e Y4 ⟨rfl, hb_⟩
 refine ⟨_, rfl, ?_⟩
 have HB_Y4 := am (qW HB_Y3.out hb_)
 clear hb_
 refine hK.out _ _ ⟨(qb kr0 HB_Y4.out), (qb kr1 HB_Y4.out), (qb kr2 HB_Y4.out), (qb ku0 HB_Y4.out), (qb ku1 HB_Y4.out), (qb ku2 HB_Y4.out), (qb kv0 HB_Y4.out), (qb kv1 HB_Y4.out), (qb kv2 HB_Y4.out), (CV1.out _ HB_Y4.out), (CV2.out _ HB_Y4.out)⟩ (fun hHeld => ?_)
 clear hK K
 refine nz_ 82 ?_
 refine one_ (i := 34) (N := some 84) (bA 47 34359738367) rfl rfl (by kernel_rfl) (by decide) (fun K hK => ?_)
 refine goes_ Tryz.func15 (by kernel_rfl) rfl #[.string a2] (by rfl) rfl rfl (by simp only [List.map_toArray, List.map_cons, List.map_nil]; rfl) ?_
 with_reducible refine (HC4.out _ HB_Y4.out).mono ?_
 rintro e Y5 ⟨rfl, hb_⟩
 refine ⟨_, rfl, ?_⟩
 have HB_Y5 := am (qW HB_Y4.out hb_)
 clear hb_
 refine hK.out _ _ ⟨(qb kr0 HB_Y5.out), (qb kr1 HB_Y5.out), (qb kr2 HB_Y5.out), (qb ku0 HB_Y5.out), (qb ku1 HB_Y5.out), (qb ku2 HB_Y5.out), (qb kv0 HB_Y5.out), (qb kv1 HB_Y5.out), (qb kv2 HB_Y5.out), (CV1.out _ HB_Y5.out), (CV2.out _ HB_Y5.out)⟩ (fun hHeld => ?_)
 clear hK K
 refine nz_ 84 ?_
 refine pz_ 35 85 (bA 47 68719476735) (by kernel_rfl) ?_
 refine pz_ 36 86 (bA 47 137438953471) (by kernel_rfl) ?_
 refine pz_ 37 87 (bA 47 274877906943) (by kernel_rfl) ?_
 refine pz_ 39 89 (bA 47 824633720831) (by kernel_rfl) ?_
 refine pz_ 42 92 (bA 47 5222680231935) (by kernel_rfl) ?_
 refine tz_ 38 88 (bA 47 5497558138879) (by kernel_rfl) hHeld ?_
 refine tz_ 41 91 (bA 47 7696581394431) (by kernel_rfl) hHeld ?_
 refine one_ (i := 40) (N := some 90) (bA 47 8796093022207) rfl rfl (by kernel_rfl) (by decide) (fun K hK => ?_)
 refine goes_ Tryz.func16 (by kernel_rfl) rfl #[.agg #[.int .i64 n0, .slice Ap pool.length cp, .slice Af forks.length cf], .string a2] (by rfl) rfl rfl (by simp only [List.map_toArray, List.map_cons, List.map_nil]; rfl) ?_
 with_reducible refine (HC5.out _ HB_Y5.out).mono ?_
 rintro e Y6 ⟨rfl, hb_⟩
 refine ⟨_, rfl, ?_⟩
 have HB_Y6 := am (qW HB_Y5.out hb_)
 clear hb_
 refine hK.out _ _ ⟨(qb kr0 HB_Y6.out), (qb kr1 HB_Y6.out), (qb kr2 HB_Y6.out), (qb ku0 HB_Y6.out), (qb ku1 HB_Y6.out), (qb ku2 HB_Y6.out), (qb kv0 HB_Y6.out), (qb kv1 HB_Y6.out), (qb kv2 HB_Y6.out), (CV1.out _ HB_Y6.out), (CV2.out _ HB_Y6.out)⟩ (fun hHeld => ?_)
 clear hK K
 refine nz_ 90 ?_
 refine one_ (i := 43) (N := some 93) (bA 47 17592186044415) rfl rfl (by kernel_rfl) (by decide) (fun K hK => ?_)
 refine goes_ Tryz.func17 (by kernel_rfl) rfl #[.agg #[.int .i64 n0, .slice Ap pool.length cp, .slice Af forks.length cf], .string a2] (by rfl) rfl rfl (by simp only [List.map_toArray, List.map_cons, List.map_nil]; rfl) ?_
 with_reducible refine (HC6.out _ HB_Y6.out).mono ?_
 rintro e Y7 ⟨rfl, hb_⟩
 refine ⟨_, rfl, ?_⟩
 have HB_Y7 := am (qW HB_Y6.out hb_)
 clear hb_
 refine hK.out _ _ ⟨(qb kr0 HB_Y7.out), (qb kr1 HB_Y7.out), (qb kr2 HB_Y7.out), (qb ku0 HB_Y7.out), (qb ku1 HB_Y7.out), (qb ku2 HB_Y7.out), (qb kv0 HB_Y7.out), (qb kv1 HB_Y7.out), (qb kv2 HB_Y7.out), (CV1.out _ HB_Y7.out), (CV2.out _ HB_Y7.out)⟩ (fun hHeld => ?_)
 clear hK K
 refine nz_ 93 ?_
 refine pz_ 44 94 (bA 47 35184372088831) (by kernel_rfl) ?_
 refine pz_ 45 95 (bA 47 70368744177663) (by kernel_rfl) ?_
 refine pz_ 46 6 (bA 47 140737488355327) (by kernel_rfl) ?_
 refine done_ (by kernel_rfl) ?_
 have HBE := am (qW HB.out HB_Y7.out)
 go_wp2
 go_ret
 exact ⟨rfl, HBE.out⟩
end Go.Proofs.YtlfenakgphmepaaGreatDoor.Root
