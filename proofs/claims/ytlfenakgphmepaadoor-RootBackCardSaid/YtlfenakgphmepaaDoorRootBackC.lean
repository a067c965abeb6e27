/- The calls of RootBack answer true, whatever they are handed. -/
import Derived.Test.YtlfenakgphmepaaDoorRootSame
import Derived.Test.YtlfenakgphmepaaDoorRootHeadW
namespace Go.Proofs.YtlfenakgphmepaaDoor.Root
open Go.RowKit Go.Proofs.YtlfenakgphmepaaDoorW.PrintWords Go.Proofs.YtlfenakgphmepaaDoorW.PrintLast Go.Proofs.YtlfenakgphmepaaDoorW.PrintMore Go.Proofs.YtlfenakgphmepaaDoor.Conv Go.Proofs.YtlfenakgphmepaaDoor.Print Go.Proofs.YtlfenakgphmepaaDoor.Build
set_option linter.unusedVariables false
set_option linter.unusedSimpArgs false
theorem get_R_some (s : ByteArray) (hs : s.size <= 800000) {m : Int} {pl : List ByteArray} {fl : List Fk} (hg : getR s = some (m, pl, fl)) (A : Option Addr) (n c : Nat) (bs : List Int) (W : World) (hr : Kd.C (Kd.int .u8) W A n bs) (hbs : strOfNums bs = s) (hT : Tb W) :
  Calls Tryd.prog 12 #[.slice A n c] W fun r w' => Below W.heap.size W w' /\ ∃ Ap cp Af cf, r = .returned (.tuple #[.agg #[.int .i64 m, .slice Ap pl.length cp, .slice Af fl.length cf], .bool true]) /\ Kd.C Kd.string w' Ap pl.length pl /\ pl.length <= cp /\ Kd.C k40 w' Af fl.length fl /\ fl.length <= cf := by
 refine (get_R s hs A n c bs W hr hbs hT).mono ?_
 rintro r w' ⟨hb, ⟨m2, pl2, fl2, hg2, h⟩ | ⟨hg2, _⟩⟩
 ·rw [hg] at hg2
  obtain ⟨rfl, e⟩ := Prod.mk.inj (Option.some.inj hg2)
  obtain ⟨rfl, rfl⟩ := Prod.mk.inj e
  exact ⟨hb, h⟩
 ·rw [hg] at hg2
  cases hg2
theorem get_R_none (s : ByteArray) (hs : s.size <= 800000) (hg : getR s = none) (A : Option Addr) (n c : Nat) (bs : List Int) (W : World) (hr : Kd.C (Kd.int .u8) W A n bs) (hbs : strOfNums bs = s) (hT : Tb W) :
  Calls Tryd.prog 12 #[.slice A n c] W fun r w' => Below W.heap.size W w' /\ r = .returned (.tuple #[.agg #[.int .i64 0, .slice none 0 0, .slice none 0 0], .bool false]) := by
 refine (get_R s hs A n c bs W hr hbs hT).mono ?_
 rintro r w' ⟨hb, ⟨m2, pl2, fl2, hg2, h⟩ | ⟨hg2, h⟩⟩
 ·rw [hg] at hg2
  cases hg2
 ·exact ⟨hb, h⟩
theorem same_calls {n1 n2 : Int} {p1 p2 : List ByteArray} {a b : List Fk} (hL : LenR p1 a) (bo : Bool) (hb : bo = true <-> (n1, p1, a) = (n2, p2, b)) (A1 : Option Addr) (c1 : Nat) (A2 : Option Addr) (c2 : Nat) (B1 : Option Addr) (d1 : Nat) (B2 : Option Addr) (d2 : Nat) (W : World)
  (h1 : Kd.C Kd.string W A1 p1.length p1) (l1 : p1.length <= c1) (h2 : Kd.C k40 W A2 a.length a) (l2 : a.length <= c2) (h3 : Kd.C Kd.string W B1 p2.length p2) (l3 : p2.length <= d1) (h4 : Kd.C k40 W B2 b.length b) (l4 : b.length <= d2) :
  Calls Tryd.prog 13 #[.agg #[.int .i64 n1, .slice A1 p1.length c1, .slice A2 a.length c2], .agg #[.int .i64 n2, .slice B1 p2.length d1, .slice B2 b.length d2]] W fun e w' => e = .returned (.bool bo) /\ Below W.heap.size W w' := by
 obtain ⟨k, r, hr, hq⟩ := same_eq n1 n2 p1 p2 a b hL
 have e : r = bo := Bool.eq_iff_iff.2 (hq.trans hb.symm)
 subst e
 exact sacristyref10_Same.calls k n1 A1 c1 p1 A2 c2 a n2 B1 d1 p2 B2 d2 b r W h1 l1 h2 l2 h3 l3 h4 l4 hr
theorem same_zero (W : World) : Calls Tryd.prog 13 #[.agg #[.int .i64 0, .slice none 0 0, .slice none 0 0], .agg #[.int .i64 0, .slice none 0 0, .slice none 0 0]] W fun e w' => e = .returned (.bool true) /\ Below W.heap.size W w' :=
 same_calls (n1 := 0) (n2 := 0) (p1 := []) (p2 := []) (a := []) (b := []) ⟨by decide, by decide, fun g hg => absurd hg List.not_mem_nil⟩ true ⟨fun _ => rfl, fun _ => rfl⟩ none 0 none 0 none 0 none 0 W (Kd.C_nil _ _) (Nat.le_refl _) (Kd.C_nil _ _) (Nat.le_refl _) (Kd.C_nil _ _) (Nat.le_refl _) (Kd.C_nil _ _) (Nat.le_refl _)
theorem str_size (l : List Int) : (strOfNums l).size = l.length := by simp [strOfNums, ByteArray.size]
set_option maxRecDepth 100000 in
set_option maxHeartbeats 16000000 in
theorem RootBack_core {w : World} (htab : Lib.TabIs Tryd.prog w "internal/strconv.uint64pow10" .u64 Lib.pow10Tab)
  (n0 : Int) (Ap : Option Addr) (cp : Nat) (pool : List ByteArray) (hrp : Kd.C Kd.string w Ap pool.length pool) (hcp : pool.length <= cp) (Af : Option Addr) (cf : Nat) (forks : List Fk) (hrf : Kd.C k40 w Af forks.length forks) (hcf : forks.length <= cf) (hok : okRoot (n0, pool, forks))
  (A1 : Option Addr) (c1 : Nat) (l1 : List Int) (hr1 : Kd.C (Kd.int .u8) w A1 l1.length l1) (hc1 : l1.length <= c1) (hm1 : l1.length <= maxLen) (hp1 : ∀ x ∈ l1, (Lit.int .u8 x).wf = true) :
  Calls Tryd.prog 3 #[.agg #[.int .i64 n0, .slice Ap pool.length cp, .slice Af forks.length cf], .slice A1 l1.length c1] w fun e w' => e = .returned (.bool true) /\ Below w.heap.size w w' := by
 obtain ⟨kg, g, hgr, hsm⟩ := great_eq hok
 have HTB := Asd.mk (show Tb w from Lib.tabBelow_of_tabIs htab)
 have HG := Asd.mk hgr
 have HSM := Asd.mk hsm
 have HRP := Asd.mk hrp
 have HRF := Asd.mk hrf
 have HCP := Asd.mk hcp
 have HCF := Asd.mk hcf
 have HR1 := Asd.mk hr1
 have HC1 := Asd.mk hc1
 have HB0 := Asd.mk (bal (Below.refl w.heap.size w) (.cells #[.int .i64 n0, .slice Ap pool.length cp, .slice Af forks.length cf] 25))
 have HX0 := Asd.mk (heap_alloc_new w (.cells #[.int .i64 n0, .slice Ap pool.length cp, .slice Af forks.length cf] 25))
 clear htab hrp hcp hrf hcf hok hgr hsm hr1 hc1 hm1 hp1
 go_enter Tryd.func3, Tryd.ntmps3
 go_upto_region 2 with (go_at_call 8; with_reducible refine (head_calls (HTB.out.below HB0.out)).mono ?_; rintro e W1 ⟨rfl, hb⟩; have HX := Asd.mk (below_box hb HX0.out); have HB := Asd.mk (below_step HB0.out hb); clear hb HB0 HX0)
 have kr0 : W1.cell? ⟨w.heap.size, 0, none⟩ = some (.int .i64 n0) := (box_cell HX.out 0 rfl).1
 have kr1 : W1.cell? ⟨w.heap.size, 1, none⟩ = some (.slice Ap pool.length cp) := (box_cell HX.out 1 rfl).1
 have kr2 : W1.cell? ⟨w.heap.size, 2, none⟩ = some (.slice Af forks.length cf) := (box_cell HX.out 2 rfl).1
 cases g with
 | true =>
  go_wp2_with (go_at_call 9; with_reducible refine (sacristylaw10_Great.calls kg n0 Ap cp pool Af cf forks true _ (Kd.C_below HRP.out HB.out) HCP.out (Kd.C_below HRF.out HB.out) HCF.out HG.out).mono ?_; rintro e W2 ⟨rfl, hb⟩; replace HB := Asd.mk (below_step HB.out hb); replace HX := Asd.mk (below_box hb HX.out); have ks0 : W2.cell? ⟨w.heap.size, 0, none⟩ = some (.int .i64 n0) := (box_cell HX.out 0 rfl).1; have ks1 : W2.cell? ⟨w.heap.size, 1, none⟩ = some (.slice Ap pool.length cp) := (box_cell HX.out 1 rfl).1; have ks2 : W2.cell? ⟨w.heap.size, 2, none⟩ = some (.slice Af forks.length cf) := (box_cell HX.out 2 rfl).1; clear hb)
  go_ret
  exact ⟨rfl, HB.out⟩
 | false =>
 have hs := HSM.out rfl
 have HS := Asd.mk hs
 have HRT := Asd.mk (fun (W' : World) (hb : Below w.heap.size w W') => root_Right.calls 3000000 n0 Ap cp pool Af cf forks (rootF n0 pool forks) W' (Kd.C_below HRP.out hb) HCP.out (Kd.C_below HRF.out hb) HCF.out hs.sm.right)
 clear hs HSM
 by_cases g1 : (20000 : Int) < (l1.length : Int)
 ·have d1 : decide ((20000 : Int) < (l1.length : Int)) = true := decide_eq_true g1
  go_wp2_with (go_at_call 9; with_reducible refine (sacristylaw10_Great.calls kg n0 Ap cp pool Af cf forks false _ (Kd.C_below HRP.out HB.out) HCP.out (Kd.C_below HRF.out HB.out) HCF.out HG.out).mono ?_; rintro e W2 ⟨rfl, hb⟩; replace HB := Asd.mk (below_step HB.out hb); replace HX := Asd.mk (below_box hb HX.out); have ks0 : W2.cell? ⟨w.heap.size, 0, none⟩ = some (.int .i64 n0) := (box_cell HX.out 0 rfl).1; have ks1 : W2.cell? ⟨w.heap.size, 1, none⟩ = some (.slice Ap pool.length cp) := (box_cell HX.out 1 rfl).1; have ks2 : W2.cell? ⟨w.heap.size, 2, none⟩ = some (.slice Af forks.length cf) := (box_cell HX.out 2 rfl).1; clear hb)
  go_ret
  exact ⟨rfl, HB.out⟩
 have d1 : decide ((20000 : Int) < (l1.length : Int)) = false := decide_eq_false g1
 obtain ⟨s1, hs1⟩ : ∃ s1, strOfNums l1 = s1 := ⟨_, rfl⟩
 have HZB : Asd (s1.size <= 800000) := ⟨by rw [<- hs1, str_size]; omega⟩
 have HS1 := Asd.mk hs1
 clear g1 hs1
 go_upto_region 4 with (go_at_call 9; with_reducible refine (sacristylaw10_Great.calls kg n0 Ap cp pool Af cf forks false _ (Kd.C_below HRP.out HB.out) HCP.out (Kd.C_below HRF.out HB.out) HCF.out HG.out).mono ?_; rintro e W2 ⟨rfl, hb⟩; replace HB := Asd.mk (below_step HB.out hb); replace HX := Asd.mk (below_box hb HX.out); have ks0 : W2.cell? ⟨w.heap.size, 0, none⟩ = some (.int .i64 n0) := (box_cell HX.out 0 rfl).1; have ks1 : W2.cell? ⟨w.heap.size, 1, none⟩ = some (.slice Ap pool.length cp) := (box_cell HX.out 1 rfl).1; have ks2 : W2.cell? ⟨w.heap.size, 2, none⟩ = some (.slice Af forks.length cf) := (box_cell HX.out 2 rfl).1; clear hb)
 clear HG d1 kr0 kr1 kr2
 cases hR : rootF n0 pool forks with
 | false =>
  rw [hR] at HRT
  have HPN := Asd.mk (put_R_no HS.out.sm hR Ap cp Af cf W2 (Kd.C_below HRP.out HB.out) HCP.out (Kd.C_below HRF.out HB.out) HCF.out)
  clear hR
  go_upto_region 11 with (first
   | (go_at_call 10; with_reducible refine HPN.out.mono ?_; rintro e W3 ⟨rfl, hb⟩; replace HB := Asd.mk (below_step HB.out hb); replace HX := Asd.mk (below_box hb HX.out); have kt0 : W3.cell? ⟨w.heap.size, 0, none⟩ = some (.int .i64 n0) := (box_cell HX.out 0 rfl).1; have kt1 : W3.cell? ⟨w.heap.size, 1, none⟩ = some (.slice Ap pool.length cp) := (box_cell HX.out 1 rfl).1; have kt2 : W3.cell? ⟨w.heap.size, 2, none⟩ = some (.slice Af forks.length cf) := (box_cell HX.out 2 rfl).1; clear hb)
   | (go_at_call 11; with_reducible refine (HRT.out _ HB.out).mono ?_; rintro e W4 ⟨rfl, hb⟩; replace HB := Asd.mk (below_step HB.out hb); replace HX := Asd.mk (below_box hb HX.out); clear hb))
  clear HPN HRT ks0 ks1 ks2
  have hBt := HB.out
  cases hg : getR s1 with
  | none =>
   have HGB := Asd.mk (get_R_none s1 HZB.out hg A1 l1.length c1 l1 W4 (Kd.C_below HR1.out hBt) HS1.out (HTB.out.below hBt))
   clear hg hBt
   go_upto_region 12 with (go_at_call 12; with_reducible refine HGB.out.mono ?_; rintro r W6 ⟨hb6, rfl⟩; replace HB := Asd.mk (below_step HB.out hb6); clear hb6)
   generalize hW6 : World.alloc _ _ = W6b
   have hb6b : Below W6.heap.size W6 W6b := by rw [<- hW6]; exact bal (Below.refl _ _) _
   have hx6 : W6b.heap[W6.heap.size]? = some (.cells #[.int .i64 0, .slice none 0 0, .slice none 0 0] 25 (0, 0)) := by rw [<- hW6]; exact heap_alloc_new _ _
   have ku0 : W6b.cell? ⟨W6.heap.size, 0, none⟩ = some (.int .i64 0) := (box_cell hx6 0 rfl).1
   have ku1 : W6b.cell? ⟨W6.heap.size, 1, none⟩ = some (.slice none 0 0) := (box_cell hx6 1 rfl).1
   have ku2 : W6b.cell? ⟨W6.heap.size, 2, none⟩ = some (.slice none 0 0) := (box_cell hx6 2 rfl).1
   have HB6 := Asd.mk (below_step HB.out hb6b)
   clear hW6 hb6b hx6 HB
   go_wp2_with (go_at_call 13; with_reducible refine (same_zero _).mono ?_; rintro e W8 ⟨rfl, hb8⟩; replace HB6 := Asd.mk (below_step HB6.out hb8); clear hb8)
   go_ret
   exact ⟨rfl, HB6.out⟩
  | some u =>
   obtain ⟨m, pl, fl⟩ := u
   obtain ⟨hur, hut⟩ := getR_out hg
   have HGB := Asd.mk (get_R_some s1 HZB.out hg A1 l1.length c1 l1 W4 (Kd.C_below HR1.out hBt) HS1.out (HTB.out.below hBt))
   have HUR := Asd.mk hur
   have HUT := Asd.mk hut
   clear hg hBt hur hut
   go_upto_region 12 with (go_at_call 12; with_reducible refine HGB.out.mono ?_; rintro r W6 ⟨hb6, Au, cu, Av, cv, rfl, hpu, hcu, hfv, hcv⟩; replace HB := Asd.mk (below_step HB.out hb6); have HPU := Asd.mk hpu; have HCU := Asd.mk hcu; have HFV := Asd.mk hfv; have HCV := Asd.mk hcv; clear hb6 hpu hcu hfv hcv)
   generalize hW6 : World.alloc _ _ = W6b
   have hb6b : Below W6.heap.size W6 W6b := by rw [<- hW6]; exact bal (Below.refl _ _) _
   have hx6 : W6b.heap[W6.heap.size]? = some (.cells #[.int .i64 m, .slice Au pl.length cu, .slice Av fl.length cv] 25 (0, 0)) := by rw [<- hW6]; exact heap_alloc_new _ _
   have ku0 : W6b.cell? ⟨W6.heap.size, 0, none⟩ = some (.int .i64 m) := (box_cell hx6 0 rfl).1
   have ku1 : W6b.cell? ⟨W6.heap.size, 1, none⟩ = some (.slice Au pl.length cu) := (box_cell hx6 1 rfl).1
   have ku2 : W6b.cell? ⟨W6.heap.size, 2, none⟩ = some (.slice Av fl.length cv) := (box_cell hx6 2 rfl).1
   have hB6 := below_step HB.out hb6b
   have HPT := Asd.mk (put_R (right_sm HUR.out) HUR.out Au cu Av cv W6b (Kd.C_below HPU.out hb6b) HCU.out (Kd.C_below HFV.out hb6b) HCV.out (HTB.out.below hB6))
   have HB6 := Asd.mk hB6
   clear hW6 hb6b hx6 HB hB6
   go_upto_region 15 with (go_at_call 10; refine HPT.out.mono ?_; rintro e W8 ⟨v8, rfl, ⟨A8, c8, rfl, hl8, hF8⟩, hb8⟩; have HF8 := Asd.mk hF8; replace HB6 := Asd.mk (below_step HB6.out hb8); clear hl8 hF8 hb8)
   generalize hb8 : bytesOf (textR m pl fl) = b8 at HF8 ⊢
   have hs8 : strOfNums b8 = s1 := by rw [<- hb8, strOf_bytesOf, HUT.out]
   have kc1 := Kd.C_string (P := Tryd.prog) (src := 26) (dst := 9) (c := c8) Tryd.underlying26 Tryd.underlying5 Tryd.underlying9 (Kd.F_now HF8.out)
   have kc2 := Kd.C_string (P := Tryd.prog) (src := 26) (dst := 9) (c := c1) Tryd.underlying26 Tryd.underlying5 Tryd.underlying9 (Kd.C_below HR1.out HB6.out)
   rw [hs8] at kc1
   rw [HS1.out] at kc2
   clear HPT HGB HF8 hb8 hs8
   go_wp2
   go_ret
   exact ⟨rfl, HB6.out⟩
 | true =>
  rw [hR] at HRT
  have HPT := Asd.mk (put_R HS.out.sm hR Ap cp Af cf W2 (Kd.C_below HRP.out HB.out) HCP.out (Kd.C_below HRF.out HB.out) HCF.out (HTB.out.below HB.out))
  have HR := Asd.mk hR
  clear hR
  go_upto_region 5 with (go_at_call 10; refine HPT.out.mono ?_; rintro e W3 ⟨v3, rfl, ⟨A3, c3, rfl, hl3, hF3⟩, hb⟩; have HF3 := Asd.mk hF3; replace HB := Asd.mk (below_step HB.out hb); replace HX := Asd.mk (below_box hb HX.out); have kt0 : W3.cell? ⟨w.heap.size, 0, none⟩ = some (.int .i64 n0) := (box_cell HX.out 0 rfl).1; have kt1 : W3.cell? ⟨w.heap.size, 1, none⟩ = some (.slice Ap pool.length cp) := (box_cell HX.out 1 rfl).1; have kt2 : W3.cell? ⟨w.heap.size, 2, none⟩ = some (.slice Af forks.length cf) := (box_cell HX.out 2 rfl).1; clear hb hl3 hF3)
  clear HPT ks0 ks1 ks2
  generalize hbt : bytesOf (textR n0 pool forks) = bt3 at HF3 ⊢
  have HBT : Asd (strOfNums bt3 = textR n0 pool forks) := ⟨by rw [<- hbt, strOf_bytesOf]⟩
  clear hbt
  have HGX := Asd.mk (fun (W' : World) (hb : Below W3.heap.size W3 W') (hT : Tb W') => get_R_some (textR n0 pool forks) (by have := textR_size HR.out; omega) (getR_read HR.out) A3 bt3.length c3 bt3 W' (Kd.F_now (Kd.F_below HF3.out hb)) HBT.out hT)
  have HBC := Asd.mk (Below.refl W3.heap.size W3)
  go_upto_region 9 with (first
   | (go_at_call 11; with_reducible refine (HRT.out _ HB.out).mono ?_; rintro e W4 ⟨rfl, hb⟩; replace HB := Asd.mk (below_step HB.out hb); replace HBC := Asd.mk (below_step HBC.out hb); replace HX := Asd.mk (below_box hb HX.out); clear hb)
   | (go_at_call 12; with_reducible refine (HGX.out _ HBC.out (HTB.out.below HB.out)).mono ?_; rintro r W5 ⟨hb5, Au, cu, Av, cv, rfl, hpu, hcu, hfv, hcv⟩; replace HB := Asd.mk (below_step HB.out hb5); replace HX := Asd.mk (below_box hb5 HX.out); have HPU := Asd.mk hpu; have HCU := Asd.mk hcu; have HFV := Asd.mk hfv; have HCV := Asd.mk hcv; clear hb5 hpu hcu hfv hcv))
  generalize hW5 : World.alloc _ _ = W5b
  have hb5b : Below W5.heap.size W5 W5b := by rw [<- hW5]; exact bal (Below.refl _ _) _
  have hx5 : W5b.heap[W5.heap.size]? = some (.cells #[.int .i64 n0, .slice Au pool.length cu, .slice Av forks.length cv] 25 (0, 0)) := by rw [<- hW5]; exact heap_alloc_new _ _
  have ku0 : W5b.cell? ⟨W5.heap.size, 0, none⟩ = some (.int .i64 n0) := (box_cell hx5 0 rfl).1
  have ku1 : W5b.cell? ⟨W5.heap.size, 1, none⟩ = some (.slice Au pool.length cu) := (box_cell hx5 1 rfl).1
  have ku2 : W5b.cell? ⟨W5.heap.size, 2, none⟩ = some (.slice Av forks.length cv) := (box_cell hx5 2 rfl).1
  replace HB := Asd.mk (below_step HB.out hb5b)
  replace HX := Asd.mk (below_box hb5b HX.out)
  have kv0 : W5b.cell? ⟨w.heap.size, 0, none⟩ = some (.int .i64 n0) := (box_cell HX.out 0 rfl).1
  have kv1 : W5b.cell? ⟨w.heap.size, 1, none⟩ = some (.slice Ap pool.length cp) := (box_cell HX.out 1 rfl).1
  have kv2 : W5b.cell? ⟨w.heap.size, 2, none⟩ = some (.slice Af forks.length cf) := (box_cell HX.out 2 rfl).1
  have HSA := Asd.mk (same_calls (right_len HR.out) true ⟨fun _ => rfl, fun _ => rfl⟩ Au cu Av cv Ap cp Af cf W5b (Kd.C_below HPU.out hb5b) HCU.out (Kd.C_below HFV.out hb5b) HCV.out (Kd.C_below HRP.out HB.out) HCP.out (Kd.C_below HRF.out HB.out) HCF.out : Calls _ _ #[.agg #[.int .i64 n0, .slice Au pool.length cu, .slice Av forks.length cv], .agg #[.int .i64 n0, .slice Ap pool.length cp, .slice Af forks.length cf]] W5b _)
  clear hW5 hb5b hx5 HGX HBC HRT HF3 HBT HPU HCU HFV HCV
  go_upto_region 11 with (go_at_call 13; with_reducible refine HSA.out.mono ?_; rintro e W7 ⟨rfl, hb⟩; replace HB := Asd.mk (below_step HB.out hb); replace HX := Asd.mk (below_box hb HX.out); clear hb)
  clear HSA ku0 ku1 ku2 kv0 kv1 kv2
  have hBt := HB.out
  cases hg : getR s1 with
  | none =>
   have HGB := Asd.mk (get_R_none s1 HZB.out hg A1 l1.length c1 l1 W7 (Kd.C_below HR1.out hBt) HS1.out (HTB.out.below hBt))
   clear hg hBt
   go_upto_region 12 with (go_at_call 12; with_reducible refine HGB.out.mono ?_; rintro r W6 ⟨hb6, rfl⟩; replace HB := Asd.mk (below_step HB.out hb6); clear hb6)
   generalize hW6 : World.alloc _ _ = W6b
   have hb6b : Below W6.heap.size W6 W6b := by rw [<- hW6]; exact bal (Below.refl _ _) _
   have hx6 : W6b.heap[W6.heap.size]? = some (.cells #[.int .i64 0, .slice none 0 0, .slice none 0 0] 25 (0, 0)) := by rw [<- hW6]; exact heap_alloc_new _ _
   have ku0 : W6b.cell? ⟨W6.heap.size, 0, none⟩ = some (.int .i64 0) := (box_cell hx6 0 rfl).1
   have ku1 : W6b.cell? ⟨W6.heap.size, 1, none⟩ = some (.slice none 0 0) := (box_cell hx6 1 rfl).1
   have ku2 : W6b.cell? ⟨W6.heap.size, 2, none⟩ = some (.slice none 0 0) := (box_cell hx6 2 rfl).1
   have HB6 := Asd.mk (below_step HB.out hb6b)
   clear hW6 hb6b hx6 HB
   go_wp2_with (go_at_call 13; with_reducible refine (same_zero _).mono ?_; rintro e W8 ⟨rfl, hb8⟩; replace HB6 := Asd.mk (below_step HB6.out hb8); clear hb8)
   go_ret
   exact ⟨rfl, HB6.out⟩
  | some u =>
   obtain ⟨m, pl, fl⟩ := u
   obtain ⟨hur, hut⟩ := getR_out hg
   have HGB := Asd.mk (get_R_some s1 HZB.out hg A1 l1.length c1 l1 W7 (Kd.C_below HR1.out hBt) HS1.out (HTB.out.below hBt))
   have HUR := Asd.mk hur
   have HUT := Asd.mk hut
   clear hg hBt hur hut
   go_upto_region 12 with (go_at_call 12; with_reducible refine HGB.out.mono ?_; rintro r W6 ⟨hb6, Au, cu, Av, cv, rfl, hpu, hcu, hfv, hcv⟩; replace HB := Asd.mk (below_step HB.out hb6); have HPU := Asd.mk hpu; have HCU := Asd.mk hcu; have HFV := Asd.mk hfv; have HCV := Asd.mk hcv; clear hb6 hpu hcu hfv hcv)
   generalize hW6 : World.alloc _ _ = W6b
   have hb6b : Below W6.heap.size W6 W6b := by rw [<- hW6]; exact bal (Below.refl _ _) _
   have hx6 : W6b.heap[W6.heap.size]? = some (.cells #[.int .i64 m, .slice Au pl.length cu, .slice Av fl.length cv] 25 (0, 0)) := by rw [<- hW6]; exact heap_alloc_new _ _
   have ku0 : W6b.cell? ⟨W6.heap.size, 0, none⟩ = some (.int .i64 m) := (box_cell hx6 0 rfl).1
   have ku1 : W6b.cell? ⟨W6.heap.size, 1, none⟩ = some (.slice Au pl.length cu) := (box_cell hx6 1 rfl).1
   have ku2 : W6b.cell? ⟨W6.heap.size, 2, none⟩ = some (.slice Av fl.length cv) := (box_cell hx6 2 rfl).1
   have hB6 := below_step HB.out hb6b
   have HPT := Asd.mk (put_R (right_sm HUR.out) HUR.out Au cu Av cv W6b (Kd.C_below HPU.out hb6b) HCU.out (Kd.C_below HFV.out hb6b) HCV.out (HTB.out.below hB6))
   have HB6 := Asd.mk hB6
   clear hW6 hb6b hx6 HB hB6
   go_upto_region 15 with (go_at_call 10; refine HPT.out.mono ?_; rintro e W8 ⟨v8, rfl, ⟨A8, c8, rfl, hl8, hF8⟩, hb8⟩; have HF8 := Asd.mk hF8; replace HB6 := Asd.mk (below_step HB6.out hb8); clear hl8 hF8 hb8)
   generalize hb8 : bytesOf (textR m pl fl) = b8 at HF8 ⊢
   have hs8 : strOfNums b8 = s1 := by rw [<- hb8, strOf_bytesOf, HUT.out]
   have kc1 := Kd.C_string (P := Tryd.prog) (src := 26) (dst := 9) (c := c8) Tryd.underlying26 Tryd.underlying5 Tryd.underlying9 (Kd.F_now HF8.out)
   have kc2 := Kd.C_string (P := Tryd.prog) (src := 26) (dst := 9) (c := c1) Tryd.underlying26 Tryd.underlying5 Tryd.underlying9 (Kd.C_below HR1.out HB6.out)
   rw [hs8] at kc1
   rw [HS1.out] at kc2
   clear HPT HGB HF8 hb8 hs8
   go_wp2
   go_ret
   exact ⟨rfl, HB6.out⟩
end Go.Proofs.YtlfenakgphmepaaDoor.Root
