/- A talk with one who fetches: Take. -/
import Derived.Test.YtaadhjpcdnbbeaaGreatDoorServeIdx
namespace Go.Proofs.YtaadhjpcdnbbeaaGreatDoor.Serve
open Go.RowKit Go.Proofs.YtaadhjpcdnbbeaaGreatDoorW.PrintWords Go.Proofs.YtaadhjpcdnbbeaaGreatDoorW.PrintLast Go.Proofs.YtaadhjpcdnbbeaaGreatDoorW.PrintMore Go.Proofs.YtaadhjpcdnbbeaaGreatDoor.Conv Go.Proofs.YtaadhjpcdnbbeaaGreatDoor.Print Go.Proofs.YtaadhjpcdnbbeaaGreatDoor.Line
set_option linter.unusedVariables false
set_option linter.unusedSimpArgs false
attribute [local go_sem] max2_int min2_int max_two min_two
def askR (x : List Ln) : List ByteArray × List ByteArray × Bool := (hello_Asked.f 6000000 x).getD ([], [], false)
def errT (n : Int) : List Int := errB ((num_Text.f n).getD ⟨#[]⟩)
theorem text3 : num_Text.f 3 = some ⟨#[51]⟩ := by kernel_rfl
theorem errT3 : errT 3 = errB ⟨#[51]⟩ := by unfold errT; rw [text3]; rfl
theorem chain {W W3 W4 : World} {own : Nat -> Prop} {g : Nat} {s : St} (h : IsS W4 (more (more own W W3) W3 W4) g s) (hk : Keeps W W3 own) (hk4 : Keeps W3 W4 (more own W W3)) : IsS W4 (more own W W4) g s /\ Keeps W W4 own := by
 have z1 := hk.size
 have z2 := hk4.size
 exact ⟨h.mono (more_trans z1 z2) (fun k e => by
  rcases e with e | e
  ·exact h.own_lt k (Or.inl (Or.inl e))
  ·exact e.2), hk.trans hk4⟩
theorem grown_own {W W3 W5 : World} {own : Nat -> Prop} {g : Nat} {s : St} (h : IsS W3 (more own W W3) g s) (hk : Keeps W W3 own) (hb : Below W3.heap.size W3 W5) : IsS W5 (more own W W5) g s /\ Keeps W W5 own := by
 have z1 := hk.size
 have z2 := hb.size
 refine ⟨(h.below hb).mono ?_ ?_, hk.trans (Keeps.of_below hb)⟩
 ·rintro k (e | e)
  ·exact Or.inl e
  ·exact Or.inr ⟨e.1, by omega⟩
 ·rintro k (e | e)
  ·have := h.own_lt k (Or.inl e)
   omega
  ·exact e.2
theorem chain2 {W W3 W7 W8 : World} {own : Nat -> Prop} {g : Nat} {s t : St} (h0 : IsS W3 (more own W W3) g s) (h : IsS W8 (more (more own W W3) W7 W8) g t) (hk : Keeps W W3 own) (hb : Below W3.heap.size W3 W7) (hk8 : Keeps W7 W8 (more own W W3)) : IsS W8 (more own W W8) g t /\ Keeps W W8 own := by
 have z1 := hk.size
 have z2 := hb.size
 have z3 := hk8.size
 refine ⟨h.mono ?_ ?_, (hk.trans (Keeps.of_below hb)).trans (hk8.mono ?_)⟩
 ·rintro k ((e | e) | e)
  ·exact Or.inl e
  ·exact Or.inr ⟨e.1, by omega⟩
  ·exact Or.inr ⟨by omega, e.2⟩
 ·rintro k (e | e)
  ·have := h0.own_lt k (Or.inl e)
   omega
  ·exact e.2
 ·rintro k (e | e)
  ·exact Or.inl e
  ·exact Or.inr ⟨e.1, by omega⟩
theorem askR_eq (x : List Ln) (hl : x.length <= 1000000) (hs : ∀ y ∈ x, y.f1.size <= 100000) : hello_Asked.f 6000000 x = some ((askR x).1, (askR x).2.1, (askR x).2.2) := by
 obtain ⟨r, hr, _⟩ := Hello.asked_eq x hl hs (k := 6000000) (by omega)
 unfold askR
 rw [hr]
 rfl
theorem cut_facts (b : List Int) (hB : Bytes b) (us : List Ln) (ps : List Int) (ge : Int) (h : cutF b = (us, ps, ge)) : (ge = 0 ∨ (ge = 3 /\ us = [] /\ ps = [])) /\ us.length <= b.length /\ (∀ y ∈ us, y.f1.size <= 4000) /\ ps.length <= b.length := by
 unfold cutF at h
 have f := cutB_facts b hB
 by_cases c : (cutB b).2.2 = 0
 ·rw [if_pos c] at h
  obtain ⟨h1, h2, h3⟩ := (show (cutB b).1 = us /\ (cutB b).2.1 = ps /\ (0 : Int) = ge by simpa using h)
  have hk := (cutB_back b hB c).1
  rw [<- h1, <- h2]
  exact ⟨Or.inl h3.symm, by omega, fun y hy => okL_size (List.all_eq_true.1 hk y hy), f.2.1⟩
 ·rw [if_neg c] at h
  obtain ⟨h1, h2, h3⟩ := (show ([] : List Ln) = us /\ ([] : List Int) = ps /\ (3 : Int) = ge by simpa using h)
  rw [<- h1, <- h2]
  exact ⟨Or.inr ⟨h3.symm, rfl, rfl⟩, by simp, by simp, by simp⟩
set_option maxRecDepth 100000 in
set_option maxHeartbeats 4000000 in
theorem take_calls {W : World} {own : Nat -> Prop} {g : Nat} {s : St} (hs : IsS W own g s) (hst : s.st = 0 ∨ s.st = 1 ∨ s.st = 2) (A : Option Addr) (c : Nat) (b : List Int) (hr : Kd.C (Kd.int .u8) W A b.length b) (hc : b.length <= c) (hB : Bytes s.came) (hBb : Bytes b) (hz : s.came.length + b.length <= 20000) (hz2 : s.send.length <= 100000000) :
  Calls Tryz.prog 8 #[.pointer (some ⟨g, 0, none⟩), .slice A b.length c] W fun e w' => e = .returned (.tuple #[]) /\ IsS w' (more own W w') g (takeS askR errT s b) /\ Keeps W w' own := by
 have HS := Asd.mk hs
 have HBs := Asd.mk hB
 have HBb := Asd.mk hBb
 have HR := Asd.mk hr
 have HZ := Asd.mk hz
 have HZ2 := Asd.mk hz2
 have HZ3 := Asd.mk (show (s.came.length + b.length) * 1 <= 140737488355328 by omega)
 obtain ⟨vc, vs, aw, cw, ah, ch, hb, ⟨hvc, hvs⟩, ⟨h1, h2, h3, h4⟩, h5, ⟨h6, h7⟩⟩ := hs
 have HB := Asd.mk hb
 have HVC := Asd.mk hvc
 have HVS := Asd.mk hvs
 have H1 := Asd.mk h1
 have H2 := Asd.mk h2
 have H4 := Asd.mk h4
 have H6 := Asd.mk h6
 have H7 := Asd.mk h7
 have H3 := Asd.mk h3
 have H5 := Asd.mk h5
 obtain ⟨k0, f0⟩ := box_cell hb 0 rfl
 clear hb hvc hvs h1 h2 h3 h4 h5 h6 h7 hr hB hBb hz hz2
 go_enter Tryz.func8, Tryz.ntmps8
 go_upto_region 1 with ((with_reducible refine gate_builtin (b := .append) (xs := #[.tmp 14, .tmp 15]) rfl ?_); at_builtin; refine Kd.R_append_rows (Kd.int .u8) (w0 := W) 0 rfl (.tmp 14) (.tmp 15) 22 5 (.int .u8 0) 1 rfl Tryz.underlying22 info5 rfl (by decide) (by omega) vc s.came b A b.length c (fun _ => True) (fun _ => False) rfl rfl HVC.out HR.out (fun _ _ h => h) (fun _ h => h.elim) (fun _ _ => trivial) (Below.refl _ _) (Nat.zero_le _) HZ3.out ?_; intro v2 W2 ho2 hb2 hg hat; obtain ⟨A2, c2, rfl⟩ := Kd.R_slice ho2; have HO2 := Asd.mk ho2; have HG := Asd.mk hg; have HAT := Asd.mk hat; clear ho2 hb2 hat k0 f0; obtain ⟨k0, f0⟩ := box_cell (grown_box HG.out HB.out (fun e => (H1.out g e.symm).1 rfl)) 0 rfl; clear hg)
 clear k0 f0
 have ho3 := HO2.out
 have hat3 := HAT.out
 rw [List.length_append] at ho3 hat3
 obtain ⟨hI, hK⟩ := camed HB.out HVS.out H1.out H2.out H3.out H4.out H5.out H6.out H7.out (Below.refl _ _) HG.out ho3 hat3
 clear HB HVC HVS H1 H2 H4 H6 H7 H3 H5 HG HO2 HAT ho3 hat3
 generalize hW3 : W2.setCell ⟨g, 0, none⟩ (.slice A2 (s.came.length + b.length) c2) = W3 at hI hK ⊢
 clear hW3
 obtain ⟨k4, f4⟩ := hI.cells
 have HI := Asd.mk hI
 have HK := Asd.mk hK
 clear hI hK f4
 rcases hst with h | h | h
 ·have e0 : takeS askR errT s b = hearS askR errT { s with came := s.came ++ b } := by unfold takeS; rw [if_neg (by rw [h]; decide), if_pos h]
  have HE := Asd.mk e0
  clear e0
  replace k4 : W3.cell? ⟨g, 4, none⟩ = some (.int .i64 0) := by rw [<- h]; exact k4
  obtain ⟨s1, hs1⟩ : ∃ s1 : St, s1 = { s with came := s.came ++ b } := ⟨_, rfl⟩
  have q1 : s1.st = 0 := by rw [hs1]; exact h
  have q2 : s1.came.length <= 20000 := by rw [hs1]; show (s.came ++ b).length <= 20000; rw [List.length_append]; exact HZ.out
  have q3 : Bytes s1.came := by rw [hs1]; exact HBs.out.append HBb.out
  have q4 : s1.send.length <= 100000000 := by rw [hs1]; exact HZ2.out
  rw [<- hs1] at HI HE
  clear hs1 HZ HBs HBb HZ2 HZ3 HS
  obtain ⟨Ac, cc, kc, hCc, hcc⟩ := HI.out.came_cell
  obtain ⟨us, ps, ge, hcut⟩ : ∃ us ps ge, cutF s1.came = (us, ps, ge) := ⟨_, _, _, rfl⟩
  have HCUT := Asd.mk (line_Cut.calls 400000 Ac cc s1.came us ps ge W3 hCc hcc ((cut_eq s1.came q3 (by omega) (by omega)).trans (congrArg some hcut)))
  have hfacts := cut_facts s1.came q3 us ps ge hcut
  have HQ := Asd.mk (And.intro q1 (And.intro q2 (And.intro q3 q4)))
  have HCE := Asd.mk hcut
  have HF := Asd.mk hfacts
  clear q1 q2 q3 q4 hCc hcc hcut hfacts
  cases hf : flushF us with
  | none =>
   have hI1 : flushI us = -1 := by unfold flushI; rw [hf]
   rcases HF.out.1 with rfl | ⟨rfl, rfl, rfl⟩
   ·have hh : hearS askR errT s1 = s1 := by
     unfold hearS
     rw [HCE.out]
     simp only [hf]
     rw [if_pos True.intro]
    have HH := Asd.mk hh
    have HI1 := Asd.mk hI1
    clear hh hf hI1
    go_wp2_with (first
     | (go_at_call 23; with_reducible refine HCUT.out.mono ?_; rintro e W4 ⟨vu, vp, rfl, ho, ho', hb⟩; obtain ⟨Au, cu, rfl⟩ := Kd.R_slice ho; obtain ⟨Ap, cp, rfl⟩ := Kd.R_slice ho'; have HU := Asd.mk (Kd.R_reads' ho).2.2; have HUc := Asd.mk (Kd.R_reads' ho).2.1; have HB4 := Asd.mk hb; clear ho ho' hb)
     | (go_at_call 24; have hidx := index_calls Au cu us HU.out HUc.out; rw [HI1.out] at hidx; with_reducible refine hidx.mono ?_; clear hidx; rintro e W5 ⟨rfl, hb⟩; have HB5 := Asd.mk (below_step HB4.out hb); clear hb))
    first | go_end0 | ((try simp only [Exit.inBlock, Exit.then]); refine bodyPost_ret (results_none rfl _ _ _) rfl ?_)
    rw [HE.out, HH.out]
    exact ⟨rfl, grown_own HI.out HK.out HB5.out⟩
   ·have hh : hearS askR errT s1 = endS errT s1 3 := by
     unfold hearS
     rw [HCE.out]
     simp only [hf]
     rw [if_neg (by decide)]
    have HH := Asd.mk hh
    have HI1 := Asd.mk hI1
    obtain ⟨xw, xh, ab, hask⟩ : ∃ xw xh ab, hello_Asked.f 6000000 ([] : List Ln) = some (xw, xh, ab) := ⟨_, _, _, askR_eq [] (by simp) (by simp)⟩
    have HASK := Asd.mk hask
    clear hh hf hI1 hask
    go_wp2_with (first
     | (go_at_call 23; with_reducible refine HCUT.out.mono ?_; rintro e W4 ⟨vu, vp, rfl, ho, ho', hb⟩; obtain ⟨Au, cu, rfl⟩ := Kd.R_slice ho; obtain ⟨Ap, cp, rfl⟩ := Kd.R_slice ho'; have HU := Asd.mk (Kd.R_reads' ho).2.2; have HUc := Asd.mk (Kd.R_reads' ho).2.1; have HB4 := Asd.mk hb; clear ho ho' hb)
     | (go_at_call 24; have hidx := index_calls Au cu ([] : List Ln) HU.out HUc.out; rw [HI1.out, List.length_nil] at hidx; with_reducible refine hidx.mono ?_; clear hidx; rintro e W5 ⟨rfl, hb⟩; replace HU := Asd.mk (Kd.C_below HU.out hb); have HB5 := Asd.mk (below_step HB4.out hb); clear hb)
     | (go_at_call 26; have hz := hello_Asked.calls 6000000 Au cu ([] : List Ln) _ _ _ _ HU.out HUc.out HASK.out; rw [List.length_nil] at hz; with_reducible refine hz.mono ?_; clear hz; rintro e W6 ⟨vx, vy, rfl, ho, ho', hb⟩; obtain ⟨Ax, cx, rfl⟩ := Kd.R_slice ho; obtain ⟨Ay, cy, rfl⟩ := Kd.R_slice ho'; have HB6 := Asd.mk (below_step HB5.out hb); clear ho ho' hb)
     | (go_at_call 22; with_reducible refine (end_calls (HI.out.below (bal HB6.out _)) 3 _ text3 (by decide) (by have := HQ.out.2.2.2; omega)).mono ?_; rintro e W8 ⟨rfl, hs8, hk8⟩; have HS8 := Asd.mk (chain2 HI.out hs8 HK.out (bal HB6.out _) hk8); clear hs8 hk8))
    first | go_end0 | ((try simp only [Exit.inBlock, Exit.then]); refine bodyPost_ret (results_none rfl _ _ _) rfl ?_)
    rw [HE.out, HH.out]
    refine ⟨rfl, ?_, HS8.out.2⟩
    show IsS _ _ _ { s1 with send := s1.send ++ errT 3, st := 2 }
    rw [errT3]
    exact HS8.out.1
  | some i =>
   have hI1 : flushI us = (i : Int) := by unfold flushI; rw [hf]
   have hlt := flushF_lt us hf
   obtain rfl : ge = 0 := by
    rcases HF.out.1 with h | ⟨_, h, _⟩
    ·exact h
    ·rw [h] at hlt; simp at hlt
   obtain ⟨xw, xh, ab, hxe⟩ : ∃ xw xh ab, askR (us.take (i + 1)) = (xw, xh, ab) := ⟨_, _, _, rfl⟩
   have hask : hello_Asked.f 6000000 (us.take (i + 1)) = some (xw, xh, ab) := by
    have h := askR_eq (us.take (i + 1)) (by rw [List.length_take]; have := HF.out.2.1; have := HQ.out.2.1; omega) (fun y hy => by have := HF.out.2.2.1 y (List.mem_of_mem_take hy); omega)
    rw [hxe] at h
    exact h
   have HASK := Asd.mk hask
   have HTL := Asd.mk (show (us.take (i + 1)).length = i + 1 by rw [List.length_take]; omega)
   have HI1 := Asd.mk hI1
   have hul : us.length <= 20000 := by have := HF.out.2.1; have := HQ.out.2.1; omega
   have b1 : (0 : Int) <= (i : Int) + 1 := by omega
   have b2 : (i : Int) + 1 <= (us.length : Int) := by omega
   have b3 : (us.length : Int) <= 20000 := by omega
   have b4 : ¬ (i : Int) < 0 := by omega
   clear hask hI1
   by_cases hgood : ab = true /\ i + 1 = us.length /\ ps = []
   ·have hh : hearS askR errT s1 = { s1 with wants := xw, haves := xh, st := 1 } := by
     unfold hearS
     rw [HCE.out]
     simp only [hf, hxe]
     rw [if_pos ⟨True.intro, hgood⟩]
    have HH := Asd.mk hh
    obtain ⟨rfl, g2, rfl⟩ := hgood
    have d1 : ¬ (i : Int) < (us.length : Int) - 1 := by omega
    clear hh hf hxe g2
    go_upto_region 12 with (first
     | (go_at_call 23; with_reducible refine HCUT.out.mono ?_; rintro e W4 ⟨vu, vp, rfl, ho, ho', hb⟩; obtain ⟨Au, cu, rfl⟩ := Kd.R_slice ho; obtain ⟨Ap, cp, rfl⟩ := Kd.R_slice ho'; have HU := Asd.mk (Kd.R_reads' ho).2.2; have HUc := Asd.mk (Kd.R_reads' ho).2.1; have ec := (Kd.R_reads' ho).2.1; have HB4 := Asd.mk hb; clear ho ho' hb)
     | (go_at_call 24; have hidx := index_calls Au cu us HU.out HUc.out; rw [HI1.out] at hidx; with_reducible refine hidx.mono ?_; clear hidx; rintro e W5 ⟨rfl, hb⟩; replace HU := Asd.mk (Kd.C_below HU.out hb); have HB5 := Asd.mk (below_step HB4.out hb); clear hb)
     | (go_at_call 26; have hz := hello_Asked.calls 6000000 Au cu (us.take (i + 1)) _ _ _ _ (Kd.C_take HU.out (by omega)) (by rw [HTL.out]; omega) HASK.out; rw [HTL.out] at hz; with_reducible refine hz.mono ?_; clear hz; rintro e W6 ⟨vx, vy, rfl, ho, ho', hb⟩; obtain ⟨Ax, cx, rfl⟩ := Kd.R_slice ho; obtain ⟨Ay, cy, rfl⟩ := Kd.R_slice ho'; have HX := Asd.mk ho; have HY := Asd.mk ho'; have HB56 := Asd.mk hb; have HB6 := Asd.mk (below_step HB5.out hb); clear ho ho' hb ec))
    generalize hW7 : World.alloc _ _ = W7
    have hbx := show W7.heap[W6.heap.size]? = some (.cells #[.slice Ax xw.length cx, .slice Ay xh.length cy] 29 (0, 0)) from by rw [<- hW7]; exact heap_alloc_new _ _
    have hb67 : Below W6.heap.size W6 W7 := by rw [<- hW7]; exact bal (Below.refl _ _) _
    have hb37 := below_step HB6.out hb67
    have hI7 := HI.out.below hb37
    have hB5s := HB5.out.size
    have hfr : ∀ k, (W5.heap.size <= k /\ k < W7.heap.size) -> ¬ more own W W3 k /\ k < W7.heap.size := fun k hk => ⟨fun e => by have := HI.out.own_lt k e; omega, hk.2⟩
    have hFX := Kd.F_mono (Kd.F_below (made_F HX.out) hb67) (ok' := fun k => W5.heap.size <= k /\ k < W7.heap.size) (fun k e => ⟨e.1, by have := hb67.size; omega⟩)
    have hFY := Kd.F_mono (Kd.F_below (made_F HY.out) hb67) (ok' := fun k => W5.heap.size <= k /\ k < W7.heap.size) (fun k e => ⟨e.1, by have := hb67.size; omega⟩)
    have hS9 := hI7.asked Ax Ay cx cy xw xh hFX hFY (Kd.R_reads' HX.out).2.1 (Kd.R_reads' HY.out).2.1 hfr
    have HTH := Asd.mk hI7.there
    have HS9 := Asd.mk hS9
    have HB37 := Asd.mk hb37
    have HG7 := Asd.mk hI7.own_g
    have HB5S := Asd.mk hB5s
    obtain ⟨m0, _⟩ := box_cell hbx 0 rfl
    obtain ⟨m1, _⟩ := box_cell hbx 1 rfl
    clear hW7 hbx hb67 hb37 hI7 hfr hFX hFY hS9 hB5s
    go_wp2_with (refine wpList_store_mid rfl 29 (.tmp 82) (.tmp 80) rfl g 2 #[.slice Ax xw.length cx, .slice Ay xh.length cy] rfl rfl HTH.out (by kernel_rfl) (by simp [Value.oneCell']) ?_; obtain ⟨k9, f9⟩ := HS9.out.cells)
    first | go_end0 | ((try simp only [Exit.inBlock, Exit.then]); refine bodyPost_ret (results_none rfl _ _ _) rfl ?_)
    rw [HE.out, HH.out]
    have e9 : W7.setCells g 2 [.slice Ax xw.length cx, .slice Ay xh.length cy] = (W7.setCell ⟨g, 2, none⟩ (.slice Ax xw.length cx)).setCell ⟨g, 3, none⟩ (.slice Ay xh.length cy) := rfl
    have hz9 : ((W7.setCells g 2 [.slice Ax xw.length cx, .slice Ay xh.length cy]).setCell ⟨g, 4, none⟩ (.int .i64 1)).heap.size = W7.heap.size := by rw [e9]; simp [World.setCell]
    have z1 := HK.out.size
    have z2 := HB37.out.size
    have z3 := HB5S
    refine ⟨rfl, (HS9.out.stored 1).mono ?_ ?_, ?_⟩
    ·rintro k ((e | e) | e)
     ·exact Or.inl e
     ·exact Or.inr ⟨e.1, by rw [hz9]; omega⟩
     ·exact Or.inr ⟨by have := HB5S.out; omega, by rw [hz9]; exact e.2⟩
    ·rintro k (e | e)
     ·have := HI.out.own_lt k (Or.inl e)
      rw [hz9]
      omega
     ·exact e.2
    ·refine ⟨HB37.out.os.trans HK.out.os, HB37.out.tape.trans HK.out.tape, HB37.out.output.trans HK.out.output, by rw [hz9]; omega, fun k hk hn => ?_⟩
     have hkg : k ≠ g := fun e => by
      rcases HG7.out with h | h
      ·exact hn (by rw [e]; exact h)
      ·have := h.1
       omega
     rw [e9]
     exact (Below.heap_setCell _ ⟨g, 4, none⟩ _ k hkg).trans ((Below.heap_setCell _ ⟨g, 3, none⟩ _ k hkg).trans ((Below.heap_setCell W7 ⟨g, 2, none⟩ _ k hkg).trans ((HB37.out.block k (by omega)).trans (HK.out.block k hk hn))))
   ·have hh : hearS askR errT s1 = endS errT s1 3 := by
     unfold hearS
     rw [HCE.out]
     simp only [hf, hxe]
     rw [if_neg (fun e => hgood e.2)]
    have HH := Asd.mk hh
    clear hh hf hxe
    have hthree : ab = false ∨ (ab = true /\ (i : Int) < (us.length : Int) - 1) ∨ (ab = true /\ ¬ (i : Int) < (us.length : Int) - 1 /\ (0 : Int) < (ps.length : Int)) := by
     cases ab with
     | false => exact Or.inl rfl
     | true =>
      by_cases e : i + 1 = us.length
      ·refine Or.inr (Or.inr ⟨rfl, by omega, ?_⟩)
       have hp : ps ≠ [] := fun e2 => hgood ⟨rfl, e, e2⟩
       have := List.length_pos_iff.2 hp
       omega
      ·exact Or.inr (Or.inl ⟨rfl, by omega⟩)
    clear hgood
    rcases hthree with rfl | ⟨rfl, d1⟩ | ⟨rfl, d1, d2⟩
    ·go_wp2_with (first
      | (go_at_call 23; with_reducible refine HCUT.out.mono ?_; rintro e W4 ⟨vu, vp, rfl, ho, ho', hb⟩; obtain ⟨Au, cu, rfl⟩ := Kd.R_slice ho; obtain ⟨Ap, cp, rfl⟩ := Kd.R_slice ho'; have HU := Asd.mk (Kd.R_reads' ho).2.2; have HUc := Asd.mk (Kd.R_reads' ho).2.1; have ec := (Kd.R_reads' ho).2.1; have HB4 := Asd.mk hb; clear ho ho' hb)
      | (go_at_call 24; have hidx := index_calls Au cu us HU.out HUc.out; rw [HI1.out] at hidx; with_reducible refine hidx.mono ?_; clear hidx; rintro e W5 ⟨rfl, hb⟩; replace HU := Asd.mk (Kd.C_below HU.out hb); have HB5 := Asd.mk (below_step HB4.out hb); clear hb)
      | (go_at_call 26; have hz := hello_Asked.calls 6000000 Au cu (us.take (i + 1)) _ _ _ _ (Kd.C_take HU.out (by omega)) (by rw [HTL.out]; omega) HASK.out; rw [HTL.out] at hz; with_reducible refine hz.mono ?_; clear hz; rintro e W6 ⟨vx, vy, rfl, ho, ho', hb⟩; obtain ⟨Ax, cx, rfl⟩ := Kd.R_slice ho; obtain ⟨Ay, cy, rfl⟩ := Kd.R_slice ho'; have HX := Asd.mk ho; have HY := Asd.mk ho'; have HB56 := Asd.mk hb; have HB6 := Asd.mk (below_step HB5.out hb); clear ho ho' hb ec)
      | (go_at_call 22; with_reducible refine (end_calls (HI.out.below (bal HB6.out _)) 3 _ text3 (by decide) (by have := HQ.out.2.2.2; omega)).mono ?_; rintro e W8 ⟨rfl, hs8, hk8⟩; have HS8 := Asd.mk (chain2 HI.out hs8 HK.out (bal HB6.out _) hk8); clear hs8 hk8))
     first | go_end0 | ((try simp only [Exit.inBlock, Exit.then]); refine bodyPost_ret (results_none rfl _ _ _) rfl ?_)
     rw [HE.out, HH.out]
     refine ⟨rfl, ?_, HS8.out.2⟩
     show IsS _ _ _ { s1 with send := s1.send ++ errT 3, st := 2 }
     rw [errT3]
     exact HS8.out.1
    ·go_wp2_with (first
      | (go_at_call 23; with_reducible refine HCUT.out.mono ?_; rintro e W4 ⟨vu, vp, rfl, ho, ho', hb⟩; obtain ⟨Au, cu, rfl⟩ := Kd.R_slice ho; obtain ⟨Ap, cp, rfl⟩ := Kd.R_slice ho'; have HU := Asd.mk (Kd.R_reads' ho).2.2; have HUc := Asd.mk (Kd.R_reads' ho).2.1; have ec := (Kd.R_reads' ho).2.1; have HB4 := Asd.mk hb; clear ho ho' hb)
      | (go_at_call 24; have hidx := index_calls Au cu us HU.out HUc.out; rw [HI1.out] at hidx; with_reducible refine hidx.mono ?_; clear hidx; rintro e W5 ⟨rfl, hb⟩; replace HU := Asd.mk (Kd.C_below HU.out hb); have HB5 := Asd.mk (below_step HB4.out hb); clear hb)
      | (go_at_call 26; have hz := hello_Asked.calls 6000000 Au cu (us.take (i + 1)) _ _ _ _ (Kd.C_take HU.out (by omega)) (by rw [HTL.out]; omega) HASK.out; rw [HTL.out] at hz; with_reducible refine hz.mono ?_; clear hz; rintro e W6 ⟨vx, vy, rfl, ho, ho', hb⟩; obtain ⟨Ax, cx, rfl⟩ := Kd.R_slice ho; obtain ⟨Ay, cy, rfl⟩ := Kd.R_slice ho'; have HX := Asd.mk ho; have HY := Asd.mk ho'; have HB56 := Asd.mk hb; have HB6 := Asd.mk (below_step HB5.out hb); clear ho ho' hb ec)
      | (go_at_call 22; with_reducible refine (end_calls (HI.out.below (bal HB6.out _)) 3 _ text3 (by decide) (by have := HQ.out.2.2.2; omega)).mono ?_; rintro e W8 ⟨rfl, hs8, hk8⟩; have HS8 := Asd.mk (chain2 HI.out hs8 HK.out (bal HB6.out _) hk8); clear hs8 hk8))
     first | go_end0 | ((try simp only [Exit.inBlock, Exit.then]); refine bodyPost_ret (results_none rfl _ _ _) rfl ?_)
     rw [HE.out, HH.out]
     refine ⟨rfl, ?_, HS8.out.2⟩
     show IsS _ _ _ { s1 with send := s1.send ++ errT 3, st := 2 }
     rw [errT3]
     exact HS8.out.1
    ·go_wp2_with (first
      | (go_at_call 23; with_reducible refine HCUT.out.mono ?_; rintro e W4 ⟨vu, vp, rfl, ho, ho', hb⟩; obtain ⟨Au, cu, rfl⟩ := Kd.R_slice ho; obtain ⟨Ap, cp, rfl⟩ := Kd.R_slice ho'; have HU := Asd.mk (Kd.R_reads' ho).2.2; have HUc := Asd.mk (Kd.R_reads' ho).2.1; have ec := (Kd.R_reads' ho).2.1; have HB4 := Asd.mk hb; clear ho ho' hb)
      | (go_at_call 24; have hidx := index_calls Au cu us HU.out HUc.out; rw [HI1.out] at hidx; with_reducible refine hidx.mono ?_; clear hidx; rintro e W5 ⟨rfl, hb⟩; replace HU := Asd.mk (Kd.C_below HU.out hb); have HB5 := Asd.mk (below_step HB4.out hb); clear hb)
      | (go_at_call 26; have hz := hello_Asked.calls 6000000 Au cu (us.take (i + 1)) _ _ _ _ (Kd.C_take HU.out (by omega)) (by rw [HTL.out]; omega) HASK.out; rw [HTL.out] at hz; with_reducible refine hz.mono ?_; clear hz; rintro e W6 ⟨vx, vy, rfl, ho, ho', hb⟩; obtain ⟨Ax, cx, rfl⟩ := Kd.R_slice ho; obtain ⟨Ay, cy, rfl⟩ := Kd.R_slice ho'; have HX := Asd.mk ho; have HY := Asd.mk ho'; have HB56 := Asd.mk hb; have HB6 := Asd.mk (below_step HB5.out hb); clear ho ho' hb ec)
      | (go_at_call 22; with_reducible refine (end_calls (HI.out.below (bal HB6.out _)) 3 _ text3 (by decide) (by have := HQ.out.2.2.2; omega)).mono ?_; rintro e W8 ⟨rfl, hs8, hk8⟩; have HS8 := Asd.mk (chain2 HI.out hs8 HK.out (bal HB6.out _) hk8); clear hs8 hk8))
     first | go_end0 | ((try simp only [Exit.inBlock, Exit.then]); refine bodyPost_ret (results_none rfl _ _ _) rfl ?_)
     rw [HE.out, HH.out]
     refine ⟨rfl, ?_, HS8.out.2⟩
     show IsS _ _ _ { s1 with send := s1.send ++ errT 3, st := 2 }
     rw [errT3]
     exact HS8.out.1
 ·have hst1 := h
  replace k4 : W3.cell? ⟨g, 4, none⟩ = some (.int .i64 1) := by rw [<- h]; exact k4
  by_cases hb : b = []
  ·have e0 : takeS askR errT s b = { s with came := s.came ++ b } := by unfold takeS; rw [if_pos h, if_pos hb, hb, List.append_nil]
   have HE := Asd.mk e0
   have hl : b.length = 0 := by rw [hb]; rfl
   clear e0 hb h hst1
   go_wp2
   first | go_end0 | ((try simp only [Exit.inBlock, Exit.then]); refine bodyPost_ret (results_none rfl _ _ _) rfl ?_)
   rw [HE.out]
   exact ⟨rfl, HI.out, HK.out⟩
  ·have e0 : takeS askR errT s b = endS errT { s with came := s.came ++ b } 3 := by unfold takeS; rw [if_pos h, if_neg hb]
   have HE := Asd.mk e0
   have hl : (0 : Int) < (b.length : Int) := by have := List.length_pos_iff.2 hb; omega
   clear e0 hb h hst1
   go_wp2_with (go_at_call 22; with_reducible refine (end_calls HI.out 3 _ text3 (by decide) (by have := HZ2.out; show s.send.length <= _; omega)).mono ?_; rintro e W4 ⟨rfl, hs4, hk4⟩; have HS4 := Asd.mk hs4; have HK4 := Asd.mk hk4; clear hs4 hk4)
   first | go_end0 | ((try simp only [Exit.inBlock, Exit.then]); refine bodyPost_ret (results_none rfl _ _ _) rfl ?_)
   rw [HE.out]
   have := chain HS4.out HK.out HK4.out
   refine ⟨rfl, ?_, this.2⟩
   show IsS _ _ _ { s with came := s.came ++ b, send := s.send ++ errT 3, st := 2 }
   rw [errT3]
   exact this.1
 ·have e0 : takeS askR errT s b = { s with came := s.came ++ b } := by unfold takeS; rw [if_neg (by rw [h]; decide), if_neg (by rw [h]; decide)]
  have HE := Asd.mk e0
  replace k4 : W3.cell? ⟨g, 4, none⟩ = some (.int .i64 2) := by rw [<- h]; exact k4
  clear e0 h
  go_wp2
  first | go_end0 | ((try simp only [Exit.inBlock, Exit.then]); refine bodyPost_ret (results_none rfl _ _ _) rfl ?_)
  rw [HE.out]
  exact ⟨rfl, HI.out, HK.out⟩
end Go.Proofs.YtaadhjpcdnbbeaaGreatDoor.Serve
