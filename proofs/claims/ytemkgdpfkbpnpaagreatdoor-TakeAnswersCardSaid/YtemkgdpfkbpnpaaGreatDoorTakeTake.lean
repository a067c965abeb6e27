/- A talk with one who pushes: Take. -/
import Derived.Test.YtemkgdpfkbpnpaaGreatDoorTakeChg
namespace Go.Proofs.YtemkgdpfkbpnpaaGreatDoor.Take
open Go.RowKit Go.Proofs.YtemkgdpfkbpnpaaGreatDoorW.PrintWords Go.Proofs.YtemkgdpfkbpnpaaGreatDoorW.PrintLast Go.Proofs.YtemkgdpfkbpnpaaGreatDoorW.PrintMore Go.Proofs.YtemkgdpfkbpnpaaGreatDoor.Conv Go.Proofs.YtemkgdpfkbpnpaaGreatDoor.Print Go.Proofs.YtemkgdpfkbpnpaaGreatDoor.Line
open Go.Proofs.YtemkgdpfkbpnpaaGreatDoor.Hello hiding Ln cutF
set_option linter.unusedVariables false
set_option linter.unusedSimpArgs false
attribute [local go_sem] run_store_nilFunc run_store_func
theorem cut_facts (b : List Int) (hB : Bytes b) (us : List Ln) (ps : List Int) (ge : Int) (h : cutF b = (us, ps, ge)) : (ge = 0 ∨ (ge = 3 /\ us = [] /\ ps = [])) /\ us.length <= b.length /\ (∀ y ∈ us, y.f1.size <= 4000) /\ ps.length <= b.length := by
 unfold Line.cutF at h
 have f := cutB_facts b hB
 by_cases c : (cutB b).2.2 = 0
 ·rw [if_pos c] at h
  obtain ⟨h1, h2, h3⟩ := (show (cutB b).1 = us /\ (cutB b).2.1 = ps /\ (0 : Int) = ge by simpa using h)
  have hk := (cutB_back b hB c).1
  rw [<- h1, <- h2]
  exact ⟨Or.inl h3.symm, by omega, fun y hy => okL_size (List.all_eq_true.1 hk y hy), f.2.1⟩
 ·rw [if_neg c] at h
  obtain ⟨h1, h2, h3⟩ := (show ([] : List Ln) = us /\ ([] : List Int) = ps /\ (3 : Int) = ge by simpa using h)
  rw [<- h1, <- h2]
  exact ⟨Or.inr ⟨h3.symm, rfl, rfl⟩, by simp, by simp, by simp⟩
theorem hear_bad {s : St} {us : List Ln} {ps : List Int} (h : cutF s.came = (us, ps, 3)) : hearS pushR errT s = endS errT s := by
 unfold hearS
 rw [h]
 exact if_neg (show ¬ ((3 : Int) = 0) by decide)
theorem hear_changes {s : St} {us : List Ln} {ps : List Int} (h : cutF s.came = (us, ps, 0)) (h1 : s.nx = -1) : hearS pushR errT s = changesS s us ps := by
 unfold hearS changesS
 rw [h]
 simp only [if_pos h1]
 rfl
theorem hear_packed {s : St} {us : List Ln} {ps : List Int} (h : cutF s.came = (us, ps, 0)) (i : Nat) (h1 : s.nx = i) : hearS pushR errT s = packS errT s (us.drop (i + 1)) ps := by
 unfold hearS
 rw [h]
 have : ¬ s.nx = -1 := by omega
 simp only [if_neg this, h1, Int.toNat_natCast]
 rfl
set_option maxRecDepth 100000 in
set_option maxHeartbeats 4000000 in
theorem take_calls {W : World} {own : Nat -> Prop} {g : Nat} {s : St} (hs : IsT W own g s) (hwn : s.waits = true -> s.nx = -2) (A : Option Addr) (c : Nat) (b : List Int) (hr : Kd.C (Kd.int .u8) W A b.length b) (hc : b.length <= c) (hB : Bytes s.came) (hBb : Bytes b) (hz : s.came.length + b.length <= 200000) (hz2 : s.send.length <= 100000000)
  (hin : ∀ us ps, cutF (s.came ++ b) = (us, ps, 0) -> s.nx < us.length) :
  Calls Tryz.prog 9 #[.pointer (some ⟨g, 0, none⟩), .slice A b.length c] W fun e w' => e = .returned (.tuple #[]) /\ ∃ own', IsT w' own' g (takeS pushR errT s b) /\ Goes W w' own own' := by
 have HS := Asd.mk hs
 have q2 := nil_neq W
 have q4 := fun f x y => func_neq f x y W
 by_cases hw : s.waits = true
 ·have hnx := hwn hw
  obtain ⟨⟨k5, f5⟩, vn, k4, f4, hn⟩ := hs.cells
  obtain rfl : vn = .nilFunc := by
   rcases hn with h | h | h
   ·exact h.2
   ·have := h.1; omega
   ·have := h.1; omega
  rw [hw] at k5
  by_cases hb : b = []
  ·have e0 : takeS pushR errT s b = s := by unfold takeS; rw [if_pos hw, if_pos hb]
   rw [e0]
   have hl : b.length = 0 := by rw [hb]; rfl
   clear e0 hb hw hn hwn hin hs hr hB hBb hz hz2 hnx
   go_enter Tryz.func9, Tryz.ntmps9
   go_wp2
   first | go_end0 | ((try simp only [Exit.inBlock, Exit.then]); refine bodyPost_ret (results_none rfl _ _ _) rfl ?_)
   exact ⟨rfl, own, HS.out, Goes.refl W own⟩
  ·have e0 : takeS pushR errT s b = endS errT s := by unfold takeS; rw [if_pos hw, if_neg hb]
   rw [e0]
   have hl : (0 : Int) < (b.length : Int) := by have := List.length_pos_iff.2 hb; omega
   have hl2 : 0 < b.length := by omega
   have HZ2 := Asd.mk hz2
   clear e0 hb hw hn hwn hin hs hr hB hBb hz hz2 hnx
   go_enter Tryz.func9, Tryz.ntmps9
   go_wp2_with (go_at_call 25; with_reducible refine (end3_calls HS.out (Nat.le_trans HZ2.out (by decide))).mono ?_; rintro e W4 ⟨rfl, own4, hs4, hg4⟩; have HS4 := Asd.mk hs4; have HG4 := Asd.mk hg4; clear hs4 hg4)
   first | go_end0 | ((try simp only [Exit.inBlock, Exit.then]); refine bodyPost_ret (results_none rfl _ _ _) rfl ?_)
   exact ⟨rfl, own4, HS4.out, HG4.out⟩
 ·have hw' : s.waits = false := by simpa using hw
  by_cases hnx : s.nx = -2
  ·obtain ⟨⟨k5, f5⟩, vn, k4, f4, hn⟩ := hs.cells
   obtain rfl : vn = .nilFunc := by
    rcases hn with h | h | h
    ·exact h.2
    ·have := h.1; omega
    ·have := h.1; omega
   have e0 : takeS pushR errT s b = s := take_over pushR errT hw' hnx b
   rw [e0]
   rw [hw'] at k5
   clear e0 hw hn hwn hin hs hr hB hBb hz hz2 hnx hw'
   go_enter Tryz.func9, Tryz.ntmps9
   go_wp2
   first | go_end0 | ((try simp only [Exit.inBlock, Exit.then]); refine bodyPost_ret (results_none rfl _ _ _) rfl ?_)
   exact ⟨rfl, own, HS.out, Goes.refl W own⟩
  ·have e0 : takeS pushR errT s b = hearS pushR errT { s with came := s.came ++ b } := take_hear pushR errT hw' hnx b
   rw [e0]
   obtain ⟨⟨k5, f5⟩, vn0, k4, f4, hn⟩ := hs.cells
   obtain ⟨fn, fx, fy, rfl⟩ : ∃ f x y, vn0 = .func f x y := by
    rcases hn with h | h | ⟨_, b1, b2, h, _⟩
    ·exact absurd h.1 hnx
    ·exact ⟨_, _, _, h.2⟩
    ·exact ⟨_, _, _, h⟩
   rw [hw'] at k5
   have HR := Asd.mk hr
   have HZ3 := Asd.mk (show (s.came.length + b.length) * 1 <= 140737488355328 by omega)
   obtain ⟨s1, hs1⟩ : ∃ s1 : St, s1 = { s with came := s.came ++ b } := ⟨_, rfl⟩
   have q1 : s1.came.length <= 200000 := by rw [hs1]; show (s.came ++ b).length <= 200000; rw [List.length_append]; exact hz
   have q3 : Bytes s1.came := by rw [hs1]; exact hB.append hBb
   have q5 : s1.send.length <= 100000000 := by rw [hs1]; exact hz2
   have q6 : ∀ us ps, cutF s1.came = (us, ps, 0) -> s1.nx < us.length := by rw [hs1]; exact hin
   have q7 : s1.nx ≠ -2 := by rw [hs1]; exact hnx
   have HQ := Asd.mk (And.intro q1 (And.intro q3 (And.intro q5 (And.intro q6 q7))))
   have HS1 := Asd.mk hs1
   rw [<- hs1]
   obtain ⟨vc, vs, au, cu, ap, cp, vn, hb, ⟨hvc, hvs⟩, ⟨h1, h2, h3, h4⟩, h5⟩ := hs
   have HB := Asd.mk hb
   have HVC := Asd.mk hvc
   have HVS := Asd.mk hvs
   have H1 := Asd.mk h1
   have H2 := Asd.mk h2
   have H4 := Asd.mk h4
   have H3 := Asd.mk h3
   have H5 := Asd.mk h5
   obtain ⟨k0, f0⟩ := box_cell hb 0 rfl
   clear hb hvc hvs h1 h2 h3 h4 h5 hr hB hBb hz hz2 hn hin hwn hnx hw hw' e0 q1 q3 q5 q6 q7 hs1
   go_enter Tryz.func9, Tryz.ntmps9
   go_upto_region 4 with ((with_reducible refine gate_builtin (b := .append) (xs := #[.tmp 29, .tmp 30]) rfl ?_); at_builtin; refine Kd.R_append_rows (Kd.int .u8) (w0 := W) 0 rfl (.tmp 29) (.tmp 30) 22 5 (.int .u8 0) 1 rfl Tryz.underlying22 info5 rfl (by decide) (by omega) vc s.came b A b.length c (fun _ => True) (fun _ => False) rfl rfl HVC.out HR.out (fun _ _ h => h) (fun _ h => h.elim) (fun _ _ => trivial) (Below.refl _ _) (Nat.zero_le _) HZ3.out ?_; intro v2 W2 ho2 hb2 hg hat; obtain ⟨A2, c2, rfl⟩ := Kd.R_slice ho2; have HO2 := Asd.mk ho2; have HG := Asd.mk hg; have HAT := Asd.mk hat; clear ho2 hb2 hat k0 f0; obtain ⟨k0, f0⟩ := box_cell (grown_box HG.out HB.out (fun e => (H1.out g e.symm).1 rfl)) 0 rfl; clear hg)
   clear k0 f0
   have ho3 := HO2.out
   have hat3 := HAT.out
   rw [List.length_append] at ho3 hat3
   obtain ⟨hI, hK⟩ := camed HB.out HVS.out H1.out H2.out H3.out H4.out H5.out (Below.refl _ _) HG.out ho3 hat3
   clear HB HVC HVS H1 H2 H4 H3 H5 HG HO2 HAT ho3 hat3 k4 k5 f4 f5 q2 q4
   generalize hW3 : W2.setCell ⟨g, 0, none⟩ (.slice A2 (s.came.length + b.length) c2) = W3 at hI hK ⊢
   clear hW3
   rw [<- HS1.out] at hI
   have hG3 := Goes.more hK
   generalize more own W W3 = own3 at hI hG3
   have HI := Asd.mk hI
   have HG3 := Asd.mk hG3
   obtain ⟨Ac, cc, kc, hCc, hcc⟩ := hI.came_cell
   have fc := hI.frozen 0
   obtain ⟨us, ps, ge, hcut⟩ : ∃ us ps ge, cutF s1.came = (us, ps, ge) := ⟨_, _, _, rfl⟩
   have HCUT := Asd.mk (line_Cut.calls 400000 Ac cc s1.came us ps ge W3 (Kd.F_now hCc) hcc ((cut_eq s1.came HQ.out.2.1 (by have := HQ.out.1; omega) (by have := HQ.out.1; omega)).trans (congrArg some hcut)))
   have HF := Asd.mk (cut_facts s1.came HQ.out.2.1 us ps ge hcut)
   have HCE := Asd.mk hcut
   clear hK hI hG3 hCc hcc hcut
   go_upto_region 5 with (go_at_call 26; with_reducible refine HCUT.out.mono ?_; rintro e W4 ⟨vu, vp, rfl, ho, ho', hb⟩; obtain ⟨Au, cu, rfl⟩ := Kd.R_slice ho; obtain ⟨Ap, cp, rfl⟩ := Kd.R_slice ho'; have HU := Asd.mk ho; have HP := Asd.mk ho'; have HB4 := Asd.mk hb; clear ho ho' hb)
   clear kc fc HCUT
   rcases HF.out.1 with rfl | ⟨rfl, rfl, rfl⟩
   ·obtain ⟨_, vn4, k4, f4, hn4⟩ := (HI.out.below HB4.out).cells
    have HUF : Asd (Kd.F k65 W4 (fun k => ¬ own3 k /\ k < W4.heap.size) Au us.length us) := ⟨Kd.F_mono (Kd.R_F (Kd.R_bound HU.out)) (fun k e => ⟨fun e2 => Nat.lt_irrefl k (Nat.lt_of_lt_of_le (HI.out.own_lt k e2) e.2.1), e.2.2.1⟩)⟩
    have HUc := Asd.mk (Kd.R_reads' HU.out).2.1
    have HPc := Asd.mk (Kd.R_reads' HP.out).2.1
    have hul : us.length <= 900000 := by have := HF.out.2.1; have := HQ.out.1; omega
    have hpl : ps.length <= 1000000000 := by have := HF.out.2.2.2; have := HQ.out.1; omega
    have HL := Asd.mk (And.intro hul hpl)
    clear hul hpl
    rcases hn4 with h | ⟨hn, rfl⟩ | ⟨hn, b1, b2, rfl, _, _, hx1, hx2⟩
    ·exact absurd h.1 HQ.out.2.2.2.2
    ·have HE := Asd.mk (hear_changes HCE.out hn)
     clear hn
     go_wp2_with (go_at_call 23; with_reducible refine (changes_calls (HI.out.below HB4.out) Au cu us HUF.out HUc.out Ap cp ps HPc.out HL.out.2 HL.out.1 HF.out.2.2.1 HQ.out.2.2.1).mono ?_; rintro e W7 ⟨rfl, own7, hs7, hg7⟩; have HS7 := Asd.mk hs7; have HG7 := Asd.mk hg7; clear hs7 hg7)
     first | go_end0 | ((try simp only [Exit.inBlock, Exit.then]); refine bodyPost_ret (results_none rfl _ _ _) rfl ?_)
     rw [HE.out]
     exact ⟨rfl, own7, HS7.out, (HG3.out.trans (Goes.below HB4.out)).trans HG7.out⟩
    ·obtain ⟨i, hi⟩ : ∃ i : Nat, s1.nx = i := ⟨s1.nx.toNat, by omega⟩
     have HE := Asd.mk (hear_packed HCE.out i hi)
     have hlt : i < us.length := by have := HQ.out.2.2.2.1 us ps HCE.out; omega
     rw [hi] at hx2
     have HX := Asd.mk (And.intro hx1 (And.intro hx2 hlt))
     clear hn hx1 hx2 hlt
     go_wp2_with (go_at_call 42; with_reducible refine (close_calls (HI.out.below HB4.out) i b1 b2 HX.out.1 HX.out.2.1 Au cu us (Kd.F_now HUF.out) HUc.out HX.out.2.2 Ap cp ps HPc.out HL.out.2 (Nat.le_trans HL.out.1 (by decide)) HF.out.2.2.1 HQ.out.2.2.1).mono ?_; rintro e W7 ⟨rfl, own7, hs7, hg7⟩; have HS7 := Asd.mk hs7; have HG7 := Asd.mk hg7; clear hs7 hg7)
     first | go_end0 | ((try simp only [Exit.inBlock, Exit.then]); refine bodyPost_ret (results_none rfl _ _ _) rfl ?_)
     rw [HE.out]
     exact ⟨rfl, own7, HS7.out, (HG3.out.trans (Goes.below HB4.out)).trans HG7.out⟩
   ·have HE := Asd.mk (hear_bad HCE.out)
    go_wp2_with (go_at_call 25; with_reducible refine (end3_calls (HI.out.below HB4.out) (Nat.le_trans HQ.out.2.2.1 (by decide))).mono ?_; rintro e W7 ⟨rfl, own7, hs7, hg7⟩; have HS7 := Asd.mk hs7; have HG7 := Asd.mk hg7; clear hs7 hg7)
    first | go_end0 | ((try simp only [Exit.inBlock, Exit.then]); refine bodyPost_ret (results_none rfl _ _ _) rfl ?_)
    rw [HE.out]
    exact ⟨rfl, own7, HS7.out, (HG3.out.trans (Goes.below HB4.out)).trans HG7.out⟩
end Go.Proofs.YtemkgdpfkbpnpaaGreatDoor.Take
