/- A talk with one who pushes: the pack. -/
import Derived.Test.YtemkgdpfkbpnpaaGreatDoorTakeOut
namespace Go.Proofs.YtemkgdpfkbpnpaaGreatDoor.Take
open Go.RowKit Go.Proofs.YtemkgdpfkbpnpaaGreatDoorW.PrintWords Go.Proofs.YtemkgdpfkbpnpaaGreatDoorW.PrintLast Go.Proofs.YtemkgdpfkbpnpaaGreatDoorW.PrintMore Go.Proofs.YtemkgdpfkbpnpaaGreatDoor.Conv Go.Proofs.YtemkgdpfkbpnpaaGreatDoor.Print Go.Proofs.YtemkgdpfkbpnpaaGreatDoor.Line
open Go.Proofs.YtemkgdpfkbpnpaaGreatDoor.Hello hiding Ln
set_option linter.unusedVariables false
set_option linter.unusedSimpArgs false
attribute [local go_sem] run_store_nilFunc run_store_func
theorem pos_eq (l : List Ln) : take_first.pos l = flushF l := by
 induction l with
 | nil => rfl
 | cons x t ih => simp only [take_first.pos, flushF, ih]
theorem toList_eq {a b : ByteArray} : (a.toList == b.toList) = decide (a = b) := by
 by_cases h : a = b
 ·rw [h]; simp
 ·rw [decide_eq_false h]
  have : a.toList ≠ b.toList := fun e => h (toList_inj e)
  simpa using this
theorem ln_ext {x y : Ln} (h1 : x.f0 = y.f0) (h2 : x.f1 = y.f1) : x = y := by
 cases x; cases y; subst h1; subst h2; rfl
theorem api_loop (l m : List Ln) (hlm : l.length = m.length) (hl : l.length <= 1000000000000) : ∀ (j n k : Nat), n + j = l.length -> j + 1 <= k -> api_Line.l0 k l m (l.length : Int) (n : Int) = some (decide (l.drop n = m.drop n)) := by
 intro j
 induction j with
 | zero =>
  intro n k hn hk
  obtain ⟨k, rfl⟩ : ∃ q, k = q + 1 := ⟨k - 1, by omega⟩
  unfold api_Line.l0
  rw [if_neg (by omega), List.drop_eq_nil_of_le (by omega), List.drop_eq_nil_of_le (by omega)]
  simp
 | succ j ih =>
  intro n k hn hk
  obtain ⟨k, rfl⟩ : ∃ q, k = q + 1 := ⟨k - 1, by omega⟩
  have h1 : n < l.length := by omega
  have h2 : n < m.length := by omega
  have e1 : rd_T65 l (n : Int) = l[n] := by
   unfold rd_T65
   rw [Int.toNat_natCast, List.getD_eq_getElem?_getD, List.getElem?_eq_getElem h1]; rfl
  have e2 : rd_T65 m (n : Int) = m[n] := by
   unfold rd_T65
   rw [Int.toNat_natCast, List.getD_eq_getElem?_getD, List.getElem?_eq_getElem h2]; rfl
  have ew : wrap64 ((n : Int) + 1) = ((n + 1 : Nat) : Int) := by
   rw [Line.w64 (by omega) (by omega)]; omega
  unfold api_Line.l0
  rw [if_pos (by omega), if_pos (by omega), if_pos (by omega), if_pos (by omega), e1, e2, ew, ih (n + 1) k (by omega) (by omega), List.drop_eq_getElem_cons h1, List.drop_eq_getElem_cons h2, toList_eq]
  generalize l[n] = x
  generalize m[n] = y
  by_cases c0 : x.f0 = y.f0
  ·by_cases c1 : x.f1 = y.f1
   ·obtain rfl := ln_ext c0 c1
    simp
   ·have : x ≠ y := fun e => c1 (by rw [e])
    simp [c1, this]
  ·have : x ≠ y := fun e => c0 (by rw [e])
   simp [c0, this]
theorem api_eq (l m : List Ln) (hl : l.length <= 1000000000000) {k : Nat} (hk : l.length + 1 <= k) : api_Line.f k l m = some (decide (l = m)) := by
 unfold api_Line.f
 by_cases h : l.length = m.length
 ·rw [if_pos (by omega)]
  have := api_loop l m h hl l.length 0 k (by omega) hk
  simpa using this
 ·rw [if_neg (by omega), decide_eq_false (fun e => h (by rw [e]))]
theorem text3 : num_Text.f 3 = some ⟨#[51]⟩ := by kernel_rfl
theorem text0 : num_Text.f 0 = some ⟨#[48]⟩ := by kernel_rfl
def errT : List Int := errB ⟨#[51]⟩ ⟨#[48]⟩
theorem errT_len : errT.length <= 8008 := putF_len [errL ⟨#[51]⟩ ⟨#[48]⟩, ⟨true, ⟨#[]⟩⟩]
theorem end3_calls {W : World} {own : Nat -> Prop} {g : Nat} {s : St} (hs : IsT W own g s) (hz : s.send.length <= 100000000000) :
  Calls Tryz.prog 25 #[.pointer (some ⟨g, 0, none⟩), .int .i64 3, .int .i64 0] W fun e w' => e = .returned (.tuple #[]) /\ ∃ own', IsT w' own' g (endS errT s) /\ Goes W w' own own' :=
 end_calls hs 3 0 _ _ ((num_Text.calls 3 _ W text3).mono (fun e w' h => ⟨h.1, h.2.below⟩)) (fun W' _ => (num_Text.calls 0 _ W' text0).mono (fun e w' h => ⟨h.1, h.2.below⟩)) (by decide) (by decide) hz
theorem sizes_le (l : List Ln) (h : ∀ y ∈ l, y.f1.size <= 4000) : sizes l <= 4000 * l.length := by
 induction l with
 | nil => simp [sizes]
 | cons x t ih =>
  have h1 := h x (List.mem_cons_self ..)
  have h2 := ih (fun y hy => h y (List.mem_cons_of_mem _ hy))
  rw [List.length_cons]
  have : sizes (x :: t) = x.f1.size + sizes t := by simp [sizes]
  omega
theorem Goes.wide {W W1 W2 : World} {own fr : Nat -> Prop} (hb : Below W.heap.size W W1) (hk : Keeps W1 W2 own) (hf : ∀ k, fr k -> W.heap.size <= k) : Goes W W2 own (fun k => own k ∨ fr k) :=
 ⟨((Goes.below hb).trans ⟨hk, fun k e => Or.inl e⟩).keeps, fun k e => e.elim Or.inl (fun e => Or.inr (hf k e))⟩
set_option maxRecDepth 100000 in
set_option maxHeartbeats 4000000 in
theorem packed_calls {W : World} {own : Nat -> Prop} {g : Nat} {s : St} (hs : IsT W own g s) (A : Option Addr) (n c : Nat) (us : List Ln) (hn : n = us.length) (hr : Kd.C k65 W A us.length us) (hc : us.length <= c) (Ap : Option Addr) (m cp : Nat) (ps : List Int) (hm : m = ps.length) (hcp : ps.length <= cp) (hpl : ps.length <= 1000000000) (hl : us.length <= 1000000) (hsz : ∀ y ∈ us, y.f1.size <= 4000) (hz : s.send.length <= 100000000) :
  Calls Tryz.prog 43 #[.pointer (some ⟨g, 0, none⟩), .slice A n c, .slice Ap m cp] W fun e w' => e = .returned (.tuple #[]) /\ ∃ own', IsT w' own' g (packS errT s us ps) /\ Goes W w' own own' := by
 subst hn hm
 have hsl := sizes_le us hsz
 have HS := Asd.mk hs
 have HR := Asd.mk hr
 have HC := Asd.mk hc
 have HFI := Asd.mk (take_first.calls A c us _ W hr hc rfl)
 have hj := join_eq us (by omega) (by omega) (k := 1000001) (by omega)
 have hjl := joinF_length us
 have hpz : (partsF (joinF us)).length <= 1000000000000 := by rw [partsF_length, hjl]; omega
 have hparts := parts_eq (joinF us) (by omega)
 have heq := api_eq (partsF (joinF us)) us hpz (k := 1000000000001) (by omega)
 have HZ := Asd.mk (show s.send.length <= 100000000000 by omega)
 cases hf : flushF us with
 | none =>
  have hix : take_first.ix us = -1 := by unfold take_first.ix; rw [pos_eq, hf]
  have hp : packS errT s us ps = s := by unfold packS; rw [hf]
  rw [hp]
  rw [hix] at HFI
  clear hj hjl hpz hparts heq hsl hf hix hp hs hr hc hz hsz
  go_enter Tryz.func43, Tryz.ntmps43
  go_wp2_with (go_at_call 30; with_reducible refine HFI.out.mono ?_; rintro e W1 ⟨rfl, hb⟩; have HB := Asd.mk hb; clear hb)
  first | go_end0 | ((try simp only [Exit.inBlock, Exit.then]); refine bodyPost_ret (results_none rfl _ _ _) rfl ?_)
  exact ⟨rfl, own, HS.out.below HB.out, Goes.below HB.out⟩
 | some j =>
  have hlt := flushF_lt us hf
  have hix : take_first.ix us = (j : Int) := by unfold take_first.ix; rw [pos_eq, hf]
  have hp : packS errT s us ps = if fine us ps j then { s with pack := joinF us, nx := -2, waits := true } else endS errT s := by unfold packS; rw [hf]
  rw [hix] at HFI
  have b1 : ¬ (j : Int) < 0 := by omega
  have b3 : (us.length : Int) <= 1000000 := by omega
  have b4 : (1 : Int) <= (us.length : Int) := by omega
  have HJ := Asd.mk (fun W' (h : Below W.heap.size W W') => line_Join.calls 1000001 A c us _ W' (Kd.C_below hr h) hc hj)
  have hfine : (fine us ps j /\ ¬ (j : Int) < (us.length : Int) - 1 /\ ps.length = 0 /\ api_Line.f 1000000000001 (partsF (joinF us)) us = some true) ∨ (¬ fine us ps j /\ ((j : Int) < (us.length : Int) - 1 ∨ (¬ (j : Int) < (us.length : Int) - 1 /\ (0 : Int) < (ps.length : Int)) ∨ (¬ (j : Int) < (us.length : Int) - 1 /\ ps.length = 0 /\ api_Line.f 1000000000001 (partsF (joinF us)) us = some false))) := by
   by_cases c1 : fine us ps j
   ·refine Or.inl ⟨c1, by have := c1.1; omega, by rw [c1.2.1]; rfl, ?_⟩
    rw [heq, decide_eq_true c1.2.2]
   ·refine Or.inr ⟨c1, ?_⟩
    by_cases c2 : (j : Int) < (us.length : Int) - 1
    ·exact Or.inl c2
    ·by_cases c3 : ps = []
     ·refine Or.inr (Or.inr ⟨c2, by rw [c3]; rfl, ?_⟩)
      rw [heq, decide_eq_false (fun e => c1 ⟨by omega, c3, e⟩)]
     ·have := List.length_pos_iff.2 c3
      exact Or.inr (Or.inl ⟨c2, by omega⟩)
  have HL := Asd.mk (And.intro hpz (show (joinF us).length <= 4000000000 by omega))
  clear hj heq hsl hf hix hs hr hc hz hsz hpz hjl hlt
  rcases hfine with ⟨c1, d1, d2, d3⟩ | ⟨c1, hh⟩
  ·rw [if_pos c1] at hp
   rw [hp]
   have HEQ := Asd.mk d3
   clear d3 hp c1
   obtain ⟨pk, hpk⟩ : ∃ pk, joinF us = pk := ⟨_, rfl⟩
   rw [hpk] at HJ HL HEQ hparts ⊢
   have HP := Asd.mk hparts
   clear hparts hpk
   go_enter Tryz.func43, Tryz.ntmps43
   go_upto_region 5 with (first
    | (go_at_call 30; with_reducible refine HFI.out.mono ?_; rintro e W1 ⟨rfl, hb⟩; have HB1 := Asd.mk hb; clear hb)
    | (go_at_call 66; with_reducible refine (HJ.out _ HB1.out).mono ?_; rintro e W2 ⟨v2, rfl, ho, hb⟩; obtain ⟨Aj, cj, rfl⟩ := Kd.R_slice ho; have HO2 := Asd.mk ho; have HB12 := Asd.mk hb; have HB2 := Asd.mk (below_step HB1.out hb); clear ho hb)
    | (go_at_call 29; with_reducible refine (line_Parts.calls Aj cj _ _ _ (Kd.R_reads' HO2.out).2.2 (Kd.R_reads' HO2.out).2.1 HP.out).mono ?_; rintro e W3 ⟨v3, rfl, ho, hb⟩; obtain ⟨Aq, cq, rfl⟩ := Kd.R_slice ho; have HO3 := Asd.mk ho; have HB23 := Asd.mk hb; have HB3 := Asd.mk (below_step HB2.out hb); clear ho hb)
    | (go_at_call 67; with_reducible refine (api_Line.calls 1000000000001 Aq cq _ A c us _ _ (Kd.R_reads' HO3.out).2.2 (Kd.R_reads' HO3.out).2.1 (Kd.C_below HR.out HB3.out) HC.out HEQ.out).mono ?_; rintro e W4 ⟨rfl, hb⟩; have HB34 := Asd.mk hb.below; have HB4 := Asd.mk (below_step HB3.out hb.below); clear hb))
   have hS4 := HS.out.below HB4.out
   have f3 := hS4.frozen 3
   have f4 := hS4.frozen 4
   have f5 := hS4.frozen 5
   obtain ⟨⟨k5, _⟩, vn, k4, _, _⟩ := hS4.cells
   obtain ⟨_, _, _, _, ⟨_, k3⟩, _⟩ := hS4.rows
   have HS4 := Asd.mk hS4
   clear hS4
   go_wp2
   first | go_end0 | ((try simp only [Exit.inBlock, Exit.then]); refine bodyPost_ret (results_none rfl _ _ _) rfl ?_)
   have z1 := HB1.out.size
   have z2 := HB12.out.size
   have hB24 := below_step HB23.out HB34.out
   have z3 := hB24.size
   have hfr : ∀ k, (W.heap.size <= k /\ k < W4.heap.size) -> ¬ own k /\ k < W4.heap.size := fun k e => ⟨fun e2 => by have := HS.out.own_lt k e2; omega, e.2⟩
   have hF := Kd.F_mono (Kd.F_step (Kd.F_mono (Kd.R_F (Kd.R_bound HO2.out)) (ok' := fun k => W1.heap.size <= k /\ k < W2.heap.size) (fun k e => ⟨e.2.1, e.2.2.1⟩)) (fun k e hl => hB24.block k hl)) (ok' := fun k => W.heap.size <= k /\ k < W4.heap.size) (fun k e => ⟨by have := e.1; omega, by have := e.2; omega⟩)
   have h3 := HS4.out.set_pack (fr := fun k => W.heap.size <= k /\ k < W4.heap.size) Aj cj pk hfr hF (Kd.R_reads' HO2.out).2.1
   have h4 := h3.1.set_nil
   have h5 := h4.1.set_waits true
   exact ⟨rfl, _, h5.1, (Goes.wide HB4.out h3.2 (fun k e => e.1)).trans (h4.2.trans h5.2)⟩
  ·rw [if_neg c1] at hp
   rw [hp]
   clear hp c1
   rcases hh with d1 | ⟨d1, d2⟩ | ⟨d1, d2, d3⟩
   ·go_enter Tryz.func43, Tryz.ntmps43
    go_wp2_with (first
     | (go_at_call 30; with_reducible refine HFI.out.mono ?_; rintro e W1 ⟨rfl, hb⟩; have HB1 := Asd.mk hb; clear hb)
     | (go_at_call 66; with_reducible refine (HJ.out _ HB1.out).mono ?_; rintro e W2 ⟨v2, rfl, ho, hb⟩; obtain ⟨Aj, cj, rfl⟩ := Kd.R_slice ho; have HB2 := Asd.mk (below_step HB1.out hb); clear ho hb)
     | (go_at_call 25; with_reducible refine (end3_calls (HS.out.below HB2.out) HZ.out).mono ?_; rintro e W5 ⟨rfl, own5, hs5, hg5⟩; have HS5 := Asd.mk hs5; have HG5 := Asd.mk hg5; clear hs5 hg5))
    first | go_end0 | ((try simp only [Exit.inBlock, Exit.then]); refine bodyPost_ret (results_none rfl _ _ _) rfl ?_)
    exact ⟨rfl, own5, HS5.out, (Goes.below HB2.out).trans HG5.out⟩
   ·have d3 : 0 < ps.length := by omega
    go_enter Tryz.func43, Tryz.ntmps43
    go_wp2_with (first
     | (go_at_call 30; with_reducible refine HFI.out.mono ?_; rintro e W1 ⟨rfl, hb⟩; have HB1 := Asd.mk hb; clear hb)
     | (go_at_call 66; with_reducible refine (HJ.out _ HB1.out).mono ?_; rintro e W2 ⟨v2, rfl, ho, hb⟩; obtain ⟨Aj, cj, rfl⟩ := Kd.R_slice ho; have HB2 := Asd.mk (below_step HB1.out hb); clear ho hb)
     | (go_at_call 25; with_reducible refine (end3_calls (HS.out.below HB2.out) HZ.out).mono ?_; rintro e W5 ⟨rfl, own5, hs5, hg5⟩; have HS5 := Asd.mk hs5; have HG5 := Asd.mk hg5; clear hs5 hg5))
    first | go_end0 | ((try simp only [Exit.inBlock, Exit.then]); refine bodyPost_ret (results_none rfl _ _ _) rfl ?_)
    exact ⟨rfl, own5, HS5.out, (Goes.below HB2.out).trans HG5.out⟩
   ·have HEQ := Asd.mk d3
    clear d3
    obtain ⟨pk, hpk⟩ : ∃ pk, joinF us = pk := ⟨_, rfl⟩
    rw [hpk] at HJ HL HEQ hparts
    have HP := Asd.mk hparts
    clear hparts hpk
    go_enter Tryz.func43, Tryz.ntmps43
    go_wp2_with (first
     | (go_at_call 30; with_reducible refine HFI.out.mono ?_; rintro e W1 ⟨rfl, hb⟩; have HB1 := Asd.mk hb; clear hb)
     | (go_at_call 66; with_reducible refine (HJ.out _ HB1.out).mono ?_; rintro e W2 ⟨v2, rfl, ho, hb⟩; obtain ⟨Aj, cj, rfl⟩ := Kd.R_slice ho; have HO2 := Asd.mk ho; have HB12 := Asd.mk hb; have HB2 := Asd.mk (below_step HB1.out hb); clear ho hb)
     | (go_at_call 29; with_reducible refine (line_Parts.calls Aj cj _ _ _ (Kd.R_reads' HO2.out).2.2 (Kd.R_reads' HO2.out).2.1 HP.out).mono ?_; rintro e W3 ⟨v3, rfl, ho, hb⟩; obtain ⟨Aq, cq, rfl⟩ := Kd.R_slice ho; have HO3 := Asd.mk ho; have HB23 := Asd.mk hb; have HB3 := Asd.mk (below_step HB2.out hb); clear ho hb)
     | (go_at_call 67; with_reducible refine (api_Line.calls 1000000000001 Aq cq _ A c us _ _ (Kd.R_reads' HO3.out).2.2 (Kd.R_reads' HO3.out).2.1 (Kd.C_below HR.out HB3.out) HC.out HEQ.out).mono ?_; rintro e W4 ⟨rfl, hb⟩; have HB4 := Asd.mk (below_step HB3.out hb.below); clear hb)
     | (go_at_call 25; with_reducible refine (end3_calls (HS.out.below HB4.out) HZ.out).mono ?_; rintro e W5 ⟨rfl, own5, hs5, hg5⟩; have HS5 := Asd.mk hs5; have HG5 := Asd.mk hg5; clear hs5 hg5))
    first | go_end0 | ((try simp only [Exit.inBlock, Exit.then]); refine bodyPost_ret (results_none rfl _ _ _) rfl ?_)
    exact ⟨rfl, own5, HS5.out, (Goes.below HB4.out).trans HG5.out⟩
end Go.Proofs.YtemkgdpfkbpnpaaGreatDoor.Take
