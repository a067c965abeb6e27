/- The calls of TakeWrong answer true, whatever they are handed. -/
import Derived.Test.YtemkgdpfkbpnpaaGreatDoorTakeHead
namespace Go.Proofs.YtemkgdpfkbpnpaaGreatDoor.Take
open Go.RowKit Go.Proofs.YtemkgdpfkbpnpaaGreatDoorW.PrintWords Go.Proofs.YtemkgdpfkbpnpaaGreatDoorW.PrintLast Go.Proofs.YtemkgdpfkbpnpaaGreatDoorW.PrintMore Go.Proofs.YtemkgdpfkbpnpaaGreatDoor.Conv Go.Proofs.YtemkgdpfkbpnpaaGreatDoor.Print
set_option linter.unusedVariables false
set_option linter.unusedSimpArgs false
theorem bytes_of_wf {l : List Int} (h : ∀ x ∈ l, (Lit.int .u8 x).wf = true) : Line.Bytes l := by
 intro x hx
 have := h x hx
 simp [Lit.wf, IntKind.min, IntKind.max, IntKind.signed, IntKind.bits] at this
 exact ⟨by omega, by omega⟩
def Comes (l : List Int) (s : St) : Prop := ∃ cm u p, cm.length <= l.length /\ p.length <= 1000000000 /\ ((∃ nx, nx ≠ -2 /\ s = ⟨cm, [], u, p, nx, false⟩) ∨ s = ⟨cm, [], u, p, -2, true⟩ ∨ s = ⟨cm, errT, u, p, -2, false⟩)
theorem comes_pack (l cm : List Int) (hc : cm.length <= l.length) (u : List S42) (nx : Int) (hn : nx ≠ -2) (us : List Line.Ln) (ps : List Int) (hl : us.length <= 200000) (hs : ∀ y ∈ us, y.f1.size <= 4000) : Comes l (packS errT ⟨cm, [], u, [], nx, false⟩ us ps) := by
 unfold packS
 cases f : flushF us with
 | none => exact ⟨cm, u, [], hc, by simp, Or.inl ⟨nx, hn, rfl⟩⟩
 | some j =>
  by_cases c : fine us ps j
  ·simp only [if_pos c]
   have h1 := sizes_le us hs
   have h2 := Line.joinF_length us
   exact ⟨cm, u, Line.joinF us, hc, by omega, Or.inr (Or.inl rfl)⟩
  ·simp only [if_neg c]
   exact ⟨cm, u, [], hc, by simp, Or.inr (Or.inr rfl)⟩
theorem take_first (l : List Int) (hB : Line.Bytes l) (hz : l.length <= 200000) : Comes l (takeS pushR errT ⟨[], [], [], [], -1, false⟩ l) := by
 rw [take_hear pushR errT rfl (show (-1 : Int) ≠ -2 by decide) l]
 show Comes l (hearS pushR errT ⟨[] ++ l, [], [], [], -1, false⟩)
 rw [List.nil_append]
 obtain ⟨us, ps, ge, he⟩ : ∃ us ps ge, Line.cutF l = (us, ps, ge) := ⟨_, _, _, rfl⟩
 have hf := cut_facts l hB us ps ge he
 rcases hf.1 with rfl | ⟨rfl, rfl, rfl⟩
 ·rw [hear_changes (s := ⟨l, [], [], [], -1, false⟩) he rfl]
  unfold changesS
  cases f : flushF us with
  | none => exact ⟨l, [], [], Nat.le_refl _, by simp, Or.inl ⟨-1, by decide, rfl⟩⟩
  | some i =>
   by_cases d : (pushR (us.take (i + 1))).2 = true
   ·simp only [if_pos d]
    exact comes_pack l l (Nat.le_refl _) _ (i : Int) (by omega) _ _ (by rw [List.length_drop]; omega) (fun y hy => hf.2.2.1 y (List.mem_of_mem_drop hy))
   ·simp only [if_neg d]
    exact ⟨l, [], [], Nat.le_refl _, by simp, Or.inr (Or.inr rfl)⟩
 ·rw [hear_bad (s := ⟨l, [], [], [], -1, false⟩) he]
  exact ⟨l, [], [], Nat.le_refl _, by simp, Or.inr (Or.inr rfl)⟩
theorem got_err3 {W : World} (A : Option Addr) (c : Nat) (hr : Kd.C (Kd.int .u8) W A errT.length errT) (hc : errT.length <= c) : Calls Tryz.prog 17 #[.slice A errT.length c] W fun e w' => e = .returned (.tuple #[.slice none 0 0, .int .i64 3, .int .i64 0, .bool true]) /\ Below W.heap.size W w' :=
 got_err ⟨#[51]⟩ ⟨#[48]⟩ 3 0 100 (by decide) (by decide) refused3 A c hr hc
theorem done_listens (cm sd : List Int) (u : List S42) (p : List Int) (nx : Int) (h : nx ≠ -2) : doneS ⟨cm, sd, u, p, nx, false⟩ = false := by
 unfold doneS
 rw [decide_eq_false h]
 rfl
set_option maxRecDepth 100000 in
set_option maxHeartbeats 8000000 in
theorem TakeWrong_core {w : World} (A0 : Option Addr) (c0 : Nat) (l0 : List Int) (hr0 : Kd.C (Kd.int .u8) w A0 l0.length l0) (hc0 : l0.length <= c0) (hm0 : l0.length <= maxLen) (hp0 : ∀ x ∈ l0, (Lit.int .u8 x).wf = true)
  (A1 : Option Addr) (c1 : Nat) (l1 : List Int) (hr1 : Kd.C (Kd.int .u8) w A1 l1.length l1) (hc1 : l1.length <= c1) (hm1 : l1.length <= maxLen) (hp1 : ∀ x ∈ l1, (Lit.int .u8 x).wf = true) :
  Calls Tryz.prog 5 #[.slice A0 l0.length c0, .slice A1 l1.length c1] w fun e w' => e = .returned (.bool true) /\ Below w.heap.size w w' := by
 have HR0 := Asd.mk hr0
 have HR1 := Asd.mk hr1
 have HC0 := Asd.mk hc0
 have HC1 := Asd.mk hc1
 have HB0 := Asd.mk (bytes_of_wf hp0)
 have HB1 := Asd.mk (bytes_of_wf hp1)
 clear hr0 hr1 hc0 hc1 hm0 hm1 hp0 hp1
 by_cases g0 : (9000 : Int) < (l0.length : Int)
 ·go_enter Tryz.func5, Tryz.ntmps5
  go_wp2_with (first
   | (go_at_call 7; with_reducible refine (head_calls w).mono ?_; rintro e W1 ⟨rfl, hb⟩; have HB := Asd.mk hb; clear hb)
   | (go_at_call 8; with_reducible refine (new_main w _ HB.out).mono ?_; rintro e W2 ⟨g, own, rfl, ht, _, _⟩; replace HB := Asd.mk ht.bel; clear ht))
  go_ret
  exact ⟨rfl, HB.out⟩
 by_cases g1 : (9000 : Int) < (l1.length : Int)
 ·go_enter Tryz.func5, Tryz.ntmps5
  go_wp2_with (first
   | (go_at_call 7; with_reducible refine (head_calls w).mono ?_; rintro e W1 ⟨rfl, hb⟩; have HB := Asd.mk hb; clear hb)
   | (go_at_call 8; with_reducible refine (new_main w _ HB.out).mono ?_; rintro e W2 ⟨g, own, rfl, ht, _, _⟩; replace HB := Asd.mk ht.bel; clear ht))
  go_ret
  exact ⟨rfl, HB.out⟩
 have HZ := Asd.mk (show l0.length <= 9000 /\ l1.length <= 9000 by omega)
 go_enter Tryz.func5, Tryz.ntmps5
 go_upto_region 5 with (first
  | (go_at_call 7; with_reducible refine (head_calls w).mono ?_; rintro e W1 ⟨rfl, hb⟩; have HB := Asd.mk hb; clear hb)
  | (go_at_call 8; with_reducible refine (new_main w _ HB.out).mono ?_; rintro e W2 ⟨g, own, rfl, ht, _, _⟩; have HT := Asd.mk ht; clear ht HB))
 go_upto_region 6 with (go_at_call 12; with_reducible refine (out_T HT.out).mono ?_; rintro e W3 ⟨Aa, ca, own3, rfl, _, _, ht, _⟩; replace HT := Asd.mk ht; clear ht)
 go_upto_region 7 with (go_at_call 9; with_reducible refine (take_T HT.out A0 l0.length c0 l0 rfl (Kd.C_below HR0.out HT.out.bel) HC0.out HB0.out (by have := HZ.out.1; simp; omega) (by simp)).mono ?_; rintro e W4 ⟨rfl, own4, ht, _⟩; replace HT := Asd.mk ht; clear ht)
 obtain ⟨cm, u, p, hcm, hp, h⟩ := take_first l0 HB0.out (by have := HZ.out.1; omega)
 have HP := Asd.mk hp
 have HZ2 := Asd.mk (show cm.length + l1.length <= 200000 by have := HZ.out; omega)
 clear hp hcm
 rcases h with ⟨nx, hnx, h⟩ | h | h
 all_goals
  rw [h] at HT
  clear h
 ·have HD := Asd.mk (done_listens cm [] u p nx hnx)
  clear hnx
  go_wp2_with (first
   | (go_at_call 10; with_reducible refine (ready_no HT.out rfl HP.out).mono ?_; rintro e W5 ⟨rfl, hb⟩; replace HT := Asd.mk (HT.out.below hb); clear hb)
   | (go_at_call 11; with_reducible refine (done_T HT.out false HD.out).mono ?_; rintro e w1 ⟨rfl, rfl⟩)
   | (go_at_call 12; with_reducible refine (out_T HT.out).mono ?_; rintro e W6 ⟨Ab, cb, own6, rfl, _, _, ht, _⟩; replace HT := Asd.mk ht; clear ht))
  go_ret
  exact ⟨rfl, HT.out.bel⟩
 ·by_cases hn : l1 = []
  ·have HN := Asd.mk hn
   have hl : l1.length = 0 := by rw [hn]; rfl
   have HD := Asd.mk (show doneS ⟨cm, [], u, p, -2, true⟩ = false from rfl)
   clear hn
   go_wp2_with (first
    | (go_at_call 10; with_reducible refine (ready_is HT.out rfl HP.out u.length p.length rfl rfl).mono ?_; rintro e W5 ⟨Ax, cx, Ay, cy, rfl, _, _, _, _, hb⟩; replace HT := Asd.mk (HT.out.below hb); clear hb)
    | (go_at_call 9; with_reducible refine (take_T HT.out A1 0 c1 l1 hl.symm (Kd.C_below HR1.out HT.out.bel) HC1.out HB1.out HZ2.out (by simp)).mono ?_; rintro e W6 ⟨rfl, own6, ht, _⟩; rw [HN.out, take_wait_nil pushR errT rfl] at ht; replace HT := Asd.mk ht; clear ht)
    | (go_at_call 11; with_reducible refine (done_T HT.out false HD.out).mono ?_; rintro e w1 ⟨rfl, rfl⟩))
   go_ret
   exact ⟨rfl, HT.out.bel⟩
  ·have HN := Asd.mk hn
   have hq : ((l1.length : Int) == 0) = false := beq_eq_false_iff_ne.2 (fun e => hn (List.eq_nil_of_length_eq_zero (by omega)))
   have hl : ¬ l1 = [] := hn
   have HE := Asd.mk (show takeS pushR errT ⟨cm, [], u, p, -2, true⟩ l1 = ⟨cm, errT, u, p, -2, false⟩ from take_wait pushR errT rfl hn)
   have HD := Asd.mk (show doneS ⟨cm, errT, u, p, -2, false⟩ = true from rfl)
   clear hn
   go_wp2_with (first
    | (go_at_call 10; with_reducible refine (ready_is HT.out rfl HP.out u.length p.length rfl rfl).mono ?_; rintro e W5 ⟨Ax, cx, Ay, cy, rfl, _, _, _, _, hb⟩; replace HT := Asd.mk (HT.out.below hb); clear hb)
    | (go_at_call 9; with_reducible refine (take_T HT.out A1 l1.length c1 l1 rfl (Kd.C_below HR1.out HT.out.bel) HC1.out HB1.out HZ2.out (by simp)).mono ?_; rintro e W6 ⟨rfl, own6, ht, _⟩; rw [HE.out] at ht; replace HT := Asd.mk ht; clear ht)
    | (go_at_call 10; with_reducible refine (ready_no HT.out rfl HP.out).mono ?_; rintro e W7 ⟨rfl, hb⟩; replace HT := Asd.mk (HT.out.below hb); clear hb)
    | (go_at_call 11; with_reducible refine (done_T HT.out true HD.out).mono ?_; rintro e w1 ⟨rfl, rfl⟩))
   go_ret
   exact ⟨rfl, HT.out.bel⟩
 ·have HD := Asd.mk (show doneS ⟨cm, errT, u, p, -2, false⟩ = true from rfl)
  have HD2 := Asd.mk (show doneS ⟨cm, [], u, p, -2, false⟩ = true from rfl)
  have HE := Asd.mk (take_over pushR errT (s := ⟨cm, [], u, p, -2, false⟩) rfl rfl l1)
  go_upto_region 14 with (first
   | (go_at_call 10; with_reducible refine (ready_no HT.out rfl HP.out).mono ?_; rintro e W5 ⟨rfl, hb⟩; replace HT := Asd.mk (HT.out.below hb); clear hb)
   | (go_at_call 11; with_reducible refine (done_T HT.out true HD.out).mono ?_; rintro e w1 ⟨rfl, rfl⟩))
  go_wp2_with (first
   | (go_at_call 12; with_reducible refine (out_T HT.out).mono ?_; rintro e W6 ⟨Ao, co, own6, rfl, hco, ho, ht, _⟩; replace HT := Asd.mk ht; have HO := Asd.mk ho; have HOc := Asd.mk hco; clear ho hco ht)
   | (go_at_call 17; with_reducible refine (got_err3 Ao co HO.out.now HOc.out).mono ?_; rintro e W7 ⟨rfl, hb⟩; replace HT := Asd.mk (HT.out.below hb); clear hb HO HOc)
   | (go_at_call 9; with_reducible refine (take_T HT.out A1 l1.length c1 l1 rfl (Kd.C_below HR1.out HT.out.bel) HC1.out HB1.out HZ2.out (by simp)).mono ?_; rintro e W8 ⟨rfl, own8, ht, _⟩; rw [HE.out] at ht; replace HT := Asd.mk ht; clear ht)
   | (go_at_call 16; with_reducible refine (give_no_T HT.out rfl 0 0).mono ?_; rintro e W9 ⟨rfl, rfl⟩)
   | (go_at_call 11; with_reducible refine (done_T HT.out true HD2.out).mono ?_; rintro e w1 ⟨rfl, rfl⟩))
  go_ret
  exact ⟨rfl, HT.out.bel⟩
end Go.Proofs.YtemkgdpfkbpnpaaGreatDoor.Take
