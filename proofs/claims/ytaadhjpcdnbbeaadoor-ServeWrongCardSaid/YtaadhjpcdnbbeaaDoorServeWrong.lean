/- The calls of ServeWrong answer true, whatever they are handed. -/
import Derived.Test.YtaadhjpcdnbbeaaDoorServeC
namespace Go.Proofs.YtaadhjpcdnbbeaaDoor.Serve
open Go.RowKit Go.Proofs.YtaadhjpcdnbbeaaDoorW.PrintWords Go.Proofs.YtaadhjpcdnbbeaaDoorW.PrintLast Go.Proofs.YtaadhjpcdnbbeaaDoorW.PrintMore Go.Proofs.YtaadhjpcdnbbeaaDoor.Conv Go.Proofs.YtaadhjpcdnbbeaaDoor.Print
set_option linter.unusedVariables false
set_option linter.unusedSimpArgs false
set_option maxRecDepth 100000 in
set_option maxHeartbeats 8000000 in
theorem ServeWrong_core {w : World} (A0 : Option Addr) (c0 : Nat) (l0 : List Int) (hr0 : Kd.C (Kd.int .u8) w A0 l0.length l0) (hc0 : l0.length <= c0) (hm0 : l0.length <= maxLen) (hp0 : ∀ x ∈ l0, (Lit.int .u8 x).wf = true)
  (A1 : Option Addr) (c1 : Nat) (l1 : List Int) (hr1 : Kd.C (Kd.int .u8) w A1 l1.length l1) (hc1 : l1.length <= c1) (hm1 : l1.length <= maxLen) (hp1 : ∀ x ∈ l1, (Lit.int .u8 x).wf = true) :
  Calls Tryd.prog 3 #[.slice A0 l0.length c0, .slice A1 l1.length c1] w fun e w' => e = .returned (.bool true) /\ Below w.heap.size w w' := by
 have n01 := Asd.mk (show (0 : Int) ≠ 1 by decide)
 have n21 := Asd.mk (show (2 : Int) ≠ 1 by decide)
 have HR0 := Asd.mk hr0
 have HR1 := Asd.mk hr1
 have HC0 := Asd.mk hc0
 have HC1 := Asd.mk hc1
 have HB0 := Asd.mk (bytes_of_wf hp0)
 have HB1 := Asd.mk (bytes_of_wf hp1)
 clear hr0 hr1 hc0 hc1 hm0 hm1 hp0 hp1
 by_cases g0 : (9000 : Int) < (l0.length : Int)
 ·go_enter Tryd.func3, Tryd.ntmps3
  go_wp2_with (first
   | (go_at_call 4; with_reducible refine (head_calls w).mono ?_; rintro e W1 ⟨rfl, hb⟩; have HB := Asd.mk hb; clear hb)
   | (go_at_call 5; with_reducible refine (new_main w _ HB.out).mono ?_; rintro e W2 ⟨g, own, rfl, ht, _, _⟩; replace HB := Asd.mk ht.bel; clear ht))
  go_ret
  exact ⟨rfl, HB.out⟩
 by_cases g1 : (9000 : Int) < (l1.length : Int)
 ·go_enter Tryd.func3, Tryd.ntmps3
  go_wp2_with (first
   | (go_at_call 4; with_reducible refine (head_calls w).mono ?_; rintro e W1 ⟨rfl, hb⟩; have HB := Asd.mk hb; clear hb)
   | (go_at_call 5; with_reducible refine (new_main w _ HB.out).mono ?_; rintro e W2 ⟨g, own, rfl, ht, _, _⟩; replace HB := Asd.mk ht.bel; clear ht))
  go_ret
  exact ⟨rfl, HB.out⟩
 have HZ := Asd.mk (show l0.length <= 9000 /\ l1.length <= 9000 by omega)
 go_enter Tryd.func3, Tryd.ntmps3
 go_upto_region 5 with (first
  | (go_at_call 4; with_reducible refine (head_calls w).mono ?_; rintro e W1 ⟨rfl, hb⟩; have HB := Asd.mk hb; clear hb)
  | (go_at_call 5; with_reducible refine (new_main w _ HB.out).mono ?_; rintro e W2 ⟨g, own, rfl, ht, _, _⟩; have HT := Asd.mk ht; clear ht HB))
 go_upto_region 6 with (go_at_call 6; with_reducible refine (out_T HT.out).mono ?_; rintro e W3 ⟨Aa, ca, own3, rfl, _, _, ht, _⟩; replace HT := Asd.mk ht; clear ht)
 go_upto_region 7 with (go_at_call 7; with_reducible refine (take_T HT.out A0 l0.length c0 l0 rfl (Kd.C_below HR0.out HT.out.bel) HC0.out HB0.out (by have := HZ.out.1; simp; omega) (by simp)).mono ?_; rintro e W4 ⟨rfl, own4, ht, _⟩; replace HT := Asd.mk ht; clear ht)
 obtain ⟨wa, ha, h⟩ := take_first l0 HB0.out HZ.out.1
 rcases h with h | h | h
 all_goals
  rw [h] at HT
  clear h
 ·go_upto_region 8 with (go_at_call 8; with_reducible refine (ready_no HT.out n01.out).mono ?_; rintro e W5 ⟨rfl, hb⟩; replace HT := Asd.mk (HT.out.below hb); clear hb)
  generalize hW5 : World.alloc _ _ = W5b
  have hb5 : Below W5.heap.size W5 W5b := by rw [<- hW5]; exact bal (Below.refl _ _) _
  replace HT := Asd.mk (HT.out.below hb5)
  clear hW5 hb5
  go_wp2_with (first
   | (go_at_call 9; with_reducible refine (done_T HT.out false rfl).mono ?_; rintro e w1 ⟨rfl, rfl⟩)
   | (go_at_call 6; with_reducible refine (out_T HT.out).mono ?_; rintro e W6 ⟨Ab, cb, own6, rfl, _, _, ht, _⟩; replace HT := Asd.mk ht; clear ht))
  go_ret
  exact ⟨rfl, HT.out.bel⟩
 ·go_upto_region 8 with (go_at_call 8; with_reducible refine (ready_is HT.out rfl wa.length ha.length rfl rfl).mono ?_; rintro e W5 ⟨Ax, cx, Ay, cy, rfl, _, _, _, _, hb⟩; replace HT := Asd.mk (HT.out.below hb); clear hb)
  generalize hW5 : World.alloc _ _ = W5b
  have hb5 : Below W5.heap.size W5 W5b := by rw [<- hW5]; exact bal (Below.refl _ _) _
  replace HT := Asd.mk (HT.out.below hb5)
  clear hW5 hb5
  have HZ2 := Asd.mk (show l0.length + l1.length <= 20000 by have := HZ.out; omega)
  by_cases hn : l1 = []
  ·have HN := Asd.mk hn
   have hl : l1.length = 0 := by rw [hn]; rfl
   clear hn
   go_upto_region 10 with (go_at_call 7; with_reducible refine (take_T HT.out A1 0 c1 l1 hl.symm (Kd.C_below HR1.out HT.out.bel) HC1.out HB1.out HZ2.out (by simp)).mono ?_; rintro e W6 ⟨rfl, own6, ht, _⟩; rw [HN.out, take_wait_nil] at ht; replace HT := Asd.mk ht; clear ht)
   go_upto_region 11 with (go_at_call 8; with_reducible refine (ready_is HT.out rfl wa.length ha.length rfl rfl).mono ?_; rintro e W7 ⟨Ax2, cx2, Ay2, cy2, rfl, _, _, _, _, hb⟩; replace HT := Asd.mk (HT.out.below hb); clear hb)
   generalize hW7 : World.alloc _ _ = W7b
   have hb7 : Below W7.heap.size W7 W7b := by rw [<- hW7]; exact bal (Below.refl _ _) _
   replace HT := Asd.mk (HT.out.below hb7)
   clear hW7 hb7
   go_wp2_with (go_at_call 9; with_reducible refine (done_T HT.out false rfl).mono ?_; rintro e w1 ⟨rfl, rfl⟩)
   go_ret
   exact ⟨rfl, HT.out.bel⟩
  ·have HN := Asd.mk hn
   have hl : ¬ l1 = [] := hn
   clear hn
   go_upto_region 10 with (go_at_call 7; with_reducible refine (take_T HT.out A1 l1.length c1 l1 rfl (Kd.C_below HR1.out HT.out.bel) HC1.out HB1.out HZ2.out (by simp)).mono ?_; rintro e W6 ⟨rfl, own6, ht, _⟩; rw [take_wait _ _ _ _ _ _ _ HN.out] at ht; replace HT := Asd.mk ht; clear ht)
   go_upto_region 11 with (go_at_call 8; with_reducible refine (ready_no HT.out n21.out).mono ?_; rintro e W7 ⟨rfl, hb⟩; replace HT := Asd.mk (HT.out.below hb); clear hb)
   generalize hW7 : World.alloc _ _ = W7b
   have hb7 : Below W7.heap.size W7 W7b := by rw [<- hW7]; exact bal (Below.refl _ _) _
   replace HT := Asd.mk (HT.out.below hb7)
   clear hW7 hb7
   go_wp2_with (go_at_call 9; with_reducible refine (done_T HT.out true rfl).mono ?_; rintro e w1 ⟨rfl, rfl⟩)
   go_ret
   have hq : ((l1.length : Int) == 0) = false := beq_eq_false_iff_ne.2 (fun e => HN.out (List.eq_nil_of_length_eq_zero (by omega)))
   refine ⟨?_, HT.out.bel⟩
   show Ending.returned (Value.bool (!((l1.length : Int) == 0))) = _
   rw [hq]
   rfl
 ·go_upto_region 8 with (go_at_call 8; with_reducible refine (ready_no HT.out n21.out).mono ?_; rintro e W5 ⟨rfl, hb⟩; replace HT := Asd.mk (HT.out.below hb); clear hb)
  generalize hW5 : World.alloc _ _ = W5b
  have hb5 : Below W5.heap.size W5 W5b := by rw [<- hW5]; exact bal (Below.refl _ _) _
  replace HT := Asd.mk (HT.out.below hb5)
  clear hW5 hb5
  have HZ2 := Asd.mk (show l0.length + l1.length <= 20000 by have := HZ.out; omega)
  obtain ⟨ke, hke⟩ := got_err3
  have HKE := Asd.mk hke
  clear hke
  go_upto_region 14 with (go_at_call 9; with_reducible refine (done_T HT.out true rfl).mono ?_; rintro e w1 ⟨rfl, rfl⟩)
  go_upto_region 15 with (first
   | (go_at_call 6; with_reducible refine (out_T HT.out).mono ?_; rintro e W6 ⟨Ao, co, own6, rfl, hco, ho, ht, _⟩; replace HT := Asd.mk ht; have HO := Asd.mk ho; have HOc := Asd.mk hco; clear ho hco ht)
   | (go_at_call 10; with_reducible refine (serve_Got.calls ke Ao co (errB ⟨#[51]⟩) _ _ _ _ HO.out.now HOc.out HKE.out).mono ?_; rintro e W7 ⟨vp, rfl, ho, hb⟩; replace HT := Asd.mk (HT.out.below hb); clear ho hb HO HOc HKE))
  go_upto_region 16 with (go_at_call 7; with_reducible refine (take_T HT.out A1 l1.length c1 l1 rfl (Kd.C_below HR1.out HT.out.bel) HC1.out HB1.out HZ2.out (by simp)).mono ?_; rintro e W8 ⟨rfl, own8, ht, _⟩; rw [take_over] at ht; replace HT := Asd.mk ht; clear ht)
  go_wp2_with (first
   | (go_at_call 11; with_reducible refine (give_no_T HT.out n21.out A1 l1.length c1 0).mono ?_; rintro e W9 ⟨rfl, rfl⟩)
   | (go_at_call 6; with_reducible refine (out_T HT.out).mono ?_; rintro e W10 ⟨Ab, cb, own10, rfl, _, _, ht, _⟩; replace HT := Asd.mk ht; clear ht)
   | (go_at_call 9; with_reducible refine (done_T HT.out true rfl).mono ?_; rintro e w1 ⟨rfl, rfl⟩))
  go_ret
  exact ⟨rfl, HT.out.bel⟩
end Go.Proofs.YtaadhjpcdnbbeaaDoor.Serve
