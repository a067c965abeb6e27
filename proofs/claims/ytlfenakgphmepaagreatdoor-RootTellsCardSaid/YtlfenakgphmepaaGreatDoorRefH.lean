/- The calls of the reference's Get answer what rgetF tells. -/
import Derived.Test.YtlfenakgphmepaaGreatDoorRefGb
namespace Go.Proofs.YtlfenakgphmepaaGreatDoor.Root
open Go.RowKit YtlfenakgphmepaaGreatDoorW.PrintWords YtlfenakgphmepaaGreatDoorW.PrintLast YtlfenakgphmepaaGreatDoorW.PrintMore Print Build YtlfenakgphmepaaGreatDoor.Conv
set_option linter.unusedVariables false
set_option linter.unusedSimpArgs false
set_option maxHeartbeats 8000000 in
set_option maxRecDepth 100000 in
theorem rget_calls (s : ByteArray) (A : Option Addr) (n c : Nat) (bs : List Int) (W : World) (hr : Kd.C (Kd.int .u8) W A n bs) (hbs : strOfNums bs = s) (hs : s.size <= 20000) :
  Calls Tryz.prog 10 #[.slice A n c] W fun r w' => Below W.heap.size W w' /\
   ((∃ m1 pl fl, rgetF s = some (m1, pl, fl) /\ ∃ Ap cp Af cf, r = .returned (.tuple #[.agg #[.int .i64 m1, .slice Ap pl.length cp, .slice Af fl.length cf], .bool true]) /\ Kd.C Kd.string w' Ap pl.length pl /\ pl.length <= cp /\ Kd.C k39 w' Af fl.length fl /\ fl.length <= cf) ∨
   (rgetF s = none /\ r = .returned (.tuple #[.agg #[.int .i64 0, .slice none 0 0, .slice none 0 0], .bool false]))) := by
 have hcv := Kd.C_string (P := Tryz.prog) (src := 26) (dst := 9) (c := c) Tryz.underlying26 Tryz.underlying5 Tryz.underlying9 (Kd.C_below hr (bal (bal (Below.refl _ _) (.cells #[.int .i64 0, .slice none 0 0, .slice none 0 0] 25)) (.cells #[.int .i64 0, .slice none 0 0, .slice none 0 0] 25)))
 rw [hbs] at hcv
 have hzL := sizeT_cuts 10 s.size s (Nat.le_refl _)
 have hlL := sizeT_len (cutsF 10 s)
 have HZL := am (And.intro hzL (And.intro hlL hs))
 have SP := am (fun W' => sacristyref10_split.calls 2000000000 s 10 _ W' (rsplit_eq s 10 (by omega) (by decide)))
 obtain ⟨L, hL⟩ : ∃ L, cutsF 10 s = L := ⟨_, rfl⟩
 rw [hL] at SP HZL
 obtain ⟨n0, i0, h0⟩ : ∃ a b, cntD L 0 netT = (a, b) := ⟨_, _, rfl⟩
 obtain ⟨z1, i1, h1⟩ : ∃ a b, cntD L 1 poolT = (a, b) := ⟨_, _, rfl⟩
 have z1b := cntD_bd L 1 poolT
 rw [h1] at z1b
 obtain ⟨m1, rfl⟩ : ∃ m : Nat, z1 = (m : Int) := ⟨z1.toNat, by have := z1b.1; simp only [] at this; omega⟩
 obtain ⟨z2, i2, h2⟩ : ∃ a b, cntD L (2 + m1) forksT = (a, b) := ⟨_, _, rfl⟩
 have z2b := cntD_bd L (2 + m1) forksT
 rw [h2] at z2b
 obtain ⟨m2, rfl⟩ : ∃ m : Nat, z2 = (m : Int) := ⟨z2.toNat, by have := z2b.1; simp only [] at this; omega⟩
 have hrg : rgetF s = if i0 = true /\ i1 = true /\ 2 + m1 <= L.length /\ i2 = true /\ (m2 : Int) <= 16 then
   match forksD L m2 [] (2 + m1 + 1) with
   | none => none
   | some fl => if rootF n0 (cutL L 2 m1) fl = true /\ textR n0 (cutL L 2 m1) fl = s then some (n0, cutL L 2 m1, fl) else none
  else none := by
  unfold rgetF
  simp only [hL, h0, h1, Int.toNat_natCast, h2]
  rfl
 have HRG := am hrg
 have HM1 := am z1b.2
 have CN := am (fun W' (A5 : Option Addr) (c5 : Nat) (a : Nat) (ai : Int) (hai : (a : Int) = ai) (word : ByteArray) (x : Int) (b : Bool) (hc : Kd.C Kd.string W' A5 L.length L) (h5 : L.length <= c5) (hw : word.size <= 1000) (hx : cntD L a word = (x, b)) => (sacristyref10_counted.calls 2000000000 A5 c5 L ai word x b W' hc h5 (by rw [<- hai, rcnt_eq L a word hw (by decide), hx])).mono (fun e w' h => And.intro h.1 h.2.below))
 have HH := am (And.intro h0 (And.intro h1 h2))
 have HRES := am (qB (bal (Below.refl _ _) (.cells #[.int .i64 0, .slice none 0 0, .slice none 0 0] 25)) (heap_alloc_new W (.cells #[.int .i64 0, .slice none 0 0, .slice none 0 0] 25)))
 have hx0 := heap_alloc_new (W.alloc (.cells #[.int .i64 0, .slice none 0 0, .slice none 0 0] 25)) (.cells #[.int .i64 0, .slice none 0 0, .slice none 0 0] 25)
 rw [sz_alloc] at hx0
 have HX0 := am hx0
 have HB0 := am (bal (bal (Below.refl W.heap.size W) (.cells #[.int .i64 0, .slice none 0 0, .slice none 0 0] 25)) (.cells #[.int .i64 0, .slice none 0 0, .slice none 0 0] 25))
 have HS0 : Asd (((W.alloc (.cells #[.int .i64 0, .slice none 0 0, .slice none 0 0] 25)).alloc (.cells #[.int .i64 0, .slice none 0 0, .slice none 0 0] 25)).heap.size = W.heap.size + 2) := ⟨by rw [sz_alloc, sz_alloc]⟩
 have HR0 := am hr
 have HBS := am hbs
 clear hr hbs hs hzL hlL h0 h1 h2 z1b z2b hrg hx0
 go_enter Tryz.func10, Tryz.ntmps10
 go_upto_region 3 with (go_at_call 36; with_reducible refine (SP.out _).mono ?_; rintro r W1 ⟨v, rfl, hR1, hB1⟩; obtain ⟨A1, c1, rfl⟩ := Kd.R_slice hR1; have HR1 := am hR1; have HB1 := am hB1; clear hR1 hB1)
 have hb1 := qW HB0.out (below_less HB1.out (Nat.le_refl _))
 have HB := am hb1
 replace HRES := am (qB HB1.out HRES.out)
 have HX := am (qB HB1.out HX0.out)
 have HC1 := am (Kd.R_reads' HR1.out).2.1
 have HLN := am (show Kd.F Kd.string W1 (fun k => W.heap.size + 1 < k /\ k < W1.heap.size) A1 L.length L from Kd.F_mono (Kd.R_F (Kd.R_bound HR1.out)) (fun k e => ⟨by have := e.2.1; rw [HS0.out] at this; omega, e.2.2.1⟩))
 have HP0 : Asd (W.heap.size + 1 < W1.heap.size) := ⟨by have := HB1.out.size; rw [HS0.out] at this; omega⟩
 obtain ⟨p0, hp0⟩ : ∃ p, p = W1.heap.size := ⟨_, rfl⟩
 rw [<- hp0] at HLN HP0
 have HPE : Asd (p0 <= W1.heap.size) := ⟨Nat.le_of_eq hp0⟩
 clear hb1 hp0 HX0 HB0 HB1 HS0 HR1 hcv SP
 go_upto_region 5 with (first
  | (go_at_call 37; with_reducible refine (CN.out _ A1 c1 0 0 rfl netT n0 i0 (Kd.F_now HLN.out) HC1.out (by decide) HH.out.1).mono ?_; rintro e W2 ⟨rfl, hb⟩; replace HB := am (qW HB.out hb); replace HRES := am (qB hb HRES.out); replace HX := am (qB hb HX.out); replace HLN := am (Kd.F_below HLN.out hb); replace HPE := am (Nat.le_trans HPE.out hb.size); clear hb)
  | (go_at_call 37; with_reducible refine (CN.out _ A1 c1 1 1 rfl poolT (m1 : Int) i1 (Kd.F_now HLN.out) HC1.out (by decide) HH.out.2.1).mono ?_; rintro e W3 ⟨rfl, hb⟩; replace HB := am (qW HB.out hb); replace HRES := am (qB hb HRES.out); replace HX := am (qB hb HX.out); replace HLN := am (Kd.F_below HLN.out hb); replace HPE := am (Nat.le_trans HPE.out hb.size); clear hb))
 cases i0 with
 | false =>
  go_wp2_with (first
   | ((with_reducible refine gate_store 25 (.tmp 2) (.tmp 50) rfl ?_); refine wpList_store_mid rfl 25 (.tmp 2) (.tmp 50) rfl W.heap.size 0 #[.int .i64 0, .slice none 0 0, .slice none 0 0] ?hx ?hy ?ht ?hi ?h1 ?_; (case hx => rfl); (case hy => rfl); (case ht => exact there3 HRES.out); (case hi => kernel_rfl); (case h1 => simp [Value.oneCell'])))
  (try simp only [Exit.inBlock, Exit.then])
  refine bodyPost_ret (results_ct rfl _ _ W.heap.size 25 #[.int .i64 0, .slice none 0 0, .slice none 0 0] (0, 0) _ rfl (set3 _ _ _ HRES.out) Tryz.underlying25 rfl (by kernel_rfl)) rfl ?_
  exact ⟨below_sets HB.out (Nat.le_refl _) [.int .i64 0, .slice none 0 0, .slice none 0 0], Or.inr ⟨by rw [HRG.out, if_neg (fun e => Bool.noConfusion e.1)], rfl⟩⟩
 | true =>
 cases i1 with
 | false =>
  go_wp2_with (first
   | ((with_reducible refine gate_store 25 (.tmp 2) (.tmp 50) rfl ?_); refine wpList_store_mid rfl 25 (.tmp 2) (.tmp 50) rfl W.heap.size 0 #[.int .i64 0, .slice none 0 0, .slice none 0 0] ?hx ?hy ?ht ?hi ?h1 ?_; (case hx => rfl); (case hy => rfl); (case ht => exact there3 HRES.out); (case hi => kernel_rfl); (case h1 => simp [Value.oneCell'])))
  (try simp only [Exit.inBlock, Exit.then])
  refine bodyPost_ret (results_ct rfl _ _ W.heap.size 25 #[.int .i64 0, .slice none 0 0, .slice none 0 0] (0, 0) _ rfl (set3 _ _ _ HRES.out) Tryz.underlying25 rfl (by kernel_rfl)) rfl ?_
  exact ⟨below_sets HB.out (Nat.le_refl _) [.int .i64 0, .slice none 0 0, .slice none 0 0], Or.inr ⟨by rw [HRG.out, if_neg (fun e => Bool.noConfusion e.2.1)], rfl⟩⟩
 | true =>
 have hlen : (L.length : Int) <= 300000 := by have := HZL.out; omega
 by_cases hm : 2 + m1 <= L.length
 case neg =>
  have hd1 : decide ((L.length : Int) - 2 < (m1 : Int)) = true := dt (by omega)
  have HM := am hm
  have hw2 : wrap64 ((L.length : Int) - 2) = (L.length : Int) - 2 := by clear hd1; unfold wrap64; omega
  have hw1 : IntKind.i64.wrap ((L.length : Int) - 2) = (L.length : Int) - 2 := (i64_w _).trans hw2
  clear hm hlen
  go_wp2_with (first
   | ((with_reducible refine gate_store 25 (.tmp 2) (.tmp 50) rfl ?_); refine wpList_store_mid rfl 25 (.tmp 2) (.tmp 50) rfl W.heap.size 0 #[.int .i64 0, .slice none 0 0, .slice none 0 0] ?hx ?hy ?ht ?hi ?h1 ?_; (case hx => rfl); (case hy => rfl); (case ht => exact there3 HRES.out); (case hi => kernel_rfl); (case h1 => simp [Value.oneCell'])))
  (try simp only [Exit.inBlock, Exit.then])
  refine bodyPost_ret (results_ct rfl _ _ W.heap.size 25 #[.int .i64 0, .slice none 0 0, .slice none 0 0] (0, 0) _ rfl (set3 _ _ _ HRES.out) Tryz.underlying25 rfl (by kernel_rfl)) rfl ?_
  exact ⟨below_sets HB.out (Nat.le_refl _) [.int .i64 0, .slice none 0 0, .slice none 0 0], Or.inr ⟨by rw [HRG.out, if_neg (fun e => HM.out e.2.2.1)], rfl⟩⟩
 case pos =>
  have hd1 : decide ((L.length : Int) - 2 < (m1 : Int)) = false := df (by omega)
  have HM := am hm
  have HLEN := am hlen
  have hw2 : wrap64 ((L.length : Int) - 2) = (L.length : Int) - 2 := by clear hd1; unfold wrap64; omega
  have hw1 : IntKind.i64.wrap ((L.length : Int) - 2) = (L.length : Int) - 2 := (i64_w _).trans hw2
  clear hm hlen
  have hlx := HP0.out
  generalize hx : W.heap.size + 1 = x at *
  have kx0 := (qx HX.out 0 rfl).1
  have kxf := (qx HX.out 0 rfl).2
  go_wp2_with (fail)
  generalize hW4 : World.setCell _ _ _ = W4
  have hK4 : Keeps W3 W4 (fun k => k = x) := by rw [<- hW4]; exact Keeps.set rfl
  have HX4 : Asd (W4.heap[x]? = some (.cells #[.int .i64 n0, .slice none 0 0, .slice none 0 0] 25 (0, 0))) := ⟨by rw [<- hW4]; exact (heap_set_same W3 x 0 _ _ _ HX.out).trans rfl⟩
  have HB4 : Asd (Below W.heap.size W W4) := ⟨HB.out.trans (below_keeps hK4 HB.out.size (fun k e => by have e2 : k = x := e; omega))⟩
  have HR4 := am ((hK4.block _ (lt_box HRES.out) (fun e => by have e2 : W.heap.size = x := e; omega)).trans HRES.out)
  have HL4 : Asd (Kd.F Kd.string W4 (fun k => x < k /\ k < p0) A1 L.length L) := ⟨Kd.F_step HLN.out (fun k e hl => hK4.block k hl (fun e2 => by have e3 : k = x := e2; have := e.1; omega))⟩
  have HP4 : Asd (W.heap.size < x /\ x < p0 /\ p0 <= W4.heap.size) := ⟨by omega, HP0.out, Nat.le_trans HPE.out hK4.size⟩
  obtain ⟨b8, hb8⟩ : ∃ b, b = 2 + m1 := ⟨_, rfl⟩
  have hlen := HLEN.out
  have hm := HM.out
  obtain ⟨A2, c2, hc2, hrun8, hF8⟩ := cut_str A1 c1 L HC1.out 2 m1 b8 hb8 (by omega)
  have hcut8 : ∀ W : World, (Instr.slice 22 (.slice A1 L.length c1) (some (.int .i64 2)) (some (.int .i64 (b8 : Int))) none).run Tryz.prog W = .ok (.slice A2 m1 c2) W := hrun8
  have hw8 : IntKind.i64.wrap (2 + (m1 : Int)) = (b8 : Int) := by rw [i64_w, w64 (by omega) (by omega)]; omega
  have HF8 := am hF8
  obtain ⟨pl, hpl⟩ : ∃ pl, cutL L 2 m1 = pl := ⟨_, rfl⟩
  have hpll : pl.length = m1 := by rw [<- hpl]; exact cutL_len (by omega)
  have hplz : sizeT pl <= sizeT L := by rw [<- hpl]; exact cutL_size _ _ _
  have HPLZ := am (And.intro hpll hplz)
  rw [hpl] at HRG HF8
  have HB8 := am hb8
  have kz1 := (qx HX4.out 1 rfl).1
  clear hW4 hK4 HX HRES HB HLN kx0 kxf hx HP0 HPE hlen hm hrun8 hF8 hpll hplz hpl hb8 hd1 hw1 hw2 hlx
  refine start_ (n := 9) (S := fun w' => w'.cell? ⟨x, 1, none⟩ = some (.slice none 0 0)) (ds := [6, 8]) (bA 9 0) (by kernel_rfl) rfl rfl ((drew_cell kz1)) (fun hHeld => ?_)
  refine pz_ 0 53 (bA 9 1) (by kernel_rfl) ?_
  refine pz_ 2 55 (bA 9 5) (by kernel_rfl) ?_
  refine pz_ 3 56 (bA 9 13) (by kernel_rfl) ?_
  refine pz_ 4 57 (bA 9 29) (by kernel_rfl) ?_
  refine pz_ 5 58 (bA 9 61) (by kernel_rfl) ?_
  refine tz_ 1 54 (bA 9 63) (by kernel_rfl) hHeld ?_
  refine last_ (i := 6) (N := some 59) (bA 9 127) rfl rfl (by kernel_rfl) (by decide) (fun K hK => ?_)
  refine Kd.R_append_rows_step Kd.string (w0 := W4) W4.heap.size (by rfl) (.tmp 54) (.tmp 58) 22 9 (.string ⟨#[]⟩) 16 rfl Tryz.underlying22 info9 rfl (by decide) (by omega) (.slice none 0 0) [] pl A2 m1 c2 (fun _ => True) (fun _ => False) rfl rfl ?aO (Kd.F_now (HF8.out _ _ (Kd.F_below HL4.out (bd1 (Below.refl _ _))))) (fun _ _ h => h) (fun _ h => h.elim) (fun _ _ => trivial) ?aB ?aS ?aL ?_
  case aO => exact Kd.R_nil _ _ _ _ _
  case aB => exact bd1 (Below.refl _ _)
  case aS => exact Nat.le_refl _
  case aL => have h1 := HM.out; have h2 := HLEN.out; show (0 + m1) * 16 <= _; omega
  intro v5 W5 ho hb5 hg5 hat5
  replace ho : Kd.R Kd.string 9 W5 W4.heap.size (fun _ => True) v5 pl := ho
  obtain ⟨A8, c8, rfl⟩ := Kd.R_slice ho
  have HR5 := am ho
  have HX5 := am (qB hb5 HX4.out)
  have HB5 := am hb5
  have kst := (qx HX5.out 1 rfl).1
  have kfr := (qx HX5.out 1 rfl).2
  clear ho hb5 hg5 hat5
  refine hK.out _ _ ?_
  clear hK K
  refine nz_ 59 ?_
  refine pz_ 7 60 (bA 9 255) (by kernel_rfl) ?_
  refine last_ (i := 8) (N := none) (bA 9 511) rfl rfl (by kernel_rfl) (by decide) (fun K hK => ?_)
  refine skip_ (w1 := ?_) (by rfl) rfl ?_ ?_
  rotate_left
  ·go_simp
   rfl
  refine hK.out _ _ ?_
  clear hK K
  refine done_ (by kernel_rfl) ?_
  generalize hW6 : World.setCell _ _ _ = W6
  have hB5 : Below W.heap.size W W5 := qW HB4.out HB5.out
  have hK6 : Keeps W5 W6 (fun k => k = x) := by rw [<- hW6]; exact Keeps.set rfl
  have hX6 : W6.heap[x]? = some (.cells #[.int .i64 n0, .slice A8 pl.length c8, .slice none 0 0] 25 (0, 0)) := by rw [<- hW6]; exact (heap_set_same W5 x 1 _ _ _ HX5.out).trans rfl
  have hlt := HP4.out
  have hs5 := HB5.out.size
  obtain ⟨p1, hp1⟩ : ∃ p, p = W5.heap.size := ⟨_, rfl⟩
  have hLq : Lq W x p0 p1 n0 A1 L A8 c8 pl W6 none 0 [] := ⟨hB5.trans (below_keeps hK6 hB5.size (fun k e => by have e2 : k = x := e; omega)),
   (hK6.block _ (lt_box (qB HB5.out HR4.out)) (fun e => by have e2 : W.heap.size = x := e; omega)).trans (qB HB5.out HR4.out), hX6,
   Kd.F_step (Kd.F_below HL4.out HB5.out) (fun k e hl => hK6.block k hl (fun e2 => by have e3 : k = x := e2; have := e.1; omega)),
   Kd.F_step (Kd.F_mono (Kd.R_F (Kd.R_bound HR5.out)) (fun k e => (show p0 <= k /\ k < p1 from ⟨Nat.le_trans hlt.2.2 e.2.1, by rw [hp1]; exact e.2.2.1⟩))) (fun k e hl => hK6.block k hl (fun e2 => by have e3 : k = x := e2; have := e.1; omega)),
   Kd.R_nil _ _ _ _ _, ⟨hlt.1, hlt.2.1, by omega, by rw [hp1]; exact hK6.size⟩⟩
  have HLQ := am hLq
  have HC8 : Asd (pl.length <= c8) := ⟨(Kd.R_reads' HR5.out).2.1⟩
  clear hW6 hB5 hK6 hX6 hlt hs5 hp1 hLq HX4 HB4 HR4 HL4 HP4 HR5 HX5 HB5 HF8 hcut8 hc2 kz1 kst kfr hHeld
  go_upto_region 11 with (go_at_call 37; with_reducible refine (CN.out _ A1 c1 b8 (b8 : Int) rfl forksT (m2 : Int) i2 (Kd.F_now HLQ.out.ln) HC1.out (by decide) (by rw [HB8.out]; exact HH.out.2.2)).mono ?_; rintro e W7 ⟨rfl, hb⟩; replace HLQ := am (HLQ.out.below hb); clear hb)
  cases i2 with
  | false =>
   go_wp2_with (first
    | ((with_reducible refine gate_store 25 (.tmp 2) (.tmp 75) rfl ?_); refine wpList_store_mid rfl 25 (.tmp 2) (.tmp 75) rfl W.heap.size 0 #[.int .i64 0, .slice none 0 0, .slice none 0 0] ?hx ?hy ?ht ?hi ?h1 ?_; (case hx => rfl); (case hy => rfl); (case ht => exact there3 HLQ.out.res); (case hi => kernel_rfl); (case h1 => simp [Value.oneCell'])))
   (try simp only [Exit.inBlock, Exit.then])
   refine bodyPost_ret (results_ct rfl _ _ W.heap.size 25 #[.int .i64 0, .slice none 0 0, .slice none 0 0] (0, 0) _ rfl (set3 _ _ _ HLQ.out.res) Tryz.underlying25 rfl (by kernel_rfl)) rfl ?_
   exact ⟨below_sets HLQ.out.bel (Nat.le_refl _) [.int .i64 0, .slice none 0 0, .slice none 0 0], Or.inr ⟨by rw [HRG.out, if_neg (fun e => Bool.noConfusion e.2.2.2.1)], rfl⟩⟩
  | true =>
  by_cases h16 : (m2 : Int) <= 16
  case neg =>
   have d16 : decide ((16 : Int) < (m2 : Int)) = true := dt (by omega)
   have H16 := am h16
   clear h16
   go_wp2_with (first
    | ((with_reducible refine gate_store 25 (.tmp 2) (.tmp 75) rfl ?_); refine wpList_store_mid rfl 25 (.tmp 2) (.tmp 75) rfl W.heap.size 0 #[.int .i64 0, .slice none 0 0, .slice none 0 0] ?hx ?hy ?ht ?hi ?h1 ?_; (case hx => rfl); (case hy => rfl); (case ht => exact there3 HLQ.out.res); (case hi => kernel_rfl); (case h1 => simp [Value.oneCell'])))
   (try simp only [Exit.inBlock, Exit.then])
   refine bodyPost_ret (results_ct rfl _ _ W.heap.size 25 #[.int .i64 0, .slice none 0 0, .slice none 0 0] (0, 0) _ rfl (set3 _ _ _ HLQ.out.res) Tryz.underlying25 rfl (by kernel_rfl)) rfl ?_
   exact ⟨below_sets HLQ.out.bel (Nat.le_refl _) [.int .i64 0, .slice none 0 0, .slice none 0 0], Or.inr ⟨by rw [HRG.out, if_neg (fun e => by have h1 := H16.out; have h2 := e.2.2.2.2; omega)], rfl⟩⟩
  case pos =>
  have d16 : decide ((16 : Int) < (m2 : Int)) = false := df (by omega)
  obtain ⟨fo, hfo⟩ : ∃ fo, forksD L m2 [] (2 + m1 + 1) = fo := ⟨_, rfl⟩
  have hrg2 := HRG.out
  rw [if_pos ⟨by first | rfl | trivial, by first | rfl | trivial, HM.out, by first | rfl | trivial, h16⟩, hfo] at hrg2
  have HRG2 := am hrg2
  have HFO := am hfo
  have H16 := am h16
  obtain ⟨b9, hb9⟩ : ∃ b, b = b8 + 1 := ⟨_, rfl⟩
  have hm := HM.out
  have hzl := HZL.out
  have hb8 := HB8.out
  have hw9 : IntKind.i64.wrap ((b8 : Int) + 1) = (b9 : Int) := by rw [i64_w, w64 (by omega) (by omega)]; omega
  have hb9l : b9 <= 20003 := by omega
  have HB9 : Asd (b9 = 2 + m1 + 1) := ⟨by omega⟩
  clear hrg2 hfo h16 HRG hb9 hm hzl hb8
  go_wp2_with (fail)
  clear hw9 d16
  go_loopg [10, 13] m2 (fun gg s10 s13 wr => ∃ (i a : Nat), m2 - i <= gg /\ i <= m2 /\ a <= 20003 /\ s10 = .int .i64 (a : Int) /\ s13 = .int .i64 (i : Int) /\ Asd (∃ acc Af cf, acc.length = i /\ (∀ f ∈ acc, Bf f) /\ Lq W x p0 p1 n0 A1 L A8 c8 pl wr Af cf acc /\ forksD L (m2 - i) acc a = fo))
  case atStart => exact ⟨0, b9, Nat.le_refl _, Nat.zero_le _, hb9l, rfl, rfl, ⟨[], none, 0, rfl, fun f h => absurd h List.not_mem_nil, HLQ.out, by rw [HB9.out]; exact HFO.out⟩⟩
  case round =>
  obtain ⟨i, a, hgg, him, hal, rfl, rfl, ⟨acc, Af, cf, hacc, hbf, hLQ, hfd⟩⟩ := hrel
  clear HLQ HFO HB9 hb9l
  have HLQ := am hLQ
  have HFD := am hfd
  have HBF := am (And.intro hacc hbf)
  clear hLQ hfd hacc hbf
  by_cases hi : i < m2
  case neg =>
   obtain rfl : i = m2 := by omega
   have hq : some acc = fo := by have h := HFD.out; rw [Nat.sub_self] at h; exact h
   rw [<- hq] at HRG2
   have HRG4 : Asd (rgetF s = if rootF n0 pl acc = true /\ textR n0 pl acc = s then some (n0, pl, acc) else none) := ⟨HRG2.out⟩
   have kx0 := (qx HLQ.out.cell 0 rfl).1
   have kx1 := (qx HLQ.out.cell 1 rfl).1
   have kx2 := (qx HLQ.out.cell 2 rfl).1
   have hrf := Kd.R_reads' HLQ.out.fk
   have hzl := HZL.out
   have hplz := HPLZ.out
   have hm := HM.out
   have h16 := H16.out
   have hbf := HBF.out
   have hpc := rput_calls n0 pl acc (by omega) (by omega) hbf.2 (by omega) A8 c8 Af cf wr (Kd.F_now HLQ.out.pool) HC8.out hrf.2.2 hrf.2.1
   have d15 : ¬ i < i := Nat.lt_irrefl _
   have HTX := am (toList_inj (a := textR n0 pl acc) (b := s))
   clear hrf hzl hplz hm h16 hbf hq hi him hgg hal HFD
   cases hroot : rootF n0 pl acc with
   | false =>
    have HPC : Asd (Calls Tryz.prog 8 #[.agg #[.int .i64 n0, .slice A8 pl.length c8, .slice Af acc.length cf]] wr fun e w' => Below wr.heap.size wr w' /\ ∃ A m c, e = .returned (.tuple #[.slice A m c, .bool false])) := ⟨hpc.mono (fun e w' h => ⟨h.1, by
     rcases h.2 with h | h
     ·rw [hroot] at h
      exact Bool.noConfusion h.1
     ·exact h.2⟩)⟩
    have HNONE : Asd (rgetF s = none) := ⟨by rw [HRG4.out]; exact if_neg (fun e => by rw [hroot] at e; exact Bool.noConfusion e.1)⟩
    clear hpc hroot
    go_upto_region 36 with (go_at_call 8; with_reducible refine HPC.out.mono ?_; rintro e Z1 ⟨hb, A9, m9, c9, rfl⟩; have HQZ := am (HLQ.out.below hb); clear hb)
    go_wp2_with (first
     | ((with_reducible refine gate_store 25 (.tmp 2) (.tmp 200) rfl ?_); refine wpList_store_mid rfl 25 (.tmp 2) (.tmp 200) rfl W.heap.size 0 #[.int .i64 0, .slice none 0 0, .slice none 0 0] ?hx ?hy ?ht ?hi ?h1 ?_; (case hx => rfl); (case hy => rfl); (case ht => exact there3 HQZ.out.res); (case hi => kernel_rfl); (case h1 => simp [Value.oneCell'])))
    (try simp only [Exit.inBlock, Exit.then])
    refine bodyPost_ret (results_ct rfl _ _ W.heap.size 25 #[.int .i64 0, .slice none 0 0, .slice none 0 0] (0, 0) _ rfl (set3 _ _ _ HQZ.out.res) Tryz.underlying25 rfl (by kernel_rfl)) rfl ?_
    exact ⟨below_sets HQZ.out.bel (Nat.le_refl _) [.int .i64 0, .slice none 0 0, .slice none 0 0], Or.inr ⟨HNONE.out, rfl⟩⟩
   | true =>
    have HPC : Asd (Calls Tryz.prog 8 #[.agg #[.int .i64 n0, .slice A8 pl.length c8, .slice Af acc.length cf]] wr fun e w' => Below wr.heap.size wr w' /\ ∃ A m c, e = .returned (.tuple #[.slice A m c, .bool true]) /\ Kd.C (Kd.int .u8) w' A m (bytesOf (textR n0 pl acc))) := ⟨hpc.mono (fun e w' h => ⟨h.1, by
     rcases h.2 with h | h
     ·exact h.2
     ·rw [hroot] at h
      exact Bool.noConfusion h.1⟩)⟩
    have HROOT := am hroot
    clear hpc hroot
    go_upto_region 36 with (go_at_call 8; with_reducible refine HPC.out.mono ?_; rintro e Z1 ⟨hb, A9, m9, c9, rfl, hF9⟩; have HQZ := am (HLQ.out.below hb); have HF9 := am hF9; clear hF9; clear hb)
    have hcv1 := Kd.C_string (P := Tryz.prog) (src := 26) (dst := 9) (c := c) Tryz.underlying26 Tryz.underlying5 Tryz.underlying9 (Kd.C_below HR0.out HQZ.out.bel)
    rw [HBS.out] at hcv1
    have hcv2 := Kd.C_string (P := Tryz.prog) (src := 26) (dst := 9) (c := c9) Tryz.underlying26 Tryz.underlying5 Tryz.underlying9 HF9.out
    rw [strOf_bytesOf] at hcv2
    have ky0 := (qx HQZ.out.cell 0 rfl).1
    have ky1 := (qx HQZ.out.cell 1 rfl).1
    have ky2 := (qx HQZ.out.cell 2 rfl).1
    by_cases hts : textR n0 pl acc = s
    case neg =>
     have hcmp : ((textR n0 pl acc).toList == s.toList) = false := Bool.eq_false_iff.2 (fun e => hts (HTX.out (eq_of_beq e)))
     have HNONE : Asd (rgetF s = none) := ⟨by rw [HRG4.out]; exact if_neg (fun e => hts e.2)⟩
     clear hts
     go_wp2_with (first
      | ((with_reducible refine gate_store 25 (.tmp 2) (.tmp 200) rfl ?_); refine wpList_store_mid rfl 25 (.tmp 2) (.tmp 200) rfl W.heap.size 0 #[.int .i64 0, .slice none 0 0, .slice none 0 0] ?hx ?hy ?ht ?hi ?h1 ?_; (case hx => rfl); (case hy => rfl); (case ht => exact there3 HQZ.out.res); (case hi => kernel_rfl); (case h1 => simp [Value.oneCell'])))
     (try simp only [Exit.inBlock, Exit.then])
     refine bodyPost_ret (results_ct rfl _ _ W.heap.size 25 #[.int .i64 0, .slice none 0 0, .slice none 0 0] (0, 0) _ rfl (set3 _ _ _ HQZ.out.res) Tryz.underlying25 rfl (by kernel_rfl)) rfl ?_
     exact ⟨below_sets HQZ.out.bel (Nat.le_refl _) [.int .i64 0, .slice none 0 0, .slice none 0 0], Or.inr ⟨HNONE.out, rfl⟩⟩
    case pos =>
     rw [hts] at hcv2
     have HGET : Asd (rgetF s = some (n0, pl, acc)) := ⟨by rw [HRG4.out]; exact if_pos ⟨HROOT.out, hts⟩⟩
     clear hts
     go_wp2_with (first
      | ((with_reducible refine gate_store 25 (.tmp 2) (.tmp 201) rfl ?_); refine wpList_store_mid rfl 25 (.tmp 2) (.tmp 201) rfl W.heap.size 0 #[.int .i64 n0, .slice A8 pl.length c8, .slice Af acc.length cf] ?hx ?hy ?ht ?hi ?h1 ?_; (case hx => rfl); (case hy => rfl); (case ht => exact there3 HQZ.out.res); (case hi => kernel_rfl); (case h1 => simp [Value.oneCell'])))
     (try simp only [Exit.inBlock, Exit.then])
     refine bodyPost_ret (results_ct rfl _ _ W.heap.size 25 #[.int .i64 n0, .slice A8 pl.length c8, .slice Af acc.length cf] (0, 0) _ rfl (set3 _ _ _ HQZ.out.res) Tryz.underlying25 rfl (by kernel_rfl)) rfl ?_
     have hbe := below_sets HQZ.out.bel (Nat.le_refl _) [.int .i64 n0, .slice A8 pl.length c8, .slice Af acc.length cf]
     have hfn := HQZ.out.fin (Below.refl _ _) [.int .i64 n0, .slice A8 pl.length c8, .slice Af acc.length cf]
     exact ⟨hbe, Or.inl ⟨n0, pl, acc, HGET.out, A8, c8, Af, cf, rfl, hfn.1, HC8.out, hfn.2.1, hfn.2.2⟩⟩
  case pos =>
  have d15 : decide ((i : Int) < (m2 : Int)) = true := dt (by omega)
  have hiz : (i : Int) < (m2 : Int) := by omega
  have HI := am (show 0 < m2 - i by omega)
  have HGG := am (And.intro hgg hi)
  by_cases haL : a < L.length
  case neg =>
   have d17 : L.length <= a := by omega
   have HNO := am (forksD_no HFD.out HI.out (fun e => haL e.1))
   clear haL hgg hi him hal
   go_wp2_with (first
    | ((with_reducible refine gate_store 25 (.tmp 2) (.tmp 87) rfl ?_); refine wpList_store_mid rfl 25 (.tmp 2) (.tmp 87) rfl W.heap.size 0 #[.int .i64 0, .slice none 0 0, .slice none 0 0] ?hx ?hy ?ht ?hi ?h1 ?_; (case hx => rfl); (case hy => rfl); (case ht => exact there3 HLQ.out.res); (case hi => kernel_rfl); (case h1 => simp [Value.oneCell'])))
   (try simp only [Exit.inBlock, Exit.then])
   refine bodyPost_ret (results_ct rfl _ _ W.heap.size 25 #[.int .i64 0, .slice none 0 0, .slice none 0 0] (0, 0) _ rfl (set3 _ _ _ HLQ.out.res) Tryz.underlying25 rfl (by kernel_rfl)) rfl ?_
   exact ⟨below_sets HLQ.out.bel (Nat.le_refl _) [.int .i64 0, .slice none 0 0, .slice none 0 0], Or.inr ⟨by rw [HRG2.out, HNO.out], rfl⟩⟩
  case pos =>
  have d17 : ¬ L.length <= a := by omega
  have HAL := am haL
  obtain ⟨adL, rfl, hcl⟩ := Kd.at_string (Kd.F_now HLQ.out.ln) (a : Int) (by omega) (by omega)
  rw [Int.toNat_natCast, rd_nth] at hcl
  have hazl : sizeT L <= 20001 := by have := HZL.out; omega
  have HAZ := am hazl
  have hnz : (nth L a).size <= 20002 := by have := nth_sizeT L a; omega
  have SPW := am (fun W' => rsplit_calls (nth L a) hnz W')
  obtain ⟨ws, hws⟩ : ∃ ws, cutsF 32 (nth L a) = ws := ⟨_, rfl⟩
  rw [hws] at SPW
  have HWD : Asd (wordsD L a = ws) := ⟨hws⟩
  have hai : (a : Int) < (L.length : Int) := by omega
  have hai0 : (0 : Int) <= (a : Int) := by omega
  clear hws hazl hnz hgg hi him haL
  go_upto_region 20 with (go_at_call 36; with_reducible refine (SPW.out _).mono ?_; rintro e Y1 ⟨v14, rfl, hr, hb⟩; have HB1 := am hb; have HR14 := am hr; clear hr hb)
  by_cases h6 : ws.length = 6
  case neg =>
   obtain ⟨Aw, cw, rfl⟩ := Kd.R_slice HR14.out
   have HNO := am (forksD_no HFD.out HI.out (fun e => h6 (by rw [<- HWD.out]; exact e.2.1)))
   have HQ1 := am (HLQ.out.below HB1.out)
   have hw20 : IntKind.i64.wrap ((a : Int) + 1) = (a : Int) + 1 := by have := HAL.out; have := HLEN.out; rw [i64_w, w64 (by omega) (by omega)]
   have d21 : ¬ (ws.length : Int) = 6 := by omega
   have d22 : ((ws.length : Int) == 6) = false := beq_eq_false_iff_ne.mpr d21
   go_wp2_with (first
    | ((with_reducible refine gate_store 25 (.tmp 2) (.tmp 98) rfl ?_); refine wpList_store_mid rfl 25 (.tmp 2) (.tmp 98) rfl W.heap.size 0 #[.int .i64 0, .slice none 0 0, .slice none 0 0] ?hx ?hy ?ht ?hi ?h1 ?_; (case hx => rfl); (case hy => rfl); (case ht => exact there3 HQ1.out.res); (case hi => kernel_rfl); (case h1 => simp [Value.oneCell'])))
   (try simp only [Exit.inBlock, Exit.then])
   refine bodyPost_ret (results_ct rfl _ _ W.heap.size 25 #[.int .i64 0, .slice none 0 0, .slice none 0 0] (0, 0) _ rfl (set3 _ _ _ HQ1.out.res) Tryz.underlying25 rfl (by kernel_rfl)) rfl ?_
   exact ⟨below_sets HQ1.out.bel (Nat.le_refl _) [.int .i64 0, .slice none 0 0, .slice none 0 0], Or.inr ⟨by rw [HRG2.out, HNO.out], rfl⟩⟩
  case pos =>
  obtain ⟨gb, cw, rfl, hgb, hcells⟩ := cells6 HR14.out h6
  have HCW := am hcells
  have HWS6 := am h6
  have hk4 := hcells 4 (by decide)
  clear h6 hcells hgb
  obtain ⟨z4, b4, hd4⟩ : ∃ a b, decD (nth ws 4) = (a, b) := ⟨_, _, rfl⟩
  have z4b := decD_bd (nth ws 4)
  rw [hd4] at z4b
  obtain ⟨n4, rfl⟩ : ∃ m : Nat, z4 = (m : Int) := ⟨z4.toNat, by have := z4b.1; simp only [] at this; omega⟩
  obtain ⟨z5, b5, hd5⟩ : ∃ a b, decD (nth ws 5) = (a, b) := ⟨_, _, rfl⟩
  have z5b := decD_bd (nth ws 5)
  rw [hd5] at z5b
  obtain ⟨n5, rfl⟩ : ∃ m : Nat, z5 = (m : Int) := ⟨z5.toNat, by have := z5b.1; simp only [] at this; omega⟩
  have DC4 := am (fun W' => rdec_calls (nth ws 4) _ _ hd4 W')
  have DC5 := am (fun W' => rdec_calls (nth ws 5) _ _ hd5 W')
  have HNB := am (And.intro z4b.2 z5b.2)
  have HRN : Asd (refsN L a = n4) := ⟨by unfold refsN; rw [HWD.out, hd4]; rfl⟩
  have HPN : Asd (packsN L a = n5) := ⟨by unfold packsN; rw [HWD.out, hd5]; rfl⟩
  have HD4 : Asd ((decD (nth (wordsD L a) 4)).2 = b4) := ⟨by rw [HWD.out, hd4]⟩
  have HD5 : Asd ((decD (nth (wordsD L a) 5)).2 = b5) := ⟨by rw [HWD.out, hd5]⟩
  obtain ⟨a1, ha1⟩ : ∃ b, b = a + 1 := ⟨_, rfl⟩
  have hw20 : IntKind.i64.wrap ((a : Int) + 1) = (a1 : Int) := by have := HAL.out; have := HLEN.out; rw [i64_w, w64 (by omega) (by omega)]; omega
  have HA1 := am ha1
  clear z4b z5b hd4 hd5 ha1
  go_upto_region 25 with (first
   | (go_at_call 38; with_reducible refine (DC4.out _).mono ?_; rintro e Y2 ⟨rfl, hb⟩; replace HB1 := am (qW HB1.out hb); replace HCW := am (fun i hi => qb (HCW.out i hi) hb); have hk5 := HCW.out 5 (by decide); clear hb)
   | (go_at_call 38; with_reducible refine (DC5.out _).mono ?_; rintro e Y3 ⟨rfl, hb⟩; replace HB1 := am (qW HB1.out hb); replace HCW := am (fun i hi => qb (HCW.out i hi) hb); clear hb))
  have HQ1 := am (HLQ.out.below HB1.out)
  clear hk4 hk5 hw20 hcl
  cases b4 with
  | false =>
   have HNO := am (forksD_no HFD.out HI.out (fun e => by have h1 := e.2.2.1; rw [HD4.out] at h1; exact Bool.noConfusion h1))
   go_wp2_with (first
    | ((with_reducible refine gate_store 25 (.tmp 2) (.tmp 137) rfl ?_); refine wpList_store_mid rfl 25 (.tmp 2) (.tmp 137) rfl W.heap.size 0 #[.int .i64 0, .slice none 0 0, .slice none 0 0] ?hx ?hy ?ht ?hi ?h1 ?_; (case hx => rfl); (case hy => rfl); (case ht => exact there3 HQ1.out.res); (case hi => kernel_rfl); (case h1 => simp [Value.oneCell'])))
   (try simp only [Exit.inBlock, Exit.then])
   refine bodyPost_ret (results_ct rfl _ _ W.heap.size 25 #[.int .i64 0, .slice none 0 0, .slice none 0 0] (0, 0) _ rfl (set3 _ _ _ HQ1.out.res) Tryz.underlying25 rfl (by kernel_rfl)) rfl ?_
   exact ⟨below_sets HQ1.out.bel (Nat.le_refl _) [.int .i64 0, .slice none 0 0, .slice none 0 0], Or.inr ⟨by rw [HRG2.out, HNO.out], rfl⟩⟩
  | true =>
  cases b5 with
  | false =>
   have HNO := am (forksD_no HFD.out HI.out (fun e => by have h1 := e.2.2.2.1; rw [HD5.out] at h1; exact Bool.noConfusion h1))
   go_wp2_with (first
    | ((with_reducible refine gate_store 25 (.tmp 2) (.tmp 137) rfl ?_); refine wpList_store_mid rfl 25 (.tmp 2) (.tmp 137) rfl W.heap.size 0 #[.int .i64 0, .slice none 0 0, .slice none 0 0] ?hx ?hy ?ht ?hi ?h1 ?_; (case hx => rfl); (case hy => rfl); (case ht => exact there3 HQ1.out.res); (case hi => kernel_rfl); (case h1 => simp [Value.oneCell'])))
   (try simp only [Exit.inBlock, Exit.then])
   refine bodyPost_ret (results_ct rfl _ _ W.heap.size 25 #[.int .i64 0, .slice none 0 0, .slice none 0 0] (0, 0) _ rfl (set3 _ _ _ HQ1.out.res) Tryz.underlying25 rfl (by kernel_rfl)) rfl ?_
   exact ⟨below_sets HQ1.out.bel (Nat.le_refl _) [.int .i64 0, .slice none 0 0, .slice none 0 0], Or.inr ⟨by rw [HRG2.out, HNO.out], rfl⟩⟩
  | true =>
  have hal2 := HAL.out
  have hlen2 := HLEN.out
  have hnb := HNB.out
  have ha1 := HA1.out
  have hwA : IntKind.i64.wrap ((L.length : Int) - (a1 : Int)) = (L.length : Int) - (a1 : Int) := by rw [i64_w, w64 (by omega) (by omega)]
  have hwB : IntKind.i64.wrap ((L.length : Int) - (a1 : Int) - (n4 : Int)) = (L.length : Int) - (a1 : Int) - (n4 : Int) := by rw [i64_w, w64 (by omega) (by omega)]
  by_cases hr4 : a1 + n4 <= L.length
  case neg =>
   have d25 : decide ((L.length : Int) - (a1 : Int) < (n4 : Int)) = true := dt (by omega)
   have HNO := am (forksD_no HFD.out HI.out (fun e => by have h1 := e.2.2.2.2.1; rw [HRN.out] at h1; omega))
   clear hr4 hal2 hlen2 hnb ha1
   go_wp2_with (first
    | ((with_reducible refine gate_store 25 (.tmp 2) (.tmp 137) rfl ?_); refine wpList_store_mid rfl 25 (.tmp 2) (.tmp 137) rfl W.heap.size 0 #[.int .i64 0, .slice none 0 0, .slice none 0 0] ?hx ?hy ?ht ?hi ?h1 ?_; (case hx => rfl); (case hy => rfl); (case ht => exact there3 HQ1.out.res); (case hi => kernel_rfl); (case h1 => simp [Value.oneCell'])))
   (try simp only [Exit.inBlock, Exit.then])
   refine bodyPost_ret (results_ct rfl _ _ W.heap.size 25 #[.int .i64 0, .slice none 0 0, .slice none 0 0] (0, 0) _ rfl (set3 _ _ _ HQ1.out.res) Tryz.underlying25 rfl (by kernel_rfl)) rfl ?_
   exact ⟨below_sets HQ1.out.bel (Nat.le_refl _) [.int .i64 0, .slice none 0 0, .slice none 0 0], Or.inr ⟨by rw [HRG2.out, HNO.out], rfl⟩⟩
  case pos =>
  have d25 : decide ((L.length : Int) - (a1 : Int) < (n4 : Int)) = false := df (by omega)
  by_cases hr5 : a1 + n4 + n5 <= L.length
  case neg =>
   have d26 : decide ((L.length : Int) - (a1 : Int) - (n4 : Int) < (n5 : Int)) = true := dt (by omega)
   have HNO := am (forksD_no HFD.out HI.out (fun e => by have h1 := e.2.2.2.2.1; rw [HRN.out, HPN.out] at h1; omega))
   clear hr4 hr5 hal2 hlen2 hnb ha1
   go_wp2_with (first
    | ((with_reducible refine gate_store 25 (.tmp 2) (.tmp 137) rfl ?_); refine wpList_store_mid rfl 25 (.tmp 2) (.tmp 137) rfl W.heap.size 0 #[.int .i64 0, .slice none 0 0, .slice none 0 0] ?hx ?hy ?ht ?hi ?h1 ?_; (case hx => rfl); (case hy => rfl); (case ht => exact there3 HQ1.out.res); (case hi => kernel_rfl); (case h1 => simp [Value.oneCell'])))
   (try simp only [Exit.inBlock, Exit.then])
   refine bodyPost_ret (results_ct rfl _ _ W.heap.size 25 #[.int .i64 0, .slice none 0 0, .slice none 0 0] (0, 0) _ rfl (set3 _ _ _ HQ1.out.res) Tryz.underlying25 rfl (by kernel_rfl)) rfl ?_
   exact ⟨below_sets HQ1.out.bel (Nat.le_refl _) [.int .i64 0, .slice none 0 0, .slice none 0 0], Or.inr ⟨by rw [HRG2.out, HNO.out], rfl⟩⟩
  case pos =>
  have d26 : decide ((L.length : Int) - (a1 : Int) - (n4 : Int) < (n5 : Int)) = false := df (by omega)
  obtain ⟨a2, ha2⟩ : ∃ b, b = a1 + n4 := ⟨_, rfl⟩
  obtain ⟨a3, ha3⟩ : ∃ b, b = a2 + n5 := ⟨_, rfl⟩
  have hwC : IntKind.i64.wrap ((a1 : Int) + (n4 : Int)) = (a2 : Int) := by rw [i64_w, w64 (by omega) (by omega)]; omega
  have hwD : IntKind.i64.wrap ((a2 : Int) + (n5 : Int)) = (a3 : Int) := by rw [i64_w, w64 (by omega) (by omega)]; omega
  obtain ⟨A6, c6, hc6, hcut6, hF6⟩ := cut_str (some adL) c1 L HC1.out a1 n4 a2 ha2 (by omega)
  obtain ⟨A7, c7, hc7, hcut7, hF7⟩ := cut_str (some adL) c1 L HC1.out a2 n5 a3 ha3 (by omega)
  obtain ⟨jt, hjt⟩ : ∃ t, joinA ⟨#[]⟩ (cutL L a1 n4) = t := ⟨_, rfl⟩
  have hjz : jt.size <= 20001 := by rw [<- hjt]; exact joinL_size HAZ.out _ _
  obtain ⟨rf, gd, hrf⟩ : ∃ r b, RG jt = (r, b) := ⟨_, _, rfl⟩
  have hhq := HQ1.out.ln
  have HRW : Asd (Calls Tryz.prog 28 #[.slice A6 n4 c6] Y3 fun e w' => e = .returned (.string jt) /\ Below Y3.heap.size Y3 w') := ⟨by rw [<- hjt]; exact rrows_calls L a1 n4 (by omega) HAZ.out A6 c6 hc6 Y3 (Kd.F_now (hF6 _ _ hhq))⟩
  have HGT := am (fun W' => rg_calls jt hjz rf gd hrf W')
  have HRG3 : Asd (RG (joinA ⟨#[]⟩ (cutL L (a + 1) (refsN L a))) = (rf, gd)) := ⟨by rw [HRN.out, <- ha1, hjt, hrf]⟩
  have HF7 := am hF7
  have HAA := am (And.intro ha2 (And.intro ha3 (And.intro hr5 hc7)))
  clear hal2 hlen2 hnb ha1 hr4 hr5 ha2 ha3 hc6 hc7 hF6 hF7 hjt hjz hrf hhq
  go_upto_region 28 with (first
   | (go_at_call 28; with_reducible refine HRW.out.mono ?_; rintro e Y4 ⟨rfl, hb⟩; replace HB1 := am (qW HB1.out hb); replace HCW := am (fun i hi => qb (HCW.out i hi) hb); clear hb)
   | (go_at_call 39; with_reducible refine (HGT.out _).mono ?_; rintro e Y5 ⟨A3, c3, rfl, hr3, hb⟩; have HR3 := am (Kd.R_lower hr3 HB1.out.size); replace HB1 := am (qW HB1.out hb); replace HCW := am (fun i hi => qb (HCW.out i hi) hb); clear hb hr3))
  replace HQ1 := am (HLQ.out.below HB1.out)
  clear hcut6 d25 d26 hwA hwB HRW HGT DC4 DC5
  cases gd with
  | false =>
   have HNO := am (forksD_no HFD.out HI.out (fun e => by have h1 := e.2.2.2.2.2; rw [HRG3.out] at h1; exact Bool.noConfusion h1))
   go_wp2_with (first
    | ((with_reducible refine gate_store 25 (.tmp 2) (.tmp 151) rfl ?_); refine wpList_store_mid rfl 25 (.tmp 2) (.tmp 151) rfl W.heap.size 0 #[.int .i64 0, .slice none 0 0, .slice none 0 0] ?hx ?hy ?ht ?hi ?h1 ?_; (case hx => rfl); (case hy => rfl); (case ht => exact there3 HQ1.out.res); (case hi => kernel_rfl); (case h1 => simp [Value.oneCell'])))
   (try simp only [Exit.inBlock, Exit.then])
   refine bodyPost_ret (results_ct rfl _ _ W.heap.size 25 #[.int .i64 0, .slice none 0 0, .slice none 0 0] (0, 0) _ rfl (set3 _ _ _ HQ1.out.res) Tryz.underlying25 rfl (by kernel_rfl)) rfl ?_
   exact ⟨below_sets HQ1.out.bel (Nat.le_refl _) [.int .i64 0, .slice none 0 0, .slice none 0 0], Or.inr ⟨by rw [HRG2.out, HNO.out], rfl⟩⟩
  | true =>
  obtain ⟨lk, hlk⟩ : ∃ b, ((nth ws 2).toList == [108, 105, 110, 107, 101, 100]) = b := ⟨_, rfl⟩
  have hel : linkedT.toList = [108, 105, 110, 107, 101, 100] := by first | rfl | decide | simp [linkedT]
  obtain ⟨pk, hpk⟩ : ∃ l, cutL L a2 n5 = l := ⟨_, rfl⟩
  have haa := HAA.out
  have hlk2 : decide ((nth ws 2).toList = linkedT.toList) = lk := by
   rw [<- hlk, hel, Bool.eq_iff_iff, decide_eq_true_iff, beq_iff_eq]
  have hpkl : pk.length = n5 := by rw [<- hpk]; exact cutL_len (by omega)
  have HPK := am (And.intro hpkl hpk)
  rw [hpk] at HF7
  have HFE : Asd (forkD L a = ⟨nth ws 1, lk, nth ws 3, rf, pk⟩) := ⟨by
   unfold forkD
   rw [HWD.out, HRG3.out, HRN.out, HPN.out, <- HA1.out, <- haa.1, hpk, hlk2]⟩
  have HFK : Asd (forkOk L a) := ⟨HAL.out, by rw [HWD.out]; exact HWS6.out, HD4.out, HD5.out, by rw [HRN.out, HPN.out, <- HA1.out]; omega, by rw [HRG3.out]⟩
  have HA3 : Asd (a + 1 + refsN L a + packsN L a = a3) := ⟨by rw [HRN.out, HPN.out]; have := HA1.out; omega⟩
  have ki1 := HCW.out 1 (by decide)
  have ki2 := HCW.out 2 (by decide)
  have ki3 := HCW.out 3 (by decide)
  have HLK := am hlk
  clear haa hpkl hpk SPW hlk2 hel
  go_upto_region 30 with (fail)
  have hg : ∃ g, g = Y5.heap.size := ⟨_, rfl⟩
  obtain ⟨g, hg⟩ := hg
  refine start_ (n := 14) (S := fun w' => w'.cell? ⟨gb, 1, none⟩ = some (.string (nth ws 1)) /\ w'.cell? ⟨gb, 2, none⟩ = some (.string (nth ws 2)) /\ w'.cell? ⟨gb, 3, none⟩ = some (.string (nth ws 3))) (ds := [13]) (bA 14 0) (by kernel_rfl) rfl rfl ⟨(drew_cell ki1), (drew_cell ki2), (drew_cell ki3)⟩ (fun hHeld => ?_)
  refine pz_ 0 152 (bA 14 1) (by kernel_rfl) ?_
  refine pz_ 1 153 (bA 14 3) (by kernel_rfl) ?_
  refine pz_ 3 155 (bA 14 11) (by kernel_rfl) ?_
  refine pz_ 4 156 (bA 14 27) (by kernel_rfl) ?_
  refine pz_ 7 159 (bA 14 155) (by kernel_rfl) ?_
  refine pz_ 8 160 (bA 14 411) (by kernel_rfl) ?_
  refine pz_ 10 162 (bA 14 1435) (by kernel_rfl) ?_
  refine tz_ 2 154 (bA 14 1439) (by kernel_rfl) hHeld ?_
  refine tz_ 5 157 (bA 14 1471) (by kernel_rfl) hHeld ?_
  refine pz_ 6 158 (bA 14 1535) (by kernel_rfl) ?_
  refine tz_ 9 161 (bA 14 2047) (by kernel_rfl) hHeld ?_
  refine pz_ 11 163 (bA 14 4095) (by kernel_rfl) ?_
  refine one_ (i := 12) (N := some 21) (bA 14 8191) rfl rfl (by kernel_rfl) (by decide) (fun K hK => ?_)
  refine value_ (w1 := ?_) (v := ?_) (by rfl) rfl ?_ ?_
  rotate_left 2
  ·go_simp
   constructor
   ·rfl
   ·rfl
  have HG6 : Asd ((Y5.drew.alloc (.cells #[.string ⟨#[]⟩, .bool false, .string ⟨#[]⟩, .slice none 0 0, .slice none 0 0] 39)).heap[g]? = some (.cells #[.string ⟨#[]⟩, .bool false, .string ⟨#[]⟩, .slice none 0 0, .slice none 0 0] 39 (0, 0))) := ⟨by rw [hg]; exact heap_alloc_new Y5.drew _⟩
  have hx6 : Below Y5.heap.size Y5 (Y5.drew.alloc (.cells #[.string ⟨#[]⟩, .bool false, .string ⟨#[]⟩, .slice none 0 0, .slice none 0 0] 39)) := bal (bd1 (Below.refl _ _)) _
  refine hK.out _ _ ⟨(qb ki1 hx6), (qb ki2 hx6), (qb ki3 hx6)⟩ (fun hHeld => ?_)
  clear hK K
  refine nz_ 21 ?_
  refine last_ (i := 13) (N := none) (bA 14 16383) rfl rfl (by kernel_rfl) (by decide) (fun K hK => ?_)
  refine fill_ (by rfl) rfl 39 (.tmp 21) (.tmp 163) rfl g 0 #[.string (nth ws 1), .bool lk, .string (nth ws 3), .slice A3 rf.length c3, .slice none 0 0] ?hx ?hy ?ht ?hi ?h1 ?_
  (case hx => rw [hg]; rfl)
  (case hy => first | rfl | (simp only [Act.eval]; simp; exact HLK.out))
  (case ht => exact there5 HG6.out)
  (case hi => kernel_rfl)
  (case h1 => simp [Value.oneCell'])
  refine hK.out _ _ ?_
  clear hK K
  refine done_ (by kernel_rfl) ?_
  rw [<- hg]
  generalize hY7 : World.setCells _ _ _ _ = Y7
  have hb7 : Below Y5.heap.size Y5 Y7 := by rw [<- hY7]; exact below_sets (bd1 (bal (Below.refl _ _) _)) (Nat.le_of_eq hg.symm) _
  have HG7 : Asd (Y7.heap[g]? = some (.cells #[.string (nth ws 1), .bool lk, .string (nth ws 3), .slice A3 rf.length c3, .slice none 0 0] 39 (0, 0))) := ⟨by rw [<- hY7]; exact set5 _ _ _ _ _ HG6.out⟩
  have HR7 : Asd (Kd.R k83 83 Y7 wr.heap.size (fun k => k < g) (.slice A3 rf.length c3) rf) := ⟨Kd.R_below (Kd.R_mono (Kd.R_bound HR3.out) (fun k e => by have := e.2.2.1; omega)) hb7⟩
  have HWG : Asd (wr.heap.size <= g) := ⟨by have := HB1.out.size; omega⟩
  have HB7 := am (qW HB1.out hb7)
  have HQ7 := am (HLQ.out.below HB7.out)
  have HL7 := am (lt_box HG7.out)
  have kg4 := (qx HG7.out 4 rfl).1
  clear hY7 hb7 HG6 HR3 HB1 HCW HQ1 hx6 ki1 ki2 ki3 hHeld hg hlk HLK
  go_upto_region 32 with (fail)
  refine start_ (n := 11) (S := fun w' => w'.cell? ⟨g, 4, none⟩ = some (.slice none 0 0)) (ds := [8, 10]) (bA 11 0) (by kernel_rfl) rfl rfl ((drew_cell kg4)) (fun hHeld => ?_)
  refine pz_ 0 167 (bA 11 1) (by kernel_rfl) ?_
  refine pz_ 2 169 (bA 11 5) (by kernel_rfl) ?_
  refine pz_ 3 170 (bA 11 13) (by kernel_rfl) ?_
  refine pz_ 4 171 (bA 11 29) (by kernel_rfl) ?_
  refine pz_ 5 172 (bA 11 61) (by kernel_rfl) ?_
  refine pz_ 6 173 (bA 11 125) (by kernel_rfl) ?_
  refine pz_ 7 174 (bA 11 253) (by kernel_rfl) ?_
  refine tz_ 1 168 (bA 11 255) (by kernel_rfl) hHeld ?_
  refine last_ (i := 8) (N := some 175) (bA 11 511) rfl rfl (by kernel_rfl) (by decide) (fun K hK => ?_)
  refine Kd.R_append_rows_step Kd.string (w0 := Y7) Y7.heap.size (by rfl) (.tmp 168) (.tmp 174) 22 9 (.string ⟨#[]⟩) 16 rfl Tryz.underlying22 info9 rfl (by decide) (by omega) (.slice none 0 0) [] pk A7 n5 c7 (fun _ => True) (fun _ => False) rfl rfl ?aO (Kd.F_now (HF7.out _ _ (Kd.F_below HQ7.out.ln (bd1 (Below.refl _ _))))) (fun _ _ h => h) (fun _ h => h.elim) (fun _ _ => trivial) ?aB ?aS ?aL ?_
  case aO => exact Kd.R_nil _ _ _ _ _
  case aB => exact bd1 (Below.refl _ _)
  case aS => exact Nat.le_refl _
  case aL => have h1 := HAA.out; have h2 := HLEN.out; show (0 + n5) * 16 <= _; omega
  intro v8 Y8 ho hb8 hg8 hat8
  replace ho : Kd.R Kd.string 9 Y8 Y7.heap.size (fun _ => True) v8 pk := ho
  obtain ⟨A4, c4, rfl⟩ := Kd.R_slice ho
  have HR8 := am ho
  have HG8 := am (qB hb8 HG7.out)
  have HB8b := am hb8
  have kst := (qx HG8.out 4 rfl).1
  have kfr := (qx HG8.out 4 rfl).2
  clear ho hb8 hg8 hat8
  refine hK.out _ _ ?_
  clear hK K
  refine nz_ 175 ?_
  refine pz_ 9 176 (bA 11 1023) (by kernel_rfl) ?_
  refine last_ (i := 10) (N := none) (bA 11 2047) rfl rfl (by kernel_rfl) (by decide) (fun K hK => ?_)
  refine skip_ (w1 := ?_) (by rfl) rfl ?_ ?_
  rotate_left
  ·go_simp
   rfl
  refine hK.out _ _ ?_
  clear hK K
  refine done_ (by kernel_rfl) ?_
  generalize hY9 : World.setCell _ _ _ = Y9
  have hK9 : Keeps Y8 Y9 (fun k => k = g) := by rw [<- hY9]; exact Keeps.set rfl
  have hgl := HL7.out
  have hwg := HWG.out
  have hs8 := HB8b.out.size
  have HG9 : Asd (Y9.heap[g]? = some (.cells #[.string (nth ws 1), .bool lk, .string (nth ws 3), .slice A3 rf.length c3, .slice A4 pk.length c4] 39 (0, 0))) := ⟨by rw [<- hY9]; exact (heap_set_same Y8 g 4 _ _ _ HG8.out).trans rfl⟩
  have HR39 : Asd (Kd.R k83 83 Y9 wr.heap.size (fun k => k < g) (.slice A3 rf.length c3) rf) := ⟨Kd.R_step (Kd.R_below HR7.out HB8b.out) (fun k e hl => hK9.block k hl (fun e2 => by have e3 : k = g := e2; have e4 : k < g := e; omega))⟩
  have HR49 : Asd (Kd.R Kd.string 9 Y9 wr.heap.size (fun _ => True) (.slice A4 pk.length c4) pk) := ⟨Kd.R_lower (R_keepsO HR8.out hK9 (fun k e => by have e2 : k = g := e; omega)) (by omega)⟩
  have hB9 : Below wr.heap.size wr Y9 := (qW HB7.out HB8b.out).trans (below_keeps hK9 (by omega) (fun k e => by have e2 : k = g := e; omega))
  have HQ9 := am (HLQ.out.below hB9)
  have kx2 := (qx HQ9.out.cell 2 rfl).1
  have kg0 := (qx HG9.out 0 rfl).1
  have kg1 := (qx HG9.out 1 rfl).1
  have kg2 := (qx HG9.out 2 rfl).1
  have kg3 := (qx HG9.out 3 rfl).1
  have kg4 := (qx HG9.out 4 rfl).1
  clear hY9 hK9 hgl hs8 hB9 HG8 HR8 HR7 HB7 HB8b HQ7 HL7 HG7 kst kfr hHeld hcut7 HF7
  have q3 : Kd.R k83 83 Y9 p1 (fun k => some k ≠ (Value.slice Af acc.length cf).ownBlock) (.slice A3 rf.length c3) rf := Kd.R_mono (Kd.R_lower (Kd.R_new' HR39.out (Kd.R_lt HLQ.out.fk)) HLQ.out.hp.2.2.2) (fun _ e => e.2)
  have q4 : Kd.R Kd.string 9 Y9 p1 (fun k => some k ≠ (Value.slice Af acc.length cf).ownBlock) (.slice A4 pk.length c4) pk := Kd.R_mono (Kd.R_lower (Kd.R_new' HR49.out (Kd.R_lt HLQ.out.fk)) HLQ.out.hp.2.2.2) (fun _ e => e.2)
  have HM9 : Asd (k39.M Y9 p1 (fun k => some k ≠ (Value.slice Af acc.length cf).ownBlock) (⟨nth ws 1, lk, nth ws 3, rf, pk⟩ : S39) [.string (nth ws 1), .bool lk, .string (nth ws 3), .slice A3 rf.length c3, .slice A4 pk.length c4]) := ⟨k39_mkM _ _ _ (⟨nth ws 1, lk, nth ws 3, rf, pk⟩ : S39) q3 q4⟩
  obtain ⟨acc2, hacc2⟩ : ∃ l, acc ++ [(⟨nth ws 1, lk, nth ws 3, rf, pk⟩ : S39)] = l := ⟨_, rfl⟩
  have HT9 : Asd (∀ (Y10 : World) (v10 : Value), Kd.R k39 39 Y10 p1 (fun _ => True) v10 (acc ++ [(⟨nth ws 1, lk, nth ws 3, rf, pk⟩ : S39)]) -> Y9.grownBy Y10 (Value.slice Af acc.length cf).ownBlock -> ∃ Ag cg, v10 = .slice Ag acc2.length cg /\
    Y10.heap[x]? = some (.cells #[.int .i64 n0, .slice A8 pl.length c8, .slice Af acc.length cf] 25 (0, 0)) /\ Lq W x p0 p1 n0 (some adL) L A8 c8 pl (Y10.setCell ⟨x, 2, none⟩ (.slice Ag acc2.length cg)) Ag cg acc2) := ⟨fun Y10 v10 ho hg10 => by
   obtain ⟨Ag, cg, rfl⟩ := Kd.R_slice ho
   obtain ⟨h1, h2⟩ := HQ9.out.turn ho hg10
   rw [hacc2] at h2
   exact ⟨Ag, cg, by rw [hacc2], h1, h2⟩⟩
  have HAC2 := am hacc2
  clear q3 q4 hacc2
  have hwI : IntKind.i64.wrap ((i : Int) + 1) = ((i + 1 : Nat) : Int) := by have h1 := HGG.out.2; have h2 := H16.out; rw [i64_w, w64 (by omega) (by omega)]; omega
  go_upto_region 34 with (fail)
  go_wp2_with (first
   | ((with_reducible refine gate_builtin (b := .append) (xs := #[.tmp 181, .tmp 183]) rfl ?_); at_builtin; refine Kd.R_append k39 (w0 := Y9) p1 rfl (.tmp 181) (.tmp 183) 23 39 (.agg #[.string ⟨#[]⟩, .bool false, .string ⟨#[]⟩, .slice none 0 0, .slice none 0 0]) 88 rfl Tryz.underlying23 info_Fork rfl (by decide) (by omega) (.slice Af acc.length cf) acc (⟨nth ws 1, lk, nth ws 3, rf, pk⟩ : S39) [.string (nth ws 1), .bool lk, .string (nth ws 3), .slice A3 rf.length c3, .slice A4 pk.length c4] (fun _ => True) (fun k => some k ≠ (Value.slice Af acc.length cf).ownBlock) rfl rfl ?aP (fun _ hk => ⟨trivial, hk⟩) (fun _ _ => trivial) ?aO ?aB ?aS ?aL ?_; (case aP => exact HM9.out); (case aO => exact HQ9.out.fk); (case aB => exact Below.refl _ _); (case aS => exact HQ9.out.hp.2.2.2); (case aL => have h1 := HBF.out.1; have h2 := HGG.out.2; have h3 := H16.out; omega); intro v10 Y10 ho hb10 hg10 hat; obtain ⟨Ag, cg, rfl, hx5, hL6⟩ := HT9.out Y10 v10 ho hg10; have HL6 := am hL6; have ky1 := (qx hx5 2 rfl).1; have ky2 := (qx hx5 2 rfl).2; clear ho hb10 hg10 hat hL6 hx5))
  have hfd2 := forksD_on HFD.out HI.out HFK.out
  rw [HFE.out, HAC2.out, HA3.out, show m2 - i - 1 = m2 - (i + 1) by omega] at hfd2
  have ha3 : a3 <= 20003 := by have h1 := HAA.out; have h2 := HAZ.out; have h3 := sizeT_len L; omega
  have hal2 : acc2.length = i + 1 := by rw [<- HAC2.out, List.length_append, HBF.out.1]; rfl
  have hbf2 : ∀ f ∈ acc2, Bf f := fun f hf => by
   rw [<- HAC2.out] at hf
   rcases List.mem_append.1 hf with h | h
   ·exact HBF.out.2 f h
   ·rw [List.mem_singleton.1 h, <- HFE.out]
    exact Bf_fork HAZ.out a
  go_roundg (m2 - (i + 1))
  case measure => have h1 := HGG.out; omega
  case rel => exact ⟨i + 1, a3, Nat.le_refl _, by have h1 := HGG.out.2; omega, ha3, rfl, by first | rfl | go_num, ⟨acc2, Ag, cg, hal2, hbf2, HL6.out, hfd2⟩⟩
end Go.Proofs.YtlfenakgphmepaaGreatDoor.Root
