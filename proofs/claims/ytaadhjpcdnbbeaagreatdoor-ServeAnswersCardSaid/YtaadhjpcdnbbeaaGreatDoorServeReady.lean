/- A talk with one who fetches: Ready. -/
import Derived.Test.YtaadhjpcdnbbeaaGreatDoorServeTake
namespace Go.Proofs.YtaadhjpcdnbbeaaGreatDoor.Serve
open Go.RowKit Go.Proofs.YtaadhjpcdnbbeaaGreatDoorW.PrintWords Go.Proofs.YtaadhjpcdnbbeaaGreatDoorW.PrintLast Go.Proofs.YtaadhjpcdnbbeaaGreatDoorW.PrintMore Go.Proofs.YtaadhjpcdnbbeaaGreatDoor.Conv Go.Proofs.YtaadhjpcdnbbeaaGreatDoor.Print Go.Proofs.YtaadhjpcdnbbeaaGreatDoor.Line
set_option linter.unusedVariables false
set_option linter.unusedSimpArgs false
set_option maxHeartbeats 8000000 in
set_option maxRecDepth 100000 in
theorem clone_calls (A0 : Option Addr) (c0 : Nat) (l0 : List ByteArray) (w : World) (hr0 : Kd.C Kd.string w A0 l0.length l0) (hc0 : l0.length <= c0) (hlim : l0.length <= 1000000) :
  Calls Tryz.prog 27 #[.slice A0 l0.length c0] w fun e w' => ∃ v0_ : Value, e = .returned (v0_) /\ Kd.R Kd.string 9 w' w.heap.size (fun _ => True) v0_ l0 /\ Below w.heap.size w w' := by
 have HR0 := Asd.mk hr0
 have HL := Asd.mk hlim
 have HCc := Asd.mk hc0
 have hnil := fun (W : World) (a : Option Addr) (n c : Nat) => Lib.run_eql_slice_nil (P := Tryz.prog) W 27 9 a n c 0 0 Tryz.underlying27
 rcases A0 with _ | ad
 ·have h0 : l0 = [] := by
   rcases Nat.eq_zero_or_pos l0.length with h0 | h0
   ·exact List.eq_nil_of_length_eq_zero h0
   ·obtain ⟨ad, h', _⟩ := hr0.2.2 h0
    cases h'
  subst h0
  clear hlim hr0 hc0
  go_enter Tryz.func27, Tryz.ntmps27
  go_wp2
  go_ret
  exact ⟨_, rfl, Kd.R_nil _ _ _ _ _, Below.refl _ _⟩
 ·clear hlim hr0 hc0
  have HB := Asd.mk (Below.refl w.heap.size w)
  go_enter Tryz.func27, Tryz.ntmps27
  go_wp2_with (first | ((with_reducible refine gate_dst (N := 5) rfl ?_); refine Kd.R_lit Kd.string _ 9 ?hg (N := 5) ?hd (xs := ([] : List ByteArray)) (inner := []) (ok := fun _ => True) (okp := fun _ => True) ?hr ?hp (fun _ hk => hk) trivial (Below.refl _ _) (Nat.le_refl _) (by simp) ?_; (case hd => rfl); (case hg => rfl); (case hr => first | (go_simp; done) | (go_simp; rfl)); (case hp => exact (Reps.none _ _)); intro v1 w1 ho1 hb hg_ hnew_; clear hg_ hnew_; have HO1 := Asd.mk ho1; have HB1 := Asd.mk hb; clear ho1 hb) | ((with_reducible refine gate_builtin (b := .append) (xs := #[.tmp 5, .tmp 6]) rfl ?_); at_builtin; refine Kd.R_append_row Value.string ByteArray.empty (w0 := w) w.heap.size rfl (.tmp 5) (.tmp 6) 27 9 (.string ⟨#[]⟩) 16 rfl Tryz.underlying27 info9 rfl (by decide) v1 [] l0 (some ad) l0.length c0 (fun _ => True) rfl rfl (fun _ _ => trivial) HO1.out ?aR HB1.out ?aS ?aL ?_; (case aR => exact Kd.C_below HR0.out HB1.out); (case aS => exact HB1.out.size); (case aL => have := HL.out; simp; omega); intro v2 w2 ho2 hb hg hat; have HO2 := Asd.mk ho2; have HB2 := Asd.mk hb; clear hb hg hat ho2))
  go_ret
  exact ⟨_, rfl, HO2.out, HB2.out⟩
theorem IsS.asked_cells {W : World} {own : Nat -> Prop} {g : Nat} {s : St} (h : IsS W own g s) : ∃ aw cw ah ch, (W.cell? ⟨g, 2, none⟩ = some (.slice aw s.wants.length cw) /\ W.cell? ⟨g, 3, none⟩ = some (.slice ah s.haves.length ch)) /\ (Kd.C Kd.string W aw s.wants.length s.wants /\ Kd.C Kd.string W ah s.haves.length s.haves) /\ s.wants.length <= cw /\ s.haves.length <= ch := by
 obtain ⟨vc, vs, aw, cw, ah, ch, hb, _, _, h5, ⟨h6, h7⟩⟩ := h
 exact ⟨aw, cw, ah, ch, ⟨(box_cell hb 2 rfl).1, (box_cell hb 3 rfl).1⟩, ⟨Kd.F_now h6, Kd.F_now h7⟩, h5.1, h5.2⟩
theorem two_there {W : World} {b : Nat} {x y : Value} {t : TypeId} (h : W.heap[b]? = some (.cells #[x, y] t (0, 0))) : W.there b 0 2 := by
 intro j hj
 refine ⟨?_, frozen_of_row _ b _ _ _ h⟩
 rw [cell_of_row _ b (0 + j) _ _ _ h]
 have : j = 0 ∨ j = 1 := by omega
 rcases this with rfl | rfl <;> rfl
theorem two_set {W : World} {b : Nat} {x y u v : Value} {t : TypeId} (h : W.heap[b]? = some (.cells #[x, y] t (0, 0))) : (W.setCells b 0 [u, v]).heap[b]? = some (.cells #[u, v] t (0, 0)) :=
 (heap_setCell_same (W.setCell ⟨b, 0, none⟩ u) b 1 _ _ v (heap_setCell_same W b 0 _ _ u h)).trans rfl
theorem below_sets {W W' : World} {b : Nat} {u v : Value} (h : Below W.heap.size W W') (hb : W.heap.size <= b) : Below W.heap.size W (W'.setCells b 0 [u, v]) := (h.setCell hb u).setCell hb v
theorem kept_row {W : World} {base q lo : Nat} {v u u2 : Value} {xs : List ByteArray} (hr : Kd.R Kd.string 9 W base (fun _ => True) v xs) (hq : q < base) (hl : lo <= base) : Kd.R Kd.string 9 (W.setCells q 0 [u, u2]) lo (fun _ => True) v xs :=
 Kd.R_mono (Kd.R_step (Kd.R_tight rfl (Kd.R_lower hr hl)) (fun k e _ => (Below.heap_setCell (W.setCell ⟨q, 0, none⟩ u) ⟨q, 1, none⟩ u2 k (fun e2 => by have := Kd.R_base hr k e.symm; have e3 : k = q := e2; omega)).trans (Below.heap_setCell W ⟨q, 0, none⟩ u k (fun e2 => by have := Kd.R_base hr k e.symm; have e3 : k = q := e2; omega)))) (fun _ _ => trivial)
def ready.T3 : Bool × List (List Nat × List Nat) := (true, [([], []), ([0], [0]), ([1], [1]), ([2], [2]), ([3], [3]), ([4], [4]), ([], []), ([6], [6]), ([7], [7]), ([8], [8]), ([9], [9]), ([10, 5], [10]), ([5, 11], [5, 11]), ([12, 11, 0, 1, 2, 3, 4, 5, 6, 7, 8, 9, 10, 11, 12], [12]), ([13, 0, 1, 2, 3, 4, 5, 6, 7, 8, 9, 10, 11, 12, 13], [])])
def ready.B3 : List Nat := [0, 1, 3, 7, 15, 31, 0, 64, 192, 448, 960, 2047, 4095, 8191, 16383]
theorem ready.tab3 : rtab .any (opsOf Tryz.f9 3) = ready.T3 := by kernel_rfl
theorem ready.bits3 : waitsOk ready.T3.2 ready.B3 = true := by kernel_rfl
set_option maxHeartbeats 8000000 in
set_option maxRecDepth 100000 in
theorem ready_calls {W : World} {own : Nat -> Prop} {g : Nat} {s : St} (hs : IsS W own g s) (hst : s.st = 0 ∨ s.st = 1 ∨ s.st = 2) (hw : s.wants.length <= 1000000) (hh : s.haves.length <= 1000000) :
  Calls Tryz.prog 9 #[.pointer (some ⟨g, 0, none⟩)] W fun e w' => Below W.heap.size W w' /\ ((s.st ≠ 1 -> e = .returned (.tuple #[.agg #[.slice none 0 0, .slice none 0 0], .bool false])) /\
   (s.st = 1 -> ∃ vx vy, e = .returned (.tuple #[.agg #[vx, vy], .bool true]) /\ Kd.R Kd.string 9 w' W.heap.size (fun _ => True) vx s.wants /\ Kd.R Kd.string 9 w' W.heap.size (fun _ => True) vy s.haves)) := by
 have HS := Asd.mk hs
 have HW := Asd.mk hw
 have HH := Asd.mk hh
 clear hs hw hh
 go_enter Tryz.func9, Tryz.ntmps9
 go_upto_region 1 with (fail)
 generalize hW0 : World.alloc W _ = W0
 have hq : W0.heap[W.heap.size]? = some (.cells #[.slice none 0 0, .slice none 0 0] 29 (0, 0)) := by rw [<- hW0]; exact heap_alloc_new _ _
 have hb0 : Below W.heap.size W W0 := by rw [<- hW0]; exact bal (Below.refl _ _) _
 have hS0 := HS.out.below hb0
 obtain ⟨k4, f4⟩ := hS0.cells
 obtain ⟨aw, cw, ah, ch, ⟨k2, k3⟩, ⟨cx, cy⟩, l2, l3⟩ := HS.out.asked_cells
 have HQ := Asd.mk hq
 have HB0 := Asd.mk hb0
 have HGE := Asd.mk (Nat.le_refl W.heap.size)
 clear hW0 hq hb0 hS0 f4
 obtain ⟨q, hqq⟩ : ∃ q, q = W.heap.size := ⟨_, rfl⟩
 rw [<- hqq] at HQ ⊢
 have HQQ := Asd.mk hqq
 clear hqq
 by_cases h1 : s.st = 1
 ·replace k4 : W0.cell? ⟨g, 4, none⟩ = some (.int .i64 1) := by rw [<- h1]; exact k4
  have HX := Asd.mk (fun W1 (h : Below W.heap.size W W1) => clone_calls aw cw s.wants W1 (Kd.C_below cx h) l2 HW.out)
  have HY := Asd.mk (fun W1 (h : Below W.heap.size W W1) => clone_calls ah ch s.haves W1 (Kd.C_below cy h) l3 HH.out)
  have H1 := Asd.mk h1
  have H23 := Asd.mk (And.intro k2 k3)
  clear cx cy l2 l3 k2 k3 h1
  go_upto_region 3 with (fail)
  refine start_ (n := 15) (S := fun w' => Below W.heap.size W w') (ds := []) (bA 15 0) (by kernel_rfl) rfl rfl (bd1 HB0.out) (fun hHeld => ?_)
  refine with_tabW ready.tab3 ready.bits3 (fun HT_ HW_ => ?_)
  have hq1 : W0.drew.heap[q]? = some (.cells #[.slice none 0 0, .slice none 0 0] 29 (0, 0)) := HQ.out
  generalize W0.drew = W1 at hHeld hq1 ⊢
  refine pure_ (i := 0) (N := some 10) (v := ?_) (a' := ?_) (bA 15 1) rfl rfl (any_of HT_.out (by kernel_rfl)) (fun _ _ _ h => h) (Or.inl ⟨by rfl, ?_⟩) ?_ ?_
  rotate_left
  ·intro w'
   go_simp
   with_reducible rfl
  rotate_left
  ·simp only [Act.put, zA, zB, zC, i64_w, i32_w]
   rfl
  refine pure_ (i := 1) (N := some 11) (v := ?_) (a' := ?_) (bA 15 3) rfl rfl (any_of HT_.out (by kernel_rfl)) (fun _ _ _ h => h) (Or.inl ⟨by rfl, ?_⟩) ?_ ?_
  rotate_left
  ·intro w'
   go_simp
   with_reducible rfl
  rotate_left
  ·simp only [Act.put, zA, zB, zC, i64_w, i32_w]
   rfl
  refine pure_ (i := 2) (N := some 12) (v := ?_) (a' := ?_) (bA 15 7) rfl rfl (any_of HT_.out (by kernel_rfl)) (fun _ _ _ h => h) (Or.inl ⟨by rfl, ?_⟩) ?_ ?_
  rotate_left
  ·intro w'
   go_simp
   with_reducible rfl
  rotate_left
  ·simp only [Act.put, zA, zB, zC, i64_w, i32_w]
   rfl
  refine pure_ (i := 3) (N := some 13) (v := ?_) (a' := ?_) (bA 15 15) rfl rfl (any_of HT_.out (by kernel_rfl)) (fun _ _ _ h => h) (Or.inl ⟨by rfl, ?_⟩) ?_ ?_
  rotate_left
  ·intro w'
   go_simp
   with_reducible rfl
  rotate_left
  ·simp only [Act.put, zA, zB, zC, i64_w, i32_w]
   rfl
  refine take_ (i := 4) (N := some 14) (v := .slice aw s.wants.length cw) (a' := ?_) (bA 15 31) rfl rfl (take_ofW HT_.out HW_.out (by kernel_rfl)) (fun _ _ _ h => h) (Or.inl ⟨by rfl, fun w' hS' => ?_⟩) hHeld ?_ ?_
  ·have kk := (hS'.cell (World.block_lt_of_cell? _ _ H23.out.1)).trans H23.out.1
   go_simp
  rotate_left
  ·simp only [Act.put, zA, zB, zC, i64_w, i32_w]
   rfl
  refine pure_ (i := 6) (N := some 16) (v := ?_) (a' := ?_) (bA 15 95) rfl rfl (any_of HT_.out (by kernel_rfl)) (fun _ _ _ h => h) (Or.inl ⟨by rfl, ?_⟩) ?_ ?_
  rotate_left
  ·intro w'
   go_simp
   with_reducible rfl
  rotate_left
  ·simp only [Act.put, zA, zB, zC, i64_w, i32_w]
   rfl
  refine pure_ (i := 7) (N := some 17) (v := ?_) (a' := ?_) (bA 15 223) rfl rfl (any_of HT_.out (by kernel_rfl)) (fun _ _ _ h => h) (Or.inl ⟨by rfl, ?_⟩) ?_ ?_
  rotate_left
  ·intro w'
   go_simp
   with_reducible rfl
  rotate_left
  ·simp only [Act.put, zA, zB, zC, i64_w, i32_w]
   rfl
  refine pure_ (i := 8) (N := some 18) (v := ?_) (a' := ?_) (bA 15 479) rfl rfl (any_of HT_.out (by kernel_rfl)) (fun _ _ _ h => h) (Or.inl ⟨by rfl, ?_⟩) ?_ ?_
  rotate_left
  ·intro w'
   go_simp
   with_reducible rfl
  rotate_left
  ·simp only [Act.put, zA, zB, zC, i64_w, i32_w]
   rfl
  refine pure_ (i := 9) (N := some 19) (v := ?_) (a' := ?_) (bA 15 991) rfl rfl (any_of HT_.out (by kernel_rfl)) (fun _ _ _ h => h) (Or.inl ⟨by rfl, ?_⟩) ?_ ?_
  rotate_left
  ·intro w'
   go_simp
   with_reducible rfl
  rotate_left
  ·simp only [Act.put, zA, zB, zC, i64_w, i32_w]
   rfl
  refine take_ (i := 10) (N := some 20) (v := .slice ah s.haves.length ch) (a' := ?_) (bA 15 2015) rfl rfl (take_ofW HT_.out HW_.out (by kernel_rfl)) (fun _ _ _ h => h) (Or.inl ⟨by rfl, fun w' hS' => ?_⟩) hHeld ?_ ?_
  ·have kk := (hS'.cell (World.block_lt_of_cell? _ _ H23.out.2)).trans H23.out.2
   go_simp
  rotate_left
  ·simp only [Act.put, zA, zB, zC, i64_w, i32_w]
   rfl
  refine one_ (i := 5) (N := some 15) (bA 15 2047) rfl rfl (one_of HT_.out (by kernel_rfl)) (by decide) (fun K hK => ?_)
  refine goes_ Tryz.func27 (by kernel_rfl) rfl #[.slice aw s.wants.length cw] (by rfl) rfl rfl (by (try simp only [List.map_toArray, List.map_cons, List.map_nil]); first | done | rfl) ?_
  refine ((HX.out _ hHeld)).mono ?_
  rintro e W5 ⟨v1, rfl, ho, hb⟩
  refine ⟨_, rfl, ?_⟩
  obtain ⟨Ax, cx, rfl⟩ := Kd.R_slice ho
  have hx := ho
  have zx := lt_box hq1
  replace hq1 := below_box hb hq1
  clear ho
  refine hK.out _ _ (below_step hHeld hb) (fun hHeld => ?_)
  clear hK K
  refine norm_ (a' := ?_) ?_ ?_
  rotate_left
  ·show Act.put _ (some 15) _ = _
   simp only [Act.put, zA, zB, zC, i64_w, i32_w]
   rfl
  refine one_ (i := 11) (N := some 21) (bA 15 4095) rfl rfl (one_of HT_.out (by kernel_rfl)) (by decide) (fun K hK => ?_)
  refine goes_ Tryz.func27 (by kernel_rfl) rfl #[.slice ah s.haves.length ch] (by rfl) rfl rfl (by (try simp only [List.map_toArray, List.map_cons, List.map_nil]); first | done | rfl) ?_
  refine ((HY.out _ hHeld)).mono ?_
  rintro e W6 ⟨v2, rfl, ho, hb⟩
  refine ⟨_, rfl, ?_⟩
  obtain ⟨Ay, cy, rfl⟩ := Kd.R_slice ho
  have hy := ho
  have zy := lt_box hq1
  replace hq1 := below_box hb hq1
  replace hx := Kd.R_below hx hb
  clear ho
  refine hK.out _ _ (below_step hHeld hb) (fun hHeld => ?_)
  clear hK K
  refine norm_ (a' := ?_) ?_ ?_
  rotate_left
  ·show Act.put _ (some 21) _ = _
   simp only [Act.put, zA, zB, zC, i64_w, i32_w]
   rfl
  refine pure_ (i := 12) (N := some 22) (v := ?_) (a' := ?_) (bA 15 8191) rfl rfl (any_of HT_.out (by kernel_rfl)) (fun _ _ _ h => h) (Or.inl ⟨by rfl, ?_⟩) ?_ ?_
  rotate_left
  ·intro w'
   go_simp
   with_reducible rfl
  rotate_left
  ·simp only [Act.put, zA, zB, zC, i64_w, i32_w]
   rfl
  refine one_ (i := 13) (N := none) (bA 15 16383) rfl rfl (one_of HT_.out (by kernel_rfl)) (by decide) (fun K hK => ?_)
  rw [if_pos (by rfl)]
  refine wp_store_mid 29 (.tmp 2) (.tmp 22) (by rfl) q 0 #[.slice Ax s.wants.length cx, .slice Ay s.haves.length cy] (by rfl) (by rfl) (two_there hq1) (by kernel_rfl) (by simp [Value.oneCell']) ?_
  have hx2 := kept_row hx zx (u := .slice Ax s.wants.length cx) (u2 := .slice Ay s.haves.length cy) (lo := W.heap.size) (by rw [<- HQQ.out]; omega)
  have hy2 := kept_row hy zy (u := .slice Ax s.wants.length cx) (u2 := .slice Ay s.haves.length cy) (lo := W.heap.size) (by rw [<- HQQ.out]; omega)
  have hq2 := two_set (u := .slice Ax s.wants.length cx) (v := .slice Ay s.haves.length cy) hq1
  refine hK.out _ _ (below_sets hHeld (Nat.le_of_eq HQQ.out.symm)) (fun hHeld2 => ?_)
  clear hK K hHeld
  refine norm_ (a' := ?_) ?_ ?_
  rotate_left
  ·show Act.put _ none _ = _
   simp only [Act.put, zA, zB, zC, i64_w, i32_w]
   rfl
  refine pure_ (i := 14) (N := some 3) (v := ?_) (a' := ?_) (bA 15 32767) rfl rfl (any_of HT_.out (by kernel_rfl)) (fun _ _ _ h => h) (Or.inl ⟨by rfl, ?_⟩) ?_ ?_
  rotate_left
  ·intro w'
   go_simp
   with_reducible rfl
  rotate_left
  ·simp only [Act.put, zA, zB, zC, i64_w, i32_w]
   rfl
  refine done_ (done_of HT_.out (by kernel_rfl)) ?_
  go_wp2_with fail
  (try simp only [Exit.inBlock, Exit.then])
  refine bodyPost_ret (results_ct rfl _ _ q 29 #[.slice Ax s.wants.length cx, .slice Ay s.haves.length cy] (0, 0) _ rfl hq2 Tryz.underlying29 rfl (by kernel_rfl)) rfl ?_
  exact ⟨hHeld2, fun e => absurd H1.out e, fun _ => ⟨_, _, rfl, hx2, hy2⟩⟩
 ·have hn1 : ¬ s.st = 1 := h1
  have H23 := Asd.mk (And.intro k2 k3)
  clear cx cy l2 l3 k2 k3 h1
  go_wp2_with (refine wpList_store_mid rfl 29 (.tmp 2) (.tmp 9) rfl q 0 #[.slice none 0 0, .slice none 0 0] rfl rfl (two_there HQ.out) (by kernel_rfl) (by simp [Value.oneCell']) ?_)
  (try simp only [Exit.inBlock, Exit.then])
  refine bodyPost_ret (results_ct rfl _ _ q 29 #[.slice none 0 0, .slice none 0 0] (0, 0) _ rfl (two_set HQ.out) Tryz.underlying29 rfl (by kernel_rfl)) rfl ?_
  exact ⟨below_sets HB0.out (Nat.le_of_eq HQQ.out.symm), fun _ => rfl, fun e => absurd e hn1⟩
end Go.Proofs.YtaadhjpcdnbbeaaGreatDoor.Serve
