/- A talk with one who pushes: Ready. -/
import Derived.Test.YtemkgdpfkbpnpaaGreatDoorTakeB
namespace Go.Proofs.YtemkgdpfkbpnpaaGreatDoor.Take
open Go.RowKit Go.Proofs.YtemkgdpfkbpnpaaGreatDoorW.PrintWords Go.Proofs.YtemkgdpfkbpnpaaGreatDoorW.PrintLast Go.Proofs.YtemkgdpfkbpnpaaGreatDoorW.PrintMore Go.Proofs.YtemkgdpfkbpnpaaGreatDoor.Conv Go.Proofs.YtemkgdpfkbpnpaaGreatDoor.Print Go.Proofs.YtemkgdpfkbpnpaaGreatDoor.Line
open Go.Proofs.YtemkgdpfkbpnpaaGreatDoor.Hello hiding Ln cutF
set_option linter.unusedVariables false
set_option linter.unusedSimpArgs false
set_option maxHeartbeats 8000000 in
set_option maxRecDepth 100000 in
theorem clone_calls (A0 : Option Addr) (c0 : Nat) (l0 : List S42) (w : World) (hr0 : Kd.C k42 w A0 l0.length l0) (hc0 : l0.length <= c0) (hlim : l0.length <= 1000000) :
  Calls Tryz.prog 27 #[.slice A0 l0.length c0] w fun e w' => ∃ v0_ : Value, e = .returned (v0_) /\ Kd.R k42 42 w' w.heap.size (fun _ => True) v0_ l0 /\ Below w.heap.size w w' := by
 have HR0 := Asd.mk hr0
 have HL := Asd.mk hlim
 have HCc := Asd.mk hc0
 have hnil := fun (W : World) (a : Option Addr) (n c : Nat) => Lib.run_eql_slice_nil (P := Tryz.prog) W 27 42 a n c 0 0 Tryz.underlying27
 rcases A0 with _ | ad
 ·have h0 : l0 = [] := by
   rcases Nat.eq_zero_or_pos l0.length with h0 | h0
   ·exact List.eq_nil_of_length_eq_zero h0
   ·obtain ⟨ad, h', _⟩ := hr0.2.2 h0
    cases h'
  subst h0
  clear hlim hr0 hc0
  go_enter Tryz.func27, Tryz.ntmps27
  go_wp2
  go_ret
  exact ⟨_, rfl, Kd.R_nil _ _ _ _ _, Below.refl _ _⟩
 ·clear hlim hr0 hc0
  go_enter Tryz.func27, Tryz.ntmps27
  go_wp2_with (first | ((with_reducible refine gate_dst (N := 5) rfl ?_); refine Kd.R_lit k42 _ 42 ?hg (N := 5) ?hd (xs := ([] : List S42)) (inner := []) (ok := fun _ => True) (okp := fun _ => True) ?hr ?hp (fun _ hk => hk) trivial (Below.refl _ _) (Nat.le_refl _) (by simp) ?_; (case hd => rfl); (case hg => rfl); (case hr => first | (go_simp; done) | (go_simp; rfl)); (case hp => exact (Reps.none _ _)); intro v1 w1 ho1 hb hg_ hnew_; clear hg_ hnew_; have HO1 := Asd.mk ho1; have HB1 := Asd.mk hb; clear ho1 hb) | ((with_reducible refine gate_builtin (b := .append) (xs := #[.tmp 5, .tmp 6]) rfl ?_); at_builtin; refine Kd.R_append_rows k42 (w0 := w) w.heap.size rfl (.tmp 5) (.tmp 6) 27 42 (.agg #[(.string ⟨#[]⟩), (.string ⟨#[]⟩), (.string ⟨#[]⟩)]) 48 rfl Tryz.underlying27 info42 rfl (by decide) (by omega) v1 [] l0 (some ad) l0.length c0 (fun _ => True) (fun k => some k ≠ v1.ownBlock) rfl rfl HO1.out (Kd.C_below HR0.out HB1.out) (fun x cs h => by rw [k42_open h]; exact k42_mkM _ _ _ x) (fun _ h => ⟨trivial, h⟩) (fun _ _ => trivial) HB1.out ?aS ?aL ?_; (case aS => exact HB1.out.size); (case aL => have := HL.out; simp; omega); intro v2 w2 ho2 hb hg hat; have HO2 := Asd.mk ho2; have HB2 := Asd.mk hb; clear hb hg hat ho2))
  go_ret
  exact ⟨_, rfl, HO2.out, HB2.out⟩
def ready.T3 : Bool × List (List Nat × List Nat) := (true, [([], []), ([0], [0]), ([1], [1]), ([2], [2]), ([3], [3]), ([], []), ([5], [5]), ([6], [6]), ([7], [7]), ([8, 4], [8]), ([4, 9, 0, 1, 2, 3, 4], [4]), ([9, 10, 0, 1, 2, 3, 4, 5, 6, 7, 8, 9, 10], [9]), ([11, 0, 1, 2, 3, 4, 5, 6, 7, 8, 9, 10, 11], [])])
def ready.B3 : List Nat := [0, 1, 3, 7, 15, 0, 32, 96, 224, 511, 1023, 2047, 4095]
theorem ready.tab3 : rtab .any (opsOf Tryz.f10 3) = ready.T3 := by kernel_rfl
theorem ready.bits3 : waitsOk ready.T3.2 ready.B3 = true := by kernel_rfl
set_option maxHeartbeats 8000000 in
set_option maxRecDepth 100000 in
theorem ready_calls {W : World} {own : Nat -> Prop} {g : Nat} {s : St} (hs : IsT W own g s) (hw : s.ups.length <= 1000000) (hh : s.pack.length <= 1000000000) :
  Calls Tryz.prog 10 #[.pointer (some ⟨g, 0, none⟩)] W fun e w' => Below W.heap.size W w' /\ ((s.waits = false -> e = .returned (.tuple #[.slice none 0 0, .slice none 0 0, .bool false])) /\
   (s.waits = true -> ∃ vx vy, e = .returned (.tuple #[vx, vy, .bool true]) /\ Kd.R k42 42 w' W.heap.size (fun _ => True) vx s.ups /\ Kd.R (Kd.int .u8) 5 w' W.heap.size (fun _ => True) vy s.pack)) := by
 obtain ⟨⟨k5, f5⟩, _⟩ := hs.cells
 obtain ⟨au, cu, ap, cp, ⟨k2, k3⟩, ⟨hu, hp⟩, l2, l3⟩ := hs.rows
 by_cases h1 : s.waits = true
 ·rw [h1] at k5
  have H1 := Asd.mk h1
  have H23 := Asd.mk (And.intro k2 k3)
  have HX := Asd.mk (fun W' (h : Below W.heap.size W W') => clone_calls au cu s.ups W' (Kd.C_below (Kd.F_now hu) h) l2 hw)
  have HY := Asd.mk (fun W' (h : Below W.heap.size W W') => bytes_Clone.calls ap cp s.pack s.pack W' (Kd.C_below (Kd.F_now hp) h) l3 (by unfold bytes_Clone.f; rw [if_pos (by omega)]))
  clear k2 k3 hs hw hh hu hp l2 l3 h1
  go_enter Tryz.func10, Tryz.ntmps10
  go_upto_region 3 with (fail)
  refine start_ (n := 13) (S := fun w' => Below W.heap.size W w') (ds := []) (bA 13 0) (by kernel_rfl) rfl rfl (bd1 (Below.refl _ _)) (fun hHeld => ?_)
  refine with_tabW ready.tab3 ready.bits3 (fun HT_ HW_ => ?_)
  generalize W.drew = W1 at hHeld ⊢
  refine pure_ (i := 0) (N := some 10) (v := ?_) (a' := ?_) (bA 13 1) rfl rfl (any_of HT_.out (by kernel_rfl)) (fun _ _ _ h => h) (Or.inl ⟨by rfl, ?_⟩) ?_ ?_
  rotate_left
  ·intro w'
   go_simp
   with_reducible rfl
  rotate_left
  ·simp only [Act.put, zA, zB, zC, i64_w, i32_w]
   rfl
  refine pure_ (i := 1) (N := some 11) (v := ?_) (a' := ?_) (bA 13 3) rfl rfl (any_of HT_.out (by kernel_rfl)) (fun _ _ _ h => h) (Or.inl ⟨by rfl, ?_⟩) ?_ ?_
  rotate_left
  ·intro w'
   go_simp
   with_reducible rfl
  rotate_left
  ·simp only [Act.put, zA, zB, zC, i64_w, i32_w]
   rfl
  refine pure_ (i := 2) (N := some 12) (v := ?_) (a' := ?_) (bA 13 7) rfl rfl (any_of HT_.out (by kernel_rfl)) (fun _ _ _ h => h) (Or.inl ⟨by rfl, ?_⟩) ?_ ?_
  rotate_left
  ·intro w'
   go_simp
   with_reducible rfl
  rotate_left
  ·simp only [Act.put, zA, zB, zC, i64_w, i32_w]
   rfl
  refine take_ (i := 3) (N := some 13) (v := .slice au s.ups.length cu) (a' := ?_) (bA 13 15) rfl rfl (take_ofW HT_.out HW_.out (by kernel_rfl)) (fun _ _ _ h => h) (Or.inl ⟨by rfl, fun w' hS' => ?_⟩) hHeld ?_ ?_
  ·have kk := (hS'.cell (World.block_lt_of_cell? _ _ H23.out.1)).trans H23.out.1
   go_simp
  rotate_left
  ·simp only [Act.put, zA, zB, zC, i64_w, i32_w]
   rfl
  refine pure_ (i := 5) (N := some 15) (v := ?_) (a' := ?_) (bA 13 47) rfl rfl (any_of HT_.out (by kernel_rfl)) (fun _ _ _ h => h) (Or.inl ⟨by rfl, ?_⟩) ?_ ?_
  rotate_left
  ·intro w'
   go_simp
   with_reducible rfl
  rotate_left
  ·simp only [Act.put, zA, zB, zC, i64_w, i32_w]
   rfl
  refine pure_ (i := 6) (N := some 16) (v := ?_) (a' := ?_) (bA 13 111) rfl rfl (any_of HT_.out (by kernel_rfl)) (fun _ _ _ h => h) (Or.inl ⟨by rfl, ?_⟩) ?_ ?_
  rotate_left
  ·intro w'
   go_simp
   with_reducible rfl
  rotate_left
  ·simp only [Act.put, zA, zB, zC, i64_w, i32_w]
   rfl
  refine pure_ (i := 7) (N := some 17) (v := ?_) (a' := ?_) (bA 13 239) rfl rfl (any_of HT_.out (by kernel_rfl)) (fun _ _ _ h => h) (Or.inl ⟨by rfl, ?_⟩) ?_ ?_
  rotate_left
  ·intro w'
   go_simp
   with_reducible rfl
  rotate_left
  ·simp only [Act.put, zA, zB, zC, i64_w, i32_w]
   rfl
  refine take_ (i := 8) (N := some 18) (v := .slice ap s.pack.length cp) (a' := ?_) (bA 13 495) rfl rfl (take_ofW HT_.out HW_.out (by kernel_rfl)) (fun _ _ _ h => h) (Or.inl ⟨by rfl, fun w' hS' => ?_⟩) hHeld ?_ ?_
  ·have kk := (hS'.cell (World.block_lt_of_cell? _ _ H23.out.2)).trans H23.out.2
   go_simp
  rotate_left
  ·simp only [Act.put, zA, zB, zC, i64_w, i32_w]
   rfl
  refine one_ (i := 4) (N := some 14) (bA 13 511) rfl rfl (one_of HT_.out (by kernel_rfl)) (by decide) (fun K hK => ?_)
  refine goes_ Tryz.func27 (by kernel_rfl) rfl #[.slice au s.ups.length cu] (by rfl) rfl rfl (by (try simp only [List.map_toArray, List.map_cons, List.map_nil]); first | done | rfl) ?_
  refine (HX.out _ hHeld).mono ?_
  rintro e W5 ⟨v1, rfl, ho, hb⟩
  refine ⟨_, rfl, ?_⟩
  have HA := Asd.mk (And.intro ho hHeld.size)
  clear ho
  refine hK.out _ _ (below_step hHeld hb) (fun hHeld => ?_)
  clear hK K
  refine norm_ (a' := ?_) ?_ ?_
  rotate_left
  ·show Act.put _ (some 14) _ = _
   simp only [Act.put, zA, zB, zC, i64_w, i32_w]
   rfl
  refine one_ (i := 9) (N := some 19) (bA 13 1023) rfl rfl (one_of HT_.out (by kernel_rfl)) (by decide) (fun K hK => ?_)
  refine goes_ Tryz.func28 (by kernel_rfl) rfl #[.slice ap s.pack.length cp] (by rfl) rfl rfl (by (try simp only [List.map_toArray, List.map_cons, List.map_nil]); first | done | rfl) ?_
  refine (HY.out _ hHeld).mono ?_
  rintro e W6 ⟨v2, rfl, ho, hb⟩
  refine ⟨_, rfl, ?_⟩
  have HB := Asd.mk (And.intro ho (And.intro hHeld.size hb))
  clear ho
  refine hK.out _ _ (below_step hHeld hb) (fun hHeld => ?_)
  clear hK K
  refine norm_ (a' := ?_) ?_ ?_
  rotate_left
  ·show Act.put _ (some 19) _ = _
   simp only [Act.put, zA, zB, zC, i64_w, i32_w]
   rfl
  refine pure_ (i := 10) (N := some 2) (v := ?_) (a' := ?_) (bA 13 2047) rfl rfl (any_of HT_.out (by kernel_rfl)) (fun _ _ _ h => h) (Or.inl ⟨by rfl, ?_⟩) ?_ ?_
  rotate_left
  ·intro w'
   go_simp
   with_reducible rfl
  rotate_left
  ·simp only [Act.put, zA, zB, zC, i64_w, i32_w]
   rfl
  refine pure_ (i := 11) (N := some 3) (v := ?_) (a' := ?_) (bA 13 4095) rfl rfl (any_of HT_.out (by kernel_rfl)) (fun _ _ _ h => h) (Or.inl ⟨by rfl, ?_⟩) ?_ ?_
  rotate_left
  ·intro w'
   go_simp
   with_reducible rfl
  rotate_left
  ·simp only [Act.put, zA, zB, zC, i64_w, i32_w]
   rfl
  refine pure_ (i := 12) (N := some 4) (v := ?_) (a' := ?_) (bA 13 8191) rfl rfl (any_of HT_.out (by kernel_rfl)) (fun _ _ _ h => h) (Or.inl ⟨by rfl, ?_⟩) ?_ ?_
  rotate_left
  ·intro w'
   go_simp
   with_reducible rfl
  rotate_left
  ·simp only [Act.put, zA, zB, zC, i64_w, i32_w]
   rfl
  refine done_ (done_of HT_.out (by kernel_rfl)) ?_
  try go_wp2
  go_ret3
  exact ⟨hHeld, fun e => absurd (H1.out.symm.trans e) (by decide), fun _ => ⟨v1, v2, rfl, Kd.R_below (Kd.R_lower HA.out.1 HA.out.2) HB.out.2.2, Kd.R_lower HB.out.1 HB.out.2.1⟩⟩
 ·have h0 : s.waits = false := by simpa using h1
  have H1 := Asd.mk h1
  rw [h0] at k5
  clear k2 k3 hs hw hh hu hp l2 l3 h1 h0
  go_enter Tryz.func10, Tryz.ntmps10
  go_wp2
  go_ret3
  exact ⟨Below.refl _ _, fun _ => rfl, fun e => absurd e H1.out⟩
end Go.Proofs.YtemkgdpfkbpnpaaGreatDoor.Take
