/- The calls of LineLengths answer true, whatever they are handed. -/
import Derived.Test.YtigcmhidbekgbaaLawD
import Derived.Test.YtigcmhidbekgbaaCoreA
namespace Go.Proofs.Ytigcmhidbekgbaa.Line
open Go.RowKit Go.Proofs.YtigcmhidbekgbaaW.PrintWords Go.Proofs.YtigcmhidbekgbaaW.PrintLast Go.Proofs.YtigcmhidbekgbaaW.PrintMore Go.Proofs.Ytigcmhidbekgbaa.Conv Go.Proofs.Ytigcmhidbekgbaa.Print
set_option linter.unusedVariables false
set_option linter.unusedSimpArgs false
theorem line_cells {w : World} {base : Nat} {ok : Nat → Prop} {v : Value} {x : Ln} (h : Kd.R k38 38 w base ok v [x]) : ∃ g c, v = .slice (some ⟨g, 0, none⟩) 1 c ∧ 1 ≤ c ∧ w.cell? ⟨g, 0, none⟩ = some (.bool x.f0) ∧ w.cell? ⟨g, 1, none⟩ = some (.string x.f1) := by
  obtain ⟨A, c, rfl⟩ := Kd.R_slice h
  obtain ⟨g, rfl⟩ : ∃ g, A = some ⟨g, 0, none⟩ := by
    obtain ⟨inner, _, how⟩ := Kd.R_own h
    rcases how with ⟨e, _⟩ | ⟨g, _, _, e, _⟩
    · simp at e
    · injection e with e1; exact ⟨g, e1⟩
  obtain ⟨ad, he, hx0, hx1⟩ := at_T38 (Kd.R_reads' h).2.2 0 (by decide) (by simp)
  cases he
  exact ⟨g, c, rfl, (Kd.R_reads' h).2.1, by simpa [add_plain, rd_T38] using hx0, by simpa [add_plain, rd_T38] using hx1⟩
def lengths.T4 : Bool × List (List Nat × List Nat) := (true, [([], []), ([], []), ([1], [1]), ([0, 2], [0, 2]), ([], []), ([], []), ([5], [5]), ([6], [6]), ([4, 7], [4, 7]), ([], []), ([], []), ([10], [10]), ([11], [11]), ([9, 12], [9, 12]), ([], []), ([], []), ([15], [15]), ([14, 16], [14, 16]), ([3, 8, 13, 17], [3, 8, 13, 17]), ([18, 0, 1, 2, 3, 4, 5, 6, 7, 8, 9, 10, 11, 12, 13, 14, 15, 16, 17, 18], [18])])
def lengths.B4 : List Nat := [0, 0, 2, 7, 0, 0, 32, 96, 240, 0, 0, 1024, 3072, 7680, 0, 0, 32768, 114688, 262143, 524287]
theorem lengths.tab4 : rtab .any (opsOf Try.f7 4) = lengths.T4 := by kernel_rfl
theorem lengths.bits4 : waitsOk lengths.T4.2 lengths.B4 = true := by kernel_rfl
set_option maxRecDepth 100000 in
set_option maxHeartbeats 8000000 in
theorem LineLengths_core {w : World} (a0 : Int) (w0 : (Lit.int .u16 a0).wf = true) (a1 : Int) (w1 : (Lit.int .u8 a1).wf = true) :
    Calls Try.prog 7 #[.int .u16 a0, .int .u8 a1] w fun e w' => e = .returned (.bool true) ∧ Below w.heap.size w w' := by
  have ha0 : 0 ≤ a0 ∧ a0 ≤ 65535 := by
    simp [Lit.wf, IntKind.min, IntKind.max, IntKind.signed, IntKind.bits] at w0
    exact ⟨by omega, by omega⟩
  obtain ⟨h0, h1⟩ := ha0
  clear w0
  go_enter Try.func7, Try.ntmps7
  go_upto_region 4 with (first
      | (go_at_call 9; refine (sacristylaw15_head.calls true _ rfl).mono ?_; rintro e W1 ⟨rfl, hb⟩; have HB1 := Aside0.mk hb; clear hb))
  obtain ⟨q1, e1, q1a, q1b, q1c⟩ : ∃ q, IntKind.i64.wrap (a0.tdiv 4096) = q ∧ 0 ≤ q ∧ q < 16 ∧ q = a0 / 4096 := by
    rw [Int.tdiv_eq_ediv_of_nonneg h0, IntKind.wrap_i64]; exact ⟨_, rfl, by omega, by omega, by omega⟩
  obtain ⟨p2, e2, p2a, p2b, p2c⟩ : ∃ q, IntKind.i64.wrap (a0.tdiv 256) = q ∧ 0 ≤ q ∧ q < 256 ∧ q = a0 / 256 := by
    rw [Int.tdiv_eq_ediv_of_nonneg h0, IntKind.wrap_i64]; exact ⟨_, rfl, by omega, by omega, by omega⟩
  obtain ⟨q2, f2, q2a, q2b, q2c⟩ : ∃ q, p2.tmod 16 = q ∧ 0 ≤ q ∧ q < 16 ∧ q = a0 / 256 % 16 := by
    rw [Int.tmod_eq_emod_of_nonneg p2a]; exact ⟨_, rfl, by omega, by omega, by omega⟩
  obtain ⟨p3, e3, p3a, p3b, p3c⟩ : ∃ q, IntKind.i64.wrap (a0.tdiv 16) = q ∧ 0 ≤ q ∧ q < 4096 ∧ q = a0 / 16 := by
    rw [Int.tdiv_eq_ediv_of_nonneg h0, IntKind.wrap_i64]; exact ⟨_, rfl, by omega, by omega, by omega⟩
  obtain ⟨q3, f3, q3a, q3b, q3c⟩ : ∃ q, p3.tmod 16 = q ∧ 0 ≤ q ∧ q < 16 ∧ q = a0 / 16 % 16 := by
    rw [Int.tmod_eq_emod_of_nonneg p3a]; exact ⟨_, rfl, by omega, by omega, by omega⟩
  have Q1 := Aside0.mk q1c
  have Q2 := Aside0.mk q2c
  have Q3 := Aside0.mk q3c
  have P2 := Aside0.mk p2c
  have P3 := Aside0.mk p3c
  clear q1c q2c q3c p2c p3c
  obtain ⟨q4, e4, q4a, q4b, q4c⟩ : ∃ q, a0.tmod 16 = q ∧ 0 ≤ q ∧ q < 16 ∧ q = a0 % 16 := by
    rw [Int.tmod_eq_emod_of_nonneg h0]; exact ⟨_, rfl, by omega, by omega, by omega⟩
  have Q4 := Aside0.mk q4c
  clear q4c
  refine start_ (n := 20) (S := fun w' => Below W1.heap.size W1 w') (ds := []) #[false, false, false, false, false, false, false, false, false, false, false, false, false, false, false, false, false, false, false, false] (by kernel_rfl) rfl rfl (below_drew1 (Below.refl _ _)) (fun hHeld => ?_)
  refine with_tabW lengths.tab4 lengths.bits4 (fun HT_ HW_ => ?_)
  generalize W1.drew = W at hHeld ⊢
  have HW := Aside0.mk (below_step HB1.out hHeld)
  refine pure_ (i := 0) (N := some 20) (v := ?_) (a' := ?_) #[true, false, false, false, false, false, false, false, false, false, false, false, false, false, false, false, false, false, false, false] rfl rfl (any_of HT_.out (by kernel_rfl)) (fun _ _ _ h => h) (Or.inl ⟨by rfl, ?_⟩) ?_ ?_
  rotate_left
  · intro w'
    go_simp
    with_reducible rfl
  rotate_left
  · simp only [Act.put, List.setIfInBounds_toArray, List.set_cons_zero, List.set_cons_succ, i64_w, i32_w]
    rfl
  refine pure_ (i := 1) (N := some 21) (v := ?_) (a' := ?_) #[true, true, false, false, false, false, false, false, false, false, false, false, false, false, false, false, false, false, false, false] rfl rfl (any_of HT_.out (by kernel_rfl)) (fun _ _ _ h => h) (Or.inl ⟨by rfl, ?_⟩) ?_ ?_
  rotate_left
  · intro w'
    go_simp
    with_reducible rfl
  rotate_left
  · simp only [Act.put, List.setIfInBounds_toArray, List.set_cons_zero, List.set_cons_succ, i64_w, i32_w]
    rfl
  refine pure_ (i := 2) (N := some 22) (v := .int .i64 q1) (a' := ?_) #[true, true, true, false, false, false, false, false, false, false, false, false, false, false, false, false, false, false, false, false] rfl rfl (any_of HT_.out (by kernel_rfl)) (fun _ _ _ h => h) (Or.inl ⟨by rfl, ?_⟩) ?_ ?_
  · intro w'
    first | (go_simp; done) | (go_simp; rw [e1])
  rotate_left
  · simp only [Act.put, List.setIfInBounds_toArray, List.set_cons_zero, List.set_cons_succ, i64_w, i32_w]
    rfl
  refine pure_ (i := 3) (N := some 23) (v := .int .u8 (hexd q1)) (a' := ?_) #[true, true, true, true, false, false, false, false, false, false, false, false, false, false, false, false, false, false, false, false] rfl rfl (any_of HT_.out (by kernel_rfl)) (fun _ _ _ h => h) (Or.inl ⟨by rfl, ?_⟩) ?_ ?_
  · intro w'
    go_simp
    exact bt_at _ _ _
  rotate_left
  · simp only [Act.put, List.setIfInBounds_toArray, List.set_cons_zero, List.set_cons_succ, i64_w, i32_w]
    rfl
  refine pure_ (i := 4) (N := some 24) (v := ?_) (a' := ?_) #[true, true, true, true, true, false, false, false, false, false, false, false, false, false, false, false, false, false, false, false] rfl rfl (any_of HT_.out (by kernel_rfl)) (fun _ _ _ h => h) (Or.inl ⟨by rfl, ?_⟩) ?_ ?_
  rotate_left
  · intro w'
    go_simp
    with_reducible rfl
  rotate_left
  · simp only [Act.put, List.setIfInBounds_toArray, List.set_cons_zero, List.set_cons_succ, i64_w, i32_w]
    rfl
  refine pure_ (i := 5) (N := some 25) (v := ?_) (a' := ?_) #[true, true, true, true, true, true, false, false, false, false, false, false, false, false, false, false, false, false, false, false] rfl rfl (any_of HT_.out (by kernel_rfl)) (fun _ _ _ h => h) (Or.inl ⟨by rfl, ?_⟩) ?_ ?_
  rotate_left
  · intro w'
    go_simp
    with_reducible rfl
  rotate_left
  · simp only [Act.put, List.setIfInBounds_toArray, List.set_cons_zero, List.set_cons_succ, i64_w, i32_w]
    rfl
  refine pure_ (i := 6) (N := some 26) (v := .int .i64 p2) (a' := ?_) #[true, true, true, true, true, true, true, false, false, false, false, false, false, false, false, false, false, false, false, false] rfl rfl (any_of HT_.out (by kernel_rfl)) (fun _ _ _ h => h) (Or.inl ⟨by rfl, ?_⟩) ?_ ?_
  · intro w'
    first | (go_simp; done) | (go_simp; rw [e2])
  rotate_left
  · simp only [Act.put, List.setIfInBounds_toArray, List.set_cons_zero, List.set_cons_succ, i64_w, i32_w]
    rfl
  refine pure_ (i := 7) (N := some 27) (v := .int .i64 q2) (a' := ?_) #[true, true, true, true, true, true, true, true, false, false, false, false, false, false, false, false, false, false, false, false] rfl rfl (any_of HT_.out (by kernel_rfl)) (fun _ _ _ h => h) (Or.inl ⟨by rfl, ?_⟩) ?_ ?_
  · intro w'
    first | (go_simp; done) | (go_simp; rw [f2])
  rotate_left
  · simp only [Act.put, List.setIfInBounds_toArray, List.set_cons_zero, List.set_cons_succ, i64_w, i32_w]
    rfl
  refine pure_ (i := 8) (N := some 28) (v := .int .u8 (hexd q2)) (a' := ?_) #[true, true, true, true, true, true, true, true, true, false, false, false, false, false, false, false, false, false, false, false] rfl rfl (any_of HT_.out (by kernel_rfl)) (fun _ _ _ h => h) (Or.inl ⟨by rfl, ?_⟩) ?_ ?_
  · intro w'
    go_simp
    exact bt_at _ _ _
  rotate_left
  · simp only [Act.put, List.setIfInBounds_toArray, List.set_cons_zero, List.set_cons_succ, i64_w, i32_w]
    rfl
  refine pure_ (i := 9) (N := some 29) (v := ?_) (a' := ?_) #[true, true, true, true, true, true, true, true, true, true, false, false, false, false, false, false, false, false, false, false] rfl rfl (any_of HT_.out (by kernel_rfl)) (fun _ _ _ h => h) (Or.inl ⟨by rfl, ?_⟩) ?_ ?_
  rotate_left
  · intro w'
    go_simp
    with_reducible rfl
  rotate_left
  · simp only [Act.put, List.setIfInBounds_toArray, List.set_cons_zero, List.set_cons_succ, i64_w, i32_w]
    rfl
  refine pure_ (i := 10) (N := some 30) (v := ?_) (a' := ?_) #[true, true, true, true, true, true, true, true, true, true, true, false, false, false, false, false, false, false, false, false] rfl rfl (any_of HT_.out (by kernel_rfl)) (fun _ _ _ h => h) (Or.inl ⟨by rfl, ?_⟩) ?_ ?_
  rotate_left
  · intro w'
    go_simp
    with_reducible rfl
  rotate_left
  · simp only [Act.put, List.setIfInBounds_toArray, List.set_cons_zero, List.set_cons_succ, i64_w, i32_w]
    rfl
  refine pure_ (i := 11) (N := some 31) (v := .int .i64 p3) (a' := ?_) #[true, true, true, true, true, true, true, true, true, true, true, true, false, false, false, false, false, false, false, false] rfl rfl (any_of HT_.out (by kernel_rfl)) (fun _ _ _ h => h) (Or.inl ⟨by rfl, ?_⟩) ?_ ?_
  · intro w'
    first | (go_simp; done) | (go_simp; rw [e3])
  rotate_left
  · simp only [Act.put, List.setIfInBounds_toArray, List.set_cons_zero, List.set_cons_succ, i64_w, i32_w]
    rfl
  refine pure_ (i := 12) (N := some 32) (v := .int .i64 q3) (a' := ?_) #[true, true, true, true, true, true, true, true, true, true, true, true, true, false, false, false, false, false, false, false] rfl rfl (any_of HT_.out (by kernel_rfl)) (fun _ _ _ h => h) (Or.inl ⟨by rfl, ?_⟩) ?_ ?_
  · intro w'
    first | (go_simp; done) | (go_simp; rw [f3])
  rotate_left
  · simp only [Act.put, List.setIfInBounds_toArray, List.set_cons_zero, List.set_cons_succ, i64_w, i32_w]
    rfl
  refine pure_ (i := 13) (N := some 33) (v := .int .u8 (hexd q3)) (a' := ?_) #[true, true, true, true, true, true, true, true, true, true, true, true, true, true, false, false, false, false, false, false] rfl rfl (any_of HT_.out (by kernel_rfl)) (fun _ _ _ h => h) (Or.inl ⟨by rfl, ?_⟩) ?_ ?_
  · intro w'
    go_simp
    exact bt_at _ _ _
  rotate_left
  · simp only [Act.put, List.setIfInBounds_toArray, List.set_cons_zero, List.set_cons_succ, i64_w, i32_w]
    rfl
  refine pure_ (i := 14) (N := some 34) (v := ?_) (a' := ?_) #[true, true, true, true, true, true, true, true, true, true, true, true, true, true, true, false, false, false, false, false] rfl rfl (any_of HT_.out (by kernel_rfl)) (fun _ _ _ h => h) (Or.inl ⟨by rfl, ?_⟩) ?_ ?_
  rotate_left
  · intro w'
    go_simp
    with_reducible rfl
  rotate_left
  · simp only [Act.put, List.setIfInBounds_toArray, List.set_cons_zero, List.set_cons_succ, i64_w, i32_w]
    rfl
  refine pure_ (i := 15) (N := some 35) (v := ?_) (a' := ?_) #[true, true, true, true, true, true, true, true, true, true, true, true, true, true, true, true, false, false, false, false] rfl rfl (any_of HT_.out (by kernel_rfl)) (fun _ _ _ h => h) (Or.inl ⟨by rfl, ?_⟩) ?_ ?_
  rotate_left
  · intro w'
    go_simp
    with_reducible rfl
  rotate_left
  · simp only [Act.put, List.setIfInBounds_toArray, List.set_cons_zero, List.set_cons_succ, i64_w, i32_w]
    rfl
  refine pure_ (i := 16) (N := some 36) (v := .int .i64 q4) (a' := ?_) #[true, true, true, true, true, true, true, true, true, true, true, true, true, true, true, true, true, false, false, false] rfl rfl (any_of HT_.out (by kernel_rfl)) (fun _ _ _ h => h) (Or.inl ⟨by rfl, ?_⟩) ?_ ?_
  · intro w'
    first | (go_simp; done) | (go_simp; rw [e4])
  rotate_left
  · simp only [Act.put, List.setIfInBounds_toArray, List.set_cons_zero, List.set_cons_succ, i64_w, i32_w]
    rfl
  refine pure_ (i := 17) (N := some 37) (v := .int .u8 (hexd q4)) (a' := ?_) #[true, true, true, true, true, true, true, true, true, true, true, true, true, true, true, true, true, true, false, false] rfl rfl (any_of HT_.out (by kernel_rfl)) (fun _ _ _ h => h) (Or.inl ⟨by rfl, ?_⟩) ?_ ?_
  · intro w'
    go_simp
    exact bt_at _ _ _
  rotate_left
  · simp only [Act.put, List.setIfInBounds_toArray, List.set_cons_zero, List.set_cons_succ, i64_w, i32_w]
    rfl
  refine one_ (i := 18) (N := some 38) #[true, true, true, true, true, true, true, true, true, true, true, true, true, true, true, true, true, true, true, false] rfl rfl (one_of HT_.out (by kernel_rfl)) (by decide) (fun K hK => ?_)
  refine value_ (w1 := ?_) (v := ?_) (by rfl) rfl ?_ ?_
  rotate_left 2
  · go_simp
    constructor
    · rfl
    · rfl
  refine hK.out _ _ (below_alloc hHeld _) (fun hHeld => ?_)
  clear hK K
  refine norm_ (a' := ?_) ?_ ?_
  rotate_left
  · show Act.put _ (some 38) _ = _
    simp only [Act.put, List.setIfInBounds_toArray, List.set_cons_zero, List.set_cons_succ, i64_w, i32_w]
    rfl
  refine pure_ (i := 19) (N := some 8) (v := ?_) (a' := ?_) #[true, true, true, true, true, true, true, true, true, true, true, true, true, true, true, true, true, true, true, true] rfl rfl (any_of HT_.out (by kernel_rfl)) (fun _ _ _ h => h) (Or.inl ⟨by rfl, ?_⟩) ?_ ?_
  rotate_left
  · intro w'
    go_simp
    with_reducible rfl
  rotate_left
  · simp only [Act.put, List.setIfInBounds_toArray, List.set_cons_zero, List.set_cons_succ, i64_w, i32_w]
    rfl
  refine done_ (done_of HT_.out (by kernel_rfl)) ?_
  replace HB1 := Aside0.mk (below_step HB1.out hHeld)
  have HD := Aside0.mk (C_bytes (w := W) [hexd q1, hexd q2, hexd q3, hexd q4] (0, 0) (by simp))
  generalize hW2 : W.alloc (.cells #[.int .u8 (hexd q1), .int .u8 (hexd q2), .int .u8 (hexd q3), .int .u8 (hexd q4)] 5) = W2 at HB1 ⊢
  have HD' := Aside0.mk (show Kd.C (Kd.int .u8) W2 (some ⟨W.heap.size, 0, none⟩) 4 [hexd q1, hexd q2, hexd q3, hexd q4] from hW2 ▸ HD.out)
  have HK := Aside0.mk (show W2.heap[W.heap.size]? = some (.cells #[.int .u8 (hexd q1), .int .u8 (hexd q2), .int .u8 (hexd q3), .int .u8 (hexd q4)] 5 (0, 0)) from by rw [← hW2]; show (W.heap.push _)[W.heap.size]? = _; exact Array.getElem?_push_size)
  have HN := Aside0.mk (below_size HW.out)
  clear HD hW2 hHeld HW
  generalize W.heap.size = b0 at HD' HK HN ⊢
  have HB2 := Aside0.mk (Below.refl W2.heap.size W2)
  obtain ⟨m, hm, hm0, hm1, hm2⟩ : ∃ m, max (a0 - 4) 0 = m ∧ 0 ≤ m ∧ m ≤ 65531 ∧ (m = a0 - 4 ∨ (m = 0 ∧ a0 ≤ 4)) := ⟨_, rfl, by omega, by omega, by omega⟩
  obtain ⟨al, hal⟩ : ∃ al, ([] ++ [hexd q1, hexd q2, hexd q3, hexd q4]) ++ List.replicate m.toNat (0 : Int) = al := ⟨_, rfl⟩
  have hal2 : al = hexd q1 :: hexd q2 :: hexd q3 :: hexd q4 :: List.replicate m.toNat (0 : Int) := hal.symm
  have hl4 : len4 (hexd q1) (hexd q2) (hexd q3) (hexd q4) = a0 := by rw [Q1.out, Q2.out, Q3.out, Q4.out]; exact len4_hex4 a0 h0 h1
  have hBal : Bytes al := by
    rw [hal2]
    intro x hx
    simp only [List.mem_cons] at hx
    rcases hx with rfl | rfl | rfl | rfl | hx
    · exact hexd_byte _ q1a q1b
    · exact hexd_byte _ q2a q2b
    · exact hexd_byte _ q3a q3b
    · exact hexd_byte _ q4a q4b
    · rw [(List.mem_replicate.1 hx).2]; exact ⟨by omega, by omega⟩
  have hlal : al.length ≤ 70000 := by rw [hal2]; simp only [List.length_cons, List.length_replicate]; omega
  obtain ⟨ls, rs, e5, hcut⟩ : ∃ ls rs e5, cutF al = (ls, rs, e5) := ⟨_, _, _, rfl⟩
  obtain ⟨us, ps, g5, hcut2, hneg⟩ := len_c a1 (hexd q2) (hexd q3) (hexd q4)
  have hc1 := Aside0.mk ((cut_eq al hBal (by omega) (k := 100000) (by omega)).trans (congrArg some hcut))
  have hB2 : Bytes [a1, hexd q2, hexd q3, hexd q4] := by
    intro x hx
    simp only [List.mem_cons, List.not_mem_nil, or_false] at hx
    rcases hx with rfl | rfl | rfl | rfl
    · simp [Lit.wf, IntKind.min, IntKind.max, IntKind.signed, IntKind.bits] at w1; exact ⟨by omega, by omega⟩
    · exact hexd_byte _ q2a q2b
    · exact hexd_byte _ q3a q3b
    · exact hexd_byte _ q4a q4b
  have hc2 := Aside0.mk ((cut_eq _ hB2 (by simp) (k := 100000) (by simp)).trans (congrArg some hcut2))
  have Hcut := Aside0.mk hcut
  have Hal := Aside0.mk hal
  have Hal2 := Aside0.mk hal2
  have Hl4 := Aside0.mk hl4
  have Hneg := Aside0.mk hneg
  have Hm2 := Aside0.mk hm2
  clear hBal hB2 hcut hcut2 hal hal2 hl4 hneg hm2
  go_upto_region 6 with (first
    | ((with_reducible refine gate_dst (N := 40) rfl ?_); (try (refine gate_guard (by rfl) ?_; dsimp only)); refine Kd.R_lit (Kd.int .u8) _ 5 ?hg (N := 40) ?hd (xs := ([] : List Int)) (inner := []) (ok := fun _ => True) (okp := fun _ => True) ?hr ?hp (fun _ hk => hk) trivial (Below.refl _ _) (Nat.le_refl _) (by simp) ?_; (case hd => rfl); (case hg => rfl); (case hr => first | (go_simp; done) | (go_simp; rfl)); (case hp => exact (Reps.none _ _)); intro v1 W3 ho hb hg_ hnew_; clear hg_ hnew_; have HO := Aside0.mk ho; have HB3 := Aside0.mk hb; have HD3 := Aside0.mk (Kd.C_below HD'.out hb); clear hb ho)
    | ((with_reducible refine gate_builtin (b := .append) (xs := #[.tmp 40, .tmp 41]) rfl ?_); (try (refine gate_guard (by rfl) ?_; dsimp only)); at_builtin; refine Kd.R_append_rows (Kd.int .u8) (w0 := W2) W2.heap.size rfl (.tmp 40) (.tmp 41) 23 5 (.int .u8 0) 1 rfl Try.underlying23 info5 rfl (by decide) (by omega) v1 [] [hexd q1, hexd q2, hexd q3, hexd q4] _ _ _ (fun _ => True) (fun _ => False) rfl rfl ?aO HD3.out (fun _ _ h => h) (fun _ h => h.elim) (fun _ _ => trivial) HB3.out (below_size HB3.out) (by simp) ?_; (case aO => exact HO.out); intro v2 W4 ho hb hg hat; have HB4 := Aside0.mk hb; replace HO := Aside0.mk ho; clear hb ho hg hat)
    | (at_builtin; refine Kd.R_append_zeros (Kd.int .u8) (w0 := W2) W2.heap.size rfl (.tmp 42) (.tmp 45) 23 3 5 (.int .u8 0) 1 rfl Try.underlying23 Try.underlying3 info5 rfl (by decide) (by omega) v2 _ 0 m (fun _ => True) rfl rfl rfl (fun _ _ => trivial) HO.out hm0 HB4.out (below_size HB4.out) (by simp; omega) ?_; intro v3 W5 ho hb hg hat; have HB5 := Aside0.mk hb; rw [Hal.out] at ho; replace HO := Aside0.mk ho; clear hb ho hg hat; obtain ⟨A3, c3, rfl⟩ := Kd.R_slice HO.out)
    | (go_at_call 13; refine (line_Cut.calls 100000 A3 c3 al ls rs e5 _ (Kd.R_reads' HO.out).2.2 (Kd.R_reads' HO.out).2.1 hc1.out).mono ?_; rintro e W6 ⟨vl, vr, rfl, ho, ho', hb⟩; have HB6 := Aside0.mk (below_step HB5.out hb); have HLs := Aside0.mk ho; have HRs := Aside0.mk ho'; clear hb ho ho'))
  have HK6 := Aside0.mk ((HB6.out.block b0 (Array.getElem?_eq_some_iff.1 HK.out).1).trans HK.out)
  have HS := Aside0.mk (store_reads a1 HK6.out)
  have hcell6 : W6.cell? ⟨b0, 0, none⟩ = some (.int .u8 (hexd q1)) := by rw [cell_of_row _ _ 0 _ _ _ HK6.out]; rfl
  have hfz6 : W6.frozen? ⟨b0, 0, none⟩ = false := by simp [World.frozen?, HK6.out]
  obtain ⟨Ar, cr, rfl⟩ := Kd.R_slice HRs.out
  rcases (by omega : a0 = 0 ∨ (5 ≤ a0 ∧ a0 ≤ 4004) ∨ ((0 < a0 ∧ a0 ≤ 4) ∨ 4004 < a0)) with hz | ha | hn
  · have hcut := Hcut.out
    rw [Hal2.out, show m = 0 by omega, show (0 : Int).toNat = 0 from rfl, List.replicate_zero, len_flush (Hl4.out.trans hz)] at hcut
    simp only [Prod.mk.injEq] at hcut
    obtain ⟨rfl, rfl, rfl⟩ := hcut
    obtain ⟨gl, cl, rfl, hcl, x0, x1⟩ := line_cells HLs.out
    subst hz
    simp only [List.length_nil]
    go_upto_region 14 with (go_at_call 13; refine (line_Cut.calls 100000 (some ⟨b0, 0, none⟩) 4 [a1, hexd q2, hexd q3, hexd q4] us ps g5 _ HS.out (by simp) hc2.out).mono ?_; rintro e W7 ⟨vu, vp, rfl, ho, ho', hb⟩; have HB7 := Aside0.mk hb; clear hb ho ho')
    rcases (by omega : a1 < 48 ∨ (48 ≤ a1 ∧ a1 ≤ 57) ∨ (57 < a1 ∧ a1 < 97) ∨ (97 ≤ a1 ∧ a1 ≤ 102) ∨ 102 < a1) with hh | hh | hh | hh | hh
    · -- a1 < 48
      have n0_ := eq_false (show ¬ (48 ≤ a1) from by omega)
      have n1_ := eq_false (show ¬ (97 ≤ a1) from by omega)
      have d0_ : decide (48 ≤ a1) = false := by simp only [n0_, decide_true, decide_false]
      have d1_ : decide (97 ≤ a1) = false := by simp only [n1_, decide_true, decide_false]
      have h5 : g5 = 3 := Hneg.out (hexv_neg (by omega) (by omega))
      subst h5
      go_wp2
      go_ret
      exact ⟨rfl, below_step (Below.setCell (below_step HB1.out HB6.out) HN.out _) HB7.out⟩
    · -- 48 ≤ a1 ∧ a1 ≤ 57
      have n0_ := eq_true (show (48 ≤ a1) from by omega)
      have n1_ := eq_true (show (a1 ≤ 57) from by omega)
      have d0_ : decide (48 ≤ a1) = true := by simp only [n0_, decide_true, decide_false]
      have d1_ : decide (a1 ≤ 57) = true := by simp only [n1_, decide_true, decide_false]
      go_wp2
      go_ret
      exact ⟨rfl, below_step (Below.setCell (below_step HB1.out HB6.out) HN.out _) HB7.out⟩
    · -- 57 < a1 ∧ a1 < 97
      have n0_ := eq_true (show (48 ≤ a1) from by omega)
      have n1_ := eq_false (show ¬ (a1 ≤ 57) from by omega)
      have n2_ := eq_false (show ¬ (97 ≤ a1) from by omega)
      have d0_ : decide (48 ≤ a1) = true := by simp only [n0_, decide_true, decide_false]
      have d1_ : decide (a1 ≤ 57) = false := by simp only [n1_, decide_true, decide_false]
      have d2_ : decide (97 ≤ a1) = false := by simp only [n2_, decide_true, decide_false]
      have h5 : g5 = 3 := Hneg.out (hexv_neg (by omega) (by omega))
      subst h5
      go_wp2
      go_ret
      exact ⟨rfl, below_step (Below.setCell (below_step HB1.out HB6.out) HN.out _) HB7.out⟩
    · -- 97 ≤ a1 ∧ a1 ≤ 102
      have n0_ := eq_true (show (48 ≤ a1) from by omega)
      have n1_ := eq_false (show ¬ (a1 ≤ 57) from by omega)
      have n2_ := eq_true (show (97 ≤ a1) from by omega)
      have n3_ := eq_true (show (a1 ≤ 102) from by omega)
      have d0_ : decide (48 ≤ a1) = true := by simp only [n0_, decide_true, decide_false]
      have d1_ : decide (a1 ≤ 57) = false := by simp only [n1_, decide_true, decide_false]
      have d2_ : decide (97 ≤ a1) = true := by simp only [n2_, decide_true, decide_false]
      have d3_ : decide (a1 ≤ 102) = true := by simp only [n3_, decide_true, decide_false]
      go_wp2
      go_ret
      exact ⟨rfl, below_step (Below.setCell (below_step HB1.out HB6.out) HN.out _) HB7.out⟩
    · -- 102 < a1
      have n0_ := eq_true (show (48 ≤ a1) from by omega)
      have n1_ := eq_false (show ¬ (a1 ≤ 57) from by omega)
      have n2_ := eq_true (show (97 ≤ a1) from by omega)
      have n3_ := eq_false (show ¬ (a1 ≤ 102) from by omega)
      have d0_ : decide (48 ≤ a1) = true := by simp only [n0_, decide_true, decide_false]
      have d1_ : decide (a1 ≤ 57) = false := by simp only [n1_, decide_true, decide_false]
      have d2_ : decide (97 ≤ a1) = true := by simp only [n2_, decide_true, decide_false]
      have d3_ : decide (a1 ≤ 102) = false := by simp only [n3_, decide_true, decide_false]
      have h5 : g5 = 3 := Hneg.out (hexv_neg (by omega) (by omega))
      subst h5
      go_wp2
      go_ret
      exact ⟨rfl, below_step (Below.setCell (below_step HB1.out HB6.out) HN.out _) HB7.out⟩
  · have hcut := Hcut.out
    obtain ⟨s, hs, hl⟩ := len_line Hl4.out ha.1 ha.2 (List.replicate m.toNat (0 : Int)) (by rw [List.length_replicate]; omega)
    rw [Hal2.out, hl] at hcut
    simp only [Prod.mk.injEq] at hcut
    obtain ⟨rfl, rfl, rfl⟩ := hcut
    obtain ⟨gl, cl, rfl, hcl, x0, x1⟩ := line_cells HLs.out
    have n0_ := eq_false (show ¬ (a0 = 0) from by omega)
    have n1_ := eq_true (show (0 < a0) from by omega)
    have n2_ := eq_true (show (5 ≤ a0) from by omega)
    have n3_ := eq_true (show (a0 ≤ 4004) from by omega)
    have d0_ : decide (a0 = 0) = false := by simp only [n0_, decide_true, decide_false]
    have d1_ : decide (0 < a0) = true := by simp only [n1_, decide_true, decide_false]
    have d2_ : decide (5 ≤ a0) = true := by simp only [n2_, decide_true, decide_false]
    have d3_ : decide (a0 ≤ 4004) = true := by simp only [n3_, decide_true, decide_false]
    have z0_ : (a0 == 0) = false := by simp only [beq_eq_false_iff_ne]; omega
    simp only [List.length_nil]
    clear hl
    go_upto_region 14 with (go_at_call 13; refine (line_Cut.calls 100000 (some ⟨b0, 0, none⟩) 4 [a1, hexd q2, hexd q3, hexd q4] us ps g5 _ HS.out (by simp) hc2.out).mono ?_; rintro e W7 ⟨vu, vp, rfl, ho, ho', hb⟩; have HB7 := Aside0.mk hb; clear hb ho ho')
    rcases (by omega : a1 < 48 ∨ (48 ≤ a1 ∧ a1 ≤ 57) ∨ (57 < a1 ∧ a1 < 97) ∨ (97 ≤ a1 ∧ a1 ≤ 102) ∨ 102 < a1) with hh | hh | hh | hh | hh
    · -- a1 < 48
      have n0_ := eq_false (show ¬ (48 ≤ a1) from by omega)
      have n1_ := eq_false (show ¬ (97 ≤ a1) from by omega)
      have d0_ : decide (48 ≤ a1) = false := by simp only [n0_, decide_true, decide_false]
      have d1_ : decide (97 ≤ a1) = false := by simp only [n1_, decide_true, decide_false]
      have h5 : g5 = 3 := Hneg.out (hexv_neg (by omega) (by omega))
      subst h5
      go_wp2
      go_ret
      exact ⟨rfl, below_step (Below.setCell (below_step HB1.out HB6.out) HN.out _) HB7.out⟩
    · -- 48 ≤ a1 ∧ a1 ≤ 57
      have n0_ := eq_true (show (48 ≤ a1) from by omega)
      have n1_ := eq_true (show (a1 ≤ 57) from by omega)
      have d0_ : decide (48 ≤ a1) = true := by simp only [n0_, decide_true, decide_false]
      have d1_ : decide (a1 ≤ 57) = true := by simp only [n1_, decide_true, decide_false]
      go_wp2
      go_ret
      exact ⟨rfl, below_step (Below.setCell (below_step HB1.out HB6.out) HN.out _) HB7.out⟩
    · -- 57 < a1 ∧ a1 < 97
      have n0_ := eq_true (show (48 ≤ a1) from by omega)
      have n1_ := eq_false (show ¬ (a1 ≤ 57) from by omega)
      have n2_ := eq_false (show ¬ (97 ≤ a1) from by omega)
      have d0_ : decide (48 ≤ a1) = true := by simp only [n0_, decide_true, decide_false]
      have d1_ : decide (a1 ≤ 57) = false := by simp only [n1_, decide_true, decide_false]
      have d2_ : decide (97 ≤ a1) = false := by simp only [n2_, decide_true, decide_false]
      have h5 : g5 = 3 := Hneg.out (hexv_neg (by omega) (by omega))
      subst h5
      go_wp2
      go_ret
      exact ⟨rfl, below_step (Below.setCell (below_step HB1.out HB6.out) HN.out _) HB7.out⟩
    · -- 97 ≤ a1 ∧ a1 ≤ 102
      have n0_ := eq_true (show (48 ≤ a1) from by omega)
      have n1_ := eq_false (show ¬ (a1 ≤ 57) from by omega)
      have n2_ := eq_true (show (97 ≤ a1) from by omega)
      have n3_ := eq_true (show (a1 ≤ 102) from by omega)
      have d0_ : decide (48 ≤ a1) = true := by simp only [n0_, decide_true, decide_false]
      have d1_ : decide (a1 ≤ 57) = false := by simp only [n1_, decide_true, decide_false]
      have d2_ : decide (97 ≤ a1) = true := by simp only [n2_, decide_true, decide_false]
      have d3_ : decide (a1 ≤ 102) = true := by simp only [n3_, decide_true, decide_false]
      go_wp2
      go_ret
      exact ⟨rfl, below_step (Below.setCell (below_step HB1.out HB6.out) HN.out _) HB7.out⟩
    · -- 102 < a1
      have n0_ := eq_true (show (48 ≤ a1) from by omega)
      have n1_ := eq_false (show ¬ (a1 ≤ 57) from by omega)
      have n2_ := eq_true (show (97 ≤ a1) from by omega)
      have n3_ := eq_false (show ¬ (a1 ≤ 102) from by omega)
      have d0_ : decide (48 ≤ a1) = true := by simp only [n0_, decide_true, decide_false]
      have d1_ : decide (a1 ≤ 57) = false := by simp only [n1_, decide_true, decide_false]
      have d2_ : decide (97 ≤ a1) = true := by simp only [n2_, decide_true, decide_false]
      have d3_ : decide (a1 ≤ 102) = false := by simp only [n3_, decide_true, decide_false]
      have h5 : g5 = 3 := Hneg.out (hexv_neg (by omega) (by omega))
      subst h5
      go_wp2
      go_ret
      exact ⟨rfl, below_step (Below.setCell (below_step HB1.out HB6.out) HN.out _) HB7.out⟩
  · have hcut := Hcut.out
    rw [Hal2.out, len_bad Hl4.out (by omega) _] at hcut
    simp only [Prod.mk.injEq] at hcut
    obtain ⟨rfl, rfl, rfl⟩ := hcut
    obtain ⟨Al, cl, rfl⟩ := Kd.R_slice HLs.out
    simp only [List.length_nil]
    rcases hn with hn | hn
    · have z0_ : (a0 == 0) = false := by simp only [beq_eq_false_iff_ne]; omega
      have n0_ := eq_false (show ¬ (a0 = 0) from by omega)
      have n1_ := eq_true (show (0 < a0) from by omega)
      have n2_ := eq_false (show ¬ (5 ≤ a0) from by omega)
      have d0_ : decide (a0 = 0) = false := by simp only [n0_, decide_true, decide_false]
      have d1_ : decide (0 < a0) = true := by simp only [n1_, decide_true, decide_false]
      have d2_ : decide (5 ≤ a0) = false := by simp only [n2_, decide_true, decide_false]
      go_upto_region 14 with (go_at_call 13; refine (line_Cut.calls 100000 (some ⟨b0, 0, none⟩) 4 [a1, hexd q2, hexd q3, hexd q4] us ps g5 _ HS.out (by simp) hc2.out).mono ?_; rintro e W7 ⟨vu, vp, rfl, ho, ho', hb⟩; have HB7 := Aside0.mk hb; clear hb ho ho')
      rcases (by omega : a1 < 48 ∨ (48 ≤ a1 ∧ a1 ≤ 57) ∨ (57 < a1 ∧ a1 < 97) ∨ (97 ≤ a1 ∧ a1 ≤ 102) ∨ 102 < a1) with hh | hh | hh | hh | hh
      · -- a1 < 48
        have n0_ := eq_false (show ¬ (48 ≤ a1) from by omega)
        have n1_ := eq_false (show ¬ (97 ≤ a1) from by omega)
        have d0_ : decide (48 ≤ a1) = false := by simp only [n0_, decide_true, decide_false]
        have d1_ : decide (97 ≤ a1) = false := by simp only [n1_, decide_true, decide_false]
        have h5 : g5 = 3 := Hneg.out (hexv_neg (by omega) (by omega))
        subst h5
        go_wp2
        go_ret
        exact ⟨rfl, below_step (Below.setCell (below_step HB1.out HB6.out) HN.out _) HB7.out⟩
      · -- 48 ≤ a1 ∧ a1 ≤ 57
        have n0_ := eq_true (show (48 ≤ a1) from by omega)
        have n1_ := eq_true (show (a1 ≤ 57) from by omega)
        have d0_ : decide (48 ≤ a1) = true := by simp only [n0_, decide_true, decide_false]
        have d1_ : decide (a1 ≤ 57) = true := by simp only [n1_, decide_true, decide_false]
        go_wp2
        go_ret
        exact ⟨rfl, below_step (Below.setCell (below_step HB1.out HB6.out) HN.out _) HB7.out⟩
      · -- 57 < a1 ∧ a1 < 97
        have n0_ := eq_true (show (48 ≤ a1) from by omega)
        have n1_ := eq_false (show ¬ (a1 ≤ 57) from by omega)
        have n2_ := eq_false (show ¬ (97 ≤ a1) from by omega)
        have d0_ : decide (48 ≤ a1) = true := by simp only [n0_, decide_true, decide_false]
        have d1_ : decide (a1 ≤ 57) = false := by simp only [n1_, decide_true, decide_false]
        have d2_ : decide (97 ≤ a1) = false := by simp only [n2_, decide_true, decide_false]
        have h5 : g5 = 3 := Hneg.out (hexv_neg (by omega) (by omega))
        subst h5
        go_wp2
        go_ret
        exact ⟨rfl, below_step (Below.setCell (below_step HB1.out HB6.out) HN.out _) HB7.out⟩
      · -- 97 ≤ a1 ∧ a1 ≤ 102
        have n0_ := eq_true (show (48 ≤ a1) from by omega)
        have n1_ := eq_false (show ¬ (a1 ≤ 57) from by omega)
        have n2_ := eq_true (show (97 ≤ a1) from by omega)
        have n3_ := eq_true (show (a1 ≤ 102) from by omega)
        have d0_ : decide (48 ≤ a1) = true := by simp only [n0_, decide_true, decide_false]
        have d1_ : decide (a1 ≤ 57) = false := by simp only [n1_, decide_true, decide_false]
        have d2_ : decide (97 ≤ a1) = true := by simp only [n2_, decide_true, decide_false]
        have d3_ : decide (a1 ≤ 102) = true := by simp only [n3_, decide_true, decide_false]
        go_wp2
        go_ret
        exact ⟨rfl, below_step (Below.setCell (below_step HB1.out HB6.out) HN.out _) HB7.out⟩
      · -- 102 < a1
        have n0_ := eq_true (show (48 ≤ a1) from by omega)
        have n1_ := eq_false (show ¬ (a1 ≤ 57) from by omega)
        have n2_ := eq_true (show (97 ≤ a1) from by omega)
        have n3_ := eq_false (show ¬ (a1 ≤ 102) from by omega)
        have d0_ : decide (48 ≤ a1) = true := by simp only [n0_, decide_true, decide_false]
        have d1_ : decide (a1 ≤ 57) = false := by simp only [n1_, decide_true, decide_false]
        have d2_ : decide (97 ≤ a1) = true := by simp only [n2_, decide_true, decide_false]
        have d3_ : decide (a1 ≤ 102) = false := by simp only [n3_, decide_true, decide_false]
        have h5 : g5 = 3 := Hneg.out (hexv_neg (by omega) (by omega))
        subst h5
        go_wp2
        go_ret
        exact ⟨rfl, below_step (Below.setCell (below_step HB1.out HB6.out) HN.out _) HB7.out⟩
    · have z0_ : (a0 == 0) = false := by simp only [beq_eq_false_iff_ne]; omega
      have n0_ := eq_false (show ¬ (a0 = 0) from by omega)
      have n1_ := eq_true (show (0 < a0) from by omega)
      have n2_ := eq_true (show (5 ≤ a0) from by omega)
      have n3_ := eq_false (show ¬ (a0 ≤ 4004) from by omega)
      have d0_ : decide (a0 = 0) = false := by simp only [n0_, decide_true, decide_false]
      have d1_ : decide (0 < a0) = true := by simp only [n1_, decide_true, decide_false]
      have d2_ : decide (5 ≤ a0) = true := by simp only [n2_, decide_true, decide_false]
      have d3_ : decide (a0 ≤ 4004) = false := by simp only [n3_, decide_true, decide_false]
      go_upto_region 14 with (go_at_call 13; refine (line_Cut.calls 100000 (some ⟨b0, 0, none⟩) 4 [a1, hexd q2, hexd q3, hexd q4] us ps g5 _ HS.out (by simp) hc2.out).mono ?_; rintro e W7 ⟨vu, vp, rfl, ho, ho', hb⟩; have HB7 := Aside0.mk hb; clear hb ho ho')
      rcases (by omega : a1 < 48 ∨ (48 ≤ a1 ∧ a1 ≤ 57) ∨ (57 < a1 ∧ a1 < 97) ∨ (97 ≤ a1 ∧ a1 ≤ 102) ∨ 102 < a1) with hh | hh | hh | hh | hh
      · -- a1 < 48
        have n0_ := eq_false (show ¬ (48 ≤ a1) from by omega)
        have n1_ := eq_false (show ¬ (97 ≤ a1) from by omega)
        have d0_ : decide (48 ≤ a1) = false := by simp only [n0_, decide_true, decide_false]
        have d1_ : decide (97 ≤ a1) = false := by simp only [n1_, decide_true, decide_false]
        have h5 : g5 = 3 := Hneg.out (hexv_neg (by omega) (by omega))
        subst h5
        go_wp2
        go_ret
        exact ⟨rfl, below_step (Below.setCell (below_step HB1.out HB6.out) HN.out _) HB7.out⟩
      · -- 48 ≤ a1 ∧ a1 ≤ 57
        have n0_ := eq_true (show (48 ≤ a1) from by omega)
        have n1_ := eq_true (show (a1 ≤ 57) from by omega)
        have d0_ : decide (48 ≤ a1) = true := by simp only [n0_, decide_true, decide_false]
        have d1_ : decide (a1 ≤ 57) = true := by simp only [n1_, decide_true, decide_false]
        go_wp2
        go_ret
        exact ⟨rfl, below_step (Below.setCell (below_step HB1.out HB6.out) HN.out _) HB7.out⟩
      · -- 57 < a1 ∧ a1 < 97
        have n0_ := eq_true (show (48 ≤ a1) from by omega)
        have n1_ := eq_false (show ¬ (a1 ≤ 57) from by omega)
        have n2_ := eq_false (show ¬ (97 ≤ a1) from by omega)
        have d0_ : decide (48 ≤ a1) = true := by simp only [n0_, decide_true, decide_false]
        have d1_ : decide (a1 ≤ 57) = false := by simp only [n1_, decide_true, decide_false]
        have d2_ : decide (97 ≤ a1) = false := by simp only [n2_, decide_true, decide_false]
        have h5 : g5 = 3 := Hneg.out (hexv_neg (by omega) (by omega))
        subst h5
        go_wp2
        go_ret
        exact ⟨rfl, below_step (Below.setCell (below_step HB1.out HB6.out) HN.out _) HB7.out⟩
      · -- 97 ≤ a1 ∧ a1 ≤ 102
        have n0_ := eq_true (show (48 ≤ a1) from by omega)
        have n1_ := eq_false (show ¬ (a1 ≤ 57) from by omega)
        have n2_ := eq_true (show (97 ≤ a1) from by omega)
        have n3_ := eq_true (show (a1 ≤ 102) from by omega)
        have d0_ : decide (48 ≤ a1) = true := by simp only [n0_, decide_true, decide_false]
        have d1_ : decide (a1 ≤ 57) = false := by simp only [n1_, decide_true, decide_false]
        have d2_ : decide (97 ≤ a1) = true := by simp only [n2_, decide_true, decide_false]
        have d3_ : decide (a1 ≤ 102) = true := by simp only [n3_, decide_true, decide_false]
        go_wp2
        go_ret
        exact ⟨rfl, below_step (Below.setCell (below_step HB1.out HB6.out) HN.out _) HB7.out⟩
      · -- 102 < a1
        have n0_ := eq_true (show (48 ≤ a1) from by omega)
        have n1_ := eq_false (show ¬ (a1 ≤ 57) from by omega)
        have n2_ := eq_true (show (97 ≤ a1) from by omega)
        have n3_ := eq_false (show ¬ (a1 ≤ 102) from by omega)
        have d0_ : decide (48 ≤ a1) = true := by simp only [n0_, decide_true, decide_false]
        have d1_ : decide (a1 ≤ 57) = false := by simp only [n1_, decide_true, decide_false]
        have d2_ : decide (97 ≤ a1) = true := by simp only [n2_, decide_true, decide_false]
        have d3_ : decide (a1 ≤ 102) = false := by simp only [n3_, decide_true, decide_false]
        have h5 : g5 = 3 := Hneg.out (hexv_neg (by omega) (by omega))
        subst h5
        go_wp2
        go_ret
        exact ⟨rfl, below_step (Below.setCell (below_step HB1.out HB6.out) HN.out _) HB7.out⟩
  trace_state
end Go.Proofs.Ytigcmhidbekgbaa.Line
