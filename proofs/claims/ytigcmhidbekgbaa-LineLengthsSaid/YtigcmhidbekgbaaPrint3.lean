/- Functions of the program as plain functions, and proofs that the program's calls tell what these tell. Written by a program. -/
import Derived.Test.YtigcmhidbekgbaaPrint0
import Derived.Test.YtigcmhidbekgbaaPrint2
namespace Go.Proofs.Ytigcmhidbekgbaa.Print
open Go.RowKit Go.Proofs.YtigcmhidbekgbaaW.PrintWords Go.Proofs.YtigcmhidbekgbaaW.PrintLast Go.Proofs.YtigcmhidbekgbaaW.PrintMore Go.Proofs.Ytigcmhidbekgbaa.Conv
attribute [local go_sem] max2_int min2_int max_two min_two max_three min_three max_four min_four   -- for this text's walks alone
set_option linter.unusedVariables false
set_option linter.unusedSimpArgs false

/-! ### line_Cut: function 13 -/
section
attribute [local go_sem] Oper.semAt_some
theorem infoL : (Try.prog.info? 38).map (fun i => (i.zero, i.size, i.bytes)) = some (some (.agg #[(.bool false), (.string ⟨#[]⟩)]), 2, 24) := by kernel_rfl
/-- A line's cells. -/
def lcells (xs : List S38) : List Value := xs.flatMap fun x => [.bool x.f0, .string x.f1]
theorem lcells_snoc (xs : List S38) (x : S38) : lcells (xs ++ [x]) = lcells xs ++ [.bool x.f0, .string x.f1] := by simp [lcells]
theorem lcells_reps {w : World} {base : Nat} {ok : Nat → Prop} (xs : List S38) : Reps (k38.M w base ok) 2 xs (lcells xs) := by
  suffices h : ∀ (n : Nat) (xs : List S38), xs.length = n → Reps (k38.M w base ok) 2 xs (lcells xs) from h _ xs rfl
  intro n
  induction n with
  | zero => intro xs h; obtain rfl := List.eq_nil_of_length_eq_zero h; exact Reps.none _ _
  | succ n ih =>
    intro xs h
    obtain ⟨ys, y, rfl⟩ : ∃ ys y, xs = ys ++ [y] := ⟨xs.dropLast, xs.getLast (by intro e; subst e; simp at h), (List.dropLast_concat_getLast _).symm⟩
    rw [lcells_snoc]
    exact (ih ys (by simpa using h)).snoc (k38_mkM _ _ _ y) rfl
theorem cell_two_new (w : World) (x y : Value) (t : TypeId) : ∀ j u, [x, y][j]? = some u → (w.alloc (.cells #[x, y] t)).cell? ((⟨w.heap.size, 0, none⟩ : Addr).add j) = some u := by
  intro j u hj
  have hb : (w.alloc (.cells #[x, y] t)).heap[w.heap.size]? = some (.cells #[x, y] t) := by show (w.heap.push _)[w.heap.size]? = _; exact Array.getElem?_push_size
  rw [add_plain, cell_of_row _ _ j _ _ _ hb]
  simpa using hj
def lval (x : S38) : Array Value := #[.agg #[.bool x.f0, .string x.f1]]

set_option maxRecDepth 100000 in
set_option maxHeartbeats 4000000 in
theorem line_appendSeq {gf : Nat} {lb : Array Value} (eg : ∀ args w, (callFunc gf args).run Try.prog w = .ok (.enter gf args) w) {Fi Fm : Nat → Prop} {S Sp : List S38 → World → Prop} {N : Nat} {w0 : World} (hseq : Go.Sep.SeqSep Try.prog gf lb lval Fi Fm S Sp N w0) (w : World)
    (hw0 : w0.heap.size ≤ w.heap.size) (hFi : ∀ k, Fi k → w.heap[k]? = w0.heap[k]?) (hFil : ∀ k, Fi k → k < w.heap.size) (hN : N * 24 ≤ 140737488355328)
    (hS : ∀ xs W W', S xs W → (∀ k, Fi k → W'.heap[k]? = W.heap[k]?) → S xs W') (hSp : ∀ xs W W', Sp xs W → (∀ k, Fi k → W'.heap[k]? = W.heap[k]?) → Sp xs W') :
    CallsIn Fence.wide 0 Try.prog 25 #[.slice none 0 0, .func (.func gf) #[] lb] w fun e w' => ∃ v xs, e = .returned v ∧ Kd.R k38 38 w' w.heap.size (fun _ => True) v xs ∧ S xs w' ∧ Go.Sep.KeepEx Fm w w' := by
  obtain ⟨i0, hi, hz0, hz1, hz2⟩ := info_parts infoL
  refine callsIn_of_wp_marks Try.func25 rfl trivial ?_ rfl
  simp only [Try.ntmps25, List.size_toArray, List.length_cons, List.length_nil, Nat.reduceAdd, Nat.reduceSub, Array.replicate_succ, Array.replicate_zero, List.push_toArray, List.append_toArray, List.nil_append, List.cons_append]
  gi_wp2
  have bO := Boxed.new w 22 (.slice none 0 0)
  refine Go.Sep.wpIn_rangeFunc_sep rfl eg hseq (by simp; omega) (fun k hk => ?_) (fun k hk => ?_) (fun _ => rfl) hS hSp
    (fun Fq pre W => ∃ v, Boxed W w.heap.size 22 v ∧ W.ownsRow w.heap.size 38 2 v pre.length (lcells pre) ∧ Fq w.heap.size ∧ ∀ k, v.ownBlock = some k → Fq k)
    (fun _ _ _ _ => False) ?sI (fun _ _ _ _ _ h _ => h) (fun k => k = w.heap.size) ?d1 ?d2 ?h0
    (fun Fq p W => (∃ v, Boxed W w.heap.size 22 v ∧ W.ownsRow w.heap.size 38 2 v p.1.length (lcells p.1) ∧ Fq w.heap.size ∧ ∀ k, v.ownBlock = some k → Fq k) ∧ ∃ Bx, Fq Bx ∧ W.heap[Bx]? = some (.cells #[.bool p.2.1.f0, .string p.2.1.f1] 38 (0, 0)) ∧ p.2.2 = { tmps := #[.slice none 0 0, .func (.func gf) #[] lb, .pointer (some ⟨w.heap.size, 0, none⟩), undef, .slice none 0 0, .pointer (some ⟨Bx, 0, none⟩), .func (.func gf) #[] lb, .agg #[.bool p.2.1.f0, .string p.2.1.f1], undef, undef, undef, undef, undef], defers := [] })
    ?sM ?assign ?body ?done ?stop
  · exact (Below.heap_alloc _ _ _ (hFil k hk)).trans (hFi k hk)
  · have := hFil k hk; simp; omega
  case sI =>
    rintro Fq pre W W' ⟨v, hv, hr, hB, hb⟩ h
    exact ⟨v, (h _ hB).trans hv, own_move hr (fun k hk => h k (hb k hk)), hB, hb⟩
  case d1 =>
    rintro k rfl hk
    exact absurd (hFil _ hk) (Nat.lt_irrefl _)
  case d2 =>
    rintro k rfl
    simp
  case h0 => exact ⟨_, bO, World.ownsRow_nil _ _ _ _, rfl, by simp [Value.ownBlock]⟩
  case sM =>
    rintro Fq ⟨pre, x, a'⟩ W W' ⟨⟨v, hv, hr, hB, hb⟩, Bx, h1, h2, h3⟩ h
    exact ⟨⟨v, (h _ hB).trans hv, own_move hr (fun k hk => h k (hb k hk)), hB, hb⟩, Bx, h1, (h _ h1).trans h2, h3⟩
  case assign =>
    rintro l Fq pre x W ⟨v, hv, hr, hB, hb⟩ hsz hFql hro
    simp only [lval, List.zip_toArray, List.zip_cons_cons, List.zip_nil_right, List.foldl_toArray', List.foldl_cons, List.foldl_nil]
    gi_wp2
    refine ⟨fun k => Fq k ∨ k = W.heap.size, (Go.Sep.KeepEx.refl _ _).alloc _, ?_, ⟨v, hv.alloc _, hr.alloc _, .inl hB, fun k hk => .inl (hb k hk)⟩, W.heap.size, .inr rfl, by show (W.heap.push _)[W.heap.size]? = _; exact Array.getElem?_push_size, rfl⟩
    rintro k (hk | rfl)
    · exact ⟨.inl hk, by have := hFql k hk; simp; omega⟩
    · exact ⟨.inr (Nat.le_refl _), by simp⟩
  case body =>
    rintro l Fq pre x a' W ⟨⟨v, hv, hr, hB, hb⟩, Bx, h1, h2, h3⟩ hlen hsz hFql hro
    dsimp only at hv hr h2 h3
    subst h3
    have hc := hv.cell
    have hf := hv.frozen
    have hx0 : W.cell? ⟨Bx, 0, none⟩ = some (.bool x.f0) := (cell_of_row W Bx 0 _ _ _ h2).trans rfl
    have hx1 : W.cell? ⟨Bx, 1, none⟩ = some (.string x.f1) := (cell_of_row W Bx 1 _ _ _ h2).trans rfl
    have hBs : w.heap.size ≤ W.heap.size := by simp at hsz; omega
    gi_wp2_with (gi_at_builtin; refine wpListIn_append_own_at _ rfl _ _ 22 rfl w.heap.size 38 i0 _ 2 24 Try.underlying22 hi hz0 hz1 hz2 rfl (by decide) _ _ _ rfl (hr.alloc _) ⟨W.heap.size, 0, none⟩ 1 1 [.bool x.f0, .string x.f1] rfl rfl ?c1 ?c2 ?c3 ?c4 ?c5 ?_; (case c1 => exact cell_two_new _ _ _ _); (case c2 => simp [Value.oneCell']); (case c3 => unfold maxLen; omega); (case c4 => omega); (case c5 => simp; omega); intro v' w1 hown' hgrow _ hat; obtain ⟨g', cap', rfl⟩ := ownsRow_succ hown'; obtain ⟨hv1, hv2, hr2, hk2, hb2⟩ := hv.appended (by decide) hr hBs (Nat.le_refl _) hown' hgrow; have hc1 := hv1.cell; have hf1 := hv1.frozen)
    have hg' : Fq g' ∨ W.heap.size ≤ g' := by
      rcases hat with h | h
      · exact .inl (hb g' (Eq.symm h))
      · exact .inr (by have h2 : some g' = some (W.alloc (.cells #[.bool x.f0, .string x.f1] 38)).heap.size := h; simp at h2; omega)
    refine ⟨fun k => Fq k ∨ k = g', ((Go.Sep.KeepEx.refl Fq W).alloc _ |>.trans (Go.Sep.KeepEx.of_grownBy (Fp := Fq) hgrow (fun k e => .inl (hb k e))) (fun _ e => e) (fun _ e => .inl e)).setCell ⟨w.heap.size, 0, none⟩ _ (.inl hB), ?_, _, hv2, ?_, .inl hB, ?_⟩
    · rintro k (hk | rfl)
      · exact ⟨.inl hk, by have := hFql k hk; have := hk2.size; omega⟩
      · exact ⟨hg', own_lt hr2 _ rfl⟩
    · rw [lcells_snoc]; simpa using hr2
    · intro k hk
      right
      simpa [Value.ownBlock] using hk.symm
  case done =>
    rintro D Fq xs W hD hFqD hSx ⟨v, hv, hr, hB, hb⟩ hkeep hFql hK
    have hc := hv.cell
    gi_wp2
    refine ⟨by simp, .inl ⟨_, _, rfl, run_takeDeferred hK, ?_⟩⟩
    have hDs : w.heap.size + 1 ≤ D := by simpa using hD
    refine ⟨_, results_tmp rfl _ _ _, v, xs, rfl, ⟨fun _ _ => trivial, lcells xs, ownsRow_putObj hr _ hK rfl, lcells_reps xs⟩, hS _ _ _ hSx (fun k hk => World.putObj_heap_other (fun e => by have := hFil k hk; omega)), ?_⟩
    refine (((Go.Sep.KeepEx.refl Fm w).alloc _).trans hkeep (fun _ e => e) (fun k hk => ?_)).trans (Go.Sep.KeepEx.putObj (Fp := fun k => k = D) W D _ rfl) (fun _ e => e) (fun k hk => .inr (by omega))
    rcases hk with rfl | hk
    · exact .inr (Nat.le_refl _)
    · exact .inl hk
  case stop =>
    rintro D c Fq pre W _ _ _ h
    exact h.elim

/-- What the lines of bytes are, what is left, and the error. -/
def line_Cut.l : Nat → List Int → List S38 → Option (List S38 × List Int × Int)
  | 0, _, _ => none
  | k + 1, b, out =>
    if b.length < 4 then some (out, b, 0) else
    (line_length.f k b).bind fun n =>
      if n < 0 ∨ (0 < n ∧ n ≤ 4) ∨ 4004 < n then some (out, b, 3) else
      if (b.length : Int) < n then some (out, b, 0) else
      if n = 0 then line_Cut.l k (b.drop 4) (out ++ [⟨true, ⟨#[]⟩⟩])
      else line_Cut.l k (b.drop n.toNat) (out ++ [⟨false, strOfNums ((b.take n.toNat).drop 4)⟩])
theorem line_Cut.l_len : ∀ (k : Nat) (b : List Int) (out xs : List S38) (r : List Int) (e : Int), line_Cut.l k b out = some (xs, r, e) → out.length ≤ xs.length
  | 0, _, _, _, _, _, h => by simp [line_Cut.l] at h
  | k + 1, b, out, xs, r, e, h => by
    simp only [line_Cut.l] at h
    split at h
    · simp at h; simp [h.1]
    · cases hn : line_length.f k b with
      | none => rw [hn] at h; simp at h
      | some n =>
        rw [hn] at h
        simp only [Option.bind_some] at h
        split at h
        · simp at h; simp [h.1]
        · split at h
          · simp at h; simp [h.1]
          · split at h
            all_goals
              have := line_Cut.l_len _ _ _ _ _ _ h
              simp at this
              omega
theorem line_Cut.mono_l : ∀ (k : Nat) (b : List Int) (out : List S38), LeO (line_Cut.l k b out) (line_Cut.l (k + 1) b out)
  | 0, _, _ => by intro r h; simp [line_Cut.l] at h
  | k + 1, b, out => by
    have ih := line_Cut.mono_l k
    unfold line_Cut.l
    refine LeO.ite (LeO.refl _) (LeO.bind (line_length.mono _ k) (fun n => ?_))
    refine LeO.ite (LeO.refl _) (LeO.ite (LeO.refl _) (LeO.ite (ih _ _) (ih _ _)))

def sliceLen (W : World) (R : Nat) : Nat := match W.cell? ⟨R, 0, none⟩ with | some (.slice _ n _) => n | _ => 0

set_option maxRecDepth 100000 in
set_option maxHeartbeats 4000000 in
theorem line_lines (k0 : Nat) (b0 : List Int) (xs0 : List S38) (rest : List Int) (e0 : Int) (h0 : line_Cut.l k0 b0 [] = some (xs0, rest, e0)) (w w0 : World) (R Bx : Nat) (A0 : Option Addr) (c0 : Nat) (hne : R ≠ Bx)
    (hRn : w.heap.size ≤ R) (hBn : w.heap.size ≤ Bx) (hw : Below w.heap.size w w0)
    (hR : w0.heap[R]? = some (.cells #[.slice A0 b0.length c0, .int .i64 0] 42 (0, 0))) (hB : w0.heap[Bx]? = some (.cells #[.pointer (some ⟨R, 0, none⟩)] 40 (0, 0))) (hC : Kd.C (Kd.int .u8) w A0 b0.length b0) (hc0 : b0.length ≤ c0) :
    Go.Sep.SeqSep Try.prog 26 #[.pointer (some ⟨Bx, 0, none⟩)] lval (fun k => k < w.heap.size ∨ k = R ∨ k = Bx) (fun k => k = R)
      (fun xs W => xs = xs0 ∧ ∃ A c, W.heap[R]? = some (.cells #[.slice A rest.length c, .int .i64 e0] 42 (0, 0)) ∧ rest.length ≤ c ∧ Kd.C (Kd.int .u8) w A rest.length rest) (fun _ _ => True) xs0.length w0 := by
  intro l J Jx Fp W hsz hFiW hdisj hFpl hSJ hSJx hround hJ0
  refine callsIn_of_wp Try.func26 rfl trivial ?_ rfl
  simp only [Try.ntmps26, List.size_toArray, List.length_cons, List.length_nil, Nat.reduceAdd, Nat.reduceSub, Array.replicate_succ, Array.replicate_zero, List.push_toArray, List.append_toArray, List.nil_append, List.cons_append]
  gi_wp2
  gi_loopw [] (fun wr => ∃ (Fq : Nat → Prop) (pre : List S38) (bq : List Int) (kq : Nat) (A : Option Addr) (c : Nat), J Fq pre wr ∧ Go.Sep.KeepEx (fun k => Fp k ∨ k = R) W wr ∧ (∀ k, Fq k → (Fp k ∨ W.heap.size ≤ k) ∧ ¬ (k < w.heap.size ∨ k = R ∨ k = Bx) ∧ k < wr.heap.size) ∧ wr.heap[R]? = some (.cells #[.slice A bq.length c, .int .i64 0] 42 (0, 0)) ∧ wr.heap[Bx]? = some (.cells #[.pointer (some ⟨R, 0, none⟩)] 40 (0, 0)) ∧ bq.length ≤ c ∧ Kd.C (Kd.int .u8) w A bq.length bq ∧ line_Cut.l kq bq pre = some (xs0, rest, e0))
    (fun wr => sliceLen wr R)
  case atStart => exact ⟨Fp, [], b0, k0, A0, c0, hJ0, Go.Sep.KeepEx.refl _ _, fun k hk => ⟨.inl hk, hdisj k hk, hFpl k hk⟩, (hFiW R (.inr (.inl rfl))).trans hR, (hFiW Bx (.inr (.inr rfl))).trans hB, hc0, hC, h0⟩
  case round =>
    obtain ⟨Fq, pre, bq, kq, A, c, hJq, hkeep, hFq, hRq, hBq, hcq, hCq, hl⟩ := hrel
    have hB0 : wr.cell? ⟨Bx, 0, none⟩ = some (.pointer (some ⟨R, 0, none⟩)) := (cell_of_row wr Bx 0 _ _ _ hBq).trans rfl
    have hR0 : wr.cell? ⟨R, 0, none⟩ = some (.slice A bq.length c) := (cell_of_row wr R 0 _ _ _ hRq).trans rfl
    have hR1 : wr.cell? ⟨R, 1, none⟩ = some (.int .i64 0) := (cell_of_row wr R 1 _ _ _ hRq).trans rfl
    have hRf : ∀ j, wr.frozen? ⟨R, j, none⟩ = false := fun j => by simp [World.frozen?, hRq]
    have hRf1 := hRf 1
    have hRl : R < wr.heap.size := (Array.getElem?_eq_some_iff.1 hRq).1
    have hBl : Bx < wr.heap.size := (Array.getElem?_eq_some_iff.1 hBq).1
    have hFpn : ∀ k, Fp k → ¬ (k < w.heap.size ∨ k = R ∨ k = Bx) := hdisj
    have hsame : ∀ k, k < w.heap.size → wr.heap[k]? = w.heap[k]? := fun k hk =>
      ((hkeep.block k (by have := hw.size; omega) (fun h => h.elim (fun h => hFpn k h (.inl hk)) (fun h => by omega))).trans (hFiW k (.inl hk))).trans (hw.block k hk)
    have hCr : ∀ {B : Option Addr} {ys : List Int}, Kd.C (Kd.int .u8) w B ys.length ys → ∀ W1, Below wr.heap.size wr W1 → Kd.C (Kd.int .u8) W1 B ys.length ys := fun h W1 hb =>
      Kd.C_F (Kd.heap_int .u8) h W1 (fun k hk _ => (hb.block k (by have := hw.size; have := hkeep.size; omega)).trans (hsame k hk))
    have hstep : ∀ W1, Below wr.heap.size wr W1 → J Fq pre W1 ∧ W1.heap[R]? = some (.cells #[.slice A bq.length c, .int .i64 0] 42 (0, 0)) ∧ W1.heap[Bx]? = some (.cells #[.pointer (some ⟨R, 0, none⟩)] 40 (0, 0)) ∧ Go.Sep.KeepEx (fun k => Fp k ∨ k = R) W W1 := fun W1 hb =>
      ⟨hSJ _ _ _ _ hJq (fun k hk => hb.block k (hFq k hk).2.2), (hb.block R hRl).trans hRq, (hb.block Bx hBl).trans hBq, hkeep.step hb⟩
    have hset : ∀ W1, Below wr.heap.size wr W1 → ∀ j v, J Fq pre (W1.setCell ⟨R, j, none⟩ v) ∧ Go.Sep.KeepEx (fun k => Fp k ∨ k = R) W (W1.setCell ⟨R, j, none⟩ v) ∧ wr.heap.size ≤ (W1.setCell ⟨R, j, none⟩ v).heap.size := fun W1 hb j v =>
      ⟨hSJ _ _ _ _ (hstep W1 hb).1 (fun k hk => Below.heap_setCell _ _ _ _ (fun e => (hFq k hk).2.1 (.inr (.inl e)))), (hstep W1 hb).2.2.2.setCell _ _ (.inl (.inr rfl)), by have := hb.size; simpa [World.setCell] using this⟩
    cases kq with
    | zero => simp [line_Cut.l] at hl
    | succ kq =>
    simp only [line_Cut.l] at hl
    by_cases h4 : bq.length < 4
    · rw [if_pos h4] at hl
      obtain ⟨rfl, rfl, rfl⟩ : pre = xs0 ∧ bq = rest ∧ 0 = e0 := by simpa using hl
      have ht : decide (4 ≤ bq.length) = false := by simp; omega
      have ht2 : decide ((4 : Int) ≤ (bq.length : Int)) = false := by simp; omega
      clear hl
      gi_wp2
      go_end0
      exact ⟨⟨_, rfl⟩, Fq, hkeep, hFq, .inl ⟨_, ⟨rfl, A, c, hRq, hcq, hCq⟩, hJq⟩⟩
    · rw [if_neg h4] at hl
      have ht : decide (4 ≤ bq.length) = true := by simp; omega
      have ht2 : decide ((4 : Int) ≤ (bq.length : Int)) = true := by simp; omega
      obtain ⟨n, hn, hl⟩ := Option.bind_eq_some_iff.1 hl
      by_cases h5 : n < 0 ∨ (0 < n ∧ n ≤ 4) ∨ 4004 < n
      · rw [if_pos h5] at hl
        obtain ⟨rfl, rfl, rfl⟩ : pre = xs0 ∧ bq = rest ∧ 3 = e0 := by simpa using hl
        have Hn := Aside0.mk hn
        have HCq := Aside0.mk (hCr hCq wr (Below.refl _ _))
        clear hl hn h4
        have key : ∀ W1, Below wr.heap.size wr W1 → (∃ Fr, Go.Sep.KeepEx (fun k => Fp k ∨ k = R) W (W1.setCell ⟨R, 1, none⟩ (.int .i64 3)) ∧ (∀ k, Fr k → (Fp k ∨ W.heap.size ≤ k) ∧ ¬ (k < w.heap.size ∨ k = R ∨ k = Bx) ∧ k < (W1.setCell ⟨R, 1, none⟩ (.int .i64 3)).heap.size) ∧
            ((∃ xs, (xs = pre ∧ ∃ A c, (W1.setCell ⟨R, 1, none⟩ (.int .i64 3)).heap[R]? = some (.cells #[.slice A bq.length c, .int .i64 3] 42 (0, 0)) ∧ bq.length ≤ c ∧ Kd.C (Kd.int .u8) w A bq.length bq) ∧ J Fr xs (W1.setCell ⟨R, 1, none⟩ (.int .i64 3))) ∨ (∃ pre', True ∧ Jx Fr pre' (W1.setCell ⟨R, 1, none⟩ (.int .i64 3))))) := by
          intro W1 hb
          obtain ⟨hj, hk, hz⟩ := hset W1 hb 1 (.int .i64 3)
          exact ⟨Fq, hk, fun k hk => ⟨(hFq k hk).1, (hFq k hk).2.1, by have := (hFq k hk).2.2; omega⟩, .inl ⟨pre, ⟨rfl, A, c, blk_put (hstep W1 hb).2.1 1 _ rfl, hcq, hCq⟩, hj⟩⟩
        rcases h5 with h5 | h5 | h5
        · have c1 : decide (n < 0) = true := by simpa using h5
          gi_wp2_with (refine ⟨trivial, rfl, ?_⟩; gi_at_call 27; refine (callsIn_wide.2 (line_length.calls kq A c bq n wr HCq.out hcq Hn.out)).mono ?_; rintro e W1 ⟨rfl, hb⟩; have HK := Aside0.mk (key W1 hb); have hB0' := (hb.cell (p := ⟨Bx, 0, none⟩) hBl).trans hB0; have hR1' := (hb.cell (p := ⟨R, 1, none⟩) hRl).trans hR1; have hRf' := (hb.frozen (p := ⟨R, 1, none⟩) hRl).trans hRf1; clear hb)
          refine bodyPost_ret (results_none rfl _ _ _) rfl ?_
          exact ⟨⟨_, rfl⟩, HK.out⟩
        · have c1 : decide (n < 0) = false := by simp; omega
          have c2 : decide (0 < n) = true := by simp; omega
          have c3 : decide (n ≤ 4) = true := by simp; omega
          gi_wp2_with (refine ⟨trivial, rfl, ?_⟩; gi_at_call 27; refine (callsIn_wide.2 (line_length.calls kq A c bq n wr HCq.out hcq Hn.out)).mono ?_; rintro e W1 ⟨rfl, hb⟩; have HK := Aside0.mk (key W1 hb); have hB0' := (hb.cell (p := ⟨Bx, 0, none⟩) hBl).trans hB0; have hR1' := (hb.cell (p := ⟨R, 1, none⟩) hRl).trans hR1; have hRf' := (hb.frozen (p := ⟨R, 1, none⟩) hRl).trans hRf1; clear hb)
          refine bodyPost_ret (results_none rfl _ _ _) rfl ?_
          exact ⟨⟨_, rfl⟩, HK.out⟩
        · have c1 : decide (n < 0) = false := by simp; omega
          have c2 : decide (0 < n) = true := by simp; omega
          have c3 : decide (n ≤ 4) = false := by simp; omega
          have c4 : decide (4004 < n) = true := by simp; omega
          gi_wp2_with (refine ⟨trivial, rfl, ?_⟩; gi_at_call 27; refine (callsIn_wide.2 (line_length.calls kq A c bq n wr HCq.out hcq Hn.out)).mono ?_; rintro e W1 ⟨rfl, hb⟩; have HK := Aside0.mk (key W1 hb); have hB0' := (hb.cell (p := ⟨Bx, 0, none⟩) hBl).trans hB0; have hR1' := (hb.cell (p := ⟨R, 1, none⟩) hRl).trans hR1; have hRf' := (hb.frozen (p := ⟨R, 1, none⟩) hRl).trans hRf1; clear hb)
          refine bodyPost_ret (results_none rfl _ _ _) rfl ?_
          exact ⟨⟨_, rfl⟩, HK.out⟩
      · rw [if_neg h5] at hl
        have Hn := Aside0.mk hn
        have HCq := Aside0.mk (hCr hCq wr (Below.refl _ _))
        by_cases h6 : (bq.length : Int) < n
        · rw [if_pos h6] at hl
          obtain ⟨rfl, rfl, rfl⟩ : pre = xs0 ∧ bq = rest ∧ 0 = e0 := by simpa using hl
          have key : ∀ W1, Below wr.heap.size wr W1 → (∃ Fr, Go.Sep.KeepEx (fun k => Fp k ∨ k = R) W W1 ∧ (∀ k, Fr k → (Fp k ∨ W.heap.size ≤ k) ∧ ¬ (k < w.heap.size ∨ k = R ∨ k = Bx) ∧ k < W1.heap.size) ∧
            ((∃ xs, (xs = pre ∧ ∃ A c, W1.heap[R]? = some (.cells #[.slice A bq.length c, .int .i64 0] 42 (0, 0)) ∧ bq.length ≤ c ∧ Kd.C (Kd.int .u8) w A bq.length bq) ∧ J Fr xs W1) ∨ (∃ pre', True ∧ Jx Fr pre' W1))) := by
            intro W1 hb
            exact ⟨Fq, (hstep W1 hb).2.2.2, fun k hk => ⟨(hFq k hk).1, (hFq k hk).2.1, by have := (hFq k hk).2.2; have := hb.size; omega⟩, .inl ⟨pre, ⟨rfl, A, c, (hstep W1 hb).2.1, hcq, hCq⟩, (hstep W1 hb).1⟩⟩
          have c1 : decide (n < 0) = false := by simp; omega
          have c2 : decide (0 < n) = true := by simp; omega
          have c3 : decide (n ≤ 4) = false := by simp; omega
          have c4 : decide (4004 < n) = false := by simp; omega
          have c5 : decide ((bq.length : Int) < n) = true := by simpa using h6
          clear hl hn h4 h5 h6
          gi_wp2_with (refine ⟨trivial, rfl, ?_⟩; gi_at_call 27; refine (callsIn_wide.2 (line_length.calls kq A c bq n wr HCq.out hcq Hn.out)).mono ?_; rintro e W1 ⟨rfl, hb⟩; have HK := Aside0.mk (key W1 hb); have hB0' := (hb.cell (p := ⟨Bx, 0, none⟩) hBl).trans hB0; have hR0' := (hb.cell (p := ⟨R, 0, none⟩) hRl).trans hR0; clear hb)
          refine bodyPost_ret (results_none rfl _ _ _) rfl ?_
          exact ⟨⟨_, rfl⟩, HK.out⟩
        · rw [if_neg h6] at hl
          by_cases h7 : n = 0
          · rw [if_pos h7] at hl
            subst h7
            obtain ⟨i0, hi0, _, hsz, _⟩ := info_parts info5
            obtain ⟨A', hcut, hAr, hcc⟩ := print_drop_of (P := Try.prog) (Value.int .u8) 0 23 5 .i64 Try.underlying23 hi0 hsz A c bq 4 (by omega) (by omega) hcq
            have HCd := Aside0.mk (Kd.C_of_reads (h1 := fun _ => rfl) (hAr _ (Kd.reads_of_C hCq)))
            obtain ⟨y, hy⟩ : ∃ y, y = bq.drop 4 := ⟨_, rfl⟩
            simp only [show (4 : Int).toNat = 4 from rfl] at hcut HCd hcc
            rw [← hy] at hl hcut HCd hcc
            have Hl := Aside0.mk hl
            have Hcc := Aside0.mk hcc
            have HYl := Aside0.mk (show y.length + 4 = bq.length by rw [hy, List.length_drop]; omega)
            clear hl hn h4 h5 h6 hy hcc hAr hi0 hsz
            gi_wp2_with (refine ⟨trivial, rfl, ?_⟩; gi_at_call 27; refine (callsIn_wide.2 (line_length.calls kq A c bq 0 wr HCq.out hcq Hn.out)).mono ?_; rintro e W1 ⟨rfl, hb⟩; have HB1 := Aside0.mk hb; have hB0' := (hb.cell (p := ⟨Bx, 0, none⟩) hBl).trans hB0; have hR0' := (hb.cell (p := ⟨R, 0, none⟩) hRl).trans hR0; have hRf' := (hb.frozen (p := ⟨R, 0, none⟩) hRl).trans (hRf 0); clear hb)
            obtain ⟨W2, hW2⟩ : ∃ W2, W2 = W1.alloc (.cells #[.bool true, .string ⟨#[]⟩] 38) := ⟨_, rfl⟩
            rw [← hW2]
            have hbX : W2.heap[W1.heap.size]? = some (.cells #[.bool true, .string ⟨#[]⟩] 38 (0, 0)) := by rw [hW2]; show (W1.heap.push _)[W1.heap.size]? = _; exact Array.getElem?_push_size
            have HB2 := Aside0.mk (show Below wr.heap.size wr W2 by rw [hW2]; exact below_alloc HB1.out _)
            have HZ2 := Aside0.mk (show W2.heap.size = W1.heap.size + 1 by rw [hW2]; simp)
            clear hW2 hB0' hR0' hRf'
            have hB0' := (HB2.out.cell (p := ⟨Bx, 0, none⟩) hBl).trans hB0
            have hR0' := (HB2.out.cell (p := ⟨R, 0, none⟩) hRl).trans hR0
            have hRf' := (HB2.out.frozen (p := ⟨R, 0, none⟩) hRl).trans (hRf 0)
            gi_region
            obtain ⟨W3, hW3⟩ : ∃ W3, W3 = (W2.setCell ⟨R, 0, none⟩ (.slice A' y.length (c - 4))).drew := ⟨_, rfl⟩
            rw [← hW3]
            have hz3 : W3.heap.size = W2.heap.size := by rw [hW3]; simp [World.setCell]
            have hXR : W1.heap.size ≠ R := by have := HB1.out.size; omega
            have hb3 : ∀ k, k ≠ R → W3.heap[k]? = W2.heap[k]? := fun k hk => by rw [hW3]; exact Below.heap_setCell _ ⟨R, 0, none⟩ _ k hk
            have hX3 : W3.heap[W1.heap.size]? = some (.cells #[.bool true, .string ⟨#[]⟩] 38 (0, 0)) := (hb3 _ hXR).trans hbX
            have hR3 : W3.heap[R]? = some (.cells #[.slice A' y.length (c - 4), .int .i64 0] 42 (0, 0)) := by rw [hW3]; exact blk_put (hstep W2 HB2.out).2.1 0 _ rfl
            have hB3 : W3.heap[Bx]? = some (.cells #[.pointer (some ⟨R, 0, none⟩)] 40 (0, 0)) := (hb3 _ (Ne.symm hne)).trans (hstep W2 HB2.out).2.2.1
            have hx0 : W3.cell? ⟨W1.heap.size, 0, none⟩ = some (.bool true) := (cell_of_row W3 _ 0 _ _ _ hX3).trans rfl
            have hx1 : W3.cell? ⟨W1.heap.size, 1, none⟩ = some (.string ⟨#[]⟩) := (cell_of_row W3 _ 1 _ _ _ hX3).trans rfl
            have hj3 : J Fq pre W3 := by rw [hW3]; exact hSJ _ _ _ _ (hset W2 HB2.out 0 (.slice A' y.length (c - 4))).1 (fun _ _ => rfl)
            have hk3 : Go.Sep.KeepEx (fun k => Fp k ∨ k = R) W W3 := by rw [hW3]; exact ((hset W2 HB2.out 0 _).2.1).drew
            have hsz3 : wr.heap.size ≤ W3.heap.size := by rw [hz3]; exact HB2.out.size
            have hlen := line_Cut.l_len _ _ _ _ _ _ Hl.out
            obtain ⟨fn, tmps, assign, body, hy3, hR⟩ := hround Fq pre ⟨true, ⟨#[]⟩⟩ W3 hj3 (by simp at hlen; omega) (by have := hkeep.size; omega) (fun k hk => (hFq k hk).2.1) (fun k hk => by have := (hFq k hk).2.2; omega) (fun k h1 h2 => hk3.block k (by have := hw.size; have := (Array.getElem?_eq_some_iff.1 hB).1; omega) (fun h => h.elim (fun h => hFpn k h h1) h2))
            simp only [lval] at hy3
            clear hW3 hB0' hR0' hRf' hbX hlen
            gi_wp2
            refine ⟨rfl, hR.mono ?_⟩
            rintro e W4 ⟨Fr, hk4, hFr, hor⟩
            have hR4 : W4.heap[R]? = some (.cells #[.slice A' y.length (c - 4), .int .i64 0] 42 (0, 0)) := (hk4.block R (by omega) (fun h => (hFq R h).2.1 (.inr (.inl rfl)))).trans hR3
            have hB4 : W4.heap[Bx]? = some (.cells #[.pointer (some ⟨R, 0, none⟩)] 40 (0, 0)) := (hk4.block Bx (by omega) (fun h => (hFq Bx h).2.1 (.inr (.inr rfl)))).trans hB3
            have hk5 : Go.Sep.KeepEx (fun k => Fp k ∨ k = R) W W4 := hk3.trans hk4 (fun _ e => e) (fun k hk => by
              rcases (hFq k hk).1 with h | h
              · exact .inl (.inl h)
              · exact .inr h)
            have hFr5 : ∀ k, Fr k → (Fp k ∨ W.heap.size ≤ k) ∧ ¬ (k < w.heap.size ∨ k = R ∨ k = Bx) ∧ k < W4.heap.size := fun k hk => by
              rcases (hFr k hk).1 with h | h
              · exact ⟨(hFq k h).1, (hFq k h).2.1, (hFr k hk).2⟩
              · have := hkeep.size; have := hw.size; exact ⟨.inr (by omega), fun h' => by omega, (hFr k hk).2⟩
            rcases hor with ⟨rfl, hj4⟩ | ⟨rfl, hj4⟩
            · gi_wp2
              go_roundw
              case rel => exact ⟨Fr, _, y, kq, A', _, hj4, hk5, hFr5, hR4, hB4, Hcc.out, HCd.out, Hl.out⟩
              case measure =>
                have e1 : sliceLen W4 R = y.length := by unfold sliceLen; rw [cell_of_row W4 R 0 _ _ _ hR4]; rfl
                have e2 : sliceLen wr R = bq.length := by unfold sliceLen; rw [hR0]
                rw [e1, e2]; have := HYl.out; omega
            · gi_wp2
              refine bodyPost_ret (results_none rfl _ _ _) rfl ?_
              exact ⟨⟨_, rfl⟩, Fr, hk5, hFr5, .inr ⟨_, trivial, hj4⟩⟩
          · rw [if_neg h7] at hl
            obtain ⟨i0, hi0, _, hsz, _⟩ := info_parts info5
            obtain ⟨A', hcut, hAr, hcc⟩ := print_drop_of (P := Try.prog) (Value.int .u8) 0 23 5 .i64 Try.underlying23 hi0 hsz A c bq n (by omega) (by omega) hcq
            obtain ⟨A2, hcut2, hAr2, hcc2⟩ := print_mid_of (P := Try.prog) (Value.int .u8) 0 23 5 .i64 .i64 Try.underlying23 hi0 hsz A c bq 4 n (by omega) (by omega) (by omega) hcq
            have HCd := Aside0.mk (Kd.C_of_reads (h1 := fun _ => rfl) (hAr _ (Kd.reads_of_C hCq)))
            have HCm := Aside0.mk (Kd.C_of_reads (h1 := fun _ => rfl) (hAr2 _ (Kd.reads_of_C hCq)))
            simp only [show (4 : Int).toNat = 4 from rfl] at hcut2 HCm hcc2
            have HYl := Aside0.mk (show (bq.drop n.toNat).length + 4 ≤ bq.length by rw [List.length_drop]; omega)
            generalize bq.drop n.toNat = y at hl hcut HCd hcc HYl
            generalize (bq.take n.toNat).drop 4 = z at hl hcut2 HCm hcc2
            have Hl := Aside0.mk hl
            have Hcc := Aside0.mk hcc
            have c1 : decide (n < 0) = false := by simp; omega
            have c2 : decide (0 < n) = true := by simp; omega
            have c3 : decide (n ≤ 4) = false := by simp; omega
            have c4 : decide (4004 < n) = false := by simp; omega
            have c5 : decide ((bq.length : Int) < n) = false := by simpa using h6
            have c6 : (n == 0) = false := by simpa using h7
            have c7 : decide (4 < n) = true := by simp; omega
            have c8 : (if n < 4 then (4 : Int) else n) = n := by rw [if_neg (by omega)]
            have c9 : max n 4 = n := by omega
            have HMM := Aside0.mk (show 4 < n by omega)
            clear hl hn h4 h5 h6 h7 hcc hAr hi0 hsz hAr2 hcc2
            gi_wp2_with (refine ⟨trivial, rfl, ?_⟩; gi_at_call 27; refine (callsIn_wide.2 (line_length.calls kq A c bq n wr HCq.out hcq Hn.out)).mono ?_; rintro e W1 ⟨rfl, hb⟩; have HB1 := Aside0.mk hb; have hB0' := (hb.cell (p := ⟨Bx, 0, none⟩) hBl).trans hB0; have hR0' := (hb.cell (p := ⟨R, 0, none⟩) hRl).trans hR0; have hRf' := (hb.frozen (p := ⟨R, 0, none⟩) hRl).trans (hRf 0); have hcv := Kd.C_string (P := Try.prog) (src := 23) (dst := 9) (c := c - 4) Try.underlying23 Try.underlying5 Try.underlying9 (hCr HCm.out _ (below_alloc hb (.cells #[.bool false, .string ⟨#[]⟩] 38))); have hb' := below_alloc hb (.cells #[.bool false, .string ⟨#[]⟩] 38); have hB0'' := (hb'.cell (p := ⟨Bx, 0, none⟩) hBl).trans hB0; have hR0'' := (hb'.cell (p := ⟨R, 0, none⟩) hRl).trans hR0; clear hb hb')
            obtain ⟨W2, hW2⟩ : ∃ W2, W2 = W1.alloc (.cells #[.bool false, .string (strOfNums z)] 38) := ⟨_, rfl⟩
            rw [← hW2]
            have hbX : W2.heap[W1.heap.size]? = some (.cells #[.bool false, .string (strOfNums z)] 38 (0, 0)) := by rw [hW2]; show (W1.heap.push _)[W1.heap.size]? = _; exact Array.getElem?_push_size
            have HB2 := Aside0.mk (show Below wr.heap.size wr W2 by rw [hW2]; exact below_alloc HB1.out _)
            have HZ2 := Aside0.mk (show W2.heap.size = W1.heap.size + 1 by rw [hW2]; simp)
            clear hW2 hB0' hR0' hRf' hcv hB0'' hR0''
            have hB0' := (HB2.out.cell (p := ⟨Bx, 0, none⟩) hBl).trans hB0
            have hR0' := (HB2.out.cell (p := ⟨R, 0, none⟩) hRl).trans hR0
            have hRf' := (HB2.out.frozen (p := ⟨R, 0, none⟩) hRl).trans (hRf 0)
            gi_region
            obtain ⟨W3, hW3⟩ : ∃ W3, W3 = (W2.setCell ⟨R, 0, none⟩ (.slice A' y.length (c - n.toNat))).drew := ⟨_, rfl⟩
            rw [← hW3]
            have hz3 : W3.heap.size = W2.heap.size := by rw [hW3]; simp [World.setCell]
            have hXR : W1.heap.size ≠ R := by have := HB1.out.size; omega
            have hb3 : ∀ k, k ≠ R → W3.heap[k]? = W2.heap[k]? := fun k hk => by rw [hW3]; exact Below.heap_setCell _ ⟨R, 0, none⟩ _ k hk
            have hX3 : W3.heap[W1.heap.size]? = some (.cells #[.bool false, .string (strOfNums z)] 38 (0, 0)) := (hb3 _ hXR).trans hbX
            have hR3 : W3.heap[R]? = some (.cells #[.slice A' y.length (c - n.toNat), .int .i64 0] 42 (0, 0)) := by rw [hW3]; exact blk_put (hstep W2 HB2.out).2.1 0 _ rfl
            have hB3 : W3.heap[Bx]? = some (.cells #[.pointer (some ⟨R, 0, none⟩)] 40 (0, 0)) := (hb3 _ (Ne.symm hne)).trans (hstep W2 HB2.out).2.2.1
            have hx0 : W3.cell? ⟨W1.heap.size, 0, none⟩ = some (.bool false) := (cell_of_row W3 _ 0 _ _ _ hX3).trans rfl
            have hx1 : W3.cell? ⟨W1.heap.size, 1, none⟩ = some (.string (strOfNums z)) := (cell_of_row W3 _ 1 _ _ _ hX3).trans rfl
            have hj3 : J Fq pre W3 := by rw [hW3]; exact hSJ _ _ _ _ (hset W2 HB2.out 0 (.slice A' y.length (c - n.toNat))).1 (fun _ _ => rfl)
            have hk3 : Go.Sep.KeepEx (fun k => Fp k ∨ k = R) W W3 := by rw [hW3]; exact ((hset W2 HB2.out 0 _).2.1).drew
            have hsz3 : wr.heap.size ≤ W3.heap.size := by rw [hz3]; exact HB2.out.size
            have hlen := line_Cut.l_len _ _ _ _ _ _ Hl.out
            obtain ⟨fn, tmps, assign, body, hy3, hR⟩ := hround Fq pre ⟨false, (strOfNums z)⟩ W3 hj3 (by simp at hlen; omega) (by have := hkeep.size; omega) (fun k hk => (hFq k hk).2.1) (fun k hk => by have := (hFq k hk).2.2; omega) (fun k h1 h2 => hk3.block k (by have := hw.size; have := (Array.getElem?_eq_some_iff.1 hB).1; omega) (fun h => h.elim (fun h => hFpn k h h1) h2))
            simp only [lval] at hy3
            clear hW3 hB0' hR0' hRf' hbX hlen
            gi_wp2
            refine ⟨rfl, hR.mono ?_⟩
            rintro e W4 ⟨Fr, hk4, hFr, hor⟩
            have hR4 : W4.heap[R]? = some (.cells #[.slice A' y.length (c - n.toNat), .int .i64 0] 42 (0, 0)) := (hk4.block R (by omega) (fun h => (hFq R h).2.1 (.inr (.inl rfl)))).trans hR3
            have hB4 : W4.heap[Bx]? = some (.cells #[.pointer (some ⟨R, 0, none⟩)] 40 (0, 0)) := (hk4.block Bx (by omega) (fun h => (hFq Bx h).2.1 (.inr (.inr rfl)))).trans hB3
            have hk5 : Go.Sep.KeepEx (fun k => Fp k ∨ k = R) W W4 := hk3.trans hk4 (fun _ e => e) (fun k hk => by
              rcases (hFq k hk).1 with h | h
              · exact .inl (.inl h)
              · exact .inr h)
            have hFr5 : ∀ k, Fr k → (Fp k ∨ W.heap.size ≤ k) ∧ ¬ (k < w.heap.size ∨ k = R ∨ k = Bx) ∧ k < W4.heap.size := fun k hk => by
              rcases (hFr k hk).1 with h | h
              · exact ⟨(hFq k h).1, (hFq k h).2.1, (hFr k hk).2⟩
              · have := hkeep.size; have := hw.size; exact ⟨.inr (by omega), fun h' => by omega, (hFr k hk).2⟩
            rcases hor with ⟨rfl, hj4⟩ | ⟨rfl, hj4⟩
            · gi_wp2
              go_roundw
              case rel => exact ⟨Fr, _, y, kq, A', _, hj4, hk5, hFr5, hR4, hB4, Hcc.out, HCd.out, Hl.out⟩
              case measure =>
                have e1 : sliceLen W4 R = y.length := by unfold sliceLen; rw [cell_of_row W4 R 0 _ _ _ hR4]; rfl
                have e2 : sliceLen wr R = bq.length := by unfold sliceLen; rw [hR0]
                rw [e1, e2]; have := HYl.out; omega
            · gi_wp2
              refine bodyPost_ret (results_none rfl _ _ _) rfl ?_
              exact ⟨⟨_, rfl⟩, Fr, hk5, hFr5, .inr ⟨_, trivial, hj4⟩⟩

theorem line_lines_any (R : Nat) (w : World) : Calls Try.prog 21 #[.pointer (some ⟨R, 0, none⟩)] w fun e w' => e = .returned (.func (.func 26) #[] #[.pointer (some ⟨w.heap.size, 0, none⟩)]) ∧ w' = w.alloc (.cells #[.pointer (some ⟨R, 0, none⟩)] 40) := by
  go_enter Try.func21, Try.ntmps21
  go_wp2
  go_ret
  exact ⟨rfl, rfl⟩

theorem line_collect {gf : Nat} {lb : Array Value} {Q : Ending → World → Prop} (w : World) (h : Calls Try.prog 25 #[.slice none 0 0, .func (.func gf) #[] lb] w fun e w' => ∃ v, e = .returned v ∧ Q (.returned v) w') :
    Calls Try.prog 20 #[.func (.func gf) #[] lb] w Q := by
  go_enter Try.func20, Try.ntmps20
  go_wp2_with (go_at_call 25; refine h.mono ?_; rintro e W1 ⟨v, rfl, hq⟩; have HQ := Aside0.mk hq; clear hq)
  exact HQ.out

def line_Cut.f (k : Nat) (l0 : List Int) : Option (List S38 × List Int × Int) := (line_Cut.l k l0 []).bind fun r => if r.1.length * 24 ≤ 140737488355328 then (if r.2.2 = 0 then (bytes_Clone.f r.2.1).bind fun c => some (r.1, c, 0) else some ([], [], r.2.2)) else none
theorem line_Cut.mono : ∀ a0 k, LeO (line_Cut.f k a0) (line_Cut.f (k + 1) a0) := by
  intro a0 k
  unfold line_Cut.f
  exact LeO.bind (line_Cut.mono_l k a0 []) (fun _ => LeO.refl _)

set_option maxRecDepth 100000 in
set_option maxHeartbeats 4000000 in
theorem line_Cut.calls (k : Nat) (A0 : Option Addr) (c0 : Nat) (l0 : List Int) (r1 : List S38) (r2 : List Int) (r3 : Int) (w : World) (hr0 : Kd.C (Kd.int .u8) w A0 l0.length l0) (hc0 : l0.length ≤ c0) (h : line_Cut.f k l0 = some (r1, r2, r3)) :
    Calls Try.prog 13 #[.slice A0 l0.length c0] w fun e w' => ∃ v0_ v1_ : Value, e = .returned (.tuple #[v0_, v1_, .int .i64 r3]) ∧ Kd.R k38 38 w' w.heap.size (fun _ => True) v0_ r1 ∧ Kd.R (Kd.int .u8) 5 w' w.heap.size (fun _ => True) v1_ r2 ∧ Below w.heap.size w w' := by
  obtain ⟨⟨xs0, rest, e0⟩, hl, h⟩ := Option.bind_eq_some_iff.1 h
  dsimp only at h
  by_cases hlim : xs0.length * 24 ≤ 140737488355328
  case neg => rw [if_neg hlim] at h; cases h
  rw [if_pos hlim] at h
  obtain ⟨W2, hW2⟩ : ∃ W2, W2 = (w.alloc (.cells #[.slice A0 l0.length c0, .int .i64 0] 42)).alloc (.cells #[.pointer (some ⟨w.heap.size, 0, none⟩)] 40) := ⟨_, rfl⟩
  have hz2 : W2.heap.size = w.heap.size + 2 := by rw [hW2]; simp
  have hb2 : Below w.heap.size w W2 := by rw [hW2]; exact below_alloc (below_alloc (Below.refl _ _) _) _
  have hR2 : W2.heap[w.heap.size]? = some (.cells #[.slice A0 l0.length c0, .int .i64 0] 42 (0, 0)) := by
    rw [hW2]; refine (Below.heap_alloc _ _ _ (by simp)).trans ?_; show (w.heap.push _)[w.heap.size]? = _; exact Array.getElem?_push_size
  have hB2 : W2.heap[w.heap.size + 1]? = some (.cells #[.pointer (some ⟨w.heap.size, 0, none⟩)] 40 (0, 0)) := by
    rw [hW2]
    have e : w.heap.size + 1 = (w.alloc (.cells #[.slice A0 l0.length c0, .int .i64 0] 42)).heap.size := by simp
    rw [e]
    show ((w.alloc (.cells #[.slice A0 l0.length c0, .int .i64 0] 42)).heap.push _)[(w.alloc (.cells #[.slice A0 l0.length c0, .int .i64 0] 42)).heap.size]? = _
    exact Array.getElem?_push_size
  have hseq := line_lines k l0 xs0 rest e0 hl w W2 w.heap.size (w.heap.size + 1) A0 c0 (by omega) (by omega) (by omega) hb2 hR2 hB2 hr0 hc0
  have hcol := line_appendSeq (enters_of Try.func26 (by kernel_rfl) rfl) hseq W2 (Nat.le_refl _) (fun _ _ => rfl) (fun k hk => by omega) hlim
    (by
      rintro xs W W' ⟨rfl, A, c, h1, h2, h3⟩ hsame
      exact ⟨rfl, A, c, (hsame _ (.inr (.inl rfl))).trans h1, h2, h3⟩) (fun _ _ _ _ _ => trivial)
  have hcol2 : Calls Try.prog 20 #[.func (.func 26) #[] #[.pointer (some ⟨w.heap.size + 1, 0, none⟩)]] ((w.alloc (.cells #[.slice A0 l0.length c0, .int .i64 0] 42)).alloc (.cells #[.pointer (some ⟨w.heap.size, 0, none⟩)] 40))
      fun e W3 => ∃ v, e = .returned v ∧ Kd.R k38 38 W3 w.heap.size (fun _ => True) v xs0 ∧ (∃ A c, W3.heap[w.heap.size]? = some (.cells #[.slice A rest.length c, .int .i64 e0] 42 (0, 0)) ∧ rest.length ≤ c ∧ Kd.C (Kd.int .u8) W3 A rest.length rest) ∧ Below w.heap.size w W3 := by
    rw [← hW2]
    refine line_collect W2 ((callsIn_wide.1 hcol).mono ?_)
    rintro e W3 ⟨v, xs, rfl, hv, ⟨rfl, A, c, h1, h2, h3⟩, hk⟩
    have hb3 : Below w.heap.size w W3 := hb2.trans (hk.below (by omega) (fun i hi => by omega))
    exact ⟨v, rfl, v, rfl, Kd.R_lower hv (by omega), ⟨A, c, h1, h2, Kd.C_below h3 hb3⟩, hb3⟩
  have HC2 := Aside0.mk hcol2
  clear hseq hB2 hl hcol hcol2 hR2 hb2 hz2 hW2
  by_cases he : e0 = 0
  · rw [if_pos he] at h
    obtain ⟨c1, hc1, h⟩ := Option.bind_eq_some_iff.1 h
    obtain ⟨rfl, rfl, rfl⟩ : xs0 = r1 ∧ c1 = r2 ∧ 0 = r3 := by simpa using h
    subst he
    have Hc1 := Aside0.mk hc1
    clear h hc1
    go_enter Try.func13, Try.ntmps13
    go_wp2_with (first | (go_at_call 21; refine (line_lines_any _ _).mono ?_; rintro e w' ⟨rfl, rfl⟩) | (go_at_call 20; refine HC2.out.mono ?_; rintro e W3 ⟨v, rfl, hv, ⟨A, c, hb, hcc, hC3⟩, hB3⟩; have HV := Aside0.mk hv; have HB3 := Aside0.mk hB3; have HC3 := Aside0.mk hC3; have hx0 : W3.cell? ⟨w.heap.size, 0, none⟩ = some (.slice A rest.length c) := (cell_of_row W3 _ 0 _ _ _ hb).trans rfl; have hx1 : W3.cell? ⟨w.heap.size, 1, none⟩ = some (.int .i64 0) := (cell_of_row W3 _ 1 _ _ _ hb).trans rfl; clear hv hB3 hC3 hb) | (go_at_call 22; refine (bytes_Clone.calls _ _ rest c1 _ HC3.out hcc Hc1.out).mono ?_; rintro e W4 ⟨v4, rfl, hv4, hB4⟩; have HV4 := Aside0.mk hv4; have HB4 := Aside0.mk hB4; clear hv4 hB4))
    go_ret3
    exact ⟨v, v4, rfl, Kd.R_below HV.out HB4.out, Kd.R_lower HV4.out HB3.out.size, below_step HB3.out HB4.out⟩
  · rw [if_neg he] at h
    obtain ⟨rfl, rfl, rfl⟩ : ([] : List S38) = r1 ∧ ([] : List Int) = r2 ∧ e0 = r3 := by simpa using h
    have hne1 : (e0 == 0) = false := by simpa using he
    have hne2 : (e0 != 0) = true := by simpa using he
    clear h he
    go_enter Try.func13, Try.ntmps13
    go_wp2_with (first | (go_at_call 21; refine (line_lines_any _ _).mono ?_; rintro e w' ⟨rfl, rfl⟩) | (go_at_call 20; refine HC2.out.mono ?_; rintro e W3 ⟨v, rfl, hv, ⟨A, c, hb, hcc, hC3⟩, hB3⟩; have HV := Aside0.mk hv; have HB3 := Aside0.mk hB3; have HC3 := Aside0.mk hC3; have hx0 : W3.cell? ⟨w.heap.size, 0, none⟩ = some (.slice A rest.length c) := (cell_of_row W3 _ 0 _ _ _ hb).trans rfl; have hx1 : W3.cell? ⟨w.heap.size, 1, none⟩ = some (.int .i64 e0) := (cell_of_row W3 _ 1 _ _ _ hb).trans rfl; clear hv hB3 hC3 hb))
    go_quiet (fail)
    go_wp2
    go_ret3
    exact ⟨_, _, rfl, Kd.R_nil _ _ _ _ _, Kd.R_nil _ _ _ _ _, pw_below_drewN HB3.out _⟩
end

/-! ### line_Parts: function 16 -/
section
attribute [local go_sem] Oper.semAt_some
theorem cut_three (A : Option Addr) (c : Nat) (xs : List Int) (a b : Int) (h0 : 0 ≤ a) (h1 : a < b) (hm : b ≤ xs.length) (hc : xs.length ≤ c) :
    ∃ A' : Option Addr, (∀ W : World, (Instr.slice 23 (.slice A xs.length c) (some (.int .i64 a)) (some (.int .i64 b)) (some (.int .i64 b))).run Try.prog W = .ok (.slice A' ((xs.take b.toNat).drop a.toNat).length ((xs.take b.toNat).drop a.toNat).length) W) ∧
      (∀ w : World, ReadsOf (Value.int .u8) 0 w A xs.length xs → ReadsOf (Value.int .u8) 0 w A' ((xs.take b.toNat).drop a.toNat).length ((xs.take b.toNat).drop a.toNat)) := by
  obtain ⟨i, hi, _, hsz, _⟩ := info_parts info5
  have hlt : (xs.take b.toNat).length = b.toNat := by rw [List.length_take]; omega
  have hl : ((xs.take b.toNat).drop a.toNat).length = b.toNat - a.toNat := by rw [List.length_drop, hlt]
  refine ⟨if b.toNat = a.toNat then A else A.map (·.add a.toNat), fun W => ?_, fun w h => ?_⟩
  · have hel : Try.prog.elem 23 = 5 := by simp [Program.elem, Try.underlying23]
    have hu : Try.prog.underlying 23 = some (.slice (Try.prog.elem 23)) := by rw [hel]; exact Try.underlying23
    rw [run_slice_lhm W 23 A xs.length c hu .i64 .i64 .i64 a b b h0 (by omega) (by omega) (by omega), hel, hl]
    simp [sizeOf, typeInfo, hi, hsz, sliced, Result.andThen]
  · have h2 := (h.take_ b.toNat (by omega)).drop_ (c := b.toNat) a.toNat (by omega) (by omega)
    rw [hl]
    exact h2

/-- The pieces of bytes, as long as may be each. -/
def pieces (b : List Int) : List (List Int) := (List.range ((b.length + 3999) / 4000)).map fun i => (b.drop (4000 * i)).take 4000
/-- A piece that is read at w. -/
abbrev Piece (w : World) := { p : Option Addr × List Int // Kd.C (Kd.int .u8) w p.1 p.2.length p.2 }
def pval {w : World} (p : Piece w) : Array Value := #[.slice p.1.1 p.1.2.length p.1.2.length]

set_option maxRecDepth 100000 in
set_option maxHeartbeats 4000000 in
theorem line_chunks (b : List Int) (w w0 : World) (Bs Bn : Nat) (A : Option Addr) (c : Nat) (hsn : Bs ≠ Bn) (hBs : w.heap.size ≤ Bs) (hBn : w.heap.size ≤ Bn) (hw : Below w.heap.size w w0) (hlim : b.length < 140737488355328)
    (hS : w0.heap[Bs]? = some (.cells #[.slice A b.length c] 23 (0, 0))) (hN : w0.heap[Bn]? = some (.cells #[.int .i64 4000] 3 (0, 0))) (hC : Kd.C (Kd.int .u8) w A b.length b) (hc : b.length ≤ c) :
    Go.Sep.SeqSep Try.prog 28 #[.pointer (some ⟨Bs, 0, none⟩), .pointer (some ⟨Bn, 0, none⟩)] (pval (w := w)) (fun k => k < w.heap.size ∨ k = Bs ∨ k = Bn) (fun _ => False)
      (fun xs _ => xs.map (fun p => p.1.2) = pieces b) (fun _ _ => True) ((b.length + 3999) / 4000) w0 := by
  intro l J Jx Fp W hsz hFiW hdisj hFpl hSJ hSJx hround hJ0
  refine callsIn_of_wp Try.func28 rfl trivial ?_ rfl
  simp only [Try.ntmps28, List.size_toArray, List.length_cons, List.length_nil, Nat.reduceAdd, Nat.reduceSub, Array.replicate_succ, Array.replicate_zero, List.push_toArray, List.append_toArray, List.nil_append, List.cons_append]
  gi_wp2
  gi_loopw [4] (fun v4 wr => ∃ (Fq : Nat → Prop) (pre : List (Piece w)) (q : Nat), v4 = .int .i64 q ∧ Aside0 (q = 4000 * pre.length) ∧ Aside0 (pre.map (fun p => p.1.2) = (List.range pre.length).map fun i => (b.drop (4000 * i)).take 4000) ∧ Aside0 (q < b.length + 4000) ∧ J Fq pre wr ∧ Go.Sep.KeepEx Fp W wr ∧ (∀ k, Fq k → (Fp k ∨ W.heap.size ≤ k) ∧ ¬ (k < w.heap.size ∨ k = Bs ∨ k = Bn) ∧ k < wr.heap.size))
    (fun v4 _ => b.length + 4000 - (intOf v4).toNat)
  case atStart => exact ⟨Fp, [], 0, rfl, ⟨rfl⟩, ⟨rfl⟩, ⟨by omega⟩, hJ0, Go.Sep.KeepEx.refl _ _, fun k hk => ⟨.inl hk, hdisj k hk, hFpl k hk⟩⟩
  case round =>
    obtain ⟨Fq, pre, q, rfl, Hq, Hpre, Hqb, hJq, hkeep, hFq⟩ := hrel
    have hFi : ∀ k, (k < w.heap.size ∨ k = Bs ∨ k = Bn) → wr.heap[k]? = w0.heap[k]? := fun k hk =>
      (hkeep.block k (by have := hw.size; have := (Array.getElem?_eq_some_iff.1 hS).1; have := (Array.getElem?_eq_some_iff.1 hN).1; omega) (fun h => hdisj k h hk)).trans (hFiW k hk)
    have hs0 : wr.cell? ⟨Bs, 0, none⟩ = some (.slice A b.length c) := (cell_of_row wr Bs 0 _ _ _ ((hFi Bs (.inr (.inl rfl))).trans hS)).trans rfl
    have hn0 : wr.cell? ⟨Bn, 0, none⟩ = some (.int .i64 4000) := (cell_of_row wr Bn 0 _ _ _ ((hFi Bn (.inr (.inr rfl))).trans hN)).trans rfl
    by_cases hlt : q < b.length
    · have t1 : decide ((q : Int) < (b.length : Int)) = true := by simpa using hlt
      have t2 : decide (q < b.length) = true := by simpa using hlt
      obtain ⟨i0, hi0, _, hsz1, _⟩ := info_parts info5
      obtain ⟨A1, hcut1, _, _⟩ := print_drop_of (P := Try.prog) (Value.int .u8) 0 23 5 .i64 Try.underlying23 hi0 hsz1 A c b (q : Int) (by omega) (by omega) hc
      obtain ⟨e, he⟩ : ∃ e : Nat, e = min 4000 (b.length - q) := ⟨_, rfl⟩
      obtain ⟨A2, hcut2, hrd2⟩ := cut_three A c b (q : Int) ((q : Int) + (e : Int)) (by omega) (by omega) (by omega) hc
      have hy1 : (b.drop (q : Int).toNat).length = b.length - q := by simp
      generalize hyd : b.drop (q : Int).toNat = y1 at hcut1 hy1
      gi_wp2
      gi_region
      have hmin : (if ((b.length - q : Nat) : Int) < 4000 then ((b.length - q : Nat) : Int) else 4000) = (e : Int) := by split <;> omega
      rw [hmin]
      obtain ⟨W3, hW3⟩ : ∃ W3, W3 = wr.drew := ⟨_, rfl⟩
      rw [← hW3]
      have hh3 : ∀ k : Nat, W3.heap[k]? = wr.heap[k]? := fun k => by rw [hW3]; rfl
      have hz3 : W3.heap.size = wr.heap.size := by rw [hW3]; rfl
      have hk3 : Go.Sep.KeepEx Fp W W3 := by rw [hW3]; exact hkeep.drew
      have hs3 : W3.cell? ⟨Bs, 0, none⟩ = some (.slice A b.length c) := by rw [hW3]; exact hs0
      have hj3 : J Fq pre W3 := hSJ _ _ _ _ hJq (fun k _ => hh3 k)
      have hC2 := Kd.C_of_reads (h1 := fun _ => rfl) (hrd2 _ (Kd.reads_of_C hC))
      have hyl : ((b.take ((q : Int) + (e : Int)).toNat).drop (q : Int).toNat) = (b.drop (4000 * pre.length)).take 4000 := by
        have := Hq.out
        have h1 : ((q : Int) + (e : Int)).toNat = q + e := by omega
        have h2 : (q : Int).toNat = q := by omega
        rw [h1, h2, ← this, List.drop_take]
        have h3 : q + e - q = e := by omega
        rw [h3]
        rcases Nat.le_total 4000 (b.length - q) with h | h
        · rw [show e = 4000 by omega]
        · rw [List.take_of_length_le (by simp; omega), List.take_of_length_le (by simp; omega)]
      generalize hy2 : ((b.take ((q : Int) + (e : Int)).toNat).drop (q : Int).toNat) = y2 at hC2 hcut2 hyl
      obtain ⟨fn, tmps, assign, body, hy3, hR⟩ := hround Fq pre ⟨(A2, y2), hC2⟩ W3 hj3 (by have := Hq.out; omega) (by have := hkeep.size; omega) (fun k hk => (hFq k hk).2.1) (fun k hk => by have := (hFq k hk).2.2; omega) (fun k h1 _ => (hh3 k).trans ((hFi k h1).trans (hFiW k h1).symm))
      simp only [pval] at hy3
      have HE := Aside0.mk he
      have HY := Aside0.mk hyl
      have b1 : (0 : Int) ≤ (e : Int) := by omega
      have b2 : (e : Int) ≤ 4000 := by omega
      have b3 : (q : Int) ≤ 140737488355328 := by omega
      clear hW3 hs0 hn0 hmin hy2 hyd hy1 hcut1 he hyl hrd2 hi0 hsz1
      gi_wp2
      refine ⟨rfl, hR.mono ?_⟩
      rintro e' W4 ⟨Fr, hk4, hFr, hor⟩
      have hn4 : W4.cell? ⟨Bn, 0, none⟩ = some (.int .i64 4000) := by
        have hb : W4.heap[Bn]? = some (.cells #[.int .i64 4000] 3 (0, 0)) := (hk4.block Bn (by rw [hz3]; have := hkeep.size; have := (Array.getElem?_eq_some_iff.1 hN).1; omega) (fun h => (hFq Bn h).2.1 (.inr (.inr rfl)))).trans ((hh3 Bn).trans ((hFi Bn (.inr (.inr rfl))).trans hN))
        exact (cell_of_row W4 Bn 0 _ _ _ hb).trans rfl
      have hk5 : Go.Sep.KeepEx Fp W W4 := hk3.trans hk4 (fun _ e => e) (fun k hk => (hFq k hk).1)
      have hFr5 : ∀ k, Fr k → (Fp k ∨ W.heap.size ≤ k) ∧ ¬ (k < w.heap.size ∨ k = Bs ∨ k = Bn) ∧ k < W4.heap.size := fun k hk => by
        rcases (hFr k hk).1 with h | h
        · exact ⟨(hFq k h).1, (hFq k h).2.1, (hFr k hk).2⟩
        · have := hkeep.size; have := hw.size; have := (Array.getElem?_eq_some_iff.1 hS).1; have := (Array.getElem?_eq_some_iff.1 hN).1; exact ⟨.inr (by omega), fun h' => by omega, (hFr k hk).2⟩
      rcases hor with ⟨rfl, hj4⟩ | ⟨rfl, hj4⟩
      · gi_wp2
        go_roundw
        case rel =>
          refine ⟨Fr, pre ++ [⟨(A2, y2), hC2⟩], q + 4000, by go_num, ⟨by have := Hq.out; simp; omega⟩, ⟨?_⟩, ⟨by omega⟩, hj4, hk5, hFr5⟩
          rw [List.length_append, List.length_singleton, List.range_succ, List.map_append, List.map_append, Hpre.out]
          simp only [List.map_cons, List.map_nil]
          rw [HY.out]
        case measure => simp [intOf]; omega
      · gi_wp2
        refine bodyPost_ret (results_none rfl _ _ _) rfl ?_
        exact ⟨⟨_, rfl⟩, Fr, hk5.mono (fun i h => .inl (.inl h)), hFr5, .inr ⟨_, trivial, hj4⟩⟩
    · have t1 : decide ((q : Int) < (b.length : Int)) = false := by simpa using hlt
      have t2 : decide (q < b.length) = false := by simpa using hlt
      gi_wp2
      go_end0
      refine ⟨⟨_, rfl⟩, Fq, hkeep.mono (fun i h => .inl (.inl h)), hFq, .inl ⟨pre, ?_, hJq⟩⟩
      rw [Hpre.out]
      unfold pieces
      rw [show (b.length + 3999) / 4000 = pre.length by have := Hq.out; have := Hqb.out; omega]

theorem line_chunk_any (A : Option Addr) (n c : Nat) (w : World) : Calls Try.prog 24 #[.slice A n c, .int .i64 4000] w fun e w' => e = .returned (.func (.func 28) #[] #[.pointer (some ⟨w.heap.size, 0, none⟩), .pointer (some ⟨w.heap.size + 1, 0, none⟩)]) ∧ w' = (w.alloc (.cells #[.slice A n c] 23)).alloc (.cells #[.int .i64 4000] 3) := by
  go_enter Try.func24, Try.ntmps24
  go_wp2
  first
  | exact ⟨rfl, rfl⟩
  | (go_ret; exact ⟨rfl, rfl⟩)

/-- A line of a piece. -/
def lineOf (p : List Int) : S38 := ⟨false, strOfNums p⟩
def line_Parts.f (l0 : List Int) : Option (List S38) := if l0.length < 140737488355328 then some ((pieces l0).map lineOf ++ [⟨true, ⟨#[]⟩⟩]) else none

set_option maxRecDepth 100000 in
set_option maxHeartbeats 4000000 in
theorem line_Parts.calls (A0 : Option Addr) (c0 : Nat) (l0 : List Int) (r : List S38) (w : World) (hr0 : Kd.C (Kd.int .u8) w A0 l0.length l0) (hc0 : l0.length ≤ c0) (h : line_Parts.f l0 = some r) :
    Calls Try.prog 16 #[.slice A0 l0.length c0] w fun e w' => ∃ v0_ : Value, e = .returned (v0_) ∧ Kd.R k38 38 w' w.heap.size (fun _ => True) v0_ r ∧ Below w.heap.size w w' := by
  unfold line_Parts.f at h
  split at h
  case isFalse => cases h
  case isTrue hlim =>
  obtain rfl := Option.some.inj h
  obtain ⟨i0, hi, hz0, hz1, hz2⟩ := info_parts infoL
  obtain ⟨W2, hW2⟩ : ∃ W2, W2 = ((w.alloc (.cells #[.slice none 0 0] 22)).alloc (.cells #[.slice A0 l0.length c0] 23)).alloc (.cells #[.int .i64 4000] 3) := ⟨_, rfl⟩
  have hz2' : W2.heap.size = w.heap.size + 3 := by rw [hW2]; simp
  have hb2 : Below w.heap.size w W2 := by rw [hW2]; exact below_alloc (below_alloc (below_alloc (Below.refl _ _) _) _) _
  have hO2 : Boxed W2 w.heap.size 22 (.slice none 0 0) := by rw [hW2]; exact ((Boxed.new w 22 (.slice none 0 0)).alloc _).alloc _
  have hS2 : W2.heap[w.heap.size + 1]? = some (.cells #[.slice A0 l0.length c0] 23 (0, 0)) := by
    rw [hW2]; have := (Boxed.new (w.alloc (.cells #[.slice none 0 0] 22)) 23 (.slice A0 l0.length c0)).alloc (.cells #[.int .i64 4000] 3); rw [World.size_alloc] at this; exact this
  have hN2 : W2.heap[w.heap.size + 1 + 1]? = some (.cells #[.int .i64 4000] 3 (0, 0)) := by
    rw [hW2]; have := Boxed.new ((w.alloc (.cells #[.slice none 0 0] 22)).alloc (.cells #[.slice A0 l0.length c0] 23)) 3 (.int .i64 4000); rw [World.size_alloc, World.size_alloc] at this; exact this
  have hseq := line_chunks l0 w W2 (w.heap.size + 1) (w.heap.size + 1 + 1) A0 c0 (by omega) (by omega) (by omega) hb2 hlim hS2 hN2 hr0 hc0
  refine (callsIn_wide (n := 0)).1 (callsIn_of_wp_marks Try.func16 rfl trivial ?_ rfl)
  simp only [Try.ntmps16, List.size_toArray, List.length_cons, List.length_nil, Nat.reduceAdd, Nat.reduceSub, Array.replicate_succ, Array.replicate_zero, List.push_toArray, List.append_toArray, List.nil_append, List.cons_append]
  have HSEQ := Aside0.mk hseq
  have HO := Aside0.mk hO2
  have HZ := Aside0.mk hz2'
  have HB := Aside0.mk hb2
  have HW := Aside0.mk hW2
  have HR0 := Aside0.mk hr0
  clear hseq hO2 hz2' hb2 hW2 hS2 hN2 hr0
  gi_wp2_with (refine ⟨trivial, rfl, ?_⟩; gi_at_call 24; refine (callsIn_wide.2 (line_chunk_any _ _ _ _)).mono ?_; rintro e w' ⟨rfl, rfl⟩)
  rw [← HW.out]
  refine Go.Sep.wpIn_rangeFunc_sep rfl (enters_of Try.func28 (by kernel_rfl) rfl) HSEQ.out (Nat.le_refl _) (fun k hk => rfl) (fun k hk => by have := HZ.out; omega) (fun _ => rfl) (fun _ _ _ h _ => h) (fun _ _ _ _ _ => trivial)
    (fun Fq pre W => ∃ v, Boxed W w.heap.size 22 v ∧ W.ownsRow w.heap.size 38 2 v pre.length (lcells (pre.map fun p => lineOf p.1.2)) ∧ Fq w.heap.size ∧ ∀ k, v.ownBlock = some k → Fq k)
    (fun _ _ _ _ => False) ?sI (fun _ _ _ _ _ h _ => h) (fun k => k = w.heap.size) ?d1 ?d2 ?h0
    (fun Fq p W => (∃ v, Boxed W w.heap.size 22 v ∧ W.ownsRow w.heap.size 38 2 v p.1.length (lcells (p.1.map fun p => lineOf p.1.2)) ∧ Fq w.heap.size ∧ ∀ k, v.ownBlock = some k → Fq k) ∧ p.2.2 = { tmps := #[.slice A0 l0.length c0, undef, .slice none 0 0, .pointer (some ⟨w.heap.size, 0, none⟩), .slice p.2.1.1.1 p.2.1.1.2.length p.2.1.1.2.length, .slice A0 l0.length c0, .func (.func 28) #[] #[.pointer (some ⟨w.heap.size + 1, 0, none⟩), .pointer (some ⟨w.heap.size + 1 + 1, 0, none⟩)], .slice p.2.1.1.1 p.2.1.1.2.length p.2.1.1.2.length, undef, undef, undef, undef, undef, undef, undef, undef, undef, undef], defers := [] })
    ?sM ?assign ?body ?done ?stop
  case sI =>
    rintro Fq pre W W' ⟨v, hv, hr, hB, hb⟩ h
    exact ⟨v, (h _ hB).trans hv, own_move hr (fun k hk => h k (hb k hk)), hB, hb⟩
  case d1 =>
    rintro k rfl hk
    omega
  case d2 =>
    rintro k rfl
    have := HZ.out; omega
  case h0 => exact ⟨_, HO.out, World.ownsRow_nil _ _ _ _, rfl, by simp [Value.ownBlock]⟩
  case sM =>
    rintro Fq ⟨pre, x, a'⟩ W W' ⟨⟨v, hv, hr, hB, hb⟩, h3⟩ h
    exact ⟨⟨v, (h _ hB).trans hv, own_move hr (fun k hk => h k (hb k hk)), hB, hb⟩, h3⟩
  case assign =>
    rintro l Fq pre x W ⟨v, hv, hr, hB, hb⟩ hsz hFql hro
    simp only [pval, List.zip_toArray, List.zip_cons_cons, List.zip_nil_right, List.foldl_toArray', List.foldl_cons, List.foldl_nil]
    gi_wp2
    first
    | exact ⟨Fq, Go.Sep.KeepEx.refl _ _, fun k hk => ⟨.inl hk, hFql k hk⟩, ⟨v, hv, hr, hB, hb⟩, trivial⟩
    | exact ⟨Fq, Go.Sep.KeepEx.refl _ _, fun k hk => ⟨.inl hk, hFql k hk⟩, ⟨v, hv, hr, hB, hb⟩, rfl⟩
  case body =>
    rintro l Fq pre x a' W ⟨⟨v, hv, hr, hB, hb⟩, h3⟩ hlen hsz hFql hro
    dsimp only at hv hr h3
    subst h3
    have hc := hv.cell
    have hf := hv.frozen
    have hBs : w.heap.size ≤ W.heap.size := by have := HZ.out; omega
    have hCW : Kd.C (Kd.int .u8) W x.1.1 x.1.2.length x.1.2 := Kd.C_F (Kd.heap_int .u8) x.2 W (fun k hk _ => (hro k (.inl hk) (fun h => h)).trans (HB.out.block k hk))
    have hcv := Kd.C_string (P := Try.prog) (src := 23) (dst := 9) (c := x.1.2.length) Try.underlying23 Try.underlying5 Try.underlying9 hCW
    have hpl : (pre.length + 1) * 24 ≤ 140737488355328 := by omega
    have HROW := Aside0.mk hr
    clear hCW hro
    gi_wp2_with (gi_at_builtin; refine wpListIn_append_own_at _ rfl _ _ 22 rfl w.heap.size 38 i0 _ 2 24 Try.underlying22 hi hz0 hz1 hz2 rfl (by decide) _ _ _ rfl (HROW.out.alloc _) ⟨W.heap.size, 0, none⟩ 1 1 [.bool false, .string (strOfNums x.1.2)] rfl rfl ?c1 ?c2 ?c3 ?c4 ?c5 ?_; (case c1 => exact cell_two_new _ _ _ _); (case c2 => simp [Value.oneCell']); (case c3 => unfold maxLen; omega); (case c4 => omega); (case c5 => simp; omega); intro v' w1 hown' hgrow _ hat; obtain ⟨g', cap', rfl⟩ := ownsRow_succ hown'; obtain ⟨hv1, hv2, hr2, hk2, hb2⟩ := hv.appended (by decide) HROW.out hBs (Nat.le_refl _) hown' hgrow; have hc1 := hv1.cell; have hf1 := hv1.frozen)
    have hg' : Fq g' ∨ W.heap.size ≤ g' := by
      rcases hat with h | h
      · exact .inl (hb g' (Eq.symm h))
      · exact .inr (by have h2 : some g' = some (W.alloc (.cells #[.bool false, .string (strOfNums x.1.2)] 38)).heap.size := h; simp at h2; omega)
    refine ⟨fun k => Fq k ∨ k = g', ((Go.Sep.KeepEx.refl Fq W).alloc _ |>.trans (Go.Sep.KeepEx.of_grownBy (Fp := Fq) hgrow (fun k e => .inl (hb k e))) (fun _ e => e) (fun _ e => .inl e)).setCell ⟨w.heap.size, 0, none⟩ _ (.inl hB), ?_, _, hv2, ?_, .inl hB, ?_⟩
    · rintro k (hk | rfl)
      · exact ⟨.inl hk, by have := hFql k hk; have := hk2.size; omega⟩
      · exact ⟨hg', own_lt hr2 _ rfl⟩
    · rw [List.map_append, List.map_singleton, lcells_snoc]; simpa [lineOf] using hr2
    · intro k hk
      right
      simpa [Value.ownBlock] using hk.symm
  case done =>
    rintro D Fq xs W hD hFqD hSx ⟨v, hv, hr, hB, hb⟩ hkeep hFql hK
    have hc := hv.cell
    have hBs : w.heap.size ≤ W.heap.size := by have := HZ.out; have := hkeep.size; omega
    have hxl : xs.length = (l0.length + 3999) / 4000 := by have := congrArg List.length hSx; simpa [pieces] using this
    have hpl : (xs.length + 1) * 24 ≤ 140737488355328 := by omega
    have HROW := Aside0.mk hr
    have HK := Aside0.mk hK
    have HKEEP := Aside0.mk hkeep
    have HX := Aside0.mk hSx
    clear hr hK hkeep hSx hxl
    gi_wp2_with (gi_at_builtin; refine wpListIn_append_own_at _ rfl _ _ 22 rfl w.heap.size 38 i0 _ 2 24 Try.underlying22 hi hz0 hz1 hz2 rfl (by decide) _ _ _ rfl (HROW.out.alloc _) ⟨W.heap.size, 0, none⟩ 1 1 [.bool true, .string ⟨#[]⟩] rfl rfl ?c1 ?c2 ?c3 ?c4 ?c5 ?_; (case c1 => exact cell_two_new _ _ _ _); (case c2 => simp [Value.oneCell']); (case c3 => unfold maxLen; omega); (case c4 => omega); (case c5 => simp; omega); intro v' w1 hown' hgrow _ hat)
    have hDb : some D ≠ v.ownBlock := fun e => hFqD (hb D e.symm)
    have hDl : D < W.heap.size := (Array.getElem?_eq_some_iff.1 HK.out).1
    have hK1 : w1.heap[D]? = some (.deferred (some [])) := (hgrow.block D (by simp; omega) hDb).trans ((Below.heap_alloc _ _ _ hDl).trans HK.out)
    refine ⟨by simp, .inl ⟨_, _, rfl, run_takeDeferred hK1, ?_⟩⟩
    have hcells : lcells (xs.map fun p => lineOf p.1.2) ++ [.bool true, .string ⟨#[]⟩] = lcells ((pieces l0).map lineOf ++ [⟨true, ⟨#[]⟩⟩]) := by
      rw [lcells_snoc, ← HX.out, List.map_map]; rfl
    have hlen : xs.length + 1 = ((pieces l0).map lineOf ++ ([⟨true, ⟨#[]⟩⟩] : List S38)).length := by rw [← HX.out]; simp
    have hown2 := ownsRow_putObj hown' (.deferred none) hK1 rfl
    rw [hcells, hlen] at hown2
    have hkk : Go.Sep.KeepEx (fun k => w.heap.size ≤ k) w (w1.putObj D (.deferred none)) :=
      ((((Go.Sep.KeepEx.of_below HB.out).trans HKEEP.out (fun _ e => e) (fun k hk => .inl (by rcases hk with rfl | hk; exact Nat.le_refl _; exact hk.elim))).alloc _).trans (Go.Sep.KeepEx.of_grownBy (Fp := fun k => w.heap.size ≤ k) hgrow (fun k e => .inl (own_base HROW.out k e))) (fun _ e => e) (fun _ e => .inl e)).trans (Go.Sep.KeepEx.putObj (Fp := fun k => k = D) w1 D _ rfl) (fun _ e => e) (fun k hk => .inl (by have := HZ.out; omega))
    exact ⟨_, results_tmp rfl _ _ _, v', rfl, (⟨fun _ _ => trivial, _, hown2, lcells_reps _⟩ : Kd.R k38 38 _ w.heap.size (fun _ => True) v' _), hkk.below (Nat.le_refl _) (fun _ e => e)⟩
  case stop =>
    rintro D c Fq pre W _ _ _ h
    exact h.elim
end

/-! ### line_Join: function 18 -/
def line_Join.l0 : Nat → List Int → List (S38) → Int → Int → Option (List Int)
  | 0, _, _, _, _ => none
  | k + 1, x3, x6, x7, x8 => if x8 < x7 then (if 0 ≤ x8 then (if x8 < (x6.length : Int) then (if x3.length + ((rd_T38 x6 x8).f1).size < 140737488355328 then (line_Join.l0 k (x3 ++ bytesOf ((rd_T38 x6 x8).f1)) x6 x7 (wrap64 (x8 + 1))) else (none)) else (none)) else (none)) else (some x3)
def line_Join.f (k : Nat) (l0 : List (S38)) : Option (List Int) := line_Join.l0 k ([] : List Int) l0 (l0.length : Int) 0
theorem line_Join.mono_l : ∀ k, (∀ y0 y1 y2 y3, LeO (line_Join.l0 k y0 y1 y2 y3) (line_Join.l0 (k + 1) y0 y1 y2 y3))
  | 0 => fun _ _ _ _ r h => by simp [line_Join.l0] at h
  | k + 1 => by
    have ih0 := line_Join.mono_l k
    · intro y0 y1 y2 y3
      unfold line_Join.l0
      repeat' first
      | (with_reducible exact ih0 _ _ _ _)
      | (with_reducible exact LeO.refl _)
      | (with_reducible exact LeO.none _)
      | (with_reducible refine LeO.ite ?_ ?_)
      | (with_reducible refine LeO.bind ?_ (fun _ => ?_))
      | exact ih0 _ _ _ _
      | exact LeO.none _
      | refine LeO.ite ?_ ?_
      | refine LeO.bind ?_ (fun _ => ?_)
theorem line_Join.mono : ∀ a0 k, LeO (line_Join.f k a0) (line_Join.f (k + 1) a0) := by
  intro a0 k
  have ih0 := line_Join.mono_l k
  unfold line_Join.f
  repeat' first
      | (with_reducible exact ih0 _ _ _ _)
      | (with_reducible exact LeO.refl _)
      | (with_reducible exact LeO.none _)
      | (with_reducible refine LeO.ite ?_ ?_)
      | (with_reducible refine LeO.bind ?_ (fun _ => ?_))
      | exact ih0 _ _ _ _
      | exact LeO.none _
      | refine LeO.ite ?_ ?_
      | refine LeO.bind ?_ (fun _ => ?_)
set_option maxHeartbeats 8000000 in
set_option maxRecDepth 100000 in
theorem line_Join.calls (k : Nat) (A0 : Option Addr) (c0 : Nat) (l0 : List (S38)) (r : List Int) (w : World) (hr0 : Kd.C k38 w A0 l0.length l0) (hc0 : l0.length ≤ c0) (h : line_Join.f k l0 = some r) :
    Calls Try.prog 18 #[.slice A0 l0.length c0] w fun e w' => ∃ v0_ : Value, e = .returned (v0_) ∧ Kd.R (Kd.int .u8) 5 w' w.heap.size (fun _ => True) v0_ r ∧ Below w.heap.size w w' := by
  have hu38 := Try.underlying38
  have HR0 := Aside0.mk hr0
  have HC0 := Aside0.mk hc0
  clear hr0 hc0
  have HB := Aside0.mk (Below.refl w.heap.size w)
  have H : (line_Join.l0 k ([] : List Int) l0 (l0.length : Int) 0) = some r := h
  clear h
  have H' := Aside0.mk H
  clear H
  go_enter Try.func18, Try.ntmps18
  go_wp2
  go_loopg [3, 8] k (fun kq v3 v8 w' => ∃ (x3_1 : List Int) (x8_1 : Int), v8 = .int .i64 x8_1 ∧ Aside0 (line_Join.l0 kq x3_1 l0 (l0.length : Int) x8_1 = some r) ∧ Aside0 (kq ≤ k) ∧ Aside0 (Kd.R (Kd.int .u8) 5 w' w.heap.size (fun _ => True) v3 x3_1) ∧ Aside0 (Below w.heap.size w w'))
  case atStart => exact ⟨(([] : List Int)), (0), (by first | rfl | (simp; done) | (simp [*]; done)), H', ⟨Nat.le_refl _⟩, ⟨by first | exact Kd.R_nil _ _ _ _ _ | exact Kd.N_nil _ _ _ _ _ | exact Kd.V_nil _ _ _ _ _ | exact Kd.Q_nil _ _ _ _ _ | exact Kd.S_nil _ _ _ _ _⟩, ⟨by repeat (first | (with_reducible first | exact HB.out | apply below_alloc | apply pw_below_drewN | apply below_drew1) | exact HB.out)⟩⟩
  case round =>
    clear H'
    try clear c1
    obtain ⟨x3_1, x8_1, rfl, HA, HK1, HO_3, HB⟩ := hrel
    cases gk with
    | zero => exact absurd HA.out (by simp [line_Join.l0])
    | succ k1 =>
      have H := HA.out
      clear HA
      simp only [line_Join.l0] at H
      by_cases c2 : x8_1 < (l0.length : Int)
      · rw [if_pos c2] at H
        have c2b0 : decide (x8_1 < (l0.length : Int)) = true := decide_eq_true c2
        clear c2
        by_cases c3 : 0 ≤ x8_1
        · rw [if_pos c3] at H
          have c3b0 : decide (0 ≤ x8_1) = true := decide_eq_true c3
          clear c3
          by_cases c4 : x8_1 < (l0.length : Int)
          · rw [if_pos c4] at H
            have c4b0 : decide (x8_1 < (l0.length : Int)) = true := decide_eq_true c4
            clear c4
            by_cases c5 : x3_1.length + ((rd_T38 l0 x8_1).f1).size < 140737488355328
            · rw [if_pos c5] at H
              have LMc5 := Aside0.mk c5
              clear c5
              obtain ⟨y117, hy117⟩ : ∃ y_ : List Int, y_ = (x3_1 ++ bytesOf ((rd_T38 l0 x8_1).f1)) := ⟨_, rfl⟩
              replace H : (line_Join.l0 k1 y117 l0 (l0.length : Int) (wrap64 (x8_1 + 1))) = some r := by first | (rw [hy117]; with_reducible exact H) | (have H2_ := (Option.bind_some _ _).symm.trans H; rw [hy117]; with_reducible exact H2_) | (have H2_ := (Option.bind_some _ _).symm.trans H; with_reducible exact H2_) | with_reducible exact H | (rw [hy117]; exact H) | exact H
              have Ny117 := Aside0.mk hy117
              clear hy117
              have H' := Aside0.mk H
              clear H
              have p115 : 0 ≤ (x8_1 : Int) := of_decide_eq_true (by first | (with_reducible assumption) | assumption)
              have q115 : x8_1 < (l0.length : Int) := of_decide_eq_true (by first | (with_reducible assumption) | assumption)
              obtain ⟨ad115, e115, hx115_0, hx115_1⟩ := at_T38 HR0.out x8_1 p115 q115
              cases e115
              replace hx115_0 := (HB.out.cell (World.block_lt_of_cell? w _ hx115_0)).trans hx115_0
              replace hx115_1 := (HB.out.cell (World.block_lt_of_cell? w _ hx115_1)).trans hx115_1
              replace p115 := eq_true p115
              replace q115 := eq_true q115
              go_wp2_with (first | ((with_reducible refine gate_dst (N := 5) rfl ?_); refine box_event ?hg (N := 5) ?hd (cs := #[.bool false, .string (⟨#[]⟩ : ByteArray)]) (t := 38) ?hr ?_; (case hd => rfl); (case hg => rfl); (case hr => first | (go_simp; done) | (go_simp; rfl)); intro gb116 hg w6 hbox hb; have n0_ := Aside0.mk (Kd.R_below (by (with_reducible repeat (first | apply Kd.R_alloc | apply Kd.R_drewN | apply Kd.R_drew)); exact HO_3.out) hb); have n1_ := Aside0.mk (below_step (by repeat (first | (with_reducible first | exact HB.out | apply below_alloc | apply pw_below_drewN | apply below_drew1) | exact HB.out)) hb); have n2_ := Aside0.mk (hbox); have n3_ := Aside0.mk ((by rw [hg]; exact (below_size (by repeat (first | (with_reducible first | exact HB.out | apply below_alloc | apply pw_below_drewN | apply below_drew1) | exact HB.out))) : w.heap.size ≤ gb116)); have n4_ := Aside0.mk ((by rw [hg]; exact (below_size (by repeat (first | (with_reducible first | exact HB.out | apply below_alloc | apply pw_below_drewN | apply below_drew1) | exact HB.out))) : w.heap.size ≤ gb116)); clear HO_3; clear HB; have HO_3 := n0_; have HB := n1_; have BK116 := n2_; have GW116 := n3_; have GE116 := n4_; clear n0_ n1_ n2_ n3_ n4_; clear hb hbox hg; have hcz7_0 : w6.cell? ⟨gb116, 0, none⟩ = some (.bool false) := (blk_cell BK116.out 0).trans rfl; have hcz7_1 : w6.cell? ⟨gb116, 1, none⟩ = some (.string (⟨#[]⟩ : ByteArray)) := (blk_cell BK116.out 1).trans rfl; have hfz7_0 := blk_frozen BK116.out 0; have hfz7_1 := blk_frozen BK116.out 1) | (at_builtin; refine print_append_str (w0 := w) w.heap.size rfl (.tmp 12) _ 23 9 5 rfl Try.underlying23 Try.underlying9 info5 u3 x3_1 ((rd_T38 l0 x8_1).f1) rfl rfl ?aO ?aB ?aS ?aL ?_; (case aB => exact (by repeat (first | (with_reducible first | exact HB.out | apply below_alloc | apply pw_below_drewN | apply below_drew1 | refine below_set ?_ GE116.out) | exact HB.out))); (case aO => exact (Kd.own_of_R (by (with_reducible repeat (first | apply Kd.R_alloc | apply Kd.R_drewN | apply Kd.R_drew)); exact Kd.R_mono (Kd.R_far (p := ⟨gb116, 1, none⟩) (Kd.R_far (p := ⟨gb116, 0, none⟩) (Kd.R_types HO_3.out BK116.out (by decide)) (fun _ hk => hk.2) (.bool ((rd_T38 l0 x8_1).f0))) (fun _ hk => hk.2) (.string ((rd_T38 l0 x8_1).f1))) (fun _ hk => trivial)))); (case aS => exact (below_size (by repeat (first | (with_reducible first | exact HB.out | apply below_alloc | apply pw_below_drewN | apply below_drew1 | refine below_set ?_ GE116.out) | exact HB.out)))); (case aL => have := LMc5.out; omega); intro v118 w8 ho0 hb hg; have ho := Kd.R_of_own (h1 := fun _ => rfl) (ok := fun _ => True) ho0 (fun _ _ => trivial); clear ho0; have hat := True.intro; rw [← Ny117.out] at ho; change Kd.R (Kd.int .u8) 5 w8 w.heap.size (fun _ => True) v118 y117 at ho; have n0_ := Aside0.mk (blk_grown (g := gb116) (o := .cells #[.bool ((rd_T38 l0 x8_1).f0), .string ((rd_T38 l0 x8_1).f1)] 38 (0, 0)) (by (with_reducible repeat (first | refine blk_drewN ?_ _ | refine blk_drew ?_ | refine blk_alloc ?_ _)); refine blk_put (cs := #[.bool ((rd_T38 l0 x8_1).f0), .string (⟨#[]⟩ : ByteArray)]) ?_ 1 _ rfl; (with_reducible repeat (first | refine blk_drewN ?_ _ | refine blk_drew ?_ | refine blk_alloc ?_ _)); refine blk_put (cs := #[.bool false, .string (⟨#[]⟩ : ByteArray)]) ?_ 0 _ rfl; (with_reducible repeat (first | refine blk_drewN ?_ _ | refine blk_drew ?_ | refine blk_alloc ?_ _)); exact BK116.out) hg (Kd.R_ne HO_3.out BK116.out (by decide))); have n1_ := Aside0.mk (hb); have n2_ := Aside0.mk (ho); clear BK116; clear HB; clear HO_3; have BK116 := n0_; have HB := n1_; have HO119 := n2_; clear n0_ n1_ n2_; clear ho hb hg hat))
              go_roundg k1
              case measure => have := HK1.out; omega
              case rel => exact ⟨(y117), (wrap64 (x8_1 + 1)), (by first | rfl | (simp; done) | (simp [*]; done)), H', ⟨by have := HK1.out; omega⟩, ⟨by (with_reducible repeat (first | apply Kd.R_alloc | apply Kd.R_drewN | apply Kd.R_drew)); exact HO119.out⟩, ⟨by repeat (first | (with_reducible first | exact HB.out | apply below_alloc | apply pw_below_drewN | apply below_drew1 | refine below_set ?_ GE116.out) | exact HB.out)⟩⟩
            · rw [if_neg c5] at H
              exact absurd H (by simp)
          · rw [if_neg c4] at H
            exact absurd H (by simp)
        · rw [if_neg c3] at H
          exact absurd H (by simp)
      · rw [if_neg c2] at H
        have c2b0 : decide (x8_1 < (l0.length : Int)) = false := decide_eq_false c2
        clear c2
        obtain rfl := Option.some.inj H
        go_wp2
        go_ret
        exact ⟨_, by first | rfl | (simp [errW_none, errW_some] <;> rfl) | (simp [*, errW_none, errW_some] <;> rfl), by (with_reducible repeat (first | apply Kd.R_alloc | apply Kd.R_drewN | apply Kd.R_drew)); exact HO_3.out, by repeat (first | (with_reducible first | exact HB.out | apply below_alloc | apply pw_below_drewN | apply below_drew1) | exact HB.out)⟩

/-! ### sacristylaw15_head: function 9 -/
theorem head15_p1 : line_Put.f 50 [⟨false, ⟨#[104, 105]⟩⟩, ⟨true, ⟨#[]⟩⟩] = some ([48, 48, 48, 54, 104, 105, 48, 48, 48, 48], 0) := by kernel_rfl
theorem head15_p2 : line_Put.f 50 [⟨false, ⟨#[]⟩⟩] = some ([], 1) := by kernel_rfl
theorem head15_c1 : line_Cut.f 50 [48, 48, 48, 54, 104, 105, 48, 48, 48, 48, 48, 48, 48, 57, 120] = some ([⟨false, ⟨#[104, 105]⟩⟩, ⟨true, ⟨#[]⟩⟩], [48, 48, 48, 57, 120], 0) := by kernel_rfl
theorem head15_c2 : line_Cut.f 50 [48, 48, 48, 51] = some ([], [], 3) := by kernel_rfl
theorem head15_r : line_Parts.f (List.replicate 4001 0) = some [⟨false, strOfNums (List.replicate 4000 0)⟩, ⟨false, strOfNums [0]⟩, ⟨true, ⟨#[]⟩⟩] := by kernel_rfl
theorem head15_j : line_Join.f 10 [⟨false, strOfNums (List.replicate 4000 0)⟩, ⟨false, strOfNums [0]⟩, ⟨true, ⟨#[]⟩⟩] = some (List.replicate 4001 0) := by kernel_rfl
theorem C_lines {w : World} (xs : List S38) (hm : xs.length ≤ 9223372036854775807) : Kd.C k38 (w.alloc (.cells (lcells xs).toArray 38)) (some ⟨w.heap.size, 0, none⟩) xs.length xs := by
  have h1 := World.ownsRow_lit (base := 0) (e := 38) (size := 2) w (lcells xs).toArray xs.length (Nat.zero_le _) (by simpa [maxLen] using hm) (by simpa using (lcells_reps (w := w) (base := 0) (ok := fun _ => True) xs).1)
  have h2 : Kd.R k38 38 (w.alloc (.cells (lcells xs).toArray 38)) 0 (fun _ => True) (.slice (some ⟨w.heap.size, 0, none⟩) xs.length xs.length) xs := ⟨fun _ _ => trivial, _, h1, lcells_reps xs⟩
  exact (Kd.R_reads' h2).2.2
theorem C_bytes {w : World} (xs : List Int) (fr : Nat × Nat) (hm : xs.length ≤ 9223372036854775807) : Kd.C (Kd.int .u8) (w.alloc (.cells (xs.map (Value.int .u8)).toArray 5 fr)) (some ⟨w.heap.size, 0, none⟩) xs.length xs := by
  refine C_nums rfl hm (fun j hj => ?_)
  have hb : (w.alloc (.cells (xs.map (Value.int .u8)).toArray 5 fr)).heap[w.heap.size]? = some (.cells (xs.map (Value.int .u8)).toArray 5 fr) := by show (w.heap.push _)[w.heap.size]? = _; exact Array.getElem?_push_size
  rw [cell_of_row _ _ j _ _ _ hb]
  simp [List.getElem?_eq_getElem hj, List.getD_eq_getElem?_getD]

theorem C_zeros {w : World} (n : Nat) (hm : n ≤ 9223372036854775807) : Kd.C (Kd.int .u8) (w.alloc (.cells (madeCells #[.int .u8 0] n) 5)) (some ⟨w.heap.size, 0, none⟩) (List.replicate n (0 : Int)).length (List.replicate n 0) := by
  have h := own_made' w 0 5 .u8 n (Nat.zero_le _) hm
  rw [List.length_replicate] at *
  exact Kd.C_of_reads (enc := Value.int .u8) (d := (0 : Int)) (h1 := fun _ => rfl) (own_reads' h)
theorem below_down {w W : World} {o : Obj} (h : Below (w.alloc o).heap.size (w.alloc o) W) : Below w.heap.size w W := below_step (below_alloc (Below.refl _ _) o) h
def sacristylaw15_head.f : Option Bool := some true
set_option maxRecDepth 100000 in
set_option maxHeartbeats 4000000 in
theorem sacristylaw15_head.calls (r : Bool) (w : World) (h : sacristylaw15_head.f = some r) :
    Calls Try.prog 9 #[] w fun e w' => e = .returned (.bool r) ∧ Below w.heap.size w w' := by
  obtain rfl := Option.some.inj h
  have kc := fun (w : World) (C : Array Value) (n c : Nat) => Lib.run_convert_bytes_const (P := Try.prog) w 23 5 C n c Try.underlying23 Try.underlying5
  have P1 := fun w : World => line_Put.calls 50 (some ⟨w.heap.size, 0, none⟩) 2 [⟨false, ⟨#[104, 105]⟩⟩, ⟨true, ⟨#[]⟩⟩] _ _ _ (C_lines (w := w) _ (by decide)) (by decide) head15_p1
  have P2 := fun w : World => line_Put.calls 50 (some ⟨w.heap.size, 0, none⟩) 1 [⟨false, ⟨#[]⟩⟩] _ _ _ (C_lines (w := w) _ (by decide)) (by decide) head15_p2
  have C1 := fun (w : World) => line_Cut.calls 50 (some ⟨w.heap.size, 0, none⟩) 15 [48, 48, 48, 54, 104, 105, 48, 48, 48, 48, 48, 48, 48, 57, 120] _ _ _ _ (C_bytes (w := w) _ (15, 16) (by decide)) (by decide) head15_c1
  have C2 := fun (w : World) => line_Cut.calls 50 (some ⟨w.heap.size, 0, none⟩) 4 [48, 48, 48, 51] _ _ _ _ (C_bytes (w := w) _ (4, 5) (by decide)) (by decide) head15_c2
  have R1 := fun (w : World) => line_Parts.calls (some ⟨w.heap.size, 0, none⟩) 4001 (List.replicate 4001 0) _ _ (C_zeros (w := w) 4001 (by decide)) (by rw [List.length_replicate]; decide) head15_r
  have hmk : ∀ W : World, (Instr.makeSlice 23 (.int .i64 4001) (.int .i64 4001)).run Try.prog W = .ok (.slice (some ⟨W.heap.size, 0, none⟩) 4001 4001) (W.alloc (.cells (madeCells #[.int .u8 0] 4001) 5)) := print_make_int (P := Try.prog) 23 5 (.int .u8 0) 1 Try.underlying23 info5 rfl (by decide) 4001 (by decide) (by decide)
  have HP1 := Aside0.mk P1
  have HP2 := Aside0.mk P2
  have HC1 := Aside0.mk C1
  have HC2 := Aside0.mk C2
  have HR1 := Aside0.mk R1
  clear P1 P2 C1 C2 R1
  go_enter Try.func9, Try.ntmps9
  go_upto_region 5 with (first | (go_at_call 11; refine (HP1.out _).mono ?_; rintro e W1 ⟨v1, rfl, ho, hb⟩; have HV1 := Aside0.mk ho; have HB1 := Aside0.mk hb; clear ho hb HP1) | (go_at_call 13; refine (HC1.out _).mono ?_; rintro e W2 ⟨v2, v3, rfl, ho, ho', hb⟩; have HV2 := Aside0.mk ho; have HV3 := Aside0.mk ho'; have HB2 := Aside0.mk hb; clear ho ho' hb HC1) | (go_at_call 13; refine (HC2.out _).mono ?_; rintro e W3 ⟨v4, v5, rfl, ho, ho', hb⟩; have HB3 := Aside0.mk hb; clear ho ho' hb HC2) | (go_at_call 11; refine (HP2.out _).mono ?_; rintro e W4 ⟨v6, rfl, ho, hb⟩; have HB4 := Aside0.mk hb; clear ho hb HP2))
  go_upto_region 6 with (go_at_call 16; refine (HR1.out _).mono ?_; rintro e W5 ⟨v7, rfl, ho, hb⟩; have HV7 := Aside0.mk ho; have HB5 := Aside0.mk hb; clear ho hb HR1)
  have B45 : Below W4.heap.size W4 W5 := below_down HB5.out
  have B35 : Below W3.heap.size W3 W5 := below_step (below_down HB4.out) B45
  have B25 : Below W2.heap.size W2 W5 := below_step (below_down HB3.out) B35
  have B15 : Below W1.heap.size W1 W5 := below_step (below_down HB2.out) B25
  have B05 := Aside0.mk (show Below w.heap.size w W5 from below_step (below_down HB1.out) B15)
  have hv1 := Kd.R_below HV1.out B15
  have hv2 := Kd.R_below HV2.out B25
  have hv3 := Kd.R_below HV3.out B25
  have HV7' := Aside0.mk HV7.out
  obtain ⟨A1, c1, rfl⟩ := Kd.R_slice hv1
  obtain ⟨A2, c2, rfl⟩ := Kd.R_slice hv2
  obtain ⟨A3, c3, rfl⟩ := Kd.R_slice hv3
  obtain ⟨A7, c7, rfl⟩ := Kd.R_slice HV7.out
  have hs1 := Kd.C_string (P := Try.prog) (src := 23) (dst := 9) (c := c1) Try.underlying23 Try.underlying5 Try.underlying9 (Kd.R_reads' hv1).2.2
  have hs3 := Kd.C_string (P := Try.prog) (src := 23) (dst := 9) (c := c3) Try.underlying23 Try.underlying5 Try.underlying9 (Kd.R_reads' hv3).2.2
  rw [show strOfNums [48, 48, 48, 54, 104, 105, 48, 48, 48, 48] = ⟨#[48, 48, 48, 54, 104, 105, 48, 48, 48, 48]⟩ from by kernel_rfl] at hs1
  rw [show strOfNums [48, 48, 48, 57, 120] = ⟨#[48, 48, 48, 57, 120]⟩ from by kernel_rfl] at hs3
  obtain ⟨g2, rfl⟩ : ∃ g, A2 = some ⟨g, 0, none⟩ := by
    obtain ⟨inner, _, how⟩ := Kd.R_own hv2
    rcases how with ⟨e, _⟩ | ⟨g, _, _, e, _⟩
    · simp at e
    · injection e with e1; exact ⟨g, e1⟩
  obtain ⟨ad, he0, hx0, hx1⟩ := at_T38 (Kd.R_reads' hv2).2.2 0 (by decide) (by decide)
  obtain ⟨ad', he, hy0, hy1⟩ := at_T38 (Kd.R_reads' hv2).2.2 1 (by decide) (by decide)
  cases he0
  cases he
  have HJ := Aside0.mk (line_Join.calls 10 A7 c7 _ _ W5 (Kd.R_reads' HV7.out).2.2 (Kd.R_reads' HV7.out).2.1 head15_j)
  simp only [Int.toNat_zero, Nat.zero_mul, Int.toNat_one, Nat.one_mul, rd_T38, List.getD_cons_zero, List.getD_cons_succ, List.length_cons, List.length_nil, Nat.zero_add, Nat.reduceAdd, add_plain] at hx0 hx1 hy0 hy1 hs1 hs3 ⊢
  clear hv1 hv2 hv3 B45 B35 B25 B15 hmk
  go_wp2_with (go_at_call 18; refine HJ.out.mono ?_; rintro e W6 ⟨v8, rfl, ho, hb⟩; have HB6 := Aside0.mk hb; obtain ⟨A8, c8, rfl⟩ := Kd.R_slice ho; clear hb ho; (try simp only [List.length_replicate]))
  go_ret
  exact ⟨rfl, below_step B05.out HB6.out⟩

end Go.Proofs.Ytigcmhidbekgbaa.Print
