/- Root's plain law: what 'the same' means. -/
import Derived.Test.YtlfenakgphmepaaDoorRootGreat
namespace Go.Proofs.YtlfenakgphmepaaDoor.Root
open Go.RowKit Go.Proofs.YtlfenakgphmepaaDoorW.PrintWords Go.Proofs.YtlfenakgphmepaaDoor.Print Go.Proofs.YtlfenakgphmepaaDoor.Build
set_option linter.unusedVariables false
set_option linter.unusedSimpArgs false
theorem sameT_loop (a b : List ByteArray) (hl : a.length = b.length) (hm : a.length <= 900000000000) : ∀ (d i k : Nat), i + d = a.length -> d + 1 <= k -> ∃ r, q4_SameTexts.l0 k a b (i : Int) = some r /\ (r = true <-> a.drop i = b.drop i)
 | 0, i, k, hi, hk => by
  obtain ⟨k, rfl⟩ : ∃ m, k = m + 1 := ⟨k - 1, by omega⟩
  rw [q4_SameTexts.l0, if_neg (by omega)]
  exact ⟨true, rfl, ⟨fun _ => by rw [List.drop_eq_nil_of_le (by omega), List.drop_eq_nil_of_le (by omega)], fun _ => rfl⟩⟩
 | d + 1, i, k, hi, hk => by
  obtain ⟨k, rfl⟩ : ∃ m, k = m + 1 := ⟨k - 1, by omega⟩
  have h1 : i < a.length := by omega
  have h2 : i < b.length := by omega
  have e1 : wrap64 ((i : Int) + 1) = ((i + 1 : Nat) : Int) := by unfold wrap64; omega
  obtain ⟨r, hr, hq⟩ := sameT_loop a b hl hm d (i + 1) k (by omega) (by omega)
  rw [q4_SameTexts.l0, if_pos (by omega), if_pos (by omega), if_pos (by omega), rd_bs a i h1, rd_bs b i h2, e1]
  rw [List.drop_eq_getElem_cons h1, List.drop_eq_getElem_cons h2]
  by_cases c : (a[i]).toList = (b[i]).toList
  ·rw [if_pos c]
   exact ⟨r, hr, hq.trans ⟨fun e => by rw [Hello.toList_inj c, e], fun e => (List.cons.inj e).2⟩⟩
  ·rw [if_neg c]
   exact ⟨false, rfl, ⟨fun e => Bool.noConfusion e, fun e => absurd (by rw [(List.cons.inj e).1]) c⟩⟩
theorem sameT_eq (a b : List ByteArray) (hm : a.length <= 900000000000) {k : Nat} (hk : a.length + 1 <= k) : ∃ r, q4_SameTexts.f k a b = some r /\ (r = true <-> a = b) := by
 unfold q4_SameTexts.f
 by_cases c : a.length = b.length
 ·rw [if_pos (by omega)]
  exact sameT_loop a b c hm a.length 0 k (by omega) (by omega)
 ·rw [if_neg (by omega)]
  exact ⟨false, rfl, ⟨fun e => Bool.noConfusion e, fun e => absurd (by rw [e]) c⟩⟩
theorem rf_ext {a b : Rf} (h0 : a.f0.toList = b.f0.toList) (h1 : a.f1.toList = b.f1.toList) : a = b := by
 cases a
 cases b
 have e0 := Hello.toList_inj h0
 have e1 := Hello.toList_inj h1
 simp only at e0 e1
 rw [e0, e1]
theorem sameR_loop (a b : List Rf) (hl : a.length = b.length) (hm : a.length <= 900000000000) : ∀ (d i k : Nat), i + d = a.length -> d + 1 <= k -> ∃ r, q9_Same.l0 k a b (i : Int) = some r /\ (r = true <-> a.drop i = b.drop i)
 | 0, i, k, hi, hk => by
  obtain ⟨k, rfl⟩ : ∃ m, k = m + 1 := ⟨k - 1, by omega⟩
  rw [q9_Same.l0, if_neg (by omega)]
  exact ⟨true, rfl, ⟨fun _ => by rw [List.drop_eq_nil_of_le (by omega), List.drop_eq_nil_of_le (by omega)], fun _ => rfl⟩⟩
 | d + 1, i, k, hi, hk => by
  obtain ⟨k, rfl⟩ : ∃ m, k = m + 1 := ⟨k - 1, by omega⟩
  have h1 : i < a.length := by omega
  have h2 : i < b.length := by omega
  have e1 : wrap64 ((i : Int) + 1) = ((i + 1 : Nat) : Int) := by unfold wrap64; omega
  obtain ⟨r, hr, hq⟩ := sameR_loop a b hl hm d (i + 1) k (by omega) (by omega)
  rw [q9_Same.l0, if_pos (by omega), if_pos (by omega), if_pos (by omega), Hello.getR a i h1, Hello.getR b i h2, e1]
  rw [List.drop_eq_getElem_cons h1, List.drop_eq_getElem_cons h2]
  by_cases c0 : (a[i]).f0.toList = (b[i]).f0.toList
  ·by_cases c1 : (a[i]).f1.toList = (b[i]).f1.toList
   ·rw [beq_iff_eq.2 c0, beq_iff_eq.2 c1, if_neg (by decide)]
    exact ⟨r, hr, hq.trans ⟨fun e => by rw [rf_ext c0 c1, e], fun e => (List.cons.inj e).2⟩⟩
   ·rw [beq_eq_false_iff_ne.2 c1, if_pos (by simp)]
    exact ⟨false, rfl, ⟨fun e => Bool.noConfusion e, fun e => absurd (by rw [(List.cons.inj e).1]) c1⟩⟩
  ·rw [beq_eq_false_iff_ne.2 c0, if_pos (by simp)]
   exact ⟨false, rfl, ⟨fun e => Bool.noConfusion e, fun e => absurd (by rw [(List.cons.inj e).1]) c0⟩⟩
theorem sameR_eq (a b : List Rf) (hm : a.length <= 900000000000) {k : Nat} (hk : a.length + 1 <= k) : ∃ r, q9_Same.f k a b = some r /\ (r = true <-> a = b) := by
 unfold q9_Same.f
 by_cases c : a.length = b.length
 ·rw [if_pos (by omega)]
  exact sameR_loop a b c hm a.length 0 k (by omega) (by omega)
 ·rw [if_neg (by omega)]
  exact ⟨false, rfl, ⟨fun e => Bool.noConfusion e, fun e => absurd (by rw [e]) c⟩⟩
theorem fk_ext {a b : Fk} (h0 : a.f0.toList = b.f0.toList) (h1 : a.f1 = b.f1) (h2 : a.f2.toList = b.f2.toList) (h3 : a.f3 = b.f3) (h4 : a.f4 = b.f4) : a = b := by
 cases a
 cases b
 have e0 := Hello.toList_inj h0
 have e2 := Hello.toList_inj h2
 simp only at e0 e2 h1 h3 h4
 rw [e0, e2, h1, h3, h4]
structure LenR (pool : List ByteArray) (forks : List Fk) : Prop where
 p : pool.length <= 900000
 l : forks.length <= 900000
 f : ∀ g ∈ forks, g.f3.length <= 900000 /\ g.f4.length <= 900000
theorem same_loop (n1 n2 : Int) (p1 p2 : List ByteArray) (a b : List Fk) (h : LenR p1 a) (hl : a.length = b.length) : ∀ (d i k : Nat), i + d = a.length -> 900002 + d <= k -> ∃ r, sacristyref10_Same.l0 k (i : Int) n1 p1 a n2 p2 b = some r /\ (r = true <-> a.drop i = b.drop i)
 | 0, i, k, hi, hk => by
  obtain ⟨k, rfl⟩ : ∃ m, k = m + 1 := ⟨k - 1, by omega⟩
  rw [sacristyref10_Same.l0, if_neg (by omega)]
  exact ⟨true, rfl, ⟨fun _ => by rw [List.drop_eq_nil_of_le (by omega), List.drop_eq_nil_of_le (by omega)], fun _ => rfl⟩⟩
 | d + 1, i, k, hi, hk => by
  obtain ⟨k, rfl⟩ : ∃ m, k = m + 1 := ⟨k - 1, by omega⟩
  have hal := h.l
  have h1 : i < a.length := by omega
  have h2 : i < b.length := by omega
  have e1 : wrap64 ((i : Int) + 1) = ((i + 1 : Nat) : Int) := by unfold wrap64; omega
  obtain ⟨r, hr, hq⟩ := same_loop n1 n2 p1 p2 a b h hl d (i + 1) k (by omega) (by omega)
  have hle := h.f _ (List.getElem_mem h1)
  obtain ⟨r3, hr3, hq3⟩ := sameR_eq (a[i]).f3 (b[i]).f3 (by omega) (k := k) (by omega)
  obtain ⟨r4, hr4, hq4⟩ := sameT_eq (a[i]).f4 (b[i]).f4 (by omega) (k := k) (by omega)
  rw [sacristyref10_Same.l0, if_pos (by omega), if_pos (by omega), if_pos (by omega), rd_fk a i h1, rd_fk b i h2, e1, hr3, hr4]
  rw [List.drop_eq_getElem_cons h1, List.drop_eq_getElem_cons h2]
  simp only [Option.bind_some]
  have no : ∀ {P : Prop}, (a[i] = b[i] -> P) -> ¬ P -> ∃ r : Bool, some false = some r /\ (r = true <-> a[i] :: a.drop (i + 1) = b[i] :: b.drop (i + 1)) := fun hp hn => ⟨false, rfl, ⟨fun e => Bool.noConfusion e, fun e => absurd (hp (List.cons.inj e).1) hn⟩⟩
  by_cases c0 : (a[i]).f0.toList = (b[i]).f0.toList
  ·rw [if_pos c0]
   by_cases c1 : (a[i]).f1 = (b[i]).f1
   ·rw [if_neg (by rw [c1]; simp)]
    by_cases c2 : (a[i]).f2.toList = (b[i]).f2.toList
    ·rw [if_pos c2]
     by_cases c3 : (a[i]).f3 = (b[i]).f3
     ·rw [if_pos (hq3.2 c3)]
      by_cases c4 : (a[i]).f4 = (b[i]).f4
      ·rw [if_pos (hq4.2 c4)]
       exact ⟨r, hr, hq.trans ⟨fun e => by rw [fk_ext c0 c1 c2 c3 c4, e], fun e => (List.cons.inj e).2⟩⟩
      ·rw [if_neg (fun e => c4 (hq4.1 e))]
       exact no (fun e => by rw [e]) c4
     ·rw [if_neg (fun e => c3 (hq3.1 e))]
      exact no (fun e => by rw [e]) c3
    ·rw [if_neg c2]
     exact no (fun e => by rw [e]) c2
   ·rw [if_pos (by simpa using c1)]
    exact no (fun e => by rw [e]) c1
  ·rw [if_neg c0]
   exact no (fun e => by rw [e]) c0
theorem same_eqK (k : Nat) (hk : 1900000 <= k) (n1 n2 : Int) (p1 p2 : List ByteArray) (a b : List Fk) (h : LenR p1 a) : ∃ r, sacristyref10_Same.f (k + 1) n1 p1 a n2 p2 b = some r /\ (r = true <-> (n1, p1, a) = (n2, p2, b)) := by
 obtain ⟨rp, hrp, hqp⟩ := sameT_eq p1 p2 (by have := h.p; omega) (k := k + 1) (by have := h.p; omega)
 have hal := h.l
 have jt : ∀ x y z u v w, sacristyref10_Same.j0 (k + 1) true x y z u v w = some false := fun x y z u v w => by rw [sacristyref10_Same.j0, if_pos rfl]
 unfold sacristyref10_Same.f
 rw [hrp]
 simp only [Option.bind_some]
 by_cases c : n1 = n2
 ·rw [if_pos c]
  by_cases cp : p1 = p2
  ·rw [if_pos (hqp.2 cp)]
   by_cases cl : a.length = b.length
   ·obtain ⟨r, hr, hq⟩ := same_loop n1 n2 p1 p2 a b h cl a.length 0 k (by omega) (by omega)
    have e : ((a.length : Int) != (b.length : Int)) = false := bne_eq_false_iff_eq.2 (by omega)
    rw [e, sacristyref10_Same.j0, if_neg (fun e => Bool.noConfusion e)]
    refine ⟨r, hr, hq.trans ?_⟩
    rw [List.drop_zero, List.drop_zero, c, cp]
    exact ⟨fun e => by rw [e], fun e => (Prod.mk.inj (Prod.mk.inj e).2).2⟩
   ·have e : ((a.length : Int) != (b.length : Int)) = true := bne_iff_ne.2 (by omega)
    rw [e, jt]
    exact ⟨false, rfl, ⟨fun e => Bool.noConfusion e, fun e => absurd (by rw [(Prod.mk.inj (Prod.mk.inj e).2).2]) cl⟩⟩
  ·rw [if_neg (fun e => cp (hqp.1 e)), jt]
   exact ⟨false, rfl, ⟨fun e => Bool.noConfusion e, fun e => absurd (Prod.mk.inj (Prod.mk.inj e).2).1 cp⟩⟩
 ·rw [if_neg c, jt]
  exact ⟨false, rfl, ⟨fun e => Bool.noConfusion e, fun e => absurd (Prod.mk.inj e).1 c⟩⟩
theorem same_eq (n1 n2 : Int) (p1 p2 : List ByteArray) (a b : List Fk) (h : LenR p1 a) : ∃ k r, sacristyref10_Same.f k n1 p1 a n2 p2 b = some r /\ (r = true <-> (n1, p1, a) = (n2, p2, b)) := ⟨1900000 + 1, same_eqK 1900000 (Nat.le_refl _) n1 n2 p1 p2 a b h⟩
theorem SmallR.len {pool : List ByteArray} {forks : List Fk} (h : SmallR pool forks) : LenR pool forks :=
 ⟨by have := h.pl; omega, by have := h.l; omega, fun g hg => ⟨by have := (h.f g hg).r; omega, by have := (h.f g hg).p; omega⟩⟩
theorem right_len {n : Int} {pool : List ByteArray} {forks : List Fk} (h : rootF n pool forks = true) : LenR pool forks := by
 obtain ⟨hf, hn, hp, hm⟩ := rootF_out h
 refine ⟨by have := (packs_out hp).1; omega, by omega, fun g hg => ?_⟩
 obtain ⟨a, b, c, d, e⟩ := forkB_out (hf g hg)
 exact ⟨by have := (rightF_out c).1; omega, by have := (packs_out b).1; omega⟩
end Go.Proofs.YtlfenakgphmepaaDoor.Root
