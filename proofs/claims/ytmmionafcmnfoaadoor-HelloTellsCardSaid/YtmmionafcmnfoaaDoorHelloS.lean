/- What talks begin with, the reference's part: what is told and pushed; lines that are alike; lines' texts. -/
import Derived.Test.YtmmionafcmnfoaaDoorHelloR
import Derived.Test.YtmmionafcmnfoaaDoorPTellB
import Derived.Test.YtmmionafcmnfoaaDoorPTellC
namespace Go.Proofs.YtmmionafcmnfoaaDoor.Hello
open Go.RowKit Go.Proofs.YtmmionafcmnfoaaDoorW.PrintWords Go.Proofs.YtmmionafcmnfoaaDoorW.PrintLast Go.Proofs.YtmmionafcmnfoaaDoorW.PrintMore Go.Proofs.YtmmionafcmnfoaaDoor.Conv Go.Proofs.YtmmionafcmnfoaaDoor.Print
theorem rtold_loop (l : List Rf) (hs : ∀ y ∈ l, y.f0.size <= 1000 /\ y.f1.size <= 1000) (hl : l.length <= 1000) : ∀ (d i k : Nat) (out : List ByteArray), i + d = l.length -> out.length <= i + 1 -> (∀ s ∈ out, s.size <= 3000) -> d + 3000 <= k ->
  q6_Told.l0 k l out (i : Int) = some (endsF (out ++ (l.drop i).map refT), true) := by
 intro d
 induction d with
 | zero =>
  intro i k out hi ho hz hk
  obtain ⟨k, rfl⟩ : ∃ j, k = j + 1 := ⟨k - 1, by omega⟩
  simp only [q6_Told.l0]
  rw [if_neg (by omega), List.drop_eq_nil_of_le (by omega), ends_eq out (fun s h => by have := hz s h; omega) (by omega) (by omega)]
  simp
 | succ d ih =>
  intro i k out hi ho hz hk
  obtain ⟨k, rfl⟩ : ∃ j, k = j + 1 := ⟨k - 1, by omega⟩
  have hlt : i < l.length := by omega
  have h1 := hs l[i] (List.getElem_mem hlt)
  have s1 : (l[i].f1 ++ (⟨#[32]⟩ : ByteArray)).size = l[i].f1.size + 1 := by rw [ByteArray.size_append]; rfl
  simp only [q6_Told.l0]
  rw [if_pos (by omega), if_pos (by omega), getR l i hlt, if_pos (by omega), if_pos (by omega), if_pos (by omega), w64 (by omega) (by omega), show ((i : Int) + 1) = ((i + 1 : Nat) : Int) by omega]
  rw [ih (i + 1) k _ (by omega) (by rw [List.length_append]; simp; omega) (fun s h => by
   rcases List.mem_append.1 h with h | h
   ·exact hz s h
   ·rw [List.mem_singleton.1 h, ByteArray.size_append]; omega) (by omega), List.drop_eq_getElem_cons hlt, List.map_cons, List.append_assoc]
  rfl
theorem rtold_eq (h : ByteArray) (l : List Rf) (hl : l.length <= 20000) {k : Nat} (hk : 500000000 <= k) : q6_Told.f k h l = some (toldF h l) := by
 obtain ⟨k, rfl⟩ : ∃ j, k = j + 1 := ⟨k - 1, by omega⟩
 have ht : q6_Told.j0 (k + 1) h l true = some ([], false) := by
  simp only [q6_Told.j0]
  rw [if_pos True.intro]
 unfold q6_Told.f toldF
 rw [refn_eq h (by omega), rright_big l hl (by omega)]
 simp only [Option.bind_some]
 by_cases a : namedF h = true
 ·rw [if_pos a]
  by_cases b : rightF l = true
  ·have hr := rightGo_out l l none b
   have hn := named_size a
   rw [if_pos ⟨a, b⟩, b]
   have h1 := rtold_loop l (fun y hy => by have h := hr.2 y hy; have := named_size h.1; have := id_size h.2; omega) (by omega) l.length 0 k [titleT ++ h] (by omega) (by simp) (fun s hs => by
    rw [List.mem_singleton.1 hs, ByteArray.size_append]
    show 14 + h.size <= 3000
    omega) (by omega)
   simp only [q6_Told.j0]
   rw [if_neg (by simp), if_pos (by omega)]
   exact h1
  ·rw [if_neg (fun e : _ /\ _ => b e.2), Bool.eq_false_iff.2 b]
   exact ht
 ·rw [if_neg a, if_neg (fun e : _ /\ _ => a e.1), ht]
theorem rpush_loop (u : List Up) (hl : u.length <= 16) : ∀ (d i k : Nat) (out : List ByteArray), i + d = u.length -> out.length <= i -> (∀ s ∈ out, s.size <= 3000) -> 2 * d + 3000 <= k ->
  q6_Push.l0 k u out (i : Int) = some (cond ((u.drop i).all okU) (endsF (out ++ (u.drop i).map upT), true) ([], false)) := by
 intro d
 induction d with
 | zero =>
  intro i k out hi ho hz hk
  obtain ⟨k, rfl⟩ : ∃ j, k = j + 1 := ⟨k - 1, by omega⟩
  simp only [q6_Push.l0]
  rw [if_neg (by omega), List.drop_eq_nil_of_le (by omega), ends_eq out (fun s h => by have := hz s h; omega) (by omega) (by omega)]
  simp
 | succ d ih =>
  intro i k out hi ho hz hk
  obtain ⟨k, rfl⟩ : ∃ j, k = j + 2 := ⟨k - 2, by omega⟩
  have hlt : i < u.length := by omega
  have hd : u.drop i = u[i] :: u.drop (i + 1) := List.drop_eq_getElem_cons hlt
  rw [hd]
  have ht : q6_Push.j2 (k + 1) u out (i : Int) true = some ([], false) := by
   simp only [q6_Push.j2]
   rw [if_pos True.intro]
  simp only [q6_Push.l0]
  rw [if_pos (by omega), if_pos (by omega), getU u i hlt, refn_eq _ (by omega), rmay_eq _ (by omega), rmay_eq _ (by omega), ht]
  generalize hy : u[i] = y
  simp only [Option.bind_some, List.all_cons, okU]
  by_cases a : namedF y.f0 = true
  ·rw [if_pos a, a]
   by_cases b : mayF y.f1 = true
   ·rw [if_pos b, b]
    by_cases c : mayF y.f2 = true
    ·rw [if_pos c, c]
     have hf : q6_Push.j2 (k + 1) u out (i : Int) false = some (cond ((u.drop (i + 1)).all okU) (endsF (out ++ upT y :: (u.drop (i + 1)).map upT), true) ([], false)) := by
      have e1 := dashF_size b
      have e2 := dashF_size c
      have e3 := named_size a
      have s1 : ∀ s : ByteArray, (s ++ (⟨#[32]⟩ : ByteArray)).size = s.size + 1 := fun s => by rw [ByteArray.size_append]; rfl
      simp only [q6_Push.j2]
      rw [if_neg (by simp), if_pos (by omega), if_pos (by omega), getU u i hlt, hy, rdash_eq, rdash_eq]
      simp only [Option.bind_some]
      rw [if_pos (by omega), if_pos (by rw [s1]; omega), if_pos (by rw [ByteArray.size_append, s1]; omega), if_pos (by rw [s1, ByteArray.size_append, s1]; omega), if_pos (by omega), w64 (by omega) (by omega), show ((i : Int) + 1) = ((i + 1 : Nat) : Int) by omega]
      rw [ih (i + 1) k _ (by omega) (by rw [List.length_append]; simp; omega) (fun s h => by
       rcases List.mem_append.1 h with h | h
       ·exact hz s h
       ·rw [List.mem_singleton.1 h, ByteArray.size_append, s1, ByteArray.size_append, s1]; omega) (by omega), List.append_assoc]
      rfl
     have he : ((y.f1 ++ y.f2).toList == ([] : List UInt8)) = (decide (y.f1.toList = ([] : List UInt8)) && (y.f2.toList == ([] : List UInt8))) := by
      rw [Lib.toList_data, Lib.toList_data, Lib.toList_data, ByteArray.data_append]
      cases h1 : y.f1.data.toList <;> cases h2 : y.f2.data.toList <;> simp [h1, h2]
     rw [he, List.map_cons]
     by_cases e : y.f1.toList = ([] : List UInt8)
     ·rw [if_pos e, decide_eq_true e]
      by_cases f : (y.f2.toList == ([] : List UInt8)) = true
      ·rw [f, ht]; rfl
      ·rw [Bool.eq_false_iff.2 f, hf]; rfl
     ·rw [if_neg e, decide_eq_false e, hf]; rfl
    ·rw [if_neg c, Bool.eq_false_iff.2 c]; simp
   ·rw [if_neg b, Bool.eq_false_iff.2 b]; simp
  ·rw [if_neg a, Bool.eq_false_iff.2 a]; simp
theorem rpush_eq (u : List Up) (hl : u.length <= 1000000000) {k : Nat} (hk : 10000 <= k) : q6_Push.f k u = some (pushF u) := by
 obtain ⟨k, rfl⟩ : ∃ j, k = j + 1 := ⟨k - 1, by omega⟩
 have ht : q6_Push.j0 (k + 1) u [] true = some ([], false) := by
  simp only [q6_Push.j0]
  rw [if_pos True.intro]
 unfold q6_Push.f pushF
 by_cases a : (u.length : Int) < 1
 ·rw [if_pos a, ht, if_neg (fun e : _ /\ _ /\ _ => by omega)]
 ·rw [if_neg a]
  by_cases b : (u.length : Int) > 16
  ·rw [decide_eq_true b, ht, if_neg (fun e : _ /\ _ /\ _ => by omega)]
  ·rw [decide_eq_false b]
   have h1 := rpush_loop u (by omega) u.length 0 k [] (by omega) (by simp) (fun s h => by simp at h) (by omega)
   simp only [q6_Push.j0]
   rw [if_neg (by simp), show (0 : Int) = ((0 : Nat) : Int) from rfl, h1, List.drop_zero]
   by_cases c : u.all okU = true
   ·rw [c, if_pos ⟨rfl, by omega, by omega⟩]; rfl
   ·rw [if_neg (fun e : _ /\ _ /\ _ => c e.1), Bool.eq_false_iff.2 c]; rfl
theorem rsame_loop (a b : List Ln) (hl : a.length = b.length) (hm : a.length <= 1000000000000) : ∀ (d i k : Nat), i + d = a.length -> d + 1 <= k -> ∃ r, q5_Same.l0 k a b (i : Int) = some r /\ (r = true <-> a.drop i = b.drop i) := by
 intro d
 induction d with
 | zero =>
  intro i k hi hk
  obtain ⟨k, rfl⟩ : ∃ j, k = j + 1 := ⟨k - 1, by omega⟩
  simp only [q5_Same.l0]
  rw [if_neg (by omega), List.drop_eq_nil_of_le (by omega), List.drop_eq_nil_of_le (by omega)]
  exact ⟨true, rfl, by simp⟩
 | succ d ih =>
  intro i k hi hk
  obtain ⟨k, rfl⟩ : ∃ j, k = j + 1 := ⟨k - 1, by omega⟩
  have hlt : i < a.length := by omega
  have hlt2 : i < b.length := by omega
  simp only [q5_Same.l0]
  rw [if_pos (by omega), if_pos (by omega), if_pos (by omega), getL a i hlt, getL b i hlt2, w64 (by omega) (by omega), show ((i : Int) + 1) = ((i + 1 : Nat) : Int) by omega]
  obtain ⟨r, hr, hi2⟩ := ih (i + 1) k (by omega) (by omega)
  rw [List.drop_eq_getElem_cons hlt, List.drop_eq_getElem_cons hlt2, hr]
  by_cases c : (!(a[i].f0 == b[i].f0) || !(a[i].f1.toList == b[i].f1.toList)) = true
  ·rw [if_pos c]
   refine ⟨false, rfl, ?_⟩
   constructor
   ·intro e; cases e
   ·intro e
    rw [List.cons.injEq] at e
    rw [e.1] at c
    simp at c
  ·rw [if_neg c]
   refine ⟨r, rfl, hi2.trans ?_⟩
   have e : a[i] = b[i] := by
    simp at c
    exact line_ext c.1 c.2
   rw [e]
   exact ⟨fun h => by rw [h], fun h => (List.cons.inj h).2⟩
theorem rsame_eq (a b : List Ln) (hm : a.length <= 1000000000) {k : Nat} (hk : a.length + 1 <= k) : ∃ r, q5_Same.f k a b = some r /\ (r = true <-> a = b) := by
 unfold q5_Same.f
 by_cases h : (a.length : Int) = (b.length : Int)
 ·rw [if_pos h]
  obtain ⟨r, hr, hi⟩ := rsame_loop a b (by omega) (by omega) a.length 0 k (by omega) hk
  exact ⟨r, hr, by simpa using hi⟩
 ·rw [if_neg h]
  refine ⟨false, rfl, ?_⟩
  constructor
  ·intro e; cases e
  ·intro e
   rw [e] at h
   exact absurd rfl h
end Go.Proofs.YtmmionafcmnfoaaDoor.Hello
