/- What talks begin with, the reference's part: lines of texts, names, what is asked. -/
import Derived.Test.YtmmionafcmnfoaaDoorHelloQ
import Derived.Test.YtmmionafcmnfoaaDoorPTellA
namespace Go.Proofs.YtmmionafcmnfoaaDoor.Hello
open Go.RowKit Go.Proofs.YtmmionafcmnfoaaDoorW.PrintWords Go.Proofs.YtmmionafcmnfoaaDoorW.PrintLast Go.Proofs.YtmmionafcmnfoaaDoorW.PrintMore Go.Proofs.YtmmionafcmnfoaaDoor.Conv Go.Proofs.YtmmionafcmnfoaaDoor.Print
theorem ends_loop (l : List ByteArray) (hs : ∀ s ∈ l, s.size + 1 <= 9223372036854775807) (hl : l.length <= 1000000000000) : ∀ (d i : Nat) (out : List Ln) (k : Nat), i + d = l.length -> out.length <= i -> d + 1 <= k ->
  q6_ends.l0 k l out (i : Int) = some (out ++ endsF (l.drop i)) := by
 intro d
 induction d with
 | zero =>
  intro i out k hi ho hk
  obtain ⟨k, rfl⟩ : ∃ j, k = j + 1 := ⟨k - 1, by omega⟩
  obtain rfl : i = l.length := by omega
  simp only [q6_ends.l0]
  rw [if_neg (by omega), if_pos (by omega), List.drop_length]
  rfl
 | succ d ih =>
  intro i out k hi ho hk
  obtain ⟨k, rfl⟩ : ∃ j, k = j + 1 := ⟨k - 1, by omega⟩
  have hlt : i < l.length := by omega
  have h1 := hs l[i] (List.getElem_mem hlt)
  simp only [q6_ends.l0]
  rw [if_pos (by omega), if_pos (by omega), rd_get l i hlt, if_pos h1, if_pos (by omega), w64 (by omega) (by omega)]
  have := ih (i + 1) (out ++ [lineOf l[i]]) k (by omega) (by rw [List.length_append]; simp; omega) (by omega)
  rw [show ((i : Int) + 1) = ((i + 1 : Nat) : Int) by omega]
  refine this.trans ?_
  have e : endsF (l.drop i) = [lineOf l[i]] ++ endsF (l.drop (i + 1)) := by rw [List.drop_eq_getElem_cons hlt]; rfl
  rw [e, List.append_assoc]
theorem ends_eq (l : List ByteArray) (hs : ∀ s ∈ l, s.size + 1 <= 9223372036854775807) (hl : l.length <= 1000000000000) {k : Nat} (hk : l.length + 1 <= k) : q6_ends.f k l = some (endsF l) := by
 have := ends_loop l hs hl l.length 0 [] k (by omega) (by simp) hk
 simpa [q6_ends.f] using this
theorem rnames_loop (l : List ByteArray) (most : Int) (hl : l.length <= 1000000000000) : ∀ (d i k : Nat), i + d = l.length -> d + 66 <= k -> q6_named.l0 k l most (i : Int) = some (decide ((l.length : Int) <= most) && (l.drop i).all idF) := by
 intro d
 induction d with
 | zero =>
  intro i k hi hk
  obtain ⟨k, rfl⟩ : ∃ j, k = j + 1 := ⟨k - 1, by omega⟩
  obtain rfl : i = l.length := by omega
  simp only [q6_named.l0]
  rw [if_neg (by omega), List.drop_length]
  simp
 | succ d ih =>
  intro i k hi hk
  obtain ⟨k, rfl⟩ : ∃ j, k = j + 1 := ⟨k - 1, by omega⟩
  have hlt : i < l.length := by omega
  simp only [q6_named.l0]
  rw [if_pos (by omega), if_pos (by omega), rd_get l i hlt, rnamed_eq _ (by omega), w64 (by omega) (by omega), show ((i : Int) + 1) = ((i + 1 : Nat) : Int) by omega, ih (i + 1) k (by omega) (by omega), List.drop_eq_getElem_cons hlt]
  simp only [Option.bind_some, List.all_cons]
  by_cases b : idF l[i] = true
  ·rw [if_pos b, b, Bool.true_and]
  ·rw [if_neg b, Bool.eq_false_iff.2 b, Bool.false_and, Bool.and_false]
theorem rnames_eq (l : List ByteArray) (most : Int) (hl : l.length <= 1000000000000) {k : Nat} (hk : l.length + 66 <= k) : q6_named.f k l most = some (namesF l most) := by
 have := rnames_loop l most hl l.length 0 k (by omega) hk
 simpa [q6_named.f, namesF] using this
theorem rask_l1 (a b : List ByteArray) (hs : ∀ s ∈ b, s.size = 64) (hl : b.length <= 1000) (pre : List ByteArray) (hp : pre.length <= 1000) (hps : ∀ s ∈ pre, s.size + 1 <= 9223372036854775807) : ∀ (d i k : Nat), i + d = b.length -> d + 5000 <= k ->
  q6_Ask.l1 k (pre ++ (b.take i).map (fun x => haveL ++ x)) (i : Int) a b = some (endsF (pre ++ b.map (fun x => haveL ++ x) ++ [doneL]), true) := by
 intro d
 induction d with
 | zero =>
  intro i k hi hk
  obtain ⟨k, rfl⟩ : ∃ j, k = j + 1 := ⟨k - 1, by omega⟩
  obtain rfl : i = b.length := by omega
  simp only [q6_Ask.l1]
  have hlen : (pre ++ (b.take b.length).map (fun x => haveL ++ x)).length <= 3000 := by rw [List.length_append, List.length_map, List.length_take]; omega
  rw [if_neg (by omega), if_pos (by omega), List.take_length]
  rw [List.take_length] at hlen
  rw [ends_eq _ (fun s h => ?_) (by rw [List.length_append]; simp only [List.length_cons, List.length_nil]; omega) (by rw [List.length_append]; simp only [List.length_cons, List.length_nil]; omega)]
  ·rfl
  ·simp only [List.mem_append, List.mem_map, List.mem_singleton] at h
   have h5 : haveL.size = 5 := rfl
   rcases h with (h | ⟨x, hx, rfl⟩) | rfl
   ·exact hps s h
   ·rw [ByteArray.size_append, hs x hx]; omega
   ·show 4 + 1 <= _; omega
 | succ d ih =>
  intro i k hi hk
  obtain ⟨k, rfl⟩ : ∃ j, k = j + 1 := ⟨k - 1, by omega⟩
  have hlt : i < b.length := by omega
  have h64 := hs b[i] (List.getElem_mem hlt)
  have hlen : (pre ++ (b.take i).map (fun x => haveL ++ x)).length <= 3000 := by rw [List.length_append, List.length_map, List.length_take]; omega
  simp only [q6_Ask.l1]
  rw [if_pos (by omega), if_pos (by omega), rd_get b i hlt, if_pos (by omega), if_pos (by omega), w64 (by omega) (by omega), show ((i : Int) + 1) = ((i + 1 : Nat) : Int) by omega]
  have e : (pre ++ (b.take i).map (fun x => haveL ++ x)) ++ [(⟨#[104, 97, 118, 101, 32]⟩ : ByteArray) ++ b[i]] = pre ++ (b.take (i + 1)).map (fun x => haveL ++ x) := by
   rw [List.take_add_one, List.getElem?_eq_getElem hlt, List.map_append, List.append_assoc]; rfl
  rw [e]
  exact ih (i + 1) k (by omega) (by omega)
theorem rask_l0 (a b : List ByteArray) (hs : ∀ s ∈ a, s.size = 64) (hs2 : ∀ s ∈ b, s.size = 64) (hl : a.length <= 1000) (hl2 : b.length <= 1000) : ∀ (d i k : Nat), i + d = a.length -> d + 7000 <= k ->
  q6_Ask.l0 k ((a.take i).map (fun x => wantL ++ x)) (i : Int) a b = some (endsF (asks a b), true) := by
 intro d
 induction d with
 | zero =>
  intro i k hi hk
  obtain ⟨k, rfl⟩ : ∃ j, k = j + 1 := ⟨k - 1, by omega⟩
  obtain rfl : i = a.length := by omega
  simp only [q6_Ask.l0]
  rw [if_neg (by omega), List.take_length]
  have := rask_l1 a b hs2 hl2 (a.map (fun x => wantL ++ x)) (by rw [List.length_map]; exact hl) (fun s h => by
   obtain ⟨x, hx, rfl⟩ := List.mem_map.1 h
   have w5 : wantL.size = 5 := rfl
   rw [ByteArray.size_append, hs x hx]; omega) b.length 0 k (by omega) (by omega)
  rw [List.take_zero, List.map_nil, List.append_nil] at this
  exact this
 | succ d ih =>
  intro i k hi hk
  obtain ⟨k, rfl⟩ : ∃ j, k = j + 1 := ⟨k - 1, by omega⟩
  have hlt : i < a.length := by omega
  have h64 := hs a[i] (List.getElem_mem hlt)
  have hlen : ((a.take i).map (fun x => wantL ++ x)).length <= 3000 := by rw [List.length_map, List.length_take]; omega
  simp only [q6_Ask.l0]
  rw [if_pos (by omega), if_pos (by omega), rd_get a i hlt, if_pos (by omega), if_pos (by omega), w64 (by omega) (by omega), show ((i : Int) + 1) = ((i + 1 : Nat) : Int) by omega]
  have e : ((a.take i).map (fun x => wantL ++ x)) ++ [(⟨#[119, 97, 110, 116, 32]⟩ : ByteArray) ++ a[i]] = (a.take (i + 1)).map (fun x => wantL ++ x) := by
   rw [List.take_add_one, List.getElem?_eq_getElem hlt, List.map_append]; rfl
  rw [e]
  exact ih (i + 1) k (by omega) (by omega)
theorem rask_eq (a b : List ByteArray) {k : Nat} (hk : 10000 <= k) (ha : a.length + 100 <= k) (hb : b.length + 100 <= k) (ha2 : a.length <= 1000000000000) (hb2 : b.length <= 1000000000000) : q6_Ask.f k a b = some (askF a b) := by
 obtain ⟨j, rfl⟩ : ∃ j, k = j + 1 := ⟨k - 1, by omega⟩
 have j0 : ∀ x, q6_Ask.j0 (j + 1) true x b = some ([], false) := fun x => by simp [q6_Ask.j0]
 unfold q6_Ask.f askF
 by_cases c : a.length = 0
 ·rw [if_pos (by omega), if_neg (fun e => e.1 c)]
  exact j0 a
 ·rw [if_neg (by omega), rnames_eq a 64 ha2 (by omega)]
  simp only [Option.bind_some]
  by_cases na : namesF a 64 = true
  ·rw [if_pos na, rnames_eq b 256 hb2 (by omega)]
   simp only [Option.bind_some]
   by_cases nb : namesF b 256 = true
   ·have za := names_size na
    have zb := names_size nb
    rw [nb, if_pos ⟨c, na, rfl⟩]
    simp only [q6_Ask.j0]
    rw [if_neg (by decide)]
    exact rask_l0 a b za.2 zb.2 (by omega) (by omega) a.length 0 j (by omega) (by omega)
   ·rw [Bool.eq_false_iff.2 nb, if_neg (fun e => by simpa using e.2.2)]
    exact j0 a
  ·rw [if_neg na, if_neg (fun e => na e.2.1)]
   exact j0 a
theorem rmay_eq (s : ByteArray) {k : Nat} (hk : 65 <= k) : q6_may.f k s = some (mayF s) := by
 unfold q6_may.f mayF
 by_cases c : s.toList = ([] : List UInt8)
 ·rw [if_pos c, decide_eq_true c]; rfl
 ·rw [if_neg c, decide_eq_false c, rnamed_eq s hk]; rfl
theorem rdash_eq (s : ByteArray) : q6_dash.f s = some (dashF s) := by
 unfold q6_dash.f dashF
 by_cases c : s.toList = ([] : List UInt8)
 ·rw [if_pos c, if_pos c]
 ·rw [if_neg c, if_neg c]
end Go.Proofs.YtmmionafcmnfoaaDoor.Hello
