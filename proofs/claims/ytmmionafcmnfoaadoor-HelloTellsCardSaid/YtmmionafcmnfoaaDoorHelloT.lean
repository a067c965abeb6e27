/- What talks begin with, the reference's part: what is heard of lines. -/
import Derived.Test.YtmmionafcmnfoaaDoorHelloS
import Derived.Test.YtmmionafcmnfoaaDoorPTellE
namespace Go.Proofs.YtmmionafcmnfoaaDoor.Hello
open Go.RowKit Go.Proofs.YtmmionafcmnfoaaDoorW.PrintWords Go.Proofs.YtmmionafcmnfoaaDoorW.PrintLast Go.Proofs.YtmmionafcmnfoaaDoorW.PrintMore Go.Proofs.YtmmionafcmnfoaaDoor.Conv Go.Proofs.YtmmionafcmnfoaaDoor.Print
def endB (s : ByteArray) : Bool := decide (0 < s.size) && (bt s ((s.size : Int) - 1) == 10)
def rtGo : List Ln -> List ByteArray -> List ByteArray × Bool
 | [], out => (out, true)
 | x :: t, out => cond x.f0 ([], false) (cond (endB x.f1) (rtGo t (out ++ [x.f1.extract 0 (x.f1.size - 1)])) ([], false))
def lastF (l : List Ln) : Bool := (rd_T49 l ((l.length : Int) - 1)).f0
def rtextsF (l : List Ln) : List ByteArray × Bool := cond (decide (0 < l.length) && lastF l) (rtGo l.dropLast []) ([], false)
theorem rtexts_loop (l : List Ln) (hs : ∀ x ∈ l, x.f1.size <= 1000000) (hl : l.length <= 1000000) : ∀ (d i k : Nat) (out : List ByteArray), i + d + 1 = l.length -> out.length <= i -> d + 1 <= k ->
  q6_texts.l0 k l out (i : Int) = some (rtGo (l.dropLast.drop i) out) := by
 have hw : wrap64 ((l.length : Int) - 1) = (l.length : Int) - 1 := w64 (by omega) (by omega)
 intro d
 induction d with
 | zero =>
  intro i k out hi ho hk
  obtain ⟨k, rfl⟩ : ∃ j, k = j + 1 := ⟨k - 1, by omega⟩
  simp only [q6_texts.l0]
  rw [hw, if_neg (by omega), List.drop_eq_nil_of_le (by rw [List.length_dropLast]; omega)]
  rfl
 | succ d ih =>
  intro i k out hi ho hk
  obtain ⟨k, rfl⟩ : ∃ j, k = j + 1 := ⟨k - 1, by omega⟩
  have hlt : i < l.length := by omega
  have hlt2 : i < l.dropLast.length := by rw [List.length_dropLast]; omega
  have h1 := hs l[i] (List.getElem_mem hlt)
  simp only [q6_texts.l0]
  rw [hw, if_pos (by omega), if_pos (by omega), if_pos (by omega), getL l i hlt, List.drop_eq_getElem_cons hlt2, List.getElem_dropLast]
  simp only [rtGo]
  generalize l[i] = x at h1
  have hw2 : wrap64 ((x.f1.size : Int) - 1) = (x.f1.size : Int) - 1 := w64 (by omega) (by omega)
  rw [hw2]
  by_cases a : x.f0 = true
  ·rw [if_pos a, a]; rfl
  ·rw [if_neg a, Bool.eq_false_iff.2 a, cond_false]
   by_cases b : (x.f1.size : Int) = 0
   ·rw [if_pos b]
    unfold endB
    rw [decide_eq_false (by omega)]; rfl
   ·rw [if_neg b, if_pos (by omega), if_pos (by omega)]
    unfold endB
    rw [decide_eq_true (by omega), Bool.true_and]
    by_cases c : bt x.f1 ((x.f1.size : Int) - 1) = 10
    ·rw [if_pos c, if_pos (by omega), if_pos (by omega), w64 (by omega) (by omega), show ((i : Int) + 1) = ((i + 1 : Nat) : Int) by omega, ih (i + 1) k _ (by omega) (by rw [List.length_append]; simp; omega) (by omega), c, show ((x.f1.size : Int) - 1).toNat = x.f1.size - 1 by omega]
     rfl
    ·rw [if_neg c, beq_eq_false_iff_ne.2 c]; rfl
theorem rtexts_eq (l : List Ln) (hs : ∀ x ∈ l, x.f1.size <= 1000000) (hl : l.length <= 1000000) {k : Nat} (hk : l.length + 2 <= k) : q6_texts.f k l = some (rtextsF l) := by
 obtain ⟨k, rfl⟩ : ∃ j, k = j + 1 := ⟨k - 1, by omega⟩
 have hw : wrap64 ((l.length : Int) - 1) = (l.length : Int) - 1 := w64 (by omega) (by omega)
 have ht : q6_texts.j0 (k + 1) l [] true = some ([], false) := by
  simp only [q6_texts.j0]
  rw [if_pos True.intro]
 unfold q6_texts.f rtextsF
 by_cases a : (l.length : Int) = 0
 ·rw [if_pos a, ht, decide_eq_false (by omega)]; rfl
 ·rw [if_neg a, hw, if_pos (by omega), if_pos (by omega), decide_eq_true (by omega), Bool.true_and]
  unfold lastF
  by_cases b : (rd_T49 l ((l.length : Int) - 1)).f0 = true
  ·rw [b]
   simp only [q6_texts.j0]
   rw [if_neg (by simp), show (0 : Int) = ((0 : Nat) : Int) from rfl, rtexts_loop l hs hl (l.length - 1) 0 k [] (by omega) (by simp) (by omega), List.drop_zero]
   rfl
  ·rw [Bool.eq_false_iff.2 b]
   exact ht
theorem bt_ten (s : ByteArray) : bt (s ++ (⟨#[10]⟩ : ByteArray)) (s.size : Int) = 10 := by
 rw [bt_get _ s.size (by rw [ByteArray.size_append]; show s.size < s.size + 1; omega)]
 have e : (s ++ (⟨#[10]⟩ : ByteArray)).data.toList = s.data.toList ++ [10] := by rw [ByteArray.data_append]; simp
 have hn : s.data.toList.length = s.size := by simp
 have h2 : (s ++ (⟨#[10]⟩ : ByteArray)).data.toList[s.size]? = some 10 := by
  rw [e, List.getElem?_append_right (by omega), hn, Nat.sub_self]; rfl
 have h3 := (List.getElem?_eq_some_iff.1 h2).2
 rw [h3]; rfl
theorem rtGo_ends : ∀ (ts out : List ByteArray), rtGo (ts.map lineOf) out = (out ++ ts, true)
 | [], out => by simp [rtGo]
 | s :: t, out => by
  have hz : (s ++ (⟨#[10]⟩ : ByteArray)).size = s.size + 1 := by rw [ByteArray.size_append]; rfl
  have e : endB (s ++ (⟨#[10]⟩ : ByteArray)) = true := by
   unfold endB
   rw [hz, decide_eq_true (by omega), Bool.true_and, show (((s.size + 1 : Nat) : Int) - 1) = (s.size : Int) by omega, bt_ten]
   rfl
  simp only [List.map_cons, rtGo]
  rw [show (lineOf s).f0 = false from rfl, show (lineOf s).f1 = s ++ (⟨#[10]⟩ : ByteArray) from rfl, cond_false, e, cond_true, hz, Nat.add_sub_cancel, ByteArray.extract_append_eq_left rfl, rtGo_ends t _, List.append_assoc]
  rfl
theorem rtexts_ends (ts : List ByteArray) : rtextsF (endsF ts) = (ts, true) := by
 have hlen := ends_len ts
 have h1 : lastF (endsF ts) = true := by
  unfold lastF
  rw [hlen, show (((ts.length + 1 : Nat) : Int) - 1) = ((ts.length : Nat) : Int) by omega, getL _ ts.length (by omega)]
  have : (endsF ts)[ts.length]? = some flushL := by
   unfold endsF
   rw [List.getElem?_append_right (by simp)]
   simp
  rw [(List.getElem?_eq_some_iff.1 this).2]
  rfl
 unfold rtextsF
 rw [h1, decide_eq_true (by omega)]
 show rtGo (endsF ts).dropLast [] = _
 unfold endsF
 rw [List.dropLast_concat, rtGo_ends]
 rfl
theorem rtGo_small (B : Nat) : ∀ (l : List Ln) (out : List ByteArray), (∀ x ∈ l, x.f1.size <= B) -> (∀ s ∈ out, s.size <= B) -> (rtGo l out).1.length <= out.length + l.length /\ ∀ s ∈ (rtGo l out).1, s.size <= B
 | [], out, _, h => ⟨by simp [rtGo], h⟩
 | x :: t, out, hl, ho => by
  have hx := hl x (by simp)
  have ih := rtGo_small B t (out ++ [x.f1.extract 0 (x.f1.size - 1)]) (fun y hy => hl y (by simp [hy])) (fun s hs => by
   rcases List.mem_append.1 hs with hs | hs
   ·exact ho s hs
   ·rw [List.mem_singleton.1 hs, ByteArray.size_extract]; omega)
  simp only [rtGo]
  cases x.f0 with
  | true => exact ⟨by simp, by simp⟩
  | false =>
   cases endB x.f1 with
   | false => exact ⟨by simp, by simp⟩
   | true =>
    refine ⟨?_, ih.2⟩
    have := ih.1
    rw [List.length_append] at this
    simp only [cond_false, cond_true, List.length_cons]
    simp at this
    omega
theorem rtexts_small (B : Nat) (l : List Ln) (h : ∀ x ∈ l, x.f1.size <= B) : (rtextsF l).1.length <= l.length /\ ∀ s ∈ (rtextsF l).1, s.size <= B := by
 unfold rtextsF
 cases decide (0 < l.length) && lastF l with
 | false => exact ⟨by simp, by simp⟩
 | true =>
  have := rtGo_small B l.dropLast [] (fun x hx => h x (List.dropLast_subset l hx)) (by simp)
  refine ⟨?_, this.2⟩
  have h1 := this.1
  rw [List.length_dropLast] at h1
  simp only [cond_true]
  simp at h1
  omega
end Go.Proofs.YtmmionafcmnfoaaDoor.Hello
