/- What talks begin with: what is heard, asked and pushed, as plain functions. -/
import Derived.Test.YtmmionafcmnfoaaDoorHelloC
namespace Go.Proofs.YtmmionafcmnfoaaDoor.Hello
open Go.RowKit Go.Proofs.YtmmionafcmnfoaaDoorW.PrintWords Go.Proofs.YtmmionafcmnfoaaDoorW.PrintLast Go.Proofs.YtmmionafcmnfoaaDoorW.PrintMore Go.Proofs.YtmmionafcmnfoaaDoor.Conv Go.Proofs.YtmmionafcmnfoaaDoor.Print
def textsGo : List Ln -> List ByteArray -> List ByteArray
 | [], _ => []
 | x :: t, out => if t = [] /\ (x.f0 && (x.f1.toList == ([] : List UInt8))) = true then out else if (sufF x.f1).2 = true then (if x.f0 = true then [] else textsGo t (out ++ [(sufF x.f1).1])) else []
theorem texts_loop (l : List Ln) (hl : l.length <= 1000000) (hs : ∀ x ∈ l, x.f1.size <= 1000000) : ∀ (d i k : Nat) (out : List ByteArray), i + d = l.length -> out.length <= i -> 2 * d + 2 <= k ->
  hello_texts.l0 k l out l (l.length : Int) (i : Int) = some (textsGo (l.drop i) out) := by
 intro d
 induction d with
 | zero =>
  intro i k out hi ho hk
  obtain ⟨k, rfl⟩ : ∃ j, k = j + 1 := ⟨k - 1, by omega⟩
  simp only [hello_texts.l0]
  rw [if_neg (by omega), List.drop_eq_nil_of_le (by omega)]
  rfl
 | succ d ih =>
  intro i k out hi ho hk
  obtain ⟨k, rfl⟩ : ∃ j, k = j + 2 := ⟨k - 2, by omega⟩
  have hlt : i < l.length := by omega
  have h1 := hs l[i] (List.getElem_mem hlt)
  have hj : ∀ b : Bool, hello_texts.j1 (k + 1) l out (sufF l[i].f1).1 (sufF l[i].f1).2 l (l.length : Int) (i : Int) b l[i].f0 l[i].f1 = some (if b = true then out else if (sufF l[i].f1).2 = true then (if l[i].f0 = true then [] else textsGo (l.drop (i + 1)) (out ++ [(sufF l[i].f1).1])) else []) := by
   intro b
   simp only [hello_texts.j1]
   by_cases hb : b = true
   ·rw [if_pos hb, if_pos hb]
   ·rw [if_neg hb, if_neg hb]
    by_cases c : (sufF l[i].f1).2 = true
    ·rw [if_pos c, if_pos c]
     by_cases f : l[i].f0 = true
     ·rw [if_pos f, if_pos f]
     ·rw [if_neg f, if_neg f, if_pos (by omega), w64 (by omega) (by omega), show ((i : Int) + 1) = ((i + 1 : Nat) : Int) by omega]
      exact ih (i + 1) k _ (by omega) (by rw [List.length_append]; simp; omega) (by omega)
    ·rw [if_neg c, if_neg c]
  simp only [hello_texts.l0]
  rw [if_pos (by omega), if_pos (by omega), if_pos (by omega), getL l i hlt, cutSuffix_eq _ (by omega)]
  simp only [Option.bind_some]
  rw [hj, hj, List.drop_eq_getElem_cons hlt]
  have hw : wrap64 ((l.length : Int) - 1) = (l.length : Int) - 1 := w64 (by omega) (by omega)
  rw [hw]
  simp only [textsGo]
  by_cases c : d = 0
  ·have hd : l.drop (i + 1) = [] := List.drop_eq_nil_of_le (by omega)
   rw [if_pos (by omega), hd]
   simp only [true_and]
  ·have hd : ¬ (l.drop (i + 1) = []) := fun e => by
    have := congrArg List.length e
    rw [List.length_drop] at this
    simp at this
    omega
   rw [if_neg (by omega), if_neg (by decide), if_neg (fun e : l.drop (i + 1) = [] /\ _ => hd e.1)]
def textsF (l : List Ln) : List ByteArray := textsGo l []
theorem texts_eq (l : List Ln) (hl : l.length <= 1000000) (hs : ∀ x ∈ l, x.f1.size <= 1000000) {k : Nat} (hk : 2 * l.length + 2 <= k) : hello_texts.f k l = some (textsF l) := by
 have := texts_loop l hl hs l.length 0 k [] (by omega) (by simp) hk
 simpa [hello_texts.f, textsF] using this
theorem textsGo_ends : ∀ (ts out : List ByteArray), textsGo (endsF ts) out = out ++ ts
 | [], out => by simp [endsF, textsGo, flushL]
 | s :: t, out => by
  have e : endsF (s :: t) = lineOf s :: endsF t := rfl
  have hne : ¬ (endsF t = []) := by simp [endsF]
  rw [e]
  simp only [textsGo]
  rw [if_neg (fun e : endsF t = [] /\ _ => hne e.1), show (lineOf s).f1 = s ++ (⟨#[10]⟩ : ByteArray) from rfl, sufF_line, if_pos rfl, show (lineOf s).f0 = false from rfl, if_neg (by decide), textsGo_ends t]
  simp
theorem textsF_ends (ts : List ByteArray) : textsF (endsF ts) = ts := by unfold textsF; rw [textsGo_ends]; rfl
theorem textsGo_size (B : Nat) : ∀ (l : List Ln) (out : List ByteArray), (∀ x ∈ l, x.f1.size <= B) -> (∀ s ∈ out, s.size <= B) -> (∀ s ∈ textsGo l out, s.size <= B) /\ (textsGo l out).length <= out.length + l.length
 | [], out, _, _ => by simp [textsGo]
 | x :: t, out, h, ho => by
  simp only [textsGo]
  split
  ·exact ⟨ho, by simp⟩
  ·split
   ·split
    ·simp
    ·have := textsGo_size B t (out ++ [(sufF x.f1).1]) (fun y hy => h y (by simp [hy])) (fun s hs => by
      rcases List.mem_append.1 hs with hs | hs
      ·exact ho s hs
      ·rw [List.mem_singleton] at hs
       rw [hs]
       exact Nat.le_trans (sufF_size _) (h x (by simp)))
     refine ⟨this.1, ?_⟩
     have := this.2
     simp at this ⊢
     omega
   ·simp
theorem textsF_size (B : Nat) (l : List Ln) (h : ∀ x ∈ l, x.f1.size <= B) : (∀ s ∈ textsF l, s.size <= B) /\ (textsF l).length <= l.length := by
 have := textsGo_size B l [] h (by simp)
 simpa [textsF] using this
def refOf (s : ByteArray) : Rf := ⟨(cutF s).2, (cutF s).1⟩
def headOf : List ByteArray -> ByteArray
 | [] => ⟨#[]⟩
 | s :: _ => trimF s titleT
def refsOf (ts : List ByteArray) : List Rf := (ts.drop 1).map refOf
theorem told_len (h : ByteArray) (l : List Rf) : (toldF h l).1.length <= 66 := by
 unfold toldF
 split
 ·rename_i c
  have := rightGo_out l l none c.2
  show (endsF (toldT h l)).length <= 66
  unfold endsF toldT
  simp only [List.length_append, List.length_map, List.length_cons, List.length_nil]
  omega
 ·simp
theorem heard_end (l : List Ln) (h : ByteArray) (rs : List Rf) (hh : h.size <= 100000) (hs : ∀ y ∈ rs, y.f0.size <= 100000 /\ y.f1.size <= 100000) {k : Nat} (hk : 1000000 <= k) :
  ∃ r, ((hello_Told.f k h rs).bind fun bt186 => ((hello_again.f k bt186.1 bt186.2 l).bind fun t190 => (if t190 = true then (some (h, rs, true)) else (some ((⟨#[]⟩ : ByteArray), ([] : List Rf), false))))) = some r /\
   ((toldF h rs = (l, true) /\ r = (h, rs, true)) ∨ (toldF h rs ≠ (l, true) /\ r = (⟨#[]⟩, [], false))) := by
 have ht := told_len h rs
 rw [told_eq h rs hh hs hk]
 simp only [Option.bind_some]
 obtain ⟨b, hb, hi⟩ := again_eq (toldF h rs).1 l (toldF h rs).2 (by omega) (k := k) (by omega)
 rw [hb]
 simp only [Option.bind_some]
 by_cases c : b = true
 ·rw [if_pos c]
  have := hi.1 c
  exact ⟨_, rfl, .inl ⟨Prod.ext this.2 this.1, rfl⟩⟩
 ·rw [if_neg c]
  exact ⟨_, rfl, .inr ⟨fun e => c (hi.2 ⟨by rw [e], by rw [e]⟩), rfl⟩⟩
theorem heard_loop (l : List Ln) (ts : List ByteArray) (h : ByteArray) (hh : h.size <= 100000) (hl : ts.length <= 1000000) (hs : ∀ s ∈ ts, s.size <= 100000) : ∀ (d i k : Nat) (out : List Rf), i + d = ts.length -> 1 <= i -> out.length <= i -> (∀ y ∈ out, y.f0.size <= 100000 /\ y.f1.size <= 100000) -> d + 1000001 <= k ->
  ∃ r, hello_Heard.l0 k l out h ts (ts.length : Int) (i : Int) = some r /\ ((toldF h (out ++ (ts.drop i).map refOf) = (l, true) /\ r = (h, out ++ (ts.drop i).map refOf, true)) ∨ (toldF h (out ++ (ts.drop i).map refOf) ≠ (l, true) /\ r = (⟨#[]⟩, [], false))) := by
 intro d
 induction d with
 | zero =>
  intro i k out hi h1 ho hos hk
  obtain ⟨k, rfl⟩ : ∃ j, k = j + 1 := ⟨k - 1, by omega⟩
  simp only [hello_Heard.l0]
  rw [if_neg (by omega), List.drop_eq_nil_of_le (by omega), List.map_nil, List.append_nil]
  exact heard_end l h out hh hos (by omega)
 | succ d ih =>
  intro i k out hi h1 ho hos hk
  obtain ⟨k, rfl⟩ : ∃ j, k = j + 1 := ⟨k - 1, by omega⟩
  have hlt : i < ts.length := by omega
  have hz := hs ts[i] (List.getElem_mem hlt)
  obtain ⟨b, hc⟩ := cut_eq ts[i] (by omega)
  have hcs := cutF_size ts[i]
  simp only [hello_Heard.l0]
  rw [if_pos (by omega), if_pos (by omega), if_pos (by omega), if_neg (by omega), rd_get ts i hlt, hc]
  simp only [Option.bind_some]
  rw [if_pos (by omega), w64 (by omega) (by omega), show ((i : Int) + 1) = ((i + 1 : Nat) : Int) by omega]
  have := ih (i + 1) k (out ++ [refOf ts[i]]) (by omega) (by omega) (by rw [List.length_append]; simp; omega) (fun y hy => by
   rcases List.mem_append.1 hy with hy | hy
   ·exact hos y hy
   ·rw [List.mem_singleton] at hy
    rw [hy]
    show (cutF ts[i]).2.size <= _ /\ (cutF ts[i]).1.size <= _
    omega) (by omega)
  rw [List.drop_eq_getElem_cons hlt, List.map_cons]
  rw [List.append_assoc] at this
  exact this
theorem trimF_size (s p : ByteArray) : (trimF s p).size <= s.size := by
 unfold trimF
 split
 ·rw [ByteArray.size_extract]; omega
 ·exact Nat.le_refl _
theorem heard_eq (l : List Ln) (hl : l.length <= 1000000) (hs : ∀ x ∈ l, x.f1.size <= 100000) {k : Nat} (hk : 4000000 <= k) :
  ∃ r, hello_Heard.f k l = some r /\ ((toldF (headOf (textsF l)) (refsOf (textsF l)) = (l, true) /\ r = (headOf (textsF l), refsOf (textsF l), true)) ∨ (toldF (headOf (textsF l)) (refsOf (textsF l)) ≠ (l, true) /\ r = (⟨#[]⟩, [], false))) := by
 have hz := textsF_size 100000 l hs
 unfold hello_Heard.f
 rw [texts_eq l hl (fun x hx => by have := hs x hx; omega) (by omega)]
 simp only [Option.bind_some]
 generalize textsF l = ts at hz ⊢
 obtain ⟨k, rfl⟩ : ∃ j, k = j + 1 := ⟨k - 1, by omega⟩
 cases ts with
 | nil =>
  simp only [hello_Heard.l0]
  rw [if_neg (by simp)]
  exact heard_end l ⟨#[]⟩ [] (by decide) (by simp) (by omega)
 | cons s t =>
  have h0 := hz.1 s (by simp)
  have hlen : (s :: t).length <= 1000000 := by omega
  simp only [hello_Heard.l0]
  have e0 : rdOf ByteArray.empty (s :: t) 0 = s := rd_get (s :: t) 0 (by simp)
  rw [if_pos (by simp), if_pos (by omega), if_pos (by simp), if_pos trivial, e0, show strings_TrimPrefix.f s (⟨#[115, 97, 99, 114, 105, 115, 116, 121, 32, 104, 101, 97, 100, 32]⟩ : ByteArray) = some (trimF s titleT) from trim_eq s _]
  simp only [Option.bind_some]
  rw [w64 (by omega) (by omega), show ((0 : Int) + 1) = ((1 : Nat) : Int) by omega]
  have := heard_loop l (s :: t) (trimF s titleT) (by have := trimF_size s titleT; omega) hlen hz.1 t.length 1 k [] (by simp; omega) (by omega) (by simp) (by simp) (by simp at hlen; omega)
  exact this
theorem refOf_refT (y : Rf) (h : idF y.f1 = true) : refOf (refT y) = y := by
 unfold refOf refT
 rw [cutF_app _ _ (id_plain h)]
theorem heard_told (h : ByteArray) (l : List Rf) (hr : rightF l = true) : headOf (toldT h l) = h /\ refsOf (toldT h l) = l := by
 refine ⟨trimF_app titleT h, ?_⟩
 have := (rightGo_out l l none hr).2
 show (l.map refT).map refOf = l
 rw [List.map_map]
 have e : ∀ y ∈ l, (refOf ∘ refT) y = id y := fun y hy => refOf_refT y (this y hy).2
 rw [List.map_congr_left e, List.map_id]
end Go.Proofs.YtmmionafcmnfoaaDoor.Hello
