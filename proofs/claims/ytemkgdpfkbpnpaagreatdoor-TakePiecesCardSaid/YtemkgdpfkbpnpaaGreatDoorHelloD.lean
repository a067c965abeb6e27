/- What talks begin with: what is heard, asked and pushed, as plain functions. -/
import Derived.Test.YtemkgdpfkbpnpaaGreatDoorHelloC
namespace Go.Proofs.YtemkgdpfkbpnpaaGreatDoor.Hello
open Go.RowKit Go.Proofs.YtemkgdpfkbpnpaaGreatDoorW.PrintWords Go.Proofs.YtemkgdpfkbpnpaaGreatDoorW.PrintLast Go.Proofs.YtemkgdpfkbpnpaaGreatDoorW.PrintMore Go.Proofs.YtemkgdpfkbpnpaaGreatDoor.Conv Go.Proofs.YtemkgdpfkbpnpaaGreatDoor.Print
def textsGo : List Ln -> List ByteArray -> List ByteArray
 | [], _ => []
 | x :: t, out => if t = [] /\ (x.f0 && (x.f1.toList == ([] : List UInt8))) = true then out else if (sufF x.f1).2 = true then (if x.f0 = true then [] else textsGo t (out ++ [(sufF x.f1).1])) else []
theorem texts_loop (l : List Ln) (hl : l.length <= 1000000) (hs : ∀ x ∈ l, x.f1.size <= 1000000) : ∀ (d i k : Nat) (out : List ByteArray), i + d = l.length -> out.length <= i -> 2 * d + 2 <= k ->
  hello_texts.l0 k l out l (l.length : Int) (i : Int) = some (textsGo (l.drop i) out) := by
 intro d
 induction d with
 | zero =>
  intro i k out hi ho hk
  obtain ⟨k, rfl⟩ : ∃ j, k = j + 1 := ⟨k - 1, by omega⟩
  simp only [hello_texts.l0]
  rw [if_neg (by omega), List.drop_eq_nil_of_le (by omega)]
  rfl
 | succ d ih =>
  intro i k out hi ho hk
  obtain ⟨k, rfl⟩ : ∃ j, k = j + 2 := ⟨k - 2, by omega⟩
  have hlt : i < l.length := by omega
  have h1 := hs l[i] (List.getElem_mem hlt)
  have hj : ∀ b : Bool, hello_texts.j1 (k + 1) l out (sufF l[i].f1).1 (sufF l[i].f1).2 l (l.length : Int) (i : Int) b l[i].f0 l[i].f1 = some (if b = true then out else if (sufF l[i].f1).2 = true then (if l[i].f0 = true then [] else textsGo (l.drop (i + 1)) (out ++ [(sufF l[i].f1).1])) else []) := by
   intro b
   simp only [hello_texts.j1]
   by_cases hb : b = true
   ·rw [if_pos hb, if_pos hb]
   ·rw [if_neg hb, if_neg hb]
    by_cases c : (sufF l[i].f1).2 = true
    ·rw [if_pos c, if_pos c]
     by_cases f : l[i].f0 = true
     ·rw [if_pos f, if_pos f]
     ·rw [if_neg f, if_neg f, if_pos (by omega), w64 (by omega) (by omega), show ((i : Int) + 1) = ((i + 1 : Nat) : Int) by omega]
      exact ih (i + 1) k _ (by omega) (by rw [List.length_append]; simp; omega) (by omega)
    ·rw [if_neg c, if_neg c]
  simp only [hello_texts.l0]
  rw [if_pos (by omega), if_pos (by omega), if_pos (by omega), getL l i hlt, cutSuffix_eq _ (by omega)]
  simp only [Option.bind_some]
  rw [hj, hj, List.drop_eq_getElem_cons hlt]
  have hw : wrap64 ((l.length : Int) - 1) = (l.length : Int) - 1 := w64 (by omega) (by omega)
  rw [hw]
  simp only [textsGo]
  by_cases c : d = 0
  ·have hd : l.drop (i + 1) = [] := List.drop_eq_nil_of_le (by omega)
   rw [if_pos (by omega), hd]
   simp only [true_and]
  ·have hd : ¬ (l.drop (i + 1) = []) := fun e => by
    have := congrArg List.length e
    rw [List.length_drop] at this
    simp at this
    omega
   rw [if_neg (by omega), if_neg (by decide), if_neg (fun e : l.drop (i + 1) = [] /\ _ => hd e.1)]
def textsF (l : List Ln) : List ByteArray := textsGo l []
theorem texts_eq (l : List Ln) (hl : l.length <= 1000000) (hs : ∀ x ∈ l, x.f1.size <= 1000000) {k : Nat} (hk : 2 * l.length + 2 <= k) : hello_texts.f k l = some (textsF l) := by
 have := texts_loop l hl hs l.length 0 k [] (by omega) (by simp) hk
 simpa [hello_texts.f, textsF] using this
theorem textsGo_ends : ∀ (ts out : List ByteArray), textsGo (endsF ts) out = out ++ ts
 | [], out => by simp [endsF, textsGo, flushL]
 | s :: t, out => by
  have e : endsF (s :: t) = lineOf s :: endsF t := rfl
  have hne : ¬ (endsF t = []) := by simp [endsF]
  rw [e]
  simp only [textsGo]
  rw [if_neg (fun e : endsF t = [] /\ _ => hne e.1), show (lineOf s).f1 = s ++ (⟨#[10]⟩ : ByteArray) from rfl, sufF_line, if_pos rfl, show (lineOf s).f0 = false from rfl, if_neg (by decide), textsGo_ends t]
  simp
theorem textsF_ends (ts : List ByteArray) : textsF (endsF ts) = ts := by unfold textsF; rw [textsGo_ends]; rfl
theorem textsGo_size (B : Nat) : ∀ (l : List Ln) (out : List ByteArray), (∀ x ∈ l, x.f1.size <= B) -> (∀ s ∈ out, s.size <= B) -> (∀ s ∈ textsGo l out, s.size <= B) /\ (textsGo l out).length <= out.length + l.length
 | [], out, _, _ => by simp [textsGo]
 | x :: t, out, h, ho => by
  simp only [textsGo]
  split
  ·exact ⟨ho, by simp⟩
  ·split
   ·split
    ·simp
    ·have := textsGo_size B t (out ++ [(sufF x.f1).1]) (fun y hy => h y (by simp [hy])) (fun s hs => by
      rcases List.mem_append.1 hs with hs | hs
      ·exact ho s hs
      ·rw [List.mem_singleton] at hs
       rw [hs]
       exact Nat.le_trans (sufF_size _) (h x (by simp)))
     refine ⟨this.1, ?_⟩
     have := this.2
     simp at this ⊢
     omega
   ·simp
theorem textsF_size (B : Nat) (l : List Ln) (h : ∀ x ∈ l, x.f1.size <= B) : (∀ s ∈ textsF l, s.size <= B) /\ (textsF l).length <= l.length := by
 have := textsGo_size B l [] h (by simp)
 simpa [textsF] using this
theorem told_len (h : ByteArray) (l : List Rf) : (toldF h l).1.length <= 66 := by
 unfold toldF
 split
 ·rename_i c
  have := rightGo_out l l none c.2
  show (endsF (toldT h l)).length <= 66
  unfold endsF toldT
  simp only [List.length_append, List.length_map, List.length_cons, List.length_nil]
  omega
 ·simp
end Go.Proofs.YtemkgdpfkbpnpaaGreatDoor.Hello
