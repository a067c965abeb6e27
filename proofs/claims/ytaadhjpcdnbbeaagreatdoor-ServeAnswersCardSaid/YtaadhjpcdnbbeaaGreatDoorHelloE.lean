/- What talks begin with: what is asked and pushed, as plain functions. -/
import Derived.Test.YtaadhjpcdnbbeaaGreatDoorHelloD
namespace Go.Proofs.YtaadhjpcdnbbeaaGreatDoor.Hello
open Go.RowKit Go.Proofs.YtaadhjpcdnbbeaaGreatDoorW.PrintWords Go.Proofs.YtaadhjpcdnbbeaaGreatDoorW.PrintLast Go.Proofs.YtaadhjpcdnbbeaaGreatDoorW.PrintMore Go.Proofs.YtaadhjpcdnbbeaaGreatDoor.Conv Go.Proofs.YtaadhjpcdnbbeaaGreatDoor.Print
def askGo : List ByteArray -> List ByteArray -> List ByteArray -> List ByteArray × List ByteArray
 | [], a, b => (a, b)
 | s :: t, a, b => if (cutF s).1.toList = ([119, 97, 110, 116] : List UInt8) then askGo t (a ++ [(cutF s).2]) b else if (cutF s).1.toList = ([104, 97, 118, 101] : List UInt8) then askGo t a (b ++ [(cutF s).2]) else askGo t a b
theorem ask_len (a b : List ByteArray) : (askF a b).1.length <= 1000 := by
 unfold askF
 split
 ·rename_i c
  have h1 := (names_size c.2.1).1
  have h2 := (names_size c.2.2).1
  show (endsF (asks a b)).length <= 1000
  unfold endsF asks
  simp only [List.length_append, List.length_map, List.length_cons, List.length_nil]
  omega
 ·simp
theorem asked_loop (l : List Ln) (ts : List ByteArray) (hl : ts.length <= 1000000) (hs : ∀ s ∈ ts, s.size <= 100000) : ∀ (d i k : Nat) (a b : List ByteArray), i + d = ts.length -> a.length + b.length <= i -> (∀ s ∈ a, s.size <= 100000) -> (∀ s ∈ b, s.size <= 100000) -> d + 1000001 <= k ->
  ∃ r, hello_Asked.l0 k l ts (ts.length : Int) (i : Int) a b = some r /\ ((askF (askGo (ts.drop i) a b).1 (askGo (ts.drop i) a b).2 = (l, true) /\ r = ((askGo (ts.drop i) a b).1, (askGo (ts.drop i) a b).2, true)) ∨ (askF (askGo (ts.drop i) a b).1 (askGo (ts.drop i) a b).2 ≠ (l, true) /\ r = ([], [], false))) := by
 intro d
 induction d with
 | zero =>
  intro i k a b hi ho ha hb hk
  obtain ⟨k, rfl⟩ : ∃ j, k = j + 1 := ⟨k - 1, by omega⟩
  simp only [hello_Asked.l0]
  rw [if_neg (by omega), List.drop_eq_nil_of_le (by omega)]
  simp only [askGo]
  have ht := ask_len a b
  rw [ask_eq a b (by omega) (fun s h => by have := ha s h; omega) (fun s h => by have := hb s h; omega) (fun s h => by have := ha s h; omega) (fun s h => by have := hb s h; omega)]
  simp only [Option.bind_some]
  obtain ⟨r, hr, hi⟩ := again_eq (askF a b).1 l (askF a b).2 (by omega) (k := k) (by omega)
  rw [hr]
  simp only [Option.bind_some]
  by_cases c : r = true
  ·rw [if_pos c]
   have := hi.1 c
   exact ⟨_, rfl, .inl ⟨Prod.ext this.2 this.1, rfl⟩⟩
  ·rw [if_neg c]
   exact ⟨_, rfl, .inr ⟨fun e => c (hi.2 ⟨by rw [e], by rw [e]⟩), rfl⟩⟩
 | succ d ih =>
  intro i k a b hi ho ha hb hk
  obtain ⟨k, rfl⟩ : ∃ j, k = j + 1 := ⟨k - 1, by omega⟩
  have hlt : i < ts.length := by omega
  have hz := hs ts[i] (List.getElem_mem hlt)
  obtain ⟨b', hc⟩ := cut_eq ts[i] (by omega)
  have hcs := cutF_size ts[i]
  have ha' : ∀ s ∈ a ++ [(cutF ts[i]).2], s.size <= 100000 := fun s h => by
   rcases List.mem_append.1 h with h | h
   ·exact ha s h
   ·rw [List.mem_singleton] at h
    rw [h]; omega
  have hb' : ∀ s ∈ b ++ [(cutF ts[i]).2], s.size <= 100000 := fun s h => by
   rcases List.mem_append.1 h with h | h
   ·exact hb s h
   ·rw [List.mem_singleton] at h
    rw [h]; omega
  simp only [hello_Asked.l0]
  rw [if_pos (by omega), if_pos (by omega), if_pos (by omega), rd_get ts i hlt, hc]
  simp only [Option.bind_some]
  rw [w64 (by omega) (by omega), show ((i : Int) + 1) = ((i + 1 : Nat) : Int) by omega, List.drop_eq_getElem_cons hlt]
  simp only [askGo]
  by_cases c1 : (cutF ts[i]).1.toList = ([119, 97, 110, 116] : List UInt8)
  ·rw [if_pos c1, if_pos c1, if_pos (by omega)]
   exact ih (i + 1) k _ b (by omega) (by rw [List.length_append]; simp; omega) ha' hb (by omega)
  ·rw [if_neg c1, if_neg c1]
   by_cases c2 : (cutF ts[i]).1.toList = ([104, 97, 118, 101] : List UInt8)
   ·rw [if_pos c2, if_pos c2, if_pos (by omega)]
    exact ih (i + 1) k a _ (by omega) (by rw [List.length_append]; simp; omega) ha hb' (by omega)
   ·rw [if_neg c2, if_neg c2]
    exact ih (i + 1) k a b (by omega) (by omega) ha hb (by omega)
theorem asked_eq (l : List Ln) (hl : l.length <= 1000000) (hs : ∀ x ∈ l, x.f1.size <= 100000) {k : Nat} (hk : 4000000 <= k) :
  ∃ r, hello_Asked.f k l = some r /\ ((askF (askGo (textsF l) [] []).1 (askGo (textsF l) [] []).2 = (l, true) /\ r = ((askGo (textsF l) [] []).1, (askGo (textsF l) [] []).2, true)) ∨ (askF (askGo (textsF l) [] []).1 (askGo (textsF l) [] []).2 ≠ (l, true) /\ r = ([], [], false))) := by
 have hz := textsF_size 100000 l hs
 unfold hello_Asked.f
 rw [texts_eq l hl (fun x hx => by have := hs x hx; omega) (by omega)]
 simp only [Option.bind_some]
 exact asked_loop l (textsF l) (by omega) hz.1 (textsF l).length 0 k [] [] (by omega) (by simp) (by simp) (by simp) (by omega)
theorem askGo_want : ∀ (x t a b : List ByteArray), askGo (x.map (fun s => wantL ++ s) ++ t) a b = askGo t (a ++ x) b
 | [], t, a, b => by simp
 | s :: x, t, a, b => by
  have e : cutF (wantL ++ s) = (⟨#[119, 97, 110, 116]⟩, s) := cutF_app (⟨#[119, 97, 110, 116]⟩ : ByteArray) s (by unfold plainT; simp)
  simp only [List.map_cons, List.cons_append, askGo, e]
  rw [if_pos (by rw [Lib.toList_data]), askGo_want x]
  simp
theorem askGo_have : ∀ (x t a b : List ByteArray), askGo (x.map (fun s => haveL ++ s) ++ t) a b = askGo t a (b ++ x)
 | [], t, a, b => by simp
 | s :: x, t, a, b => by
  have e : cutF (haveL ++ s) = (⟨#[104, 97, 118, 101]⟩, s) := cutF_app (⟨#[104, 97, 118, 101]⟩ : ByteArray) s (by unfold plainT; simp)
  simp only [List.map_cons, List.cons_append, askGo, e]
  rw [if_neg (by rw [Lib.toList_data]; simp), if_pos (by rw [Lib.toList_data]), askGo_have x]
  simp
theorem asked_asks (a b : List ByteArray) : askGo (asks a b) [] [] = (a, b) := by
 have e : cutF doneL = (doneL, ⟨#[]⟩) := by
  unfold cutF
  rw [if_neg (show ¬ (Lib.indexByte doneL.data.toList 32 >= 0) by decide)]
 unfold asks
 rw [List.append_assoc, askGo_want, askGo_have]
 simp only [askGo, e]
 rw [if_neg (by rw [Lib.toList_data]; decide), if_neg (by rw [Lib.toList_data]; decide)]
 simp
end Go.Proofs.YtaadhjpcdnbbeaaGreatDoor.Hello
