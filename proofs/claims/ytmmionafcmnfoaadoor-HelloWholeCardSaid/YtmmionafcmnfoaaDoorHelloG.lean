/- What talks begin with: without its last line, or with one more, what is said is none's. -/
import Derived.Test.YtmmionafcmnfoaaDoorHelloF
namespace Go.Proofs.YtmmionafcmnfoaaDoor.Hello
open Go.RowKit Go.Proofs.YtmmionafcmnfoaaDoorW.PrintWords Go.Proofs.YtmmionafcmnfoaaDoorW.PrintLast Go.Proofs.YtmmionafcmnfoaaDoorW.PrintMore Go.Proofs.YtmmionafcmnfoaaDoor.Conv Go.Proofs.YtmmionafcmnfoaaDoor.Print
theorem textsGo_cut : ∀ (ts out : List ByteArray), textsGo (ts.map lineOf) out = []
  | [], out => rfl
  | s :: t, out => by
    simp only [List.map_cons, textsGo]
    rw [if_neg (fun e : _ ∧ ((lineOf s).f0 && _) = true => by have := e.2; rw [show (lineOf s).f0 = false from rfl] at this; simp at this), show (lineOf s).f1 = s ++ (⟨#[10]⟩ : ByteArray) from rfl, sufF_line, if_pos rfl, show (lineOf s).f0 = false from rfl, if_neg (by decide)]
    exact textsGo_cut t _
theorem textsGo_more (x : Ln) : ∀ (ts out : List ByteArray), textsGo (endsF ts ++ [x]) out = []
  | [], out => by
    show textsGo [flushL, x] out = []
    simp only [textsGo]
    rw [if_neg (fun e : [x] = [] ∧ _ => by simp at e)]
    have e : sufF flushL.f1 = (flushL.f1, false) := by
      unfold sufF
      rw [if_neg (fun e => by have h1 := e.1; have h2 : flushL.f1.size = 0 := rfl; omega)]
    rw [e, if_neg (by decide)]
  | s :: t, out => by
    have e : endsF (s :: t) ++ [x] = lineOf s :: (endsF t ++ [x]) := rfl
    rw [e]
    simp only [textsGo]
    rw [if_neg (fun e : _ ∧ ((lineOf s).f0 && _) = true => by have := e.2; rw [show (lineOf s).f0 = false from rfl] at this; simp at this), show (lineOf s).f1 = s ++ (⟨#[10]⟩ : ByteArray) from rfl, sufF_line, if_pos rfl, show (lineOf s).f0 = false from rfl, if_neg (by decide)]
    exact textsGo_more x t _
theorem texts_cut (ts : List ByteArray) : textsF ((endsF ts).take ((endsF ts).length - 1)) = [] := by
  have e : (endsF ts).take ((endsF ts).length - 1) = ts.map lineOf := by
    unfold endsF
    rw [List.length_append, List.length_cons, List.length_nil]
    exact List.take_left' (by simp)
  rw [e]
  exact textsGo_cut ts []
theorem texts_more (ts : List ByteArray) (x : Ln) : textsF (endsF ts ++ [x]) = [] := textsGo_more x ts []
theorem heard_none (x : List Ln) (ht : textsF x = []) (hl : x.length ≤ 1000000) (hs : ∀ y ∈ x, y.f1.size ≤ 100000) {k : Nat} (hk : 4000000 ≤ k) : hello_Heard.f k x = some (⟨#[]⟩, [], false) := by
  obtain ⟨r, hr1, hr2⟩ := heard_eq x hl hs hk
  rw [ht] at hr2
  have h0 : namedF (⟨#[]⟩ : ByteArray) = false := by kernel_rfl
  have hn : toldF (headOf []) (refsOf []) = ([], false) := if_neg (fun e => by rw [show headOf [] = (⟨#[]⟩ : ByteArray) from rfl, h0] at e; cases e.1)
  rcases hr2 with ⟨he, _⟩ | ⟨_, rfl⟩
  · rw [hn] at he; exact absurd (Prod.mk.inj he).2 (by simp)
  · exact hr1
theorem asked_none (x : List Ln) (ht : textsF x = []) (hl : x.length ≤ 1000000) (hs : ∀ y ∈ x, y.f1.size ≤ 100000) {k : Nat} (hk : 4000000 ≤ k) : hello_Asked.f k x = some ([], [], false) := by
  obtain ⟨r, hr1, hr2⟩ := asked_eq x hl hs hk
  rw [ht] at hr2
  have hn : askF (askGo [] [] []).1 (askGo [] [] []).2 = ([], false) := if_neg (fun e => e.1 rfl)
  rcases hr2 with ⟨he, _⟩ | ⟨_, rfl⟩
  · rw [hn] at he; exact absurd (Prod.mk.inj he).2 (by simp)
  · exact hr1
theorem pushed_none (x : List Ln) (ht : textsF x = []) (hl : x.length ≤ 1000000) (hs : ∀ y ∈ x, y.f1.size ≤ 100000) {k : Nat} (hk : 6000000 ≤ k) : hello_Pushed.f k x = some ([], false) := by
  obtain ⟨r, hr1, hr2⟩ := pushed_eq x hl hs hk
  rw [ht] at hr2
  have hn : pushF (([] : List ByteArray).map upOf) = ([], false) := if_neg (fun e => e.2.1 rfl)
  rcases hr2 with ⟨he, _⟩ | ⟨_, rfl⟩
  · rw [hn] at he; exact absurd (Prod.mk.inj he).2 (by simp)
  · exact hr1
end Go.Proofs.YtmmionafcmnfoaaDoor.Hello
