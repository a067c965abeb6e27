/- What talks begin with: the program's functions of whole lines, as plain functions (2). -/
import Derived.Test.YtlfenakgphmepaaGreatDoorHelloB
namespace Go.Proofs.YtlfenakgphmepaaGreatDoor.Hello
open Go.RowKit Go.Proofs.YtlfenakgphmepaaGreatDoorW.PrintWords Go.Proofs.YtlfenakgphmepaaGreatDoorW.PrintLast Go.Proofs.YtlfenakgphmepaaGreatDoorW.PrintMore Go.Proofs.YtlfenakgphmepaaGreatDoor.Conv Go.Proofs.YtlfenakgphmepaaGreatDoor.Print
def slashT : ByteArray := ⟨#[47]⟩
theorem above_eq (a b : ByteArray) (h : a.size + 1 <= 9223372036854775807) : refs_above.f a b = some (prefF b (a ++ slashT)) := by
 unfold refs_above.f
 rw [if_pos h, show strings_HasPrefix.f b (a ++ (⟨#[47]⟩ : ByteArray)) = some (prefF b (a ++ slashT)) from hasPrefix_eq _ _]
 rfl
def rightGo (l : List Rf) : List Rf -> Option ByteArray -> Bool
 | [], _ => decide ((l.length : Int) <= 64)
 | y :: t, p => namedF y.f0 && (idF y.f1 && (!(notAbove p y.f0) && (!(l.any fun z => prefF y.f0 (z.f0 ++ slashT)) && rightGo l t (some y.f0))))
def rightF (l : List Rf) : Bool := rightGo l l none
theorem rightGo_out (l : List Rf) : ∀ (t : List Rf) (p : Option ByteArray), rightGo l t p = true -> l.length <= 64 /\ ∀ y ∈ t, namedF y.f0 = true /\ idF y.f1 = true
 | [], _, h => ⟨by have := of_decide_eq_true h; omega, by simp⟩
 | y :: t, p, h => by
  simp only [rightGo, Bool.and_eq_true] at h
  have ih := rightGo_out l t _ h.2.2.2.2
  refine ⟨ih.1, fun z hz => ?_⟩
  rcases List.mem_cons.1 hz with rfl | hz
  ·exact ⟨h.1, h.2.1⟩
  ·exact ih.2 z hz
theorem named_size {s : ByteArray} (h : namedF s = true) : s.size <= 80 := by
 unfold namedF at h
 rw [Bool.and_eq_true] at h
 exact (of_decide_eq_true h.1).1
end Go.Proofs.YtlfenakgphmepaaGreatDoor.Hello
