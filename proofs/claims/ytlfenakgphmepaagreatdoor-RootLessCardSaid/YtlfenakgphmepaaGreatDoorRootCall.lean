/- Put and Get, by what they answer: a right root's lines, and the root that lines are. -/
import Derived.Test.YtlfenakgphmepaaGreatDoorRootRead2
namespace Go.Proofs.YtlfenakgphmepaaGreatDoor.Root
open Go.RowKit Go.Proofs.YtlfenakgphmepaaGreatDoorW.PrintWords Go.Proofs.YtlfenakgphmepaaGreatDoor.Print Go.Proofs.YtlfenakgphmepaaGreatDoor.Build
set_option linter.unusedVariables false
set_option linter.unusedSimpArgs false
structure SmR (n : Int) (pool : List ByteArray) (forks : List Fk) : Prop where
 p : ∀ s ∈ pool, s.size <= 1000000
 f : ∀ f ∈ forks, SmF 1000000 f
 l : forks.length <= 900000
theorem SmR.right {n : Int} {pool : List ByteArray} {forks : List Fk} (h : SmR n pool forks) : root_Right.f 3000000 n pool forks = some (rootF n pool forks) := root_eq (Nat.le_refl _) n pool forks h.p h.f h.l (Nat.le_refl _)
end Go.Proofs.YtlfenakgphmepaaGreatDoor.Root
