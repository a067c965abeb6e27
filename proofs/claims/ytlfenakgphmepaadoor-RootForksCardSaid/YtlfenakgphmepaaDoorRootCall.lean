/- Put and Get, by what they answer: a right root's lines, and the root that lines are. -/
import Derived.Test.YtlfenakgphmepaaDoorRootRead2
namespace Go.Proofs.YtlfenakgphmepaaDoor.Root
open Go.RowKit Go.Proofs.YtlfenakgphmepaaDoorW.PrintWords Go.Proofs.YtlfenakgphmepaaDoor.Print Go.Proofs.YtlfenakgphmepaaDoor.Build
set_option linter.unusedVariables false
set_option linter.unusedSimpArgs false
structure SmR (n : Int) (pool : List ByteArray) (forks : List Fk) : Prop where
 p : ∀ s ∈ pool, s.size <= 1000000
 f : ∀ f ∈ forks, SmF 1000000 f
 l : forks.length <= 900000
theorem SmR.right {n : Int} {pool : List ByteArray} {forks : List Fk} (h : SmR n pool forks) : root_Right.f 3000000 n pool forks = some (rootF n pool forks) := root_eq (Nat.le_refl _) n pool forks h.p h.f h.l (Nat.le_refl _)
end Go.Proofs.YtlfenakgphmepaaDoor.Root
