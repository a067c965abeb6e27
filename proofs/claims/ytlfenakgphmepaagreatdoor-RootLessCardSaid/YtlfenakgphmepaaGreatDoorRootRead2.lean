/- Root's plain law: refs' lines, a fork's lines, and all lines are read as they were. -/
import Derived.Test.YtlfenakgphmepaaGreatDoorRootBack
namespace Go.Proofs.YtlfenakgphmepaaGreatDoor.Root
open Go.RowKit Go.Proofs.YtlfenakgphmepaaGreatDoorW.PrintWords Go.Proofs.YtlfenakgphmepaaGreatDoor.Print Go.Proofs.YtlfenakgphmepaaGreatDoor.Build
set_option linter.unusedVariables false
set_option linter.unusedSimpArgs false
theorem rightF_out {l : List Rf} (h : Hello.rightF l = true) : l.length <= 64 /\ ∀ y ∈ l, Hello.namedF y.f0 = true /\ Hello.idF y.f1 = true := Hello.rightGo_out l l none h
theorem rf_size {l : List Rf} (h : Hello.rightF l = true) : ∀ y ∈ l, y.f0.size <= 80 /\ y.f1.size = 64 := fun y hy => ⟨Hello.named_size ((rightF_out h).2 y hy).1, Hello.id_size ((rightF_out h).2 y hy).2⟩
def getF (s : ByteArray) : (Int × List ByteArray × List Fk) × Bool :=
 let w1 := wordsF netT 2 (cutsF 10 s) false
 let d1 := decF (nth w1.1 1)
 let w2 := wordsF poolT 2 w1.2.1 (w1.2.2 || !d1.2)
 let d2 := decF (nth w2.1 1)
 let s3 := someF d2.1.toNat w2.2.1 (w2.2.2 || !d2.2)
 let w3 := wordsF forksT 2 s3.2.1 s3.2.2
 let d3 := decF (nth w3.1 1)
 let g := getL G0 d3.1.toNat [] w3.2.1 (w3.2.2 || !d3.2)
 ((d1.1, s3.1, g.1), g.2)
def textR (n : Int) (pool : List ByteArray) (forks : List Fk) : ByteArray := textP P0 n pool forks
def getR (s : ByteArray) : Option (Int × List ByteArray × List Fk) :=
 if (getF s).2 = false /\ rootF (getF s).1.1 (getF s).1.2.1 (getF s).1.2.2 = true /\ textR (getF s).1.1 (getF s).1.2.1 (getF s).1.2.2 = s then some (getF s).1 else none
end Go.Proofs.YtlfenakgphmepaaGreatDoor.Root
