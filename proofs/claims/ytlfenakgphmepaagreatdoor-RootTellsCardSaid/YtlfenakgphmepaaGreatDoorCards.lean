/-
  DERIVED. GIVEN WITH THE SEED: THE CARDS: each row of YtlfenakgphmepaaGreatDoorRows.lean that lists a variable, with what it lists TIED to the program's text (the seventh form; the later family's looks); each row that meets fmt, with fmt's text TOLD by the authors' own Lean function (tested against real Go, not proved from fmt's source: count such statements apart). THE CARD IS WHAT COUNTS. Prove the row's statement (the work); the ties are given (YtlfenakgphmepaaGreatDoorTie.lean); close each card by the builder's one call (the guide's Derived/Test/ToyasCard.lean, 'card_holds'). Laid BY PROGRAM, IN A SANDBOX (cutbox-door.mjs). By AI agents, Wed Nov 11 2026. No macro, syntax, notation, axiom, sorry.
-/
import Derived.Test.YtlfenakgphmepaaGreatDoorRows
import GoSem.ClaimSeven
namespace Go.Proofs.YtlfenakgphmepaaGreatDoor
namespace Rows

/-- THE TIED CARD OF 'sacristylaw10.RootTells'. -/
def rootTellsCard : Claim7 := { stood := { row := rootTellsRow, standIns := [], harness := (true, "b9d81da5502ec9db92a1c039709c68939dba8b99ca0fd9ea55c5de91443c261d"), looks := true }, kinds := [], alts := [], laidByText := true, laidKinds := [.data, .data, .data, .data, .pinned], laidTests := true, laidLooks := .later }
def RootTellsCardSaid : Prop := Claim7.holds Tryz.pinned (.plain (OpenSpec.ofChange rootTellsSpec)) rootTellsCard

/-- THE TIED CARD OF 'sacristylaw10.RootLess'. -/
def rootLessCard : Claim7 := { stood := { row := rootLessRow, standIns := [], harness := (true, "b9d81da5502ec9db92a1c039709c68939dba8b99ca0fd9ea55c5de91443c261d"), looks := true }, kinds := [], alts := [], laidByText := true, laidKinds := [.data, .data, .data, .data, .pinned], laidTests := true, laidLooks := .later }
def RootLessCardSaid : Prop := Claim7.holds Tryz.pinned (.plain (OpenSpec.ofChange rootLessSpec)) rootLessCard

/-- THE SECOND FORM's CARD OF 'sacristylaw10.RootTells'. -/
def rootTellsUptoCard : Claim7 := { stood := { row := rootTellsUptoRow, standIns := [], harness := (true, "b9d81da5502ec9db92a1c039709c68939dba8b99ca0fd9ea55c5de91443c261d"), looks := true }, kinds := [], alts := [], laidByText := true, laidKinds := [.data, .data, .data, .data, .pinned], laidTests := true, laidLooks := .later }
def RootTellsUptoCardSaid : Prop := Claim7.holds Tryz.pinned (.plain (OpenSpec.upto rootTellsSpec)) rootTellsUptoCard

/-- THE SECOND FORM's CARD OF 'sacristylaw10.RootLess'. -/
def rootLessUptoCard : Claim7 := { stood := { row := rootLessUptoRow, standIns := [], harness := (true, "b9d81da5502ec9db92a1c039709c68939dba8b99ca0fd9ea55c5de91443c261d"), looks := true }, kinds := [], alts := [], laidByText := true, laidKinds := [.data, .data, .data, .data, .pinned], laidTests := true, laidLooks := .later }
def RootLessUptoCardSaid : Prop := Claim7.holds Tryz.pinned (.plain (OpenSpec.upto rootLessSpec)) rootLessUptoCard
end Rows
end Go.Proofs.YtlfenakgphmepaaGreatDoor
