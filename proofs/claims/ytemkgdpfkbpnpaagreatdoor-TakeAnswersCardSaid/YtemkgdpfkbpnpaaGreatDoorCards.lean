/-
  DERIVED. GIVEN WITH THE SEED: THE CARDS: each row of YtemkgdpfkbpnpaaGreatDoorRows.lean that lists a variable, with what it lists TIED to the program's text (the seventh form; the later family's looks); each row that meets fmt, with fmt's text TOLD by the authors' own Lean function (tested against real Go, not proved from fmt's source: count such statements apart). THE CARD IS WHAT COUNTS. Prove the row's statement (the work); the ties are given (YtemkgdpfkbpnpaaGreatDoorTie.lean); close each card by the builder's one call (the guide's Derived/Test/ToyasCard.lean, 'card_holds'). Laid BY PROGRAM, IN A SANDBOX (cutbox-door.mjs). By AI agents, Wed Nov 11 2026. No macro, syntax, notation, axiom, sorry.
-/
import Derived.Test.YtemkgdpfkbpnpaaGreatDoorRows
import GoSem.ClaimSeven
namespace Go.Proofs.YtemkgdpfkbpnpaaGreatDoor
namespace Rows

/-- THE TIED CARD OF 'sacristylaw18.TakePieces'. -/
def takePiecesCard : Claim7 := { stood := { row := takePiecesRow, standIns := [], harness := (true, "f5e111a32e65aadba6ab14150c111df9a558ccc93a3cf9d08f14fddc94d599bc"), looks := false }, kinds := [], alts := [], laidByText := true, laidKinds := [.data, .data, .data, .data, .pinned], laidTests := true, laidLooks := .later }
def TakePiecesCardSaid : Prop := Claim7.holds Tryz.pinned (.plain (OpenSpec.ofChange takePiecesSpec)) takePiecesCard

/-- THE TIED CARD OF 'sacristylaw18.TakeAnswers'. -/
def takeAnswersCard : Claim7 := { stood := { row := takeAnswersRow, standIns := [], harness := (true, "f5e111a32e65aadba6ab14150c111df9a558ccc93a3cf9d08f14fddc94d599bc"), looks := false }, kinds := [], alts := [], laidByText := true, laidKinds := [.data, .data, .data, .data, .pinned], laidTests := true, laidLooks := .later }
def TakeAnswersCardSaid : Prop := Claim7.holds Tryz.pinned (.plain (OpenSpec.ofChange takeAnswersSpec)) takeAnswersCard

/-- THE TIED CARD OF 'sacristylaw18.TakeWrong'. -/
def takeWrongCard : Claim7 := { stood := { row := takeWrongRow, standIns := [], harness := (true, "f5e111a32e65aadba6ab14150c111df9a558ccc93a3cf9d08f14fddc94d599bc"), looks := false }, kinds := [], alts := [], laidByText := true, laidKinds := [.data, .data, .data, .data, .pinned], laidTests := true, laidLooks := .later }
def TakeWrongCardSaid : Prop := Claim7.holds Tryz.pinned (.plain (OpenSpec.ofChange takeWrongSpec)) takeWrongCard

/-- THE TIED CARD OF 'sacristylaw18.TakeGreets'. -/
def takeGreetsCard : Claim7 := { stood := { row := takeGreetsRow, standIns := [], harness := (true, "f5e111a32e65aadba6ab14150c111df9a558ccc93a3cf9d08f14fddc94d599bc"), looks := false }, kinds := [], alts := [], laidByText := true, laidKinds := [.data, .data, .data, .data, .pinned], laidTests := true, laidLooks := .later }
def TakeGreetsCardSaid : Prop := Claim7.holds Tryz.pinned (.plain (OpenSpec.ofChange takeGreetsSpec)) takeGreetsCard

/-- THE SECOND FORM's CARD OF 'sacristylaw18.TakePieces'. -/
def takePiecesUptoCard : Claim7 := { stood := { row := takePiecesUptoRow, standIns := [], harness := (true, "f5e111a32e65aadba6ab14150c111df9a558ccc93a3cf9d08f14fddc94d599bc"), looks := false }, kinds := [], alts := [], laidByText := true, laidKinds := [.data, .data, .data, .data, .pinned], laidTests := true, laidLooks := .later }
def TakePiecesUptoCardSaid : Prop := Claim7.holds Tryz.pinned (.plain (OpenSpec.upto takePiecesSpec)) takePiecesUptoCard

/-- THE SECOND FORM's CARD OF 'sacristylaw18.TakeAnswers'. -/
def takeAnswersUptoCard : Claim7 := { stood := { row := takeAnswersUptoRow, standIns := [], harness := (true, "f5e111a32e65aadba6ab14150c111df9a558ccc93a3cf9d08f14fddc94d599bc"), looks := false }, kinds := [], alts := [], laidByText := true, laidKinds := [.data, .data, .data, .data, .pinned], laidTests := true, laidLooks := .later }
def TakeAnswersUptoCardSaid : Prop := Claim7.holds Tryz.pinned (.plain (OpenSpec.upto takeAnswersSpec)) takeAnswersUptoCard

/-- THE SECOND FORM's CARD OF 'sacristylaw18.TakeWrong'. -/
def takeWrongUptoCard : Claim7 := { stood := { row := takeWrongUptoRow, standIns := [], harness := (true, "f5e111a32e65aadba6ab14150c111df9a558ccc93a3cf9d08f14fddc94d599bc"), looks := false }, kinds := [], alts := [], laidByText := true, laidKinds := [.data, .data, .data, .data, .pinned], laidTests := true, laidLooks := .later }
def TakeWrongUptoCardSaid : Prop := Claim7.holds Tryz.pinned (.plain (OpenSpec.upto takeWrongSpec)) takeWrongUptoCard

/-- THE SECOND FORM's CARD OF 'sacristylaw18.TakeGreets'. -/
def takeGreetsUptoCard : Claim7 := { stood := { row := takeGreetsUptoRow, standIns := [], harness := (true, "f5e111a32e65aadba6ab14150c111df9a558ccc93a3cf9d08f14fddc94d599bc"), looks := false }, kinds := [], alts := [], laidByText := true, laidKinds := [.data, .data, .data, .data, .pinned], laidTests := true, laidLooks := .later }
def TakeGreetsUptoCardSaid : Prop := Claim7.holds Tryz.pinned (.plain (OpenSpec.upto takeGreetsSpec)) takeGreetsUptoCard
end Rows
end Go.Proofs.YtemkgdpfkbpnpaaGreatDoor
