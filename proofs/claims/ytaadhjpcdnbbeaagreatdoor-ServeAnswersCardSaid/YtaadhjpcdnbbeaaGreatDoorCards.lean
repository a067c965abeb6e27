/-
  DERIVED. GIVEN WITH THE SEED: THE CARDS: each row of YtaadhjpcdnbbeaaGreatDoorRows.lean that lists a variable, with what it lists TIED to the program's text (the seventh form; the later family's looks); each row that meets fmt, with fmt's text TOLD by the authors' own Lean function (tested against real Go, not proved from fmt's source: count such statements apart). THE CARD IS WHAT COUNTS. Prove the row's statement (the work); the ties are given (YtaadhjpcdnbbeaaGreatDoorTie.lean); close each card by the builder's one call (the guide's Derived/Test/ToyasCard.lean, 'card_holds'). Laid BY PROGRAM, IN A SANDBOX (cutbox-door.mjs). By AI agents, Wed Nov 11 2026. No macro, syntax, notation, axiom, sorry.
-/
import Derived.Test.YtaadhjpcdnbbeaaGreatDoorRows
import GoSem.ClaimSeven
namespace Go.Proofs.YtaadhjpcdnbbeaaGreatDoor
namespace Rows

/-- THE TIED CARD OF 'sacristylaw17.ServePieces'. -/
def servePiecesCard : Claim7 := { stood := { row := servePiecesRow, standIns := [], harness := (true, "2dd6ff584dccd7da22c1096bc41adf1605983106edba166f96faf0c00d97f216"), looks := false }, kinds := [], alts := [], laidByText := true, laidKinds := [.data, .data, .data, .data, .pinned], laidTests := true, laidLooks := .later }
def ServePiecesCardSaid : Prop := Claim7.holds Tryz.pinned (.plain (OpenSpec.ofChange servePiecesSpec)) servePiecesCard

/-- THE TIED CARD OF 'sacristylaw17.ServeAnswers'. -/
def serveAnswersCard : Claim7 := { stood := { row := serveAnswersRow, standIns := [], harness := (true, "2dd6ff584dccd7da22c1096bc41adf1605983106edba166f96faf0c00d97f216"), looks := false }, kinds := [], alts := [], laidByText := true, laidKinds := [.data, .data, .data, .data, .pinned], laidTests := true, laidLooks := .later }
def ServeAnswersCardSaid : Prop := Claim7.holds Tryz.pinned (.plain (OpenSpec.ofChange serveAnswersSpec)) serveAnswersCard

/-- THE TIED CARD OF 'sacristylaw17.ServeGreets'. -/
def serveGreetsCard : Claim7 := { stood := { row := serveGreetsRow, standIns := [], harness := (true, "2dd6ff584dccd7da22c1096bc41adf1605983106edba166f96faf0c00d97f216"), looks := false }, kinds := [], alts := [], laidByText := true, laidKinds := [.data, .data, .data, .data, .pinned], laidTests := true, laidLooks := .later }
def ServeGreetsCardSaid : Prop := Claim7.holds Tryz.pinned (.plain (OpenSpec.ofChange serveGreetsSpec)) serveGreetsCard

/-- THE SECOND FORM's CARD OF 'sacristylaw17.ServePieces'. -/
def servePiecesUptoCard : Claim7 := { stood := { row := servePiecesUptoRow, standIns := [], harness := (true, "2dd6ff584dccd7da22c1096bc41adf1605983106edba166f96faf0c00d97f216"), looks := false }, kinds := [], alts := [], laidByText := true, laidKinds := [.data, .data, .data, .data, .pinned], laidTests := true, laidLooks := .later }
def ServePiecesUptoCardSaid : Prop := Claim7.holds Tryz.pinned (.plain (OpenSpec.upto servePiecesSpec)) servePiecesUptoCard

/-- THE SECOND FORM's CARD OF 'sacristylaw17.ServeAnswers'. -/
def serveAnswersUptoCard : Claim7 := { stood := { row := serveAnswersUptoRow, standIns := [], harness := (true, "2dd6ff584dccd7da22c1096bc41adf1605983106edba166f96faf0c00d97f216"), looks := false }, kinds := [], alts := [], laidByText := true, laidKinds := [.data, .data, .data, .data, .pinned], laidTests := true, laidLooks := .later }
def ServeAnswersUptoCardSaid : Prop := Claim7.holds Tryz.pinned (.plain (OpenSpec.upto serveAnswersSpec)) serveAnswersUptoCard

/-- THE SECOND FORM's CARD OF 'sacristylaw17.ServeGreets'. -/
def serveGreetsUptoCard : Claim7 := { stood := { row := serveGreetsUptoRow, standIns := [], harness := (true, "2dd6ff584dccd7da22c1096bc41adf1605983106edba166f96faf0c00d97f216"), looks := false }, kinds := [], alts := [], laidByText := true, laidKinds := [.data, .data, .data, .data, .pinned], laidTests := true, laidLooks := .later }
def ServeGreetsUptoCardSaid : Prop := Claim7.holds Tryz.pinned (.plain (OpenSpec.upto serveGreetsSpec)) serveGreetsUptoCard
end Rows
end Go.Proofs.YtaadhjpcdnbbeaaGreatDoor
