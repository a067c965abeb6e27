/-
  DERIVED. GIVEN WITH THE SEED: THE CARDS: each row of YtaadhjpcdnbbeaaDoorRows.lean that lists a variable, with what it lists TIED to the program's text (the seventh form; the later family's looks); each row that meets fmt, with fmt's text TOLD by the authors' own Lean function (tested against real Go, not proved from fmt's source: count such statements apart). THE CARD IS WHAT COUNTS. Prove the row's statement (the work); the ties are given (YtaadhjpcdnbbeaaDoorTie.lean); close each card by the builder's one call (the guide's Derived/Test/ToyasCard.lean, 'card_holds'). Laid BY PROGRAM, IN A SANDBOX (cutbox-door.mjs). By AI agents, Wed Nov 11 2026. No macro, syntax, notation, axiom, sorry.
-/
import Derived.Test.YtaadhjpcdnbbeaaDoorRows
import GoSem.ClaimSeven
namespace Go.Proofs.YtaadhjpcdnbbeaaDoor
namespace Rows

/-- THE TIED CARD OF 'sacristylaw17.ServeWrong'. -/
def serveWrongCard : Claim7 := { stood := { row := serveWrongRow, standIns := [], harness := (true, "ffa4bf2708fb2aef6e642150f5f39c6df9b130cc644453a4a32ea8ac099416ca"), looks := false }, kinds := [], alts := [], laidByText := true, laidKinds := [.data, .data, .data, .data, .pinned], laidTests := true, laidLooks := .later }
def ServeWrongCardSaid : Prop := Claim7.holds Tryd.pinned (.plain (OpenSpec.ofChange serveWrongSpec)) serveWrongCard

/-- THE SECOND FORM's CARD OF 'sacristylaw17.ServeWrong'. -/
def serveWrongUptoCard : Claim7 := { stood := { row := serveWrongUptoRow, standIns := [], harness := (true, "ffa4bf2708fb2aef6e642150f5f39c6df9b130cc644453a4a32ea8ac099416ca"), looks := false }, kinds := [], alts := [], laidByText := true, laidKinds := [.data, .data, .data, .data, .pinned], laidTests := true, laidLooks := .later }
def ServeWrongUptoCardSaid : Prop := Claim7.holds Tryd.pinned (.plain (OpenSpec.upto serveWrongSpec)) serveWrongUptoCard
end Rows
end Go.Proofs.YtaadhjpcdnbbeaaDoor
