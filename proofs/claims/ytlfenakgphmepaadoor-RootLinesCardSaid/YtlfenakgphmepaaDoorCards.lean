/-
  DERIVED. GIVEN WITH THE SEED: THE CARDS: each row of YtlfenakgphmepaaDoorRows.lean that lists a variable, with what it lists TIED to the program's text (the seventh form; the later family's looks); each row that meets fmt, with fmt's text TOLD by the authors' own Lean function (tested against real Go, not proved from fmt's source: count such statements apart). THE CARD IS WHAT COUNTS. Prove the row's statement (the work); the ties are given (YtlfenakgphmepaaDoorTie.lean); close each card by the builder's one call (the guide's Derived/Test/ToyasCard.lean, 'card_holds'). Laid BY PROGRAM, IN A SANDBOX (cutbox-door.mjs). By AI agents, Wed Nov 11 2026. No macro, syntax, notation, axiom, sorry.
-/
import Derived.Test.YtlfenakgphmepaaDoorRows
import GoSem.ClaimSeven
namespace Go.Proofs.YtlfenakgphmepaaDoor
namespace Rows

/-- THE TIED CARD OF 'sacristylaw10.RootBack'. -/
def rootBackCard : Claim7 := { stood := { row := rootBackRow, standIns := [], harness := (true, "d4d9c08d40b983332ad15210d3b8e1aadaf604dc8762445fc9ba714d1cfdd239"), looks := true }, kinds := [], alts := [], laidByText := true, laidKinds := [.data, .data, .data, .data, .pinned], laidTests := true, laidLooks := .later }
def RootBackCardSaid : Prop := Claim7.holds Tryd.pinned (.plain (OpenSpec.ofChange rootBackSpec)) rootBackCard

/-- THE TIED CARD OF 'sacristylaw10.RootCut'. -/
def rootCutCard : Claim7 := { stood := { row := rootCutRow, standIns := [], harness := (true, "d4d9c08d40b983332ad15210d3b8e1aadaf604dc8762445fc9ba714d1cfdd239"), looks := true }, kinds := [], alts := [], laidByText := true, laidKinds := [.data, .data, .data, .data, .pinned], laidTests := true, laidLooks := .later }
def RootCutCardSaid : Prop := Claim7.holds Tryd.pinned (.plain (OpenSpec.ofChange rootCutSpec)) rootCutCard

/-- THE TIED CARD OF 'sacristylaw10.RootForks'. -/
def rootForksCard : Claim7 := { stood := { row := rootForksRow, standIns := [], harness := (true, "d4d9c08d40b983332ad15210d3b8e1aadaf604dc8762445fc9ba714d1cfdd239"), looks := true }, kinds := [], alts := [], laidByText := true, laidKinds := [.data, .data, .data, .data, .pinned], laidTests := true, laidLooks := .later }
def RootForksCardSaid : Prop := Claim7.holds Tryd.pinned (.plain (OpenSpec.ofChange rootForksSpec)) rootForksCard

/-- THE TIED CARD OF 'sacristylaw10.RootLines'. -/
def rootLinesCard : Claim7 := { stood := { row := rootLinesRow, standIns := [], harness := (true, "d4d9c08d40b983332ad15210d3b8e1aadaf604dc8762445fc9ba714d1cfdd239"), looks := true }, kinds := [], alts := [], laidByText := true, laidKinds := [.data, .data, .data, .data, .pinned], laidTests := true, laidLooks := .later }
def RootLinesCardSaid : Prop := Claim7.holds Tryd.pinned (.plain (OpenSpec.ofChange rootLinesSpec)) rootLinesCard

/-- THE TIED CARD OF 'sacristylaw10.RootNames'. -/
def rootNamesCard : Claim7 := { stood := { row := rootNamesRow, standIns := [], harness := (true, "d4d9c08d40b983332ad15210d3b8e1aadaf604dc8762445fc9ba714d1cfdd239"), looks := true }, kinds := [], alts := [], laidByText := true, laidKinds := [.data, .data, .data, .data, .pinned], laidTests := true, laidLooks := .later }
def RootNamesCardSaid : Prop := Claim7.holds Tryd.pinned (.plain (OpenSpec.ofChange rootNamesSpec)) rootNamesCard

/-- THE SECOND FORM's CARD OF 'sacristylaw10.RootBack'. -/
def rootBackUptoCard : Claim7 := { stood := { row := rootBackUptoRow, standIns := [], harness := (true, "d4d9c08d40b983332ad15210d3b8e1aadaf604dc8762445fc9ba714d1cfdd239"), looks := true }, kinds := [], alts := [], laidByText := true, laidKinds := [.data, .data, .data, .data, .pinned], laidTests := true, laidLooks := .later }
def RootBackUptoCardSaid : Prop := Claim7.holds Tryd.pinned (.plain (OpenSpec.upto rootBackSpec)) rootBackUptoCard

/-- THE SECOND FORM's CARD OF 'sacristylaw10.RootCut'. -/
def rootCutUptoCard : Claim7 := { stood := { row := rootCutUptoRow, standIns := [], harness := (true, "d4d9c08d40b983332ad15210d3b8e1aadaf604dc8762445fc9ba714d1cfdd239"), looks := true }, kinds := [], alts := [], laidByText := true, laidKinds := [.data, .data, .data, .data, .pinned], laidTests := true, laidLooks := .later }
def RootCutUptoCardSaid : Prop := Claim7.holds Tryd.pinned (.plain (OpenSpec.upto rootCutSpec)) rootCutUptoCard

/-- THE SECOND FORM's CARD OF 'sacristylaw10.RootForks'. -/
def rootForksUptoCard : Claim7 := { stood := { row := rootForksUptoRow, standIns := [], harness := (true, "d4d9c08d40b983332ad15210d3b8e1aadaf604dc8762445fc9ba714d1cfdd239"), looks := true }, kinds := [], alts := [], laidByText := true, laidKinds := [.data, .data, .data, .data, .pinned], laidTests := true, laidLooks := .later }
def RootForksUptoCardSaid : Prop := Claim7.holds Tryd.pinned (.plain (OpenSpec.upto rootForksSpec)) rootForksUptoCard

/-- THE SECOND FORM's CARD OF 'sacristylaw10.RootLines'. -/
def rootLinesUptoCard : Claim7 := { stood := { row := rootLinesUptoRow, standIns := [], harness := (true, "d4d9c08d40b983332ad15210d3b8e1aadaf604dc8762445fc9ba714d1cfdd239"), looks := true }, kinds := [], alts := [], laidByText := true, laidKinds := [.data, .data, .data, .data, .pinned], laidTests := true, laidLooks := .later }
def RootLinesUptoCardSaid : Prop := Claim7.holds Tryd.pinned (.plain (OpenSpec.upto rootLinesSpec)) rootLinesUptoCard

/-- THE SECOND FORM's CARD OF 'sacristylaw10.RootNames'. -/
def rootNamesUptoCard : Claim7 := { stood := { row := rootNamesUptoRow, standIns := [], harness := (true, "d4d9c08d40b983332ad15210d3b8e1aadaf604dc8762445fc9ba714d1cfdd239"), looks := true }, kinds := [], alts := [], laidByText := true, laidKinds := [.data, .data, .data, .data, .pinned], laidTests := true, laidLooks := .later }
def RootNamesUptoCardSaid : Prop := Claim7.holds Tryd.pinned (.plain (OpenSpec.upto rootNamesSpec)) rootNamesUptoCard
end Rows
end Go.Proofs.YtlfenakgphmepaaDoor
