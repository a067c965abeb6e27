/-
  DERIVED. GIVEN WITH THE SEED: THE CARDS: each row of YtmmionafcmnfoaaDoorRows.lean that lists a variable, with what it lists TIED to the program's text (the seventh form; the later family's looks); each row that meets fmt, with fmt's text TOLD by the authors' own Lean function (tested against real Go, not proved from fmt's source: count such statements apart). THE CARD IS WHAT COUNTS. Prove the row's statement (the work); the ties are given (YtmmionafcmnfoaaDoorTie.lean); close each card by the builder's one call (the guide's Derived/Test/ToyasCard.lean, 'card_holds'). Laid BY PROGRAM, IN A SANDBOX (cutbox-door.mjs). By AI agents, Wed Nov 11 2026. No macro, syntax, notation, axiom, sorry.
-/
import Derived.Test.YtmmionafcmnfoaaDoorRows
import GoSem.ClaimSeven
namespace Go.Proofs.YtmmionafcmnfoaaDoor
namespace Rows

/-- THE TIED CARD OF 'sacristylaw16.HelloTells'. -/
def helloTellsCard : Claim7 := { stood := { row := helloTellsRow, standIns := [], harness := (true, "aa0f5445963e026dce5fa6ccfca3f5b7c4b10ad0643cd8c704aac970f7c84c65"), looks := false }, kinds := [], alts := [], laidByText := true, laidKinds := [.data, .pinned], laidTests := true, laidLooks := .later }
def HelloTellsCardSaid : Prop := Claim7.holds Tryd.pinned (.plain (OpenSpec.ofChange helloTellsSpec)) helloTellsCard

/-- THE TIED CARD OF 'sacristylaw16.HelloBack'. -/
def helloBackCard : Claim7 := { stood := { row := helloBackRow, standIns := [], harness := (true, "aa0f5445963e026dce5fa6ccfca3f5b7c4b10ad0643cd8c704aac970f7c84c65"), looks := false }, kinds := [], alts := [], laidByText := true, laidKinds := [.data, .pinned], laidTests := true, laidLooks := .later }
def HelloBackCardSaid : Prop := Claim7.holds Tryd.pinned (.plain (OpenSpec.ofChange helloBackSpec)) helloBackCard

/-- THE TIED CARD OF 'sacristylaw16.HelloWhole'. -/
def helloWholeCard : Claim7 := { stood := { row := helloWholeRow, standIns := [], harness := (true, "aa0f5445963e026dce5fa6ccfca3f5b7c4b10ad0643cd8c704aac970f7c84c65"), looks := false }, kinds := [], alts := [], laidByText := true, laidKinds := [.data, .pinned], laidTests := true, laidLooks := .later }
def HelloWholeCardSaid : Prop := Claim7.holds Tryd.pinned (.plain (OpenSpec.ofChange helloWholeSpec)) helloWholeCard

/-- THE TIED CARD OF 'sacristylaw16.HelloHeads'. -/
def helloHeadsCard : Claim7 := { stood := { row := helloHeadsRow, standIns := [], harness := (true, "aa0f5445963e026dce5fa6ccfca3f5b7c4b10ad0643cd8c704aac970f7c84c65"), looks := false }, kinds := [], alts := [], laidByText := true, laidKinds := [.data, .pinned], laidTests := true, laidLooks := .later }
def HelloHeadsCardSaid : Prop := Claim7.holds Tryd.pinned (.plain (OpenSpec.ofChange helloHeadsSpec)) helloHeadsCard

/-- THE TIED CARD OF 'sacristylaw16.HelloFits'. -/
def helloFitsCard : Claim7 := { stood := { row := helloFitsRow, standIns := [], harness := (true, "aa0f5445963e026dce5fa6ccfca3f5b7c4b10ad0643cd8c704aac970f7c84c65"), looks := false }, kinds := [], alts := [], laidByText := true, laidKinds := [.data, .pinned], laidTests := true, laidLooks := .later }
def HelloFitsCardSaid : Prop := Claim7.holds Tryd.pinned (.plain (OpenSpec.ofChange helloFitsSpec)) helloFitsCard

/-- THE SECOND FORM's CARD OF 'sacristylaw16.HelloTells'. -/
def helloTellsUptoCard : Claim7 := { stood := { row := helloTellsUptoRow, standIns := [], harness := (true, "aa0f5445963e026dce5fa6ccfca3f5b7c4b10ad0643cd8c704aac970f7c84c65"), looks := false }, kinds := [], alts := [], laidByText := true, laidKinds := [.data, .pinned], laidTests := true, laidLooks := .later }
def HelloTellsUptoCardSaid : Prop := Claim7.holds Tryd.pinned (.plain (OpenSpec.upto helloTellsSpec)) helloTellsUptoCard

/-- THE SECOND FORM's CARD OF 'sacristylaw16.HelloBack'. -/
def helloBackUptoCard : Claim7 := { stood := { row := helloBackUptoRow, standIns := [], harness := (true, "aa0f5445963e026dce5fa6ccfca3f5b7c4b10ad0643cd8c704aac970f7c84c65"), looks := false }, kinds := [], alts := [], laidByText := true, laidKinds := [.data, .pinned], laidTests := true, laidLooks := .later }
def HelloBackUptoCardSaid : Prop := Claim7.holds Tryd.pinned (.plain (OpenSpec.upto helloBackSpec)) helloBackUptoCard

/-- THE SECOND FORM's CARD OF 'sacristylaw16.HelloWhole'. -/
def helloWholeUptoCard : Claim7 := { stood := { row := helloWholeUptoRow, standIns := [], harness := (true, "aa0f5445963e026dce5fa6ccfca3f5b7c4b10ad0643cd8c704aac970f7c84c65"), looks := false }, kinds := [], alts := [], laidByText := true, laidKinds := [.data, .pinned], laidTests := true, laidLooks := .later }
def HelloWholeUptoCardSaid : Prop := Claim7.holds Tryd.pinned (.plain (OpenSpec.upto helloWholeSpec)) helloWholeUptoCard

/-- THE SECOND FORM's CARD OF 'sacristylaw16.HelloHeads'. -/
def helloHeadsUptoCard : Claim7 := { stood := { row := helloHeadsUptoRow, standIns := [], harness := (true, "aa0f5445963e026dce5fa6ccfca3f5b7c4b10ad0643cd8c704aac970f7c84c65"), looks := false }, kinds := [], alts := [], laidByText := true, laidKinds := [.data, .pinned], laidTests := true, laidLooks := .later }
def HelloHeadsUptoCardSaid : Prop := Claim7.holds Tryd.pinned (.plain (OpenSpec.upto helloHeadsSpec)) helloHeadsUptoCard

/-- THE SECOND FORM's CARD OF 'sacristylaw16.HelloFits'. -/
def helloFitsUptoCard : Claim7 := { stood := { row := helloFitsUptoRow, standIns := [], harness := (true, "aa0f5445963e026dce5fa6ccfca3f5b7c4b10ad0643cd8c704aac970f7c84c65"), looks := false }, kinds := [], alts := [], laidByText := true, laidKinds := [.data, .pinned], laidTests := true, laidLooks := .later }
def HelloFitsUptoCardSaid : Prop := Claim7.holds Tryd.pinned (.plain (OpenSpec.upto helloFitsSpec)) helloFitsUptoCard
end Rows
end Go.Proofs.YtmmionafcmnfoaaDoor
