/-
  No cell of these rows narrows 'for every input' (looked for: loops, veiled, ifaces, maps, wideKeys, modest, calm, conditions, laid).
  DERIVED. THE GIVEN ROWS OF THIS SEAT. 6 by the template 'for every input the law returns true; each argument reads behind the call as it read before'; 0 by the template 'total and deterministic' (their statements: YtigcmhidbekgbaaTotals.lean).
  GIVEN WITH THE SEED: the statements are not yours to turn. If you find one false, say at which input.
  Laid BY PROGRAM, IN A SANDBOX (cutbox-rows.mjs): the forced cells as the released guide's own fill.sh prints them over the translation 853d5577a0f04b61… (all of the seat's roots in one cut). By AI agents, Wed Nov 11 2026. No macro, syntax, notation, axiom, sorry.
-/
import Derived.Test.YtigcmhidbekgbaaChecked
import GoSem.Claim
import GoSem.ClaimJoined
import GoSem.ClaimMapViews
import Derived.JoinedTies
import Derived.KernelRfl
namespace Go.Proofs.Ytigcmhidbekgbaa
/- THE CELL 'sum', in the pinned program and in every row, IS THE sha256 OF THE DUMP (.gsa) THAT YtigcmhidbekgbaaProg.lean LOADS. Nothing in Lean hashes anything: it is a label: what it is worth is what the hold of that sum in a sandbox is worth. -/
noncomputable def Try.pinned : Pinned := { name := "ytigcmhidbekgbaa", sum := "853d5577a0f04b613609a08bdbebf6b9d3a4357fd773fb7045728ebff2891edb", checked := Try.checked }
namespace Rows
def none {H : Type} : Left H := { results := [], args := [] }

/-- 'sacristylaw15.LineTells': WHATEVER THE INPUT: true; the input reads as it did. -/
def lineTellsSpec : ChangeSpec := { name := "lineTells", fn := fun _ => fun
  | [d1, d2] => { results := [.lit (.bool true)], args := [d1, d2] }
  | _ => none }
def lineTellsRow : OpenClaim := { program := "ytigcmhidbekgbaa", sum := "853d5577a0f04b613609a08bdbebf6b9d3a4357fd773fb7045728ebff2891edb", func := "sacristy/sacristylaw15.LineTells", spec := "lineTells", inPlace := ["internal/bytealg.IndexByte"], unfollowed := true, recurses := true, apart := false }
def LineTellsSaid : Prop := lineTellsRow.holds Try.pinned (OpenSpec.ofChange lineTellsSpec)

/-- ITS FALSE NEIGHBOUR: 'it returns false'. Refute it at one input. -/
def lineTellsWrong : ChangeSpec := { name := "lineTells", fn := fun _ => fun
  | [d1, d2] => { results := [.lit (.bool false)], args := [d1, d2] }
  | _ => none }
def LineTellsWrongFalsely : Prop := lineTellsRow.holds Try.pinned (OpenSpec.ofChange lineTellsWrong)

/-- 'sacristylaw15.LineBack': WHATEVER THE INPUT: true; the input reads as it did. -/
def lineBackSpec : ChangeSpec := { name := "lineBack", fn := fun _ => fun
  | [d1, d2] => { results := [.lit (.bool true)], args := [d1, d2] }
  | _ => none }
def lineBackRow : OpenClaim := { program := "ytigcmhidbekgbaa", sum := "853d5577a0f04b613609a08bdbebf6b9d3a4357fd773fb7045728ebff2891edb", func := "sacristy/sacristylaw15.LineBack", spec := "lineBack", inPlace := ["internal/bytealg.IndexByte"], unfollowed := true, recurses := true, apart := false }
def LineBackSaid : Prop := lineBackRow.holds Try.pinned (OpenSpec.ofChange lineBackSpec)

/-- ITS FALSE NEIGHBOUR: 'it returns false'. Refute it at one input. -/
def lineBackWrong : ChangeSpec := { name := "lineBack", fn := fun _ => fun
  | [d1, d2] => { results := [.lit (.bool false)], args := [d1, d2] }
  | _ => none }
def LineBackWrongFalsely : Prop := lineBackRow.holds Try.pinned (OpenSpec.ofChange lineBackWrong)

/-- 'sacristylaw15.LinePieces': WHATEVER THE INPUT: true; the input reads as it did. -/
def linePiecesSpec : ChangeSpec := { name := "linePieces", fn := fun _ => fun
  | [d1, d2] => { results := [.lit (.bool true)], args := [d1, d2] }
  | _ => none }
def linePiecesRow : OpenClaim := { program := "ytigcmhidbekgbaa", sum := "853d5577a0f04b613609a08bdbebf6b9d3a4357fd773fb7045728ebff2891edb", func := "sacristy/sacristylaw15.LinePieces", spec := "linePieces", inPlace := ["internal/bytealg.IndexByte"], unfollowed := true, recurses := true, apart := false }
def LinePiecesSaid : Prop := linePiecesRow.holds Try.pinned (OpenSpec.ofChange linePiecesSpec)

/-- ITS FALSE NEIGHBOUR: 'it returns false'. Refute it at one input. -/
def linePiecesWrong : ChangeSpec := { name := "linePieces", fn := fun _ => fun
  | [d1, d2] => { results := [.lit (.bool false)], args := [d1, d2] }
  | _ => none }
def LinePiecesWrongFalsely : Prop := linePiecesRow.holds Try.pinned (OpenSpec.ofChange linePiecesWrong)

/-- 'sacristylaw15.LineParts': WHATEVER THE INPUT: true; the input reads as it did. -/
def linePartsSpec : ChangeSpec := { name := "lineParts", fn := fun _ => fun
  | [d1, d2] => { results := [.lit (.bool true)], args := [d1, d2] }
  | _ => none }
def linePartsRow : OpenClaim := { program := "ytigcmhidbekgbaa", sum := "853d5577a0f04b613609a08bdbebf6b9d3a4357fd773fb7045728ebff2891edb", func := "sacristy/sacristylaw15.LineParts", spec := "lineParts", inPlace := ["internal/bytealg.IndexByte"], unfollowed := true, recurses := true, apart := false }
def LinePartsSaid : Prop := linePartsRow.holds Try.pinned (OpenSpec.ofChange linePartsSpec)

/-- ITS FALSE NEIGHBOUR: 'it returns false'. Refute it at one input. -/
def linePartsWrong : ChangeSpec := { name := "lineParts", fn := fun _ => fun
  | [d1, d2] => { results := [.lit (.bool false)], args := [d1, d2] }
  | _ => none }
def LinePartsWrongFalsely : Prop := linePartsRow.holds Try.pinned (OpenSpec.ofChange linePartsWrong)

/-- 'sacristylaw15.LineLengths': WHATEVER THE INPUT: true; the input reads as it did. -/
def lineLengthsSpec : ChangeSpec := { name := "lineLengths", fn := fun _ => fun
  | [d1, d2] => { results := [.lit (.bool true)], args := [d1, d2] }
  | _ => none }
def lineLengthsRow : OpenClaim := { program := "ytigcmhidbekgbaa", sum := "853d5577a0f04b613609a08bdbebf6b9d3a4357fd773fb7045728ebff2891edb", func := "sacristy/sacristylaw15.LineLengths", spec := "lineLengths", inPlace := ["internal/bytealg.IndexByte"], unfollowed := true, recurses := true, apart := false }
def LineLengthsSaid : Prop := lineLengthsRow.holds Try.pinned (OpenSpec.ofChange lineLengthsSpec)

/-- ITS FALSE NEIGHBOUR: 'it returns false'. Refute it at one input. -/
def lineLengthsWrong : ChangeSpec := { name := "lineLengths", fn := fun _ => fun
  | [d1, d2] => { results := [.lit (.bool false)], args := [d1, d2] }
  | _ => none }
def LineLengthsWrongFalsely : Prop := lineLengthsRow.holds Try.pinned (OpenSpec.ofChange lineLengthsWrong)

/-- 'sacristylaw15.LineMany': WHATEVER THE INPUT: true; the input reads as it did. -/
def lineManySpec : ChangeSpec := { name := "lineMany", fn := fun _ => fun
  | [d1, d2] => { results := [.lit (.bool true)], args := [d1, d2] }
  | _ => none }
def lineManyRow : OpenClaim := { program := "ytigcmhidbekgbaa", sum := "853d5577a0f04b613609a08bdbebf6b9d3a4357fd773fb7045728ebff2891edb", func := "sacristy/sacristylaw15.LineMany", spec := "lineMany", inPlace := ["internal/bytealg.IndexByte"], unfollowed := true, recurses := true, apart := false }
def LineManySaid : Prop := lineManyRow.holds Try.pinned (OpenSpec.ofChange lineManySpec)

/-- ITS FALSE NEIGHBOUR: 'it returns false'. Refute it at one input. -/
def lineManyWrong : ChangeSpec := { name := "lineMany", fn := fun _ => fun
  | [d1, d2] => { results := [.lit (.bool false)], args := [d1, d2] }
  | _ => none }
def LineManyWrongFalsely : Prop := lineManyRow.holds Try.pinned (OpenSpec.ofChange lineManyWrong)

/- THE SECOND FORM. 'bulk': how many values and letters a reading holds, each counted each time it is reached (what is shared counts as often as it is met; a slice's spare places count too). A statement '..UptoSaid' is the law's where the arguments, and the package variables that the reading takes, are together of bulk at most 1048576: NARROWER than '..Said'. Prove '..Said' where nothing that the law and all that it calls make is longer than what came in: it says more and counts as full. Else prove '..UptoSaid'. A law counts once. -/
mutual
def uptoBulk {H : Type} : DataW H → Nat
  | .lit (.string bytes) => bytes.length + 1
  | .lit _ => 1
  | .nil => 1
  | .ptr d => uptoBulk d + 1
  | .slice elems spare => uptoBulkAll elems + uptoBulkAll spare + 1
  | .agg parts => uptoBulkAll parts + 1
  | .iface _ d => uptoBulk d + 1
  | .map entries => uptoBulkEntries entries + 1
  | .held _ => 1
def uptoBulkAll {H : Type} : List (DataW H) → Nat
  | [] => 0
  | d :: r => uptoBulk d + uptoBulkAll r
def uptoBulkEntries {H : Type} : List (Lit × DataW H) → Nat
  | [] => 0
  | x :: r => uptoBulkEntry x + uptoBulkEntries r
def uptoBulkEntry {H : Type} : Lit × DataW H → Nat
  | (.string bytes, d) => bytes.length + uptoBulk d + 1
  | (_, d) => uptoBulk d + 1
 end
def uptoSmall : (H : Type) → List (DataW H) → Bool := fun _ ds => decide (uptoBulkAll ds ≤ 1048576)
def OpenSpec.upto (s : _root_.Go.ChangeSpec) : _root_.Go.OpenSpec := { _root_.Go.OpenSpec.ofChange s with cond := some uptoSmall }

/-- 'sacristylaw15.LineTells', WHERE WHAT IT READS IS OF BULK AT MOST 1048576: true; the input reads as it did. -/
def lineTellsUptoRow : OpenClaim := { program := "ytigcmhidbekgbaa", sum := "853d5577a0f04b613609a08bdbebf6b9d3a4357fd773fb7045728ebff2891edb", func := "sacristy/sacristylaw15.LineTells", spec := "lineTells", inPlace := ["internal/bytealg.IndexByte"], unfollowed := true, recurses := true, apart := false, narrowed := true }
def LineTellsUptoSaid : Prop := lineTellsUptoRow.holds Try.pinned (OpenSpec.upto lineTellsSpec)

/-- 'sacristylaw15.LineBack', WHERE WHAT IT READS IS OF BULK AT MOST 1048576: true; the input reads as it did. -/
def lineBackUptoRow : OpenClaim := { program := "ytigcmhidbekgbaa", sum := "853d5577a0f04b613609a08bdbebf6b9d3a4357fd773fb7045728ebff2891edb", func := "sacristy/sacristylaw15.LineBack", spec := "lineBack", inPlace := ["internal/bytealg.IndexByte"], unfollowed := true, recurses := true, apart := false, narrowed := true }
def LineBackUptoSaid : Prop := lineBackUptoRow.holds Try.pinned (OpenSpec.upto lineBackSpec)

/-- 'sacristylaw15.LinePieces', WHERE WHAT IT READS IS OF BULK AT MOST 1048576: true; the input reads as it did. -/
def linePiecesUptoRow : OpenClaim := { program := "ytigcmhidbekgbaa", sum := "853d5577a0f04b613609a08bdbebf6b9d3a4357fd773fb7045728ebff2891edb", func := "sacristy/sacristylaw15.LinePieces", spec := "linePieces", inPlace := ["internal/bytealg.IndexByte"], unfollowed := true, recurses := true, apart := false, narrowed := true }
def LinePiecesUptoSaid : Prop := linePiecesUptoRow.holds Try.pinned (OpenSpec.upto linePiecesSpec)

/-- 'sacristylaw15.LineParts', WHERE WHAT IT READS IS OF BULK AT MOST 1048576: true; the input reads as it did. -/
def linePartsUptoRow : OpenClaim := { program := "ytigcmhidbekgbaa", sum := "853d5577a0f04b613609a08bdbebf6b9d3a4357fd773fb7045728ebff2891edb", func := "sacristy/sacristylaw15.LineParts", spec := "lineParts", inPlace := ["internal/bytealg.IndexByte"], unfollowed := true, recurses := true, apart := false, narrowed := true }
def LinePartsUptoSaid : Prop := linePartsUptoRow.holds Try.pinned (OpenSpec.upto linePartsSpec)

/-- 'sacristylaw15.LineLengths', WHERE WHAT IT READS IS OF BULK AT MOST 1048576: true; the input reads as it did. -/
def lineLengthsUptoRow : OpenClaim := { program := "ytigcmhidbekgbaa", sum := "853d5577a0f04b613609a08bdbebf6b9d3a4357fd773fb7045728ebff2891edb", func := "sacristy/sacristylaw15.LineLengths", spec := "lineLengths", inPlace := ["internal/bytealg.IndexByte"], unfollowed := true, recurses := true, apart := false, narrowed := true }
def LineLengthsUptoSaid : Prop := lineLengthsUptoRow.holds Try.pinned (OpenSpec.upto lineLengthsSpec)

/-- 'sacristylaw15.LineMany', WHERE WHAT IT READS IS OF BULK AT MOST 1048576: true; the input reads as it did. -/
def lineManyUptoRow : OpenClaim := { program := "ytigcmhidbekgbaa", sum := "853d5577a0f04b613609a08bdbebf6b9d3a4357fd773fb7045728ebff2891edb", func := "sacristy/sacristylaw15.LineMany", spec := "lineMany", inPlace := ["internal/bytealg.IndexByte"], unfollowed := true, recurses := true, apart := false, narrowed := true }
def LineManyUptoSaid : Prop := lineManyUptoRow.holds Try.pinned (OpenSpec.upto lineManySpec)

end Rows
end Go.Proofs.Ytigcmhidbekgbaa
