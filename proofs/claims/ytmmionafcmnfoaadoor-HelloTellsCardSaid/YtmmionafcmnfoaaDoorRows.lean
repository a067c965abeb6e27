/-
  NARROWER THAN 'FOR EVERY INPUT', by the rows' own cells (each row's printed sentence says how): HelloTells: laid · HelloBack: laid · HelloWhole: laid · HelloHeads: laid · HelloFits: laid.
  DERIVED. THE GIVEN ROWS OF THIS SEAT. 5 by the template 'for every input the law returns true; each argument reads behind the call as it read before'; 0 by the template 'total and deterministic' (their statements: YtmmionafcmnfoaaDoorTotals.lean).
  GIVEN WITH THE SEED: the statements are not yours to turn. If you find one false, say at which input.
  Laid BY PROGRAM, IN A SANDBOX (cutbox-rows.mjs): the forced cells as the released guide's own fill.sh prints them over the translation 96e8c14b78e06ae3… (all of the seat's roots in one cut). By AI agents, Wed Nov 11 2026. No macro, syntax, notation, axiom, sorry.
-/
import Derived.Test.YtmmionafcmnfoaaDoorChecked
import GoSem.PinnedTables
import GoSem.Claim
import GoSem.ClaimJoined
import GoSem.ClaimMapViews
import Derived.JoinedTies
import Derived.KernelRfl
namespace Go.Proofs.YtmmionafcmnfoaaDoor
/- THE CELL 'sum', in the pinned program and in every row, IS THE sha256 OF THE DUMP (.gsa) THAT YtmmionafcmnfoaaDoorProg.lean LOADS. Nothing in Lean hashes anything: it is a label: what it is worth is what the hold of that sum in a sandbox is worth. -/
noncomputable def Tryd.pinned : Pinned := { name := "ytmmionafcmnfoaadoor", sum := "96e8c14b78e06ae3f736a4ba4a96b58507aceacf8687b0499bc7d852f2e92fb0", checked := Tryd.checked }
namespace Rows
def none {H : Type} : Left H := { results := [], args := [] }

/- WHAT THE LISTED PACKAGE-LEVEL VARIABLES READ AS WHEN THE CALL BEGINS. Each datum BY PROGRAM (the guide's laid-datum.mjs) off the statement by which the dump's own 'gosem.cut.vars' lays the variable. In a bare row this is a premise. The card (YtmmionafcmnfoaaDoorCards.lean) ties it to the program's text. -/
def laid_unicode_utf8_acceptRanges {H : Type} : DataW H := .agg [.agg [.lit (.int .u8 128), .lit (.int .u8 191)], .agg [.lit (.int .u8 160), .lit (.int .u8 191)], .agg [.lit (.int .u8 128), .lit (.int .u8 159)], .agg [.lit (.int .u8 144), .lit (.int .u8 191)], .agg [.lit (.int .u8 128), .lit (.int .u8 143)], .agg [.lit (.int .u8 0), .lit (.int .u8 0)], .agg [.lit (.int .u8 0), .lit (.int .u8 0)], .agg [.lit (.int .u8 0), .lit (.int .u8 0)], .agg [.lit (.int .u8 0), .lit (.int .u8 0)], .agg [.lit (.int .u8 0), .lit (.int .u8 0)], .agg [.lit (.int .u8 0), .lit (.int .u8 0)], .agg [.lit (.int .u8 0), .lit (.int .u8 0)], .agg [.lit (.int .u8 0), .lit (.int .u8 0)], .agg [.lit (.int .u8 0), .lit (.int .u8 0)], .agg [.lit (.int .u8 0), .lit (.int .u8 0)], .agg [.lit (.int .u8 0), .lit (.int .u8 0)]]
/-- One of Go's own tables, pinned by name: the form's constant. -/
def laid_unicode_utf8_first : DataW Unit := Go.Pinned.utf8First

/-- 'sacristylaw16.HelloTells': WHATEVER THE INPUT: true; the input reads as it did. -/
def helloTellsSpec : ChangeSpec := { name := "helloTells", fn := fun _ => fun
  | [d1, d2, d3, d4, d5] => { results := [.lit (.bool true)], args := [d1, d2, d3, d4, d5] }
  | _ => none }
def helloTellsRow : OpenClaim := { program := "ytmmionafcmnfoaadoor", sum := "96e8c14b78e06ae3f736a4ba4a96b58507aceacf8687b0499bc7d852f2e92fb0", func := "sacristy/sacristylaw16.HelloTells", spec := "helloTells", inPlace := ["internal/bytealg.CountString", "internal/bytealg.IndexByteString", "internal/bytealg.IndexString"], unfollowed := true, recurses := true, named := ["unicode/utf8.first", "unicode/utf8.acceptRanges", "internal/bytealg.MaxLen"], apart := false, laid := [("unicode/utf8.acceptRanges", laid_unicode_utf8_acceptRanges), ("unicode/utf8.first", laid_unicode_utf8_first)] }
def HelloTellsSaid : Prop := helloTellsRow.holds Tryd.pinned (OpenSpec.ofChange helloTellsSpec)

/-- ITS FALSE NEIGHBOUR: 'it returns false'. Refute it at one input. -/
def helloTellsWrong : ChangeSpec := { name := "helloTells", fn := fun _ => fun
  | [d1, d2, d3, d4, d5] => { results := [.lit (.bool false)], args := [d1, d2, d3, d4, d5] }
  | _ => none }
def HelloTellsWrongFalsely : Prop := helloTellsRow.holds Tryd.pinned (OpenSpec.ofChange helloTellsWrong)

/-- 'sacristylaw16.HelloBack': WHATEVER THE INPUT: true; the input reads as it did. -/
def helloBackSpec : ChangeSpec := { name := "helloBack", fn := fun _ => fun
  | [d1, d2, d3, d4, d5] => { results := [.lit (.bool true)], args := [d1, d2, d3, d4, d5] }
  | _ => none }
def helloBackRow : OpenClaim := { program := "ytmmionafcmnfoaadoor", sum := "96e8c14b78e06ae3f736a4ba4a96b58507aceacf8687b0499bc7d852f2e92fb0", func := "sacristy/sacristylaw16.HelloBack", spec := "helloBack", inPlace := ["internal/bytealg.CountString", "internal/bytealg.IndexByteString", "internal/bytealg.IndexString"], unfollowed := true, recurses := true, named := ["unicode/utf8.first", "unicode/utf8.acceptRanges", "internal/bytealg.MaxLen"], apart := false, laid := [("unicode/utf8.acceptRanges", laid_unicode_utf8_acceptRanges), ("unicode/utf8.first", laid_unicode_utf8_first)] }
def HelloBackSaid : Prop := helloBackRow.holds Tryd.pinned (OpenSpec.ofChange helloBackSpec)

/-- ITS FALSE NEIGHBOUR: 'it returns false'. Refute it at one input. -/
def helloBackWrong : ChangeSpec := { name := "helloBack", fn := fun _ => fun
  | [d1, d2, d3, d4, d5] => { results := [.lit (.bool false)], args := [d1, d2, d3, d4, d5] }
  | _ => none }
def HelloBackWrongFalsely : Prop := helloBackRow.holds Tryd.pinned (OpenSpec.ofChange helloBackWrong)

/-- 'sacristylaw16.HelloWhole': WHATEVER THE INPUT: true; the input reads as it did. -/
def helloWholeSpec : ChangeSpec := { name := "helloWhole", fn := fun _ => fun
  | [d1, d2, d3, d4, d5] => { results := [.lit (.bool true)], args := [d1, d2, d3, d4, d5] }
  | _ => none }
def helloWholeRow : OpenClaim := { program := "ytmmionafcmnfoaadoor", sum := "96e8c14b78e06ae3f736a4ba4a96b58507aceacf8687b0499bc7d852f2e92fb0", func := "sacristy/sacristylaw16.HelloWhole", spec := "helloWhole", inPlace := ["internal/bytealg.CountString", "internal/bytealg.IndexByteString", "internal/bytealg.IndexString"], unfollowed := true, recurses := true, named := ["unicode/utf8.first", "unicode/utf8.acceptRanges", "internal/bytealg.MaxLen"], apart := false, laid := [("unicode/utf8.acceptRanges", laid_unicode_utf8_acceptRanges), ("unicode/utf8.first", laid_unicode_utf8_first)] }
def HelloWholeSaid : Prop := helloWholeRow.holds Tryd.pinned (OpenSpec.ofChange helloWholeSpec)

/-- ITS FALSE NEIGHBOUR: 'it returns false'. Refute it at one input. -/
def helloWholeWrong : ChangeSpec := { name := "helloWhole", fn := fun _ => fun
  | [d1, d2, d3, d4, d5] => { results := [.lit (.bool false)], args := [d1, d2, d3, d4, d5] }
  | _ => none }
def HelloWholeWrongFalsely : Prop := helloWholeRow.holds Tryd.pinned (OpenSpec.ofChange helloWholeWrong)

/-- 'sacristylaw16.HelloHeads': WHATEVER THE INPUT: true; the input reads as it did. -/
def helloHeadsSpec : ChangeSpec := { name := "helloHeads", fn := fun _ => fun
  | [d1, d2, d3] => { results := [.lit (.bool true)], args := [d1, d2, d3] }
  | _ => none }
def helloHeadsRow : OpenClaim := { program := "ytmmionafcmnfoaadoor", sum := "96e8c14b78e06ae3f736a4ba4a96b58507aceacf8687b0499bc7d852f2e92fb0", func := "sacristy/sacristylaw16.HelloHeads", spec := "helloHeads", inPlace := ["internal/bytealg.CountString", "internal/bytealg.IndexByteString", "internal/bytealg.IndexString"], unfollowed := true, recurses := true, named := ["unicode/utf8.first", "unicode/utf8.acceptRanges", "internal/bytealg.MaxLen"], apart := false, laid := [("unicode/utf8.acceptRanges", laid_unicode_utf8_acceptRanges), ("unicode/utf8.first", laid_unicode_utf8_first)] }
def HelloHeadsSaid : Prop := helloHeadsRow.holds Tryd.pinned (OpenSpec.ofChange helloHeadsSpec)

/-- ITS FALSE NEIGHBOUR: 'it returns false'. Refute it at one input. -/
def helloHeadsWrong : ChangeSpec := { name := "helloHeads", fn := fun _ => fun
  | [d1, d2, d3] => { results := [.lit (.bool false)], args := [d1, d2, d3] }
  | _ => none }
def HelloHeadsWrongFalsely : Prop := helloHeadsRow.holds Tryd.pinned (OpenSpec.ofChange helloHeadsWrong)

/-- 'sacristylaw16.HelloFits': WHATEVER THE INPUT: true; the input reads as it did. -/
def helloFitsSpec : ChangeSpec := { name := "helloFits", fn := fun _ => fun
  | [d1, d2, d3, d4] => { results := [.lit (.bool true)], args := [d1, d2, d3, d4] }
  | _ => none }
def helloFitsRow : OpenClaim := { program := "ytmmionafcmnfoaadoor", sum := "96e8c14b78e06ae3f736a4ba4a96b58507aceacf8687b0499bc7d852f2e92fb0", func := "sacristy/sacristylaw16.HelloFits", spec := "helloFits", inPlace := ["internal/bytealg.CountString", "internal/bytealg.IndexByteString", "internal/bytealg.IndexString"], unfollowed := true, recurses := true, named := ["unicode/utf8.first", "unicode/utf8.acceptRanges", "internal/bytealg.MaxLen"], apart := false, laid := [("unicode/utf8.acceptRanges", laid_unicode_utf8_acceptRanges), ("unicode/utf8.first", laid_unicode_utf8_first)] }
def HelloFitsSaid : Prop := helloFitsRow.holds Tryd.pinned (OpenSpec.ofChange helloFitsSpec)

/-- ITS FALSE NEIGHBOUR: 'it returns false'. Refute it at one input. -/
def helloFitsWrong : ChangeSpec := { name := "helloFits", fn := fun _ => fun
  | [d1, d2, d3, d4] => { results := [.lit (.bool false)], args := [d1, d2, d3, d4] }
  | _ => none }
def HelloFitsWrongFalsely : Prop := helloFitsRow.holds Tryd.pinned (OpenSpec.ofChange helloFitsWrong)

/- THE SECOND FORM. 'bulk': how many values and letters a reading holds, each counted each time it is reached (what is shared counts as often as it is met; a slice's spare places count too). A statement '..UptoSaid' is the law's where the arguments, and the package variables that the reading takes, are together of bulk at most 1048576: NARROWER than '..Said'. Prove '..Said' where nothing that the law and all that it calls make is longer than what came in: it says more and counts as full. Else prove '..UptoSaid'. A law counts once. -/
mutual
def uptoBulk {H : Type} : DataW H → Nat
  | .lit (.string bytes) => bytes.length + 1
  | .lit _ => 1
  | .nil => 1
  | .ptr d => uptoBulk d + 1
  | .slice elems spare => uptoBulkAll elems + uptoBulkAll spare + 1
  | .agg parts => uptoBulkAll parts + 1
  | .iface _ d => uptoBulk d + 1
  | .map entries => uptoBulkEntries entries + 1
  | .held _ => 1
def uptoBulkAll {H : Type} : List (DataW H) → Nat
  | [] => 0
  | d :: r => uptoBulk d + uptoBulkAll r
def uptoBulkEntries {H : Type} : List (Lit × DataW H) → Nat
  | [] => 0
  | x :: r => uptoBulkEntry x + uptoBulkEntries r
def uptoBulkEntry {H : Type} : Lit × DataW H → Nat
  | (.string bytes, d) => bytes.length + uptoBulk d + 1
  | (_, d) => uptoBulk d + 1
 end
def uptoSmall : (H : Type) → List (DataW H) → Bool := fun _ ds => decide (uptoBulkAll ds ≤ 1048576)
def OpenSpec.upto (s : _root_.Go.ChangeSpec) : _root_.Go.OpenSpec := { _root_.Go.OpenSpec.ofChange s with cond := some uptoSmall }

/-- 'sacristylaw16.HelloTells', WHERE WHAT IT READS IS OF BULK AT MOST 1048576: true; the input reads as it did. -/
def helloTellsUptoRow : OpenClaim := { program := "ytmmionafcmnfoaadoor", sum := "96e8c14b78e06ae3f736a4ba4a96b58507aceacf8687b0499bc7d852f2e92fb0", func := "sacristy/sacristylaw16.HelloTells", spec := "helloTells", inPlace := ["internal/bytealg.CountString", "internal/bytealg.IndexByteString", "internal/bytealg.IndexString"], unfollowed := true, recurses := true, named := ["unicode/utf8.first", "unicode/utf8.acceptRanges", "internal/bytealg.MaxLen"], apart := false, laid := [("unicode/utf8.acceptRanges", laid_unicode_utf8_acceptRanges), ("unicode/utf8.first", laid_unicode_utf8_first)], narrowed := true }
def HelloTellsUptoSaid : Prop := helloTellsUptoRow.holds Tryd.pinned (OpenSpec.upto helloTellsSpec)

/-- 'sacristylaw16.HelloBack', WHERE WHAT IT READS IS OF BULK AT MOST 1048576: true; the input reads as it did. -/
def helloBackUptoRow : OpenClaim := { program := "ytmmionafcmnfoaadoor", sum := "96e8c14b78e06ae3f736a4ba4a96b58507aceacf8687b0499bc7d852f2e92fb0", func := "sacristy/sacristylaw16.HelloBack", spec := "helloBack", inPlace := ["internal/bytealg.CountString", "internal/bytealg.IndexByteString", "internal/bytealg.IndexString"], unfollowed := true, recurses := true, named := ["unicode/utf8.first", "unicode/utf8.acceptRanges", "internal/bytealg.MaxLen"], apart := false, laid := [("unicode/utf8.acceptRanges", laid_unicode_utf8_acceptRanges), ("unicode/utf8.first", laid_unicode_utf8_first)], narrowed := true }
def HelloBackUptoSaid : Prop := helloBackUptoRow.holds Tryd.pinned (OpenSpec.upto helloBackSpec)

/-- 'sacristylaw16.HelloWhole', WHERE WHAT IT READS IS OF BULK AT MOST 1048576: true; the input reads as it did. -/
def helloWholeUptoRow : OpenClaim := { program := "ytmmionafcmnfoaadoor", sum := "96e8c14b78e06ae3f736a4ba4a96b58507aceacf8687b0499bc7d852f2e92fb0", func := "sacristy/sacristylaw16.HelloWhole", spec := "helloWhole", inPlace := ["internal/bytealg.CountString", "internal/bytealg.IndexByteString", "internal/bytealg.IndexString"], unfollowed := true, recurses := true, named := ["unicode/utf8.first", "unicode/utf8.acceptRanges", "internal/bytealg.MaxLen"], apart := false, laid := [("unicode/utf8.acceptRanges", laid_unicode_utf8_acceptRanges), ("unicode/utf8.first", laid_unicode_utf8_first)], narrowed := true }
def HelloWholeUptoSaid : Prop := helloWholeUptoRow.holds Tryd.pinned (OpenSpec.upto helloWholeSpec)

/-- 'sacristylaw16.HelloHeads', WHERE WHAT IT READS IS OF BULK AT MOST 1048576: true; the input reads as it did. -/
def helloHeadsUptoRow : OpenClaim := { program := "ytmmionafcmnfoaadoor", sum := "96e8c14b78e06ae3f736a4ba4a96b58507aceacf8687b0499bc7d852f2e92fb0", func := "sacristy/sacristylaw16.HelloHeads", spec := "helloHeads", inPlace := ["internal/bytealg.CountString", "internal/bytealg.IndexByteString", "internal/bytealg.IndexString"], unfollowed := true, recurses := true, named := ["unicode/utf8.first", "unicode/utf8.acceptRanges", "internal/bytealg.MaxLen"], apart := false, laid := [("unicode/utf8.acceptRanges", laid_unicode_utf8_acceptRanges), ("unicode/utf8.first", laid_unicode_utf8_first)], narrowed := true }
def HelloHeadsUptoSaid : Prop := helloHeadsUptoRow.holds Tryd.pinned (OpenSpec.upto helloHeadsSpec)

/-- 'sacristylaw16.HelloFits', WHERE WHAT IT READS IS OF BULK AT MOST 1048576: true; the input reads as it did. -/
def helloFitsUptoRow : OpenClaim := { program := "ytmmionafcmnfoaadoor", sum := "96e8c14b78e06ae3f736a4ba4a96b58507aceacf8687b0499bc7d852f2e92fb0", func := "sacristy/sacristylaw16.HelloFits", spec := "helloFits", inPlace := ["internal/bytealg.CountString", "internal/bytealg.IndexByteString", "internal/bytealg.IndexString"], unfollowed := true, recurses := true, named := ["unicode/utf8.first", "unicode/utf8.acceptRanges", "internal/bytealg.MaxLen"], apart := false, laid := [("unicode/utf8.acceptRanges", laid_unicode_utf8_acceptRanges), ("unicode/utf8.first", laid_unicode_utf8_first)], narrowed := true }
def HelloFitsUptoSaid : Prop := helloFitsUptoRow.holds Tryd.pinned (OpenSpec.upto helloFitsSpec)

end Rows
end Go.Proofs.YtmmionafcmnfoaaDoor
