/- The calls of HelloHeads answer true, whatever they are handed. -/
import Derived.Test.YtmmionafcmnfoaaDoorHeadsP
namespace Go.Proofs.YtmmionafcmnfoaaDoor.Hello
open Go.RowKit Go.Proofs.YtmmionafcmnfoaaDoorW.PrintWords Go.Proofs.YtmmionafcmnfoaaDoorW.PrintLast Go.Proofs.YtmmionafcmnfoaaDoorW.PrintMore Go.Proofs.YtmmionafcmnfoaaDoor.Conv Go.Proofs.YtmmionafcmnfoaaDoor.Print
theorem HelloHeads_core {w : World} (a0 : ByteArray) (hz : a0.size ≤ maxLen) (A1 : Option Addr) (c1 : Nat) (l1 : List Rf) (hr1 : Kd.C k63 w A1 l1.length l1) (hc1 : l1.length ≤ c1) (hm1 : l1.length ≤ maxLen)
    (Aw : Option Addr) (cw : Nat) (lw : List ByteArray) (hrw : Kd.C Kd.string w Aw lw.length lw) (hcw : lw.length ≤ cw) (hmw : lw.length ≤ maxLen)
    (Ah : Option Addr) (ch : Nat) (lh : List ByteArray) (hrh : Kd.C Kd.string w Ah lh.length lh) (hch : lh.length ≤ ch) (hmh : lh.length ≤ maxLen) :
    Calls Tryd.prog 6 #[.string a0, .slice A1 l1.length c1, .agg #[.slice Aw lw.length cw, .slice Ah lh.length ch]] w fun e w' => e = .returned (.bool true) ∧ Below w.heap.size w w' :=
  sacristylaw16_HelloHeads.calls 8000000 a0 A1 c1 l1 Aw cw lw Ah ch lh true w hr1 hc1 hrw hcw hrh hch (heads_eq a0 l1 lw lh (by simp only [maxLen] at hm1; omega) (by simp only [maxLen] at hmw; omega) (by simp only [maxLen] at hmh; omega) (by omega))
end Go.Proofs.YtmmionafcmnfoaaDoor.Hello
