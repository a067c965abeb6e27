/- Functions of the program as plain functions, and proofs that the program's calls tell what these tell. Written by a program. -/
import Derived.Test.YtlfenakgphmepaaGreatDoorProg
import Derived.Below
import Derived.Deep.Draws
import Derived.Deep.AppendLies
import Derived.Maps.AppendAt
import Derived.Maps.OwnOps
import Derived.Maps.Views
import Derived.OwnWalk
import Derived.Laws.BytesArg
import Derived.Laws.MakeOwn
import Derived.Laws.OwnMore
import Derived.Deep.OwnRows
import Derived.Tactics
import Derived.Lib.ConvBytes
import Derived.Laws.Slices
import Derived.WalkKit
import Derived.KernelRfl
import Derived.RowKit3
import Derived.Deep.LoopGhost
import Derived.Deep.QuietTactic
import Derived.BigQuiet
import Derived.WideLaws
import Derived.Deep.DeepCutAuto
import Derived.Deep.CutBlock
import Derived.Deep.RegionHeld3
import Derived.Laws.Rows
import Derived.Lib.AppendStr
import Derived.ArgAppend
import Derived.Laws.IdiomCopy
import Derived.OrdersHeld
import Derived.Laws.BitsLemmas
import Derived.RowKit
import Derived.Laws.Cover1
import Derived.WalkSpells
import Derived.Test.YtlfenakgphmepaaGreatDoorSep
import Derived.Test.YtlfenakgphmepaaGreatDoorShelf
import Derived.Test.YtlfenakgphmepaaGreatDoorConv
import Derived.Test.YtlfenakgphmepaaGreatDoorBuild
import Derived.Test.YtlfenakgphmepaaGreatDoorWWords
namespace Go.Proofs.YtlfenakgphmepaaGreatDoor.Print
open Go.RowKit YtlfenakgphmepaaGreatDoorW.PrintWords YtlfenakgphmepaaGreatDoorW.PrintLast YtlfenakgphmepaaGreatDoorW.PrintMore YtlfenakgphmepaaGreatDoor.Conv
attribute [local go_sem] max2_int min2_int max_two min_two max_three min_three max_four min_four
set_option linter.unusedVariables false
set_option linter.unusedSimpArgs false
def errW : Option Int -> Value
 | none => .nilIface
 | some c => .iface 0 (.int .i64 c)
theorem qn : errW none = .nilIface := rfl
theorem qS (c : Int) : errW (some c) = .iface 0 (.int .i64 c) := rfl
theorem info9 : (Tryz.prog.info? 9).map (fun i => (i.zero, i.size, i.bytes)) = some (some (.string ⟨#[]⟩), 1, 16) := by kernel_rfl
theorem info83 : (Tryz.prog.info? 83).map (fun i => (i.zero, i.size, i.bytes)) = some (some (.agg #[(.string ⟨#[]⟩), (.string ⟨#[]⟩)]), 2, 32) := by kernel_rfl
structure S83 where
 f0 : ByteArray
 f1 : ByteArray
def z83 : S83 := ⟨(⟨#[]⟩ : ByteArray), (⟨#[]⟩ : ByteArray)⟩
def k83 : Kd S83 := Kd.iso (Kd.pair Kd.string Kd.string) (fun x : S83 => (x.f0, x.f1))
theorem k83_open {w : World} {x : S83} {cs : List Value} (h : k83.K w x cs) : cs = [.string x.f0, .string x.f1] := by
 obtain ⟨_, _, rfl, rfl, rfl⟩ := h
 exact rfl
theorem k83_mkM (w : World) (base : Nat) (ok : Nat -> Prop) (x : S83)  : k83.M w base ok x [.string x.f0, .string x.f1] := ⟨[.string x.f0], [.string x.f1], rfl, rfl, rfl⟩
def rd_T83 (xs : List S83) (i : Int) : S83 := xs.getD i.toNat z83
theorem at_T83 {w : World} {A : Option Addr} {n : Nat} {xs : List S83} (h : Kd.C k83 w A n xs) (i : Int) (h0 : 0 <= i) (h1 : i < n) : ∃ ad , A = some ad /\ w.cell? (ad.add (i.toNat * 2)) = some (.string (rd_T83 xs i).f0) /\ w.cell? ⟨(ad.add (i.toNat * 2)).block, (ad.add (i.toNat * 2)).off + 1, none⟩ = some (.string (rd_T83 xs i).f1) := by
 obtain ⟨ad, c, e, _, hK, hc0⟩ := Kd.C_get h z83 i h0 h1
 have hc : ∀ j u, c[j]? = some u -> w.cell? (ad.add (i.toNat * 2 + j)) = some u := hc0
 obtain rfl := k83_open hK
 exact ⟨ad, e, hc 0 _ rfl, by rw [<- add_field _ _ 1 (by omega)]; exact hc 1 _ rfl⟩
structure S39 where
 f0 : ByteArray
 f1 : Bool
 f2 : ByteArray
 f3 : (List S83)
 f4 : (List ByteArray)
def z39 : S39 := ⟨(⟨#[]⟩ : ByteArray), false, (⟨#[]⟩ : ByteArray), ([] : List S83), ([] : List ByteArray)⟩
def k39 : Kd S39 := Kd.iso (Kd.pair Kd.string (Kd.pair Kd.bool (Kd.pair Kd.string (Kd.pair (Kd.slice 83 k83) (Kd.slice 9 Kd.string))))) (fun x : S39 => (x.f0, x.f1, x.f2, x.f3, x.f4))
theorem k39_open {w : World} {x : S39} {cs : List Value} (h : k39.K w x cs) : ∃ A3 c3 A4 c4, cs = [.string x.f0, .bool x.f1, .string x.f2, .slice A3 x.f3.length c3, .slice A4 x.f4.length c4] /\ x.f3.length <= c3 /\ k83.C w A3 x.f3.length x.f3 /\ x.f4.length <= c4 /\ Kd.string.C w A4 x.f4.length x.f4 := by
 obtain ⟨_, _, rfl, rfl, ⟨_, _, rfl, rfl, ⟨_, _, rfl, rfl, ⟨_, _, rfl, ⟨A3, c3, rfl, l3, g3⟩, ⟨A4, c4, rfl, l4, g4⟩⟩⟩⟩⟩ := h
 exact ⟨A3, c3, A4, c4, rfl, l3, g3, l4, g4⟩
theorem k39_mk (w : World) (x : S39) {A3 : Option Addr} {c3 : Nat} (l3 : x.f3.length <= c3) (g3 : k83.C w A3 x.f3.length x.f3) {A4 : Option Addr} {c4 : Nat} (l4 : x.f4.length <= c4) (g4 : Kd.string.C w A4 x.f4.length x.f4) : k39.K w x [.string x.f0, .bool x.f1, .string x.f2, .slice A3 x.f3.length c3, .slice A4 x.f4.length c4] := ⟨[.string x.f0], [.bool x.f1, .string x.f2, .slice A3 x.f3.length c3, .slice A4 x.f4.length c4], rfl, rfl, ⟨[.bool x.f1], [.string x.f2, .slice A3 x.f3.length c3, .slice A4 x.f4.length c4], rfl, rfl, ⟨[.string x.f2], [.slice A3 x.f3.length c3, .slice A4 x.f4.length c4], rfl, rfl, ⟨[.slice A3 x.f3.length c3], [.slice A4 x.f4.length c4], rfl, ⟨A3, c3, rfl, l3, g3⟩, ⟨A4, c4, rfl, l4, g4⟩⟩⟩⟩⟩
theorem k39_mkM (w : World) (base : Nat) (ok : Nat -> Prop) (x : S39) {v3 : Value} (g3 : k83.R 83 w base ok v3 x.f3) {v4 : Value} (g4 : Kd.string.R 9 w base ok v4 x.f4) : k39.M w base ok x [.string x.f0, .bool x.f1, .string x.f2, v3, v4] := ⟨[.string x.f0], [.bool x.f1, .string x.f2, v3, v4], rfl, rfl, ⟨[.bool x.f1], [.string x.f2, v3, v4], rfl, rfl, ⟨[.string x.f2], [v3, v4], rfl, rfl, ⟨[v3], [v4], rfl, ⟨v3, rfl, g3⟩, ⟨v4, rfl, g4⟩⟩⟩⟩⟩
def qT (xs : List S39) (i : Int) : S39 := xs.getD i.toNat z39
theorem at_T39 {w : World} {A : Option Addr} {n : Nat} {xs : List S39} (h : Kd.C k39 w A n xs) (i : Int) (h0 : 0 <= i) (h1 : i < n) : ∃ ad A3 c3 A4 c4, A = some ad /\ w.cell? (ad.add (i.toNat * 5)) = some (.string (qT xs i).f0) /\ w.cell? ⟨(ad.add (i.toNat * 5)).block, (ad.add (i.toNat * 5)).off + 1, none⟩ = some (.bool (qT xs i).f1) /\ w.cell? ⟨(ad.add (i.toNat * 5)).block, (ad.add (i.toNat * 5)).off + 2, none⟩ = some (.string (qT xs i).f2) /\ w.cell? ⟨(ad.add (i.toNat * 5)).block, (ad.add (i.toNat * 5)).off + 3, none⟩ = some (.slice A3 (qT xs i).f3.length c3) /\ w.cell? ⟨(ad.add (i.toNat * 5)).block, (ad.add (i.toNat * 5)).off + 4, none⟩ = some (.slice A4 (qT xs i).f4.length c4) /\ (qT xs i).f3.length <= c3 /\ k83.C w A3 (qT xs i).f3.length (qT xs i).f3 /\ (qT xs i).f4.length <= c4 /\ Kd.string.C w A4 (qT xs i).f4.length (qT xs i).f4 := by
 obtain ⟨ad, c, e, _, hK, hc0⟩ := Kd.C_get h z39 i h0 h1
 have hc : ∀ j u, c[j]? = some u -> w.cell? (ad.add (i.toNat * 5 + j)) = some u := hc0
 obtain ⟨A3, c3, A4, c4, rfl, l3, g3, l4, g4⟩ := k39_open hK
 exact ⟨ad, A3, c3, A4, c4, e, hc 0 _ rfl, by rw [<- add_field _ _ 1 (by omega)]; exact hc 1 _ rfl, by rw [<- add_field _ _ 2 (by omega)]; exact hc 2 _ rfl, by rw [<- add_field _ _ 3 (by omega)]; exact hc 3 _ rfl, by rw [<- add_field _ _ 4 (by omega)]; exact hc 4 _ rfl, l3, g3, l4, g4⟩
structure S25 where
 f0 : Int
 f1 : (List ByteArray)
 f2 : (List S39)
end Go.Proofs.YtlfenakgphmepaaGreatDoor.Print
