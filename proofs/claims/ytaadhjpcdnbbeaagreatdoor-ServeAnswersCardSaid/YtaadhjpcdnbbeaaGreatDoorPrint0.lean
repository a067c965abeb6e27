/- Functions of the program as plain functions, and proofs that the program's calls tell what these tell. Written by a program. -/
import Derived.Test.YtaadhjpcdnbbeaaGreatDoorProg
import Derived.Below
import Derived.Deep.Draws
import Derived.Deep.AppendLies
import Derived.Maps.AppendAt
import Derived.OwnWalk
import Derived.Laws.BytesArg
import Derived.Laws.MakeOwn
import Derived.Laws.OwnMore
import Derived.Deep.OwnRows
import Derived.Tactics
import Derived.Lib.ConvBytes
import Derived.Laws.Slices
import Derived.WalkKit
import Derived.KernelRfl
import Derived.RowKit3
import Derived.Deep.LoopGhost
import Derived.Deep.QuietTactic
import Derived.BigQuiet
import Derived.WideLaws
import Derived.Deep.DeepCutAuto
import Derived.Deep.CutBlock
import Derived.Deep.RegionHeld3
import Derived.Laws.Rows
import Derived.Lib.AppendStr
import Derived.ArgAppend
import Derived.Laws.IdiomCopy
import Derived.OrdersHeld
import Derived.Laws.BitsLemmas
import Derived.RowKit
import Derived.Laws.Cover1
import Derived.WalkSpells
import Derived.Test.YtaadhjpcdnbbeaaGreatDoorSep
import Derived.Test.YtaadhjpcdnbbeaaGreatDoorShelf
import Derived.Test.YtaadhjpcdnbbeaaGreatDoorConv
import Derived.Test.YtaadhjpcdnbbeaaGreatDoorWWords
namespace Go.Proofs.YtaadhjpcdnbbeaaGreatDoor.Print
open Go.RowKit Go.Proofs.YtaadhjpcdnbbeaaGreatDoorW.PrintWords Go.Proofs.YtaadhjpcdnbbeaaGreatDoorW.PrintLast Go.Proofs.YtaadhjpcdnbbeaaGreatDoorW.PrintMore Go.Proofs.YtaadhjpcdnbbeaaGreatDoor.Conv
attribute [local go_sem] max2_int min2_int max_two min_two max_three min_three max_four min_four
set_option linter.unusedVariables false
set_option linter.unusedSimpArgs false
def errW : Option Int -> Value
 | none => .nilIface
 | some c => .iface 0 (.int .i64 c)
theorem errW_none : errW none = .nilIface := rfl
theorem errW_some (c : Int) : errW (some c) = .iface 0 (.int .i64 c) := rfl
theorem info5 : (Tryz.prog.info? 5).map (fun i => (i.zero, i.size, i.bytes)) = some (some (.int .u8 0), 1, 1) := by kernel_rfl
theorem info9 : (Tryz.prog.info? 9).map (fun i => (i.zero, i.size, i.bytes)) = some (some (.string ⟨#[]⟩), 1, 16) := by kernel_rfl
theorem info60 : (Tryz.prog.info? 60).map (fun i => (i.zero, i.size, i.bytes)) = some (some (.agg #[(.bool false), (.string ⟨#[]⟩)]), 2, 24) := by kernel_rfl
structure S60 where
 f0 : Bool
 f1 : ByteArray
def z60 : S60 := ⟨false, (⟨#[]⟩ : ByteArray)⟩
def k60 : Kd S60 := Kd.iso (Kd.pair Kd.bool Kd.string) (fun x : S60 => (x.f0, x.f1))
theorem k60_open {w : World} {x : S60} {cs : List Value} (h : k60.K w x cs) : cs = [.bool x.f0, .string x.f1] := by
 obtain ⟨_, _, rfl, rfl, rfl⟩ := h
 exact rfl
theorem k60_mkM (w : World) (base : Nat) (ok : Nat -> Prop) (x : S60)  : k60.M w base ok x [.bool x.f0, .string x.f1] := ⟨[.bool x.f0], [.string x.f1], rfl, rfl, rfl⟩
def rd_T60 (xs : List S60) (i : Int) : S60 := xs.getD i.toNat z60
theorem at_T60 {w : World} {A : Option Addr} {n : Nat} {xs : List S60} (h : Kd.C k60 w A n xs) (i : Int) (h0 : 0 <= i) (h1 : i < n) : ∃ ad , A = some ad /\ w.cell? (ad.add (i.toNat * 2)) = some (.bool (rd_T60 xs i).f0) /\ w.cell? ⟨(ad.add (i.toNat * 2)).block, (ad.add (i.toNat * 2)).off + 1, none⟩ = some (.string (rd_T60 xs i).f1) := by
 obtain ⟨ad, c, e, _, hK, hc0⟩ := Kd.C_get h z60 i h0 h1
 have hc : ∀ j u, c[j]? = some u -> w.cell? (ad.add (i.toNat * 2 + j)) = some u := hc0
 obtain rfl := k60_open hK
 exact ⟨ad, e, hc 0 _ rfl, by rw [<- add_field _ _ 1 (by omega)]; exact hc 1 _ rfl⟩
structure S72 where
 f0 : ByteArray
 f1 : ByteArray
def z72 : S72 := ⟨(⟨#[]⟩ : ByteArray), (⟨#[]⟩ : ByteArray)⟩
def k72 : Kd S72 := Kd.iso (Kd.pair Kd.string Kd.string) (fun x : S72 => (x.f0, x.f1))
theorem k72_open {w : World} {x : S72} {cs : List Value} (h : k72.K w x cs) : cs = [.string x.f0, .string x.f1] := by
 obtain ⟨_, _, rfl, rfl, rfl⟩ := h
 exact rfl
def rd_T72 (xs : List S72) (i : Int) : S72 := xs.getD i.toNat z72
theorem at_T72 {w : World} {A : Option Addr} {n : Nat} {xs : List S72} (h : Kd.C k72 w A n xs) (i : Int) (h0 : 0 <= i) (h1 : i < n) : ∃ ad , A = some ad /\ w.cell? (ad.add (i.toNat * 2)) = some (.string (rd_T72 xs i).f0) /\ w.cell? ⟨(ad.add (i.toNat * 2)).block, (ad.add (i.toNat * 2)).off + 1, none⟩ = some (.string (rd_T72 xs i).f1) := by
 obtain ⟨ad, c, e, _, hK, hc0⟩ := Kd.C_get h z72 i h0 h1
 have hc : ∀ j u, c[j]? = some u -> w.cell? (ad.add (i.toNat * 2 + j)) = some u := hc0
 obtain rfl := k72_open hK
 exact ⟨ad, e, hc 0 _ rfl, by rw [<- add_field _ _ 1 (by omega)]; exact hc 1 _ rfl⟩
structure S29 where
 f0 : (List ByteArray)
 f1 : (List ByteArray)
def k29 : Kd S29 := Kd.iso (Kd.pair (Kd.slice 9 Kd.string) (Kd.slice 9 Kd.string)) (fun x : S29 => (x.f0, x.f1))
theorem k29_open {w : World} {x : S29} {cs : List Value} (h : k29.K w x cs) : ∃ A0 c0 A1 c1, cs = [.slice A0 x.f0.length c0, .slice A1 x.f1.length c1] /\ x.f0.length <= c0 /\ Kd.string.C w A0 x.f0.length x.f0 /\ x.f1.length <= c1 /\ Kd.string.C w A1 x.f1.length x.f1 := by
 obtain ⟨_, _, rfl, ⟨A0, c0, rfl, l0, g0⟩, ⟨A1, c1, rfl, l1, g1⟩⟩ := h
 exact ⟨A0, c0, A1, c1, rfl, l0, g0, l1, g1⟩
end Go.Proofs.YtaadhjpcdnbbeaaGreatDoor.Print
