/- Words for proofs. -/
import Derived.Shelf.Small.Wraps
import Derived.Shelf.Utf8.RuneCount
import Derived.Shelf.Strings.Search1
import Derived.Shelf.Strings.Search2
import Derived.Shelf.Strings.Search3
import Derived.Shelf.Strings.Cut
import Derived.Shelf.Strings.Count
import Derived.Shelf.LaysM
import Derived.Shelf.Strings.Shaped
import Derived.Shelf.Strings.Prefix
import Derived.Shelf.Strings.Split
import Derived.Shelf.Strings.SplitShaped
import Derived.Shelf.Unicode.Decode
import Derived.Shelf.Strings.RuneCount
import Derived.Shelf.Strings.Explode
import Derived.Shelf.Unicode.DecodeSlow
import Derived.Shelf.Unicode.DecodeAny
import Derived.Test.YtmmionafcmnfoaaDoorProg
namespace Go.Proofs
open Go.Shelf
def Tryd.lays211_ren : Go.Shelf.Ren := ⟨fun | 211 => 77 | 207 => 87 | n => n, fun | 9 => 9 | 4 => 4 | 3 => 3 | n => n, fun | n => n⟩
theorem Tryd.lays211 : Go.Proofs.Lays.n211 Tryd.prog Tryd.lays211_ren := {
 mixed := by kernel_rfl
 f207 := Tryd.func87.trans (congrArg some (by kernel_rfl))
 f211 := Tryd.func77.trans (congrArg some (by kernel_rfl))
 t3 := Tryd.underlying3
 a3 := Tryd.isAgg3
 z3 := Tryd.sizeOf3
 v3 := Tryd.zeroValue3
 t4 := Tryd.underlying4
 a4 := Tryd.isAgg4
 z4 := Tryd.sizeOf4
 v4 := Tryd.zeroValue4
 t9 := Tryd.underlying9
 a9 := Tryd.isAgg9
 z9 := Tryd.sizeOf9
 v9 := Tryd.zeroValue9 }
open Go.RowKit in
theorem Tryd.stringslite_CutSuffix (s p : ByteArray) (w : World) (hs : s.size <= 9223372036854775807) :
  Calls Tryd.prog 77 #[.string s, .string p] w fun e w' => e = .returned (.tuple #[.string ⟨(Lib.trimSuffix s.data.toList p.data.toList).toArray⟩, .bool (Lib.hasSuffix s.data.toList p.data.toList)]) /\ w' = w := Any.stringslite_CutSuffix Tryd.lays211 s p w hs
def Tryd.lays104_ren : Go.Shelf.Ren := ⟨fun | 104 => 68 | 211 => 77 | 207 => 87 | n => n, fun | 9 => 9 | 4 => 4 | 24 => 51 | 3 => 3 | n => n, fun | n => n⟩
theorem Tryd.lays104 : Go.Proofs.Lays.n104 Tryd.prog Tryd.lays104_ren := {
 mixed := by kernel_rfl
 f104 := Tryd.func68.trans (congrArg some (by kernel_rfl))
 f207 := Tryd.func87.trans (congrArg some (by kernel_rfl))
 f211 := Tryd.func77.trans (congrArg some (by kernel_rfl))
 t3 := Tryd.underlying3
 a3 := Tryd.isAgg3
 z3 := Tryd.sizeOf3
 v3 := Tryd.zeroValue3
 t4 := Tryd.underlying4
 a4 := Tryd.isAgg4
 z4 := Tryd.sizeOf4
 v4 := Tryd.zeroValue4
 t9 := Tryd.underlying9
 a9 := Tryd.isAgg9
 z9 := Tryd.sizeOf9
 v9 := Tryd.zeroValue9
 t24 := Tryd.underlying51
 a24 := Tryd.isAgg51
 z24 := Tryd.sizeOf51
 v24 := Tryd.zeroValue51 }
open Go.RowKit in
theorem Tryd.strings_CutSuffix (s p : ByteArray) (w : World) (hs : s.size <= 9223372036854775807) :
  Calls Tryd.prog 68 #[.string s, .string p] w fun e w' => e = .returned (.tuple #[.string ⟨(Lib.trimSuffix s.data.toList p.data.toList).toArray⟩, .bool (Lib.hasSuffix s.data.toList p.data.toList)]) /\ w' = w := Any.strings_CutSuffix Tryd.lays104 s p w hs
def Tryd.lays219_ren : Go.Shelf.Ren := ⟨fun | 219 => 79 | 217 => 88 | 225 => 89 | 224 => 90 | 267 => 91 | 266 => 95 | 314 => 96 | n => n, fun | 9 => 9 | 3 => 3 | 4 => 4 | 5 => 5 | 46 => 108 | 146 => 112 | 51 => 92 | n => n, fun | 1 => 0 | n => n⟩
theorem Tryd.lays219 : Go.Proofs.Lays.n219 Tryd.prog Tryd.lays219_ren := {
 mixed := by kernel_rfl
 f217 := Tryd.func88.trans (congrArg some (by kernel_rfl))
 f219 := Tryd.func79.trans (congrArg some (by kernel_rfl))
 f224 := Tryd.func90.trans (congrArg some (by kernel_rfl))
 f225 := Tryd.func89.trans (congrArg some (by kernel_rfl))
 f266 := Tryd.func95.trans (congrArg some (by kernel_rfl))
 f267 := Tryd.func91.trans (congrArg some (by kernel_rfl))
 f314 := Tryd.func96.trans (congrArg some (by kernel_rfl))
 t3 := Tryd.underlying3
 a3 := Tryd.isAgg3
 z3 := Tryd.sizeOf3
 v3 := Tryd.zeroValue3
 t4 := Tryd.underlying4
 a4 := Tryd.isAgg4
 z4 := Tryd.sizeOf4
 v4 := Tryd.zeroValue4
 t5 := Tryd.underlying5
 a5 := Tryd.isAgg5
 z5 := Tryd.sizeOf5
 v5 := Tryd.zeroValue5
 t9 := Tryd.underlying9
 a9 := Tryd.isAgg9
 z9 := Tryd.sizeOf9
 v9 := Tryd.zeroValue9
 t46 := Tryd.underlying108
 a46 := Tryd.isAgg108
 z46 := Tryd.sizeOf108
 v46 := Tryd.zeroValue108
 t51 := Tryd.underlying92
 a51 := Tryd.isAgg92
 z51 := Tryd.sizeOf92
 v51 := Tryd.zeroValue92
 t146 := Tryd.underlying112
 a146 := Tryd.isAgg112
 z146 := Tryd.sizeOf112
 v146 := Tryd.zeroValue112
 g1 := by kernel_rfl }
open Go.RowKit Go.Lib in
theorem Tryd.stringslite_Index_one (s : ByteArray) (c : UInt8) (w : World) :
  Calls Tryd.prog 79 #[.string s, .string ⟨#[c]⟩] w fun e w' => e = .returned (.int .i64 (Lib.indexByte s.data.toList c)) /\ w' = w := Any.stringslite_Index_one Tryd.lays219 s c w
open Go.RowKit Go.Lib in
theorem Tryd.stringslite_Index (s sub : ByteArray) (m : Int) (w : World) (hs : s.size < 4294967281) (hm : w.cell? ⟨0, 0, none⟩ = some (.int .i64 m)) :
  Calls Tryd.prog 79 #[.string s, .string sub] w fun e w' => e = .returned (.int .i64 (Lib.index s.data.toList sub.data.toList)) /\ w' = w := Any.stringslite_Index Tryd.lays219 s sub m w hs hm
def Tryd.lays143_ren : Go.Shelf.Ren := ⟨fun | 143 => 86 | 219 => 79 | 217 => 88 | 225 => 89 | 224 => 90 | 267 => 91 | 266 => 95 | 314 => 96 | n => n, fun | 9 => 9 | 3 => 3 | 4 => 4 | 5 => 5 | 46 => 108 | 146 => 112 | 51 => 92 | n => n, fun | 1 => 0 | n => n⟩
theorem Tryd.lays143 : Go.Proofs.Lays.n143 Tryd.prog Tryd.lays143_ren := {
 mixed := by kernel_rfl
 f143 := Tryd.func86.trans (congrArg some (by kernel_rfl))
 f217 := Tryd.func88.trans (congrArg some (by kernel_rfl))
 f219 := Tryd.func79.trans (congrArg some (by kernel_rfl))
 f224 := Tryd.func90.trans (congrArg some (by kernel_rfl))
 f225 := Tryd.func89.trans (congrArg some (by kernel_rfl))
 f266 := Tryd.func95.trans (congrArg some (by kernel_rfl))
 f267 := Tryd.func91.trans (congrArg some (by kernel_rfl))
 f314 := Tryd.func96.trans (congrArg some (by kernel_rfl))
 t3 := Tryd.underlying3
 a3 := Tryd.isAgg3
 z3 := Tryd.sizeOf3
 v3 := Tryd.zeroValue3
 t4 := Tryd.underlying4
 a4 := Tryd.isAgg4
 z4 := Tryd.sizeOf4
 v4 := Tryd.zeroValue4
 t5 := Tryd.underlying5
 a5 := Tryd.isAgg5
 z5 := Tryd.sizeOf5
 v5 := Tryd.zeroValue5
 t9 := Tryd.underlying9
 a9 := Tryd.isAgg9
 z9 := Tryd.sizeOf9
 v9 := Tryd.zeroValue9
 t46 := Tryd.underlying108
 a46 := Tryd.isAgg108
 z46 := Tryd.sizeOf108
 v46 := Tryd.zeroValue108
 t51 := Tryd.underlying92
 a51 := Tryd.isAgg92
 z51 := Tryd.sizeOf92
 v51 := Tryd.zeroValue92
 t146 := Tryd.underlying112
 a146 := Tryd.isAgg112
 z146 := Tryd.sizeOf112
 v146 := Tryd.zeroValue112
 g1 := by kernel_rfl }
open Go.RowKit Go.Lib in
theorem Tryd.strings_Index_one (s : ByteArray) (c : UInt8) (w : World) :
  Calls Tryd.prog 86 #[.string s, .string ⟨#[c]⟩] w fun e w' => e = .returned (.int .i64 (Lib.indexByte s.data.toList c)) /\ w' = w := Any.strings_Index_one Tryd.lays143 s c w
def Tryd.lays220_ren : Go.Shelf.Ren := ⟨fun | 220 => 70 | 219 => 79 | 217 => 88 | 225 => 89 | 224 => 90 | 267 => 91 | 266 => 95 | 314 => 96 | n => n, fun | 9 => 9 | 4 => 4 | 3 => 3 | 5 => 5 | 46 => 108 | 146 => 112 | 51 => 92 | n => n, fun | 1 => 0 | n => n⟩
theorem Tryd.lays220 : Go.Proofs.Lays.n220 Tryd.prog Tryd.lays220_ren := {
 mixed := by kernel_rfl
 f217 := Tryd.func88.trans (congrArg some (by kernel_rfl))
 f219 := Tryd.func79.trans (congrArg some (by kernel_rfl))
 f220 := Tryd.func70.trans (congrArg some (by kernel_rfl))
 f224 := Tryd.func90.trans (congrArg some (by kernel_rfl))
 f225 := Tryd.func89.trans (congrArg some (by kernel_rfl))
 f266 := Tryd.func95.trans (congrArg some (by kernel_rfl))
 f267 := Tryd.func91.trans (congrArg some (by kernel_rfl))
 f314 := Tryd.func96.trans (congrArg some (by kernel_rfl))
 t3 := Tryd.underlying3
 a3 := Tryd.isAgg3
 z3 := Tryd.sizeOf3
 v3 := Tryd.zeroValue3
 t4 := Tryd.underlying4
 a4 := Tryd.isAgg4
 z4 := Tryd.sizeOf4
 v4 := Tryd.zeroValue4
 t5 := Tryd.underlying5
 a5 := Tryd.isAgg5
 z5 := Tryd.sizeOf5
 v5 := Tryd.zeroValue5
 t9 := Tryd.underlying9
 a9 := Tryd.isAgg9
 z9 := Tryd.sizeOf9
 v9 := Tryd.zeroValue9
 t46 := Tryd.underlying108
 a46 := Tryd.isAgg108
 z46 := Tryd.sizeOf108
 v46 := Tryd.zeroValue108
 t51 := Tryd.underlying92
 a51 := Tryd.isAgg92
 z51 := Tryd.sizeOf92
 v51 := Tryd.zeroValue92
 t146 := Tryd.underlying112
 a146 := Tryd.isAgg112
 z146 := Tryd.sizeOf112
 v146 := Tryd.zeroValue112
 g1 := by kernel_rfl }
open Go.RowKit Go.Lib in
theorem Tryd.stringslite_Cut (s sep : ByteArray) (m : Int) (w : World) (hs : s.size < 4294967281) (hm : w.cell? ⟨0, 0, none⟩ = some (.int .i64 m)) :
  Calls Tryd.prog 70 #[.string s, .string sep] w fun e w' => e = .returned (.tuple #[.string ⟨(Lib.cut s.data.toList sep.data.toList).1.toArray⟩, .string ⟨(Lib.cut s.data.toList sep.data.toList).2.1.toArray⟩, .bool (Lib.cut s.data.toList sep.data.toList).2.2]) /\ ∃ n, w' = w.drewN n := Any.stringslite_Cut Tryd.lays220 s sep m w hs hm
def Tryd.lays145_ren : Go.Shelf.Ren := ⟨fun | 145 => 48 | 220 => 70 | 219 => 79 | 217 => 88 | 225 => 89 | 224 => 90 | 267 => 91 | 266 => 95 | 314 => 96 | n => n, fun | 9 => 9 | 4 => 4 | 59 => 74 | 3 => 3 | 5 => 5 | 46 => 108 | 146 => 112 | 51 => 92 | n => n, fun | 1 => 0 | n => n⟩
theorem Tryd.lays145 : Go.Proofs.Lays.n145 Tryd.prog Tryd.lays145_ren := {
 mixed := by kernel_rfl
 f145 := Tryd.func48.trans (congrArg some (by kernel_rfl))
 f217 := Tryd.func88.trans (congrArg some (by kernel_rfl))
 f219 := Tryd.func79.trans (congrArg some (by kernel_rfl))
 f220 := Tryd.func70.trans (congrArg some (by kernel_rfl))
 f224 := Tryd.func90.trans (congrArg some (by kernel_rfl))
 f225 := Tryd.func89.trans (congrArg some (by kernel_rfl))
 f266 := Tryd.func95.trans (congrArg some (by kernel_rfl))
 f267 := Tryd.func91.trans (congrArg some (by kernel_rfl))
 f314 := Tryd.func96.trans (congrArg some (by kernel_rfl))
 t3 := Tryd.underlying3
 a3 := Tryd.isAgg3
 z3 := Tryd.sizeOf3
 v3 := Tryd.zeroValue3
 t4 := Tryd.underlying4
 a4 := Tryd.isAgg4
 z4 := Tryd.sizeOf4
 v4 := Tryd.zeroValue4
 t5 := Tryd.underlying5
 a5 := Tryd.isAgg5
 z5 := Tryd.sizeOf5
 v5 := Tryd.zeroValue5
 t9 := Tryd.underlying9
 a9 := Tryd.isAgg9
 z9 := Tryd.sizeOf9
 v9 := Tryd.zeroValue9
 t46 := Tryd.underlying108
 a46 := Tryd.isAgg108
 z46 := Tryd.sizeOf108
 v46 := Tryd.zeroValue108
 t51 := Tryd.underlying92
 a51 := Tryd.isAgg92
 z51 := Tryd.sizeOf92
 v51 := Tryd.zeroValue92
 t59 := Tryd.underlying74
 a59 := Tryd.isAgg74
 z59 := Tryd.sizeOf74
 v59 := Tryd.zeroValue74
 t146 := Tryd.underlying112
 a146 := Tryd.isAgg112
 z146 := Tryd.sizeOf112
 v146 := Tryd.zeroValue112
 g1 := by kernel_rfl }
open Go.RowKit Go.Lib in
theorem Tryd.strings_Cut (s sep : ByteArray) (m : Int) (w : World) (hs : s.size < 4294967281) (hm : w.cell? ⟨0, 0, none⟩ = some (.int .i64 m)) :
  Calls Tryd.prog 48 #[.string s, .string sep] w fun e w' => e = .returned (.tuple #[.string ⟨(Lib.cut s.data.toList sep.data.toList).1.toArray⟩, .string ⟨(Lib.cut s.data.toList sep.data.toList).2.1.toArray⟩, .bool (Lib.cut s.data.toList sep.data.toList).2.2]) /\ ∃ n, w' = w.drewN n := Any.strings_Cut Tryd.lays145 s sep m w hs hm
def Tryd.lays138_ren : Go.Shelf.Ren := ⟨fun | 138 => 85 | 195 => 92 | 218 => 94 | 143 => 86 | 219 => 79 | 217 => 88 | 225 => 89 | 224 => 90 | 267 => 91 | 266 => 95 | 314 => 96 | n => n, fun | 9 => 9 | 3 => 3 | 4 => 4 | 5 => 5 | 0 => 0 | 46 => 108 | 146 => 112 | 51 => 92 | n => n, fun | 1 => 0 | n => n⟩
theorem Tryd.lays138 : Go.Proofs.Lays.n138 Tryd.prog Tryd.lays138_ren := {
 mixed := by kernel_rfl
 f138 := Tryd.func85.trans (congrArg some (by kernel_rfl))
 f143 := Tryd.func86.trans (congrArg some (by kernel_rfl))
 f195 := Tryd.func92.trans (congrArg some (by kernel_rfl))
 f217 := Tryd.func88.trans (congrArg some (by kernel_rfl))
 f218 := Tryd.func94.trans (congrArg some (by kernel_rfl))
 f219 := Tryd.func79.trans (congrArg some (by kernel_rfl))
 f224 := Tryd.func90.trans (congrArg some (by kernel_rfl))
 f225 := Tryd.func89.trans (congrArg some (by kernel_rfl))
 f266 := Tryd.func95.trans (congrArg some (by kernel_rfl))
 f267 := Tryd.func91.trans (congrArg some (by kernel_rfl))
 f314 := Tryd.func96.trans (congrArg some (by kernel_rfl))
 t0 := Tryd.underlying0
 a0 := Tryd.isAgg0
 z0 := Tryd.sizeOf0
 v0 := Tryd.zeroValue0
 t3 := Tryd.underlying3
 a3 := Tryd.isAgg3
 z3 := Tryd.sizeOf3
 v3 := Tryd.zeroValue3
 t4 := Tryd.underlying4
 a4 := Tryd.isAgg4
 z4 := Tryd.sizeOf4
 v4 := Tryd.zeroValue4
 t5 := Tryd.underlying5
 a5 := Tryd.isAgg5
 z5 := Tryd.sizeOf5
 v5 := Tryd.zeroValue5
 t9 := Tryd.underlying9
 a9 := Tryd.isAgg9
 z9 := Tryd.sizeOf9
 v9 := Tryd.zeroValue9
 t46 := Tryd.underlying108
 a46 := Tryd.isAgg108
 z46 := Tryd.sizeOf108
 v46 := Tryd.zeroValue108
 t51 := Tryd.underlying92
 a51 := Tryd.isAgg92
 z51 := Tryd.sizeOf92
 v51 := Tryd.zeroValue92
 t146 := Tryd.underlying112
 a146 := Tryd.isAgg112
 z146 := Tryd.sizeOf112
 v146 := Tryd.zeroValue112
 g1 := by kernel_rfl }
open Go.RowKit Go.Lib in
theorem Tryd.strings_Count_one (s : ByteArray) (c : UInt8) (w : World) :
  Calls Tryd.prog 85 #[.string s, .string ⟨#[c]⟩] w fun e w' => e = .returned (.int .i64 (Lib.countByte s.data.toList c)) /\ w' = w := Any.strings_Count_one Tryd.lays138 s c w
def Tryd.lays206_ren : Go.Shelf.Ren := ⟨fun | 206 => 78 | n => n, fun | 9 => 9 | 4 => 4 | 3 => 3 | n => n, fun | n => n⟩
theorem Tryd.lays206 : Go.Proofs.Lays.n206 Tryd.prog Tryd.lays206_ren := {
 mixed := by kernel_rfl
 f206 := Tryd.func78.trans (congrArg some (by kernel_rfl))
 t3 := Tryd.underlying3
 a3 := Tryd.isAgg3
 z3 := Tryd.sizeOf3
 v3 := Tryd.zeroValue3
 t4 := Tryd.underlying4
 a4 := Tryd.isAgg4
 z4 := Tryd.sizeOf4
 v4 := Tryd.zeroValue4
 t9 := Tryd.underlying9
 a9 := Tryd.isAgg9
 z9 := Tryd.sizeOf9
 v9 := Tryd.zeroValue9 }
open Go.RowKit Go.Lib in
theorem Tryd.stringslite_HasPrefix (s p : ByteArray) (w : World) :
  Calls Tryd.prog 78 #[.string s, .string p] w fun e w' => e = .returned (.bool (Lib.hasPrefix s.data.toList p.data.toList)) /\ w' = w := Any.stringslite_HasPrefix Tryd.lays206 s p w
def Tryd.lays99_ren : Go.Shelf.Ren := ⟨fun | 99 => 76 | 206 => 78 | n => n, fun | 9 => 9 | 4 => 4 | 3 => 3 | n => n, fun | n => n⟩
theorem Tryd.lays99 : Go.Proofs.Lays.n99 Tryd.prog Tryd.lays99_ren := {
 mixed := by kernel_rfl
 f99 := Tryd.func76.trans (congrArg some (by kernel_rfl))
 f206 := Tryd.func78.trans (congrArg some (by kernel_rfl))
 t3 := Tryd.underlying3
 a3 := Tryd.isAgg3
 z3 := Tryd.sizeOf3
 v3 := Tryd.zeroValue3
 t4 := Tryd.underlying4
 a4 := Tryd.isAgg4
 z4 := Tryd.sizeOf4
 v4 := Tryd.zeroValue4
 t9 := Tryd.underlying9
 a9 := Tryd.isAgg9
 z9 := Tryd.sizeOf9
 v9 := Tryd.zeroValue9 }
open Go.RowKit Go.Lib in
theorem Tryd.strings_HasPrefix (s p : ByteArray) (w : World) :
  Calls Tryd.prog 76 #[.string s, .string p] w fun e w' => e = .returned (.bool (Lib.hasPrefix s.data.toList p.data.toList)) /\ w' = w := Any.strings_HasPrefix Tryd.lays99 s p w
def Tryd.lays207_ren : Go.Shelf.Ren := ⟨fun | 207 => 87 | n => n, fun | 9 => 9 | 4 => 4 | 3 => 3 | n => n, fun | n => n⟩
theorem Tryd.lays207 : Go.Proofs.Lays.n207 Tryd.prog Tryd.lays207_ren := {
 mixed := by kernel_rfl
 f207 := Tryd.func87.trans (congrArg some (by kernel_rfl))
 t3 := Tryd.underlying3
 a3 := Tryd.isAgg3
 z3 := Tryd.sizeOf3
 v3 := Tryd.zeroValue3
 t4 := Tryd.underlying4
 a4 := Tryd.isAgg4
 z4 := Tryd.sizeOf4
 v4 := Tryd.zeroValue4
 t9 := Tryd.underlying9
 a9 := Tryd.isAgg9
 z9 := Tryd.sizeOf9
 v9 := Tryd.zeroValue9 }
open Go.RowKit Go.Lib in
theorem Tryd.stringslite_HasSuffix (s p : ByteArray) (w : World) (hs : s.size <= 9223372036854775807) :
  Calls Tryd.prog 87 #[.string s, .string p] w fun e w' => e = .returned (.bool (Lib.hasSuffix s.data.toList p.data.toList)) /\ w' = w := Any.stringslite_HasSuffix Tryd.lays207 s p w hs
def Tryd.lays208_ren : Go.Shelf.Ren := ⟨fun | 208 => 69 | 206 => 78 | n => n, fun | 9 => 9 | 4 => 4 | 3 => 3 | n => n, fun | n => n⟩
theorem Tryd.lays208 : Go.Proofs.Lays.n208 Tryd.prog Tryd.lays208_ren := {
 mixed := by kernel_rfl
 f206 := Tryd.func78.trans (congrArg some (by kernel_rfl))
 f208 := Tryd.func69.trans (congrArg some (by kernel_rfl))
 t3 := Tryd.underlying3
 a3 := Tryd.isAgg3
 z3 := Tryd.sizeOf3
 v3 := Tryd.zeroValue3
 t4 := Tryd.underlying4
 a4 := Tryd.isAgg4
 z4 := Tryd.sizeOf4
 v4 := Tryd.zeroValue4
 t9 := Tryd.underlying9
 a9 := Tryd.isAgg9
 z9 := Tryd.sizeOf9
 v9 := Tryd.zeroValue9 }
open Go.RowKit Go.Lib in
theorem Tryd.stringslite_TrimPrefix (s p : ByteArray) (w : World) :
  Calls Tryd.prog 69 #[.string s, .string p] w fun e w' => e = .returned (.string ⟨(Lib.trimPrefix s.data.toList p.data.toList).toArray⟩) /\ w' = w := Any.stringslite_TrimPrefix Tryd.lays208 s p w
def Tryd.lays101_ren : Go.Shelf.Ren := ⟨fun | 101 => 47 | 208 => 69 | 206 => 78 | n => n, fun | 9 => 9 | 4 => 4 | 3 => 3 | n => n, fun | n => n⟩
theorem Tryd.lays101 : Go.Proofs.Lays.n101 Tryd.prog Tryd.lays101_ren := {
 mixed := by kernel_rfl
 f101 := Tryd.func47.trans (congrArg some (by kernel_rfl))
 f206 := Tryd.func78.trans (congrArg some (by kernel_rfl))
 f208 := Tryd.func69.trans (congrArg some (by kernel_rfl))
 t3 := Tryd.underlying3
 a3 := Tryd.isAgg3
 z3 := Tryd.sizeOf3
 v3 := Tryd.zeroValue3
 t4 := Tryd.underlying4
 a4 := Tryd.isAgg4
 z4 := Tryd.sizeOf4
 v4 := Tryd.zeroValue4
 t9 := Tryd.underlying9
 a9 := Tryd.isAgg9
 z9 := Tryd.sizeOf9
 v9 := Tryd.zeroValue9 }
open Go.RowKit Go.Lib in
theorem Tryd.strings_TrimPrefix (s p : ByteArray) (w : World) :
  Calls Tryd.prog 47 #[.string s, .string p] w fun e w' => e = .returned (.string ⟨(Lib.trimPrefix s.data.toList p.data.toList).toArray⟩) /\ w' = w := Any.strings_TrimPrefix Tryd.lays101 s p w
def Tryd.lays221_ren : Go.Shelf.Ren := ⟨fun | 221 => 73 | 268 => 84 | 138 => 85 | 143 => 86 | 195 => 92 | 197 => 93 | 218 => 94 | 219 => 79 | 260 => 97 | 217 => 88 | 225 => 89 | 224 => 90 | 267 => 91 | 266 => 95 | 314 => 96 | n => n, fun | 9 => 9 | 3 => 3 | 31 => 23 | 4 => 4 | 0 => 0 | 105 => 110 | 21 => 21 | 5 => 5 | 46 => 108 | 119 => 114 | 139 => 117 | 138 => 116 | 146 => 112 | 51 => 92 | n => n, fun | 1 => 0 | 3 => 1 | 4 => 2 | n => n⟩
theorem Tryd.lays221 : Go.Proofs.Lays.n221 Tryd.prog Tryd.lays221_ren := {
 mixed := by kernel_rfl
 f138 := Tryd.func85.trans (congrArg some (by kernel_rfl))
 f143 := Tryd.func86.trans (congrArg some (by kernel_rfl))
 f195 := Tryd.func92.trans (congrArg some (by kernel_rfl))
 f197 := Tryd.func93.trans (congrArg some (by kernel_rfl))
 f217 := Tryd.func88.trans (congrArg some (by kernel_rfl))
 f218 := Tryd.func94.trans (congrArg some (by kernel_rfl))
 f219 := Tryd.func79.trans (congrArg some (by kernel_rfl))
 f221 := Tryd.func73.trans (congrArg some (by kernel_rfl))
 f224 := Tryd.func90.trans (congrArg some (by kernel_rfl))
 f225 := Tryd.func89.trans (congrArg some (by kernel_rfl))
 f260 := Tryd.func97.trans (congrArg some (by kernel_rfl))
 f266 := Tryd.func95.trans (congrArg some (by kernel_rfl))
 f267 := Tryd.func91.trans (congrArg some (by kernel_rfl))
 f268 := Tryd.func84.trans (congrArg some (by kernel_rfl))
 f314 := Tryd.func96.trans (congrArg some (by kernel_rfl))
 t0 := Tryd.underlying0
 a0 := Tryd.isAgg0
 z0 := Tryd.sizeOf0
 v0 := Tryd.zeroValue0
 t3 := Tryd.underlying3
 a3 := Tryd.isAgg3
 z3 := Tryd.sizeOf3
 v3 := Tryd.zeroValue3
 t4 := Tryd.underlying4
 a4 := Tryd.isAgg4
 z4 := Tryd.sizeOf4
 v4 := Tryd.zeroValue4
 t5 := Tryd.underlying5
 a5 := Tryd.isAgg5
 z5 := Tryd.sizeOf5
 v5 := Tryd.zeroValue5
 t9 := Tryd.underlying9
 a9 := Tryd.isAgg9
 z9 := Tryd.sizeOf9
 v9 := Tryd.zeroValue9
 t21 := Tryd.underlying21
 a21 := Tryd.isAgg21
 z21 := Tryd.sizeOf21
 v21 := Tryd.zeroValue21
 t31 := Tryd.underlying23
 a31 := Tryd.isAgg23
 z31 := Tryd.sizeOf23
 v31 := Tryd.zeroValue23
 t46 := Tryd.underlying108
 a46 := Tryd.isAgg108
 z46 := Tryd.sizeOf108
 v46 := Tryd.zeroValue108
 t51 := Tryd.underlying92
 a51 := Tryd.isAgg92
 z51 := Tryd.sizeOf92
 v51 := Tryd.zeroValue92
 t105 := Tryd.underlying110
 a105 := Tryd.isAgg110
 z105 := Tryd.sizeOf110
 v105 := Tryd.zeroValue110
 t119 := Tryd.underlying114
 a119 := Tryd.isAgg114
 z119 := Tryd.sizeOf114
 t138 := Tryd.underlying116
 a138 := Tryd.isAgg116
 z138 := Tryd.sizeOf116
 v138 := Tryd.zeroValue116
 t139 := Tryd.underlying117
 a139 := Tryd.isAgg117
 z139 := Tryd.sizeOf117
 v139 := Tryd.zeroValue117
 t146 := Tryd.underlying112
 a146 := Tryd.isAgg112
 z146 := Tryd.sizeOf112
 v146 := Tryd.zeroValue112
 g1 := by kernel_rfl
 g3 := by kernel_rfl
 g4 := by kernel_rfl }
def Tryd.lays146_ren : Go.Shelf.Ren := ⟨fun | 146 => 56 | 221 => 73 | 268 => 84 | 138 => 85 | 143 => 86 | 195 => 92 | 197 => 93 | 218 => 94 | 219 => 79 | 260 => 97 | 217 => 88 | 225 => 89 | 224 => 90 | 267 => 91 | 266 => 95 | 314 => 96 | n => n, fun | 9 => 9 | 31 => 23 | 3 => 3 | 4 => 4 | 0 => 0 | 105 => 110 | 21 => 21 | 5 => 5 | 46 => 108 | 119 => 114 | 139 => 117 | 138 => 116 | 146 => 112 | 51 => 92 | n => n, fun | 1 => 0 | 3 => 1 | 4 => 2 | n => n⟩
theorem Tryd.lays146 : Go.Proofs.Lays.n146 Tryd.prog Tryd.lays146_ren := {
 mixed := by kernel_rfl
 f138 := Tryd.func85.trans (congrArg some (by kernel_rfl))
 f143 := Tryd.func86.trans (congrArg some (by kernel_rfl))
 f146 := Tryd.func56.trans (congrArg some (by kernel_rfl))
 f195 := Tryd.func92.trans (congrArg some (by kernel_rfl))
 f197 := Tryd.func93.trans (congrArg some (by kernel_rfl))
 f217 := Tryd.func88.trans (congrArg some (by kernel_rfl))
 f218 := Tryd.func94.trans (congrArg some (by kernel_rfl))
 f219 := Tryd.func79.trans (congrArg some (by kernel_rfl))
 f221 := Tryd.func73.trans (congrArg some (by kernel_rfl))
 f224 := Tryd.func90.trans (congrArg some (by kernel_rfl))
 f225 := Tryd.func89.trans (congrArg some (by kernel_rfl))
 f260 := Tryd.func97.trans (congrArg some (by kernel_rfl))
 f266 := Tryd.func95.trans (congrArg some (by kernel_rfl))
 f267 := Tryd.func91.trans (congrArg some (by kernel_rfl))
 f268 := Tryd.func84.trans (congrArg some (by kernel_rfl))
 f314 := Tryd.func96.trans (congrArg some (by kernel_rfl))
 t0 := Tryd.underlying0
 a0 := Tryd.isAgg0
 z0 := Tryd.sizeOf0
 v0 := Tryd.zeroValue0
 t3 := Tryd.underlying3
 a3 := Tryd.isAgg3
 z3 := Tryd.sizeOf3
 v3 := Tryd.zeroValue3
 t4 := Tryd.underlying4
 a4 := Tryd.isAgg4
 z4 := Tryd.sizeOf4
 v4 := Tryd.zeroValue4
 t5 := Tryd.underlying5
 a5 := Tryd.isAgg5
 z5 := Tryd.sizeOf5
 v5 := Tryd.zeroValue5
 t9 := Tryd.underlying9
 a9 := Tryd.isAgg9
 z9 := Tryd.sizeOf9
 v9 := Tryd.zeroValue9
 t21 := Tryd.underlying21
 a21 := Tryd.isAgg21
 z21 := Tryd.sizeOf21
 v21 := Tryd.zeroValue21
 t31 := Tryd.underlying23
 a31 := Tryd.isAgg23
 z31 := Tryd.sizeOf23
 v31 := Tryd.zeroValue23
 t46 := Tryd.underlying108
 a46 := Tryd.isAgg108
 z46 := Tryd.sizeOf108
 v46 := Tryd.zeroValue108
 t51 := Tryd.underlying92
 a51 := Tryd.isAgg92
 z51 := Tryd.sizeOf92
 v51 := Tryd.zeroValue92
 t105 := Tryd.underlying110
 a105 := Tryd.isAgg110
 z105 := Tryd.sizeOf110
 v105 := Tryd.zeroValue110
 t119 := Tryd.underlying114
 a119 := Tryd.isAgg114
 z119 := Tryd.sizeOf114
 t138 := Tryd.underlying116
 a138 := Tryd.isAgg116
 z138 := Tryd.sizeOf116
 v138 := Tryd.zeroValue116
 t139 := Tryd.underlying117
 a139 := Tryd.isAgg117
 z139 := Tryd.sizeOf117
 v139 := Tryd.zeroValue117
 t146 := Tryd.underlying112
 a146 := Tryd.isAgg112
 z146 := Tryd.sizeOf112
 v146 := Tryd.zeroValue112
 g1 := by kernel_rfl
 g3 := by kernel_rfl
 g4 := by kernel_rfl }
open Go.RowKit Go.Lib in
theorem Tryd.strings_Split (s sep : ByteArray) (m : Int) (w : World) (hs : s.size < 4294967281) (hm : w.cell? ⟨0, 0, none⟩ = some (.int .i64 m)) (h1 : 1 <= sep.size) :
  Calls Tryd.prog 56 #[.string s, .string sep] w fun e w' =>
   e = .returned (.slice (some ⟨w.heap.size, 0, none⟩) (Lib.countB s sep + 1) (Lib.countB s sep + 1)) /\ w' = w.alloc (.cells ((Lib.splitB sep 0 (Lib.countB s sep) s).map Value.string).toArray 9) := Any.strings_Split Tryd.lays146 (by kernel_rfl) s sep m w hs hm h1
end Go.Proofs
