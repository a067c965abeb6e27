/- Words for proofs. -/
import Derived.Shelf.Small.Wraps
import Derived.Shelf.Utf8.RuneCount
import Derived.Shelf.Strconv.Itoa0
import Derived.Shelf.Strconv.Itoa1
import Derived.Shelf.LaysM
import Derived.Shelf.Strconv.Itoa2
import Derived.Shelf.Strconv.Itoa3
import Derived.Shelf.Strings.Search1
import Derived.Shelf.Strings.Search2
import Derived.Shelf.Strings.Search3
import Derived.Shelf.Strings.Cut
import Derived.Shelf.Strings.Count
import Derived.Shelf.Strings.Shaped
import Derived.Shelf.Strings.Prefix
import Derived.Shelf.Strings.Split
import Derived.Shelf.Strings.SplitShaped
import Derived.Shelf.Unicode.Decode
import Derived.Shelf.Strings.RuneCount
import Derived.Shelf.Strings.Explode
import Derived.Shelf.Unicode.DecodeSlow
import Derived.Shelf.Unicode.DecodeAny
import Derived.Ground.Names2Prog
import Derived.Shelf.Slices.Clone
import Derived.Shelf.Bytes.SlIndexAt
import Derived.Shelf.Bytes.SlSearch0
import Derived.Ground.SlbCloneProg
import Derived.Shelf.Bytes.SlClone
import Derived.Shelf.Bytes.IndexByte
import Derived.Test.YtaadhjpcdnbbeaaDoorProg
namespace Go.Proofs
open Go.Shelf
def Tryd.lays210_ren : Go.Shelf.Ren := ⟨fun | 210 => 61 | 206 => 74 | n => n, fun | 9 => 9 | 4 => 4 | 3 => 3 | n => n, fun | n => n⟩
theorem Tryd.lays210 : Go.Proofs.Lays.n210 Tryd.prog Tryd.lays210_ren := {
 mixed := by kernel_rfl
 f206 := Tryd.func74.trans (congrArg some (by kernel_rfl))
 f210 := Tryd.func61.trans (congrArg some (by kernel_rfl))
 t3 := Tryd.underlying3
 a3 := Tryd.isAgg3
 z3 := Tryd.sizeOf3
 v3 := Tryd.zeroValue3
 t4 := Tryd.underlying4
 a4 := Tryd.isAgg4
 z4 := Tryd.sizeOf4
 v4 := Tryd.zeroValue4
 t9 := Tryd.underlying9
 a9 := Tryd.isAgg9
 z9 := Tryd.sizeOf9
 v9 := Tryd.zeroValue9 }
open Go.RowKit in
theorem Tryd.stringslite_CutPrefix (s p : ByteArray) (w : World) :
  Calls Tryd.prog 61 #[.string s, .string p] w fun e w' => e = .returned (.tuple #[.string ⟨(Lib.trimPrefix s.data.toList p.data.toList).toArray⟩, .bool (Lib.hasPrefix s.data.toList p.data.toList)]) /\ w' = w := Any.stringslite_CutPrefix Tryd.lays210 s p w
def Tryd.lays103_ren : Go.Shelf.Ren := ⟨fun | 103 => 42 | 210 => 61 | 206 => 74 | n => n, fun | 9 => 9 | 4 => 4 | 24 => 88 | 3 => 3 | n => n, fun | n => n⟩
theorem Tryd.lays103 : Go.Proofs.Lays.n103 Tryd.prog Tryd.lays103_ren := {
 mixed := by kernel_rfl
 f103 := Tryd.func42.trans (congrArg some (by kernel_rfl))
 f206 := Tryd.func74.trans (congrArg some (by kernel_rfl))
 f210 := Tryd.func61.trans (congrArg some (by kernel_rfl))
 t3 := Tryd.underlying3
 a3 := Tryd.isAgg3
 z3 := Tryd.sizeOf3
 v3 := Tryd.zeroValue3
 t4 := Tryd.underlying4
 a4 := Tryd.isAgg4
 z4 := Tryd.sizeOf4
 v4 := Tryd.zeroValue4
 t9 := Tryd.underlying9
 a9 := Tryd.isAgg9
 z9 := Tryd.sizeOf9
 v9 := Tryd.zeroValue9
 t24 := Tryd.underlying88
 a24 := Tryd.isAgg88
 z24 := Tryd.sizeOf88
 v24 := Tryd.zeroValue88 }
open Go.RowKit in
theorem Tryd.strings_CutPrefix (s p : ByteArray) (w : World) :
  Calls Tryd.prog 42 #[.string s, .string p] w fun e w' => e = .returned (.tuple #[.string ⟨(Lib.trimPrefix s.data.toList p.data.toList).toArray⟩, .bool (Lib.hasPrefix s.data.toList p.data.toList)]) /\ w' = w := Any.strings_CutPrefix Tryd.lays103 s p w
def Tryd.lays211_ren : Go.Shelf.Ren := ⟨fun | 211 => 62 | 207 => 75 | n => n, fun | 9 => 9 | 4 => 4 | 3 => 3 | n => n, fun | n => n⟩
theorem Tryd.lays211 : Go.Proofs.Lays.n211 Tryd.prog Tryd.lays211_ren := {
 mixed := by kernel_rfl
 f207 := Tryd.func75.trans (congrArg some (by kernel_rfl))
 f211 := Tryd.func62.trans (congrArg some (by kernel_rfl))
 t3 := Tryd.underlying3
 a3 := Tryd.isAgg3
 z3 := Tryd.sizeOf3
 v3 := Tryd.zeroValue3
 t4 := Tryd.underlying4
 a4 := Tryd.isAgg4
 z4 := Tryd.sizeOf4
 v4 := Tryd.zeroValue4
 t9 := Tryd.underlying9
 a9 := Tryd.isAgg9
 z9 := Tryd.sizeOf9
 v9 := Tryd.zeroValue9 }
open Go.RowKit in
theorem Tryd.stringslite_CutSuffix (s p : ByteArray) (w : World) (hs : s.size <= 9223372036854775807) :
  Calls Tryd.prog 62 #[.string s, .string p] w fun e w' => e = .returned (.tuple #[.string ⟨(Lib.trimSuffix s.data.toList p.data.toList).toArray⟩, .bool (Lib.hasSuffix s.data.toList p.data.toList)]) /\ w' = w := Any.stringslite_CutSuffix Tryd.lays211 s p w hs
def Tryd.lays104_ren : Go.Shelf.Ren := ⟨fun | 104 => 43 | 211 => 62 | 207 => 75 | n => n, fun | 9 => 9 | 4 => 4 | 24 => 88 | 3 => 3 | n => n, fun | n => n⟩
theorem Tryd.lays104 : Go.Proofs.Lays.n104 Tryd.prog Tryd.lays104_ren := {
 mixed := by kernel_rfl
 f104 := Tryd.func43.trans (congrArg some (by kernel_rfl))
 f207 := Tryd.func75.trans (congrArg some (by kernel_rfl))
 f211 := Tryd.func62.trans (congrArg some (by kernel_rfl))
 t3 := Tryd.underlying3
 a3 := Tryd.isAgg3
 z3 := Tryd.sizeOf3
 v3 := Tryd.zeroValue3
 t4 := Tryd.underlying4
 a4 := Tryd.isAgg4
 z4 := Tryd.sizeOf4
 v4 := Tryd.zeroValue4
 t9 := Tryd.underlying9
 a9 := Tryd.isAgg9
 z9 := Tryd.sizeOf9
 v9 := Tryd.zeroValue9
 t24 := Tryd.underlying88
 a24 := Tryd.isAgg88
 z24 := Tryd.sizeOf88
 v24 := Tryd.zeroValue88 }
open Go.RowKit in
theorem Tryd.strings_CutSuffix (s p : ByteArray) (w : World) (hs : s.size <= 9223372036854775807) :
  Calls Tryd.prog 43 #[.string s, .string p] w fun e w' => e = .returned (.tuple #[.string ⟨(Lib.trimSuffix s.data.toList p.data.toList).toArray⟩, .bool (Lib.hasSuffix s.data.toList p.data.toList)]) /\ w' = w := Any.strings_CutSuffix Tryd.lays104 s p w hs
def Tryd.laysM171_ren : Go.Shelf.Ren := ⟨fun | 171 => 55 | 243 => 71 | 246 => 79 | 283 => 88 | 284 => 89 | 285 => 90 | 286 => 91 | 129 => 96 | 317 => 95 | 318 => 97 | 319 => 98 | 320 => 99 | 337 => 100 | 338 => 101 | n => n, fun | 3 => 3 | 9 => 9 | 2 => 2 | 4 => 4 | 171 => 123 | 0 => 0 | 53 => 93 | 37 => 22 | 5 => 5 | 173 => 126 | 212 => 131 | 51 => 94 | 20 => 20 | 213 => 132 | 46 => 114 | 232 => 65 | 233 => 140 | n => n, fun | 17 => 1 | 18 => 4 | 19 => 5 | n => n⟩
theorem Tryd.laysM171 : Go.Proofs.LaysM.n171 Tryd.prog Tryd.laysM171_ren := {
 mixed := by kernel_rfl
 f129 := Tryd.func96.trans (congrArg some (by kernel_rfl))
 f171 := Tryd.func55.trans (congrArg some (by kernel_rfl))
 f243 := Tryd.func71.trans (congrArg some (by kernel_rfl))
 f246 := Tryd.func79.trans (congrArg some (by kernel_rfl))
 f283 := Tryd.func88.trans (congrArg some (by kernel_rfl))
 f284 := Tryd.func89.trans (congrArg some (by kernel_rfl))
 f285 := Tryd.func90.trans (congrArg some (by kernel_rfl))
 f286 := Tryd.func91.trans (congrArg some (by kernel_rfl))
 f317 := Tryd.func95.trans (congrArg some (by kernel_rfl))
 f318 := Tryd.func97.trans (congrArg some (by kernel_rfl))
 f319 := Tryd.func98.trans (congrArg some (by kernel_rfl))
 f320 := Tryd.func99.trans (congrArg some (by kernel_rfl))
 f337 := Tryd.func100.trans (congrArg some (by kernel_rfl))
 f338 := Tryd.func101.trans (congrArg some (by kernel_rfl))
 t0 := Tryd.underlying0
 a0 := Tryd.isAgg0
 z0 := Tryd.sizeOf0
 v0 := Tryd.zeroValue0
 t2 := Tryd.underlying2
 a2 := Tryd.isAgg2
 z2 := Tryd.sizeOf2
 v2 := Tryd.zeroValue2
 t3 := Tryd.underlying3
 a3 := Tryd.isAgg3
 z3 := Tryd.sizeOf3
 v3 := Tryd.zeroValue3
 t4 := Tryd.underlying4
 a4 := Tryd.isAgg4
 z4 := Tryd.sizeOf4
 v4 := Tryd.zeroValue4
 t5 := Tryd.underlying5
 a5 := Tryd.isAgg5
 z5 := Tryd.sizeOf5
 v5 := Tryd.zeroValue5
 t9 := Tryd.underlying9
 a9 := Tryd.isAgg9
 z9 := Tryd.sizeOf9
 v9 := Tryd.zeroValue9
 t20 := Tryd.underlying20
 a20 := Tryd.isAgg20
 z20 := Tryd.sizeOf20
 v20 := Tryd.zeroValue20
 t37 := Tryd.underlying22
 a37 := Tryd.isAgg22
 z37 := Tryd.sizeOf22
 v37 := Tryd.zeroValue22
 t46 := Tryd.underlying114
 a46 := Tryd.isAgg114
 z46 := Tryd.sizeOf114
 v46 := Tryd.zeroValue114
 t51 := Tryd.underlying94
 a51 := Tryd.isAgg94
 z51 := Tryd.sizeOf94
 v51 := Tryd.zeroValue94
 t53 := Tryd.underlying93
 a53 := Tryd.isAgg93
 z53 := Tryd.sizeOf93
 v53 := Tryd.zeroValue93
 t171 := Tryd.underlying123
 a171 := Tryd.isAgg123
 z171 := Tryd.sizeOf123
 v171 := Tryd.zeroValue123
 t173 := Tryd.underlying126
 a173 := Tryd.isAgg126
 z173 := Tryd.sizeOf126
 v173 := Tryd.zeroValue126
 t212 := Tryd.underlying131
 a212 := Tryd.isAgg131
 z212 := Tryd.sizeOf131
 v212 := Tryd.zeroValue131
 t213 := Tryd.underlying132
 a213 := Tryd.isAgg132
 z213 := Tryd.sizeOf132
 t232 := Tryd.underlying65
 a232 := Tryd.isAgg65
 z232 := Tryd.sizeOf65
 v232 := Tryd.zeroValue65
 t233 := Tryd.underlying140
 a233 := Tryd.isAgg140
 z233 := Tryd.sizeOf140
 v233 := Tryd.zeroValue140
 g17 := by kernel_rfl
 g18 := by kernel_rfl
 g19 := by kernel_rfl
 i0 := by kernel_rfl
 i2 := by kernel_rfl
 i3 := by kernel_rfl
 i4 := by kernel_rfl
 i5 := by kernel_rfl
 i9 := by kernel_rfl
 i20 := by kernel_rfl
 i37 := by kernel_rfl
 i46 := by kernel_rfl
 i51 := by kernel_rfl
 i53 := by kernel_rfl
 i171 := by kernel_rfl
 i173 := by kernel_rfl
 i212 := by kernel_rfl
 i232 := by kernel_rfl
 i233 := by kernel_rfl
 m17 := by kernel_rfl
 m18 := by kernel_rfl
 m19 := by kernel_rfl }
open Go.RowKit Go.Sort Go.Lib in
theorem Tryd.strconv_Itoa (n : Int) (h0 : -9223372036854775808 <= n) (h1 : n <= 9223372036854775807) (w : World) (htab : Lib.TabIs Tryd.prog w "internal/strconv.uint64pow10" .u64 Lib.pow10Tab) :
  Calls Tryd.prog 55 #[.int .i64 n] w fun e w' => e = .returned (.string ⟨(Lib.itoa n).toArray⟩) /\ ∃ k os, w' = grow (w.drewN k) os := Any.strconv_Itoa Tryd.laysM171 n h0 h1 w htab
def Tryd.lays171_ren : Go.Shelf.Ren := ⟨fun | 171 => 55 | 243 => 71 | 246 => 79 | 283 => 88 | 284 => 89 | 285 => 90 | 286 => 91 | 129 => 96 | 317 => 95 | 318 => 97 | 319 => 98 | 320 => 99 | 337 => 100 | 338 => 101 | n => n, fun | 3 => 3 | 9 => 9 | 2 => 2 | 4 => 4 | 171 => 123 | 0 => 0 | 53 => 93 | 37 => 22 | 5 => 5 | 173 => 126 | 212 => 131 | 51 => 94 | 20 => 20 | 213 => 132 | 46 => 114 | 232 => 65 | 233 => 140 | n => n, fun | 17 => 1 | 18 => 4 | 19 => 5 | n => n⟩
theorem Tryd.lays171 : Go.Proofs.Lays.n171 Tryd.prog Tryd.lays171_ren := {
 mixed := by kernel_rfl
 f129 := Tryd.func96.trans (congrArg some (by kernel_rfl))
 f171 := Tryd.func55.trans (congrArg some (by kernel_rfl))
 f243 := Tryd.func71.trans (congrArg some (by kernel_rfl))
 f246 := Tryd.func79.trans (congrArg some (by kernel_rfl))
 f283 := Tryd.func88.trans (congrArg some (by kernel_rfl))
 f284 := Tryd.func89.trans (congrArg some (by kernel_rfl))
 f285 := Tryd.func90.trans (congrArg some (by kernel_rfl))
 f286 := Tryd.func91.trans (congrArg some (by kernel_rfl))
 f317 := Tryd.func95.trans (congrArg some (by kernel_rfl))
 f318 := Tryd.func97.trans (congrArg some (by kernel_rfl))
 f319 := Tryd.func98.trans (congrArg some (by kernel_rfl))
 f320 := Tryd.func99.trans (congrArg some (by kernel_rfl))
 f337 := Tryd.func100.trans (congrArg some (by kernel_rfl))
 f338 := Tryd.func101.trans (congrArg some (by kernel_rfl))
 t0 := Tryd.underlying0
 a0 := Tryd.isAgg0
 z0 := Tryd.sizeOf0
 v0 := Tryd.zeroValue0
 t2 := Tryd.underlying2
 a2 := Tryd.isAgg2
 z2 := Tryd.sizeOf2
 v2 := Tryd.zeroValue2
 t3 := Tryd.underlying3
 a3 := Tryd.isAgg3
 z3 := Tryd.sizeOf3
 v3 := Tryd.zeroValue3
 t4 := Tryd.underlying4
 a4 := Tryd.isAgg4
 z4 := Tryd.sizeOf4
 v4 := Tryd.zeroValue4
 t5 := Tryd.underlying5
 a5 := Tryd.isAgg5
 z5 := Tryd.sizeOf5
 v5 := Tryd.zeroValue5
 t9 := Tryd.underlying9
 a9 := Tryd.isAgg9
 z9 := Tryd.sizeOf9
 v9 := Tryd.zeroValue9
 t20 := Tryd.underlying20
 a20 := Tryd.isAgg20
 z20 := Tryd.sizeOf20
 v20 := Tryd.zeroValue20
 t37 := Tryd.underlying22
 a37 := Tryd.isAgg22
 z37 := Tryd.sizeOf22
 v37 := Tryd.zeroValue22
 t46 := Tryd.underlying114
 a46 := Tryd.isAgg114
 z46 := Tryd.sizeOf114
 v46 := Tryd.zeroValue114
 t51 := Tryd.underlying94
 a51 := Tryd.isAgg94
 z51 := Tryd.sizeOf94
 v51 := Tryd.zeroValue94
 t53 := Tryd.underlying93
 a53 := Tryd.isAgg93
 z53 := Tryd.sizeOf93
 v53 := Tryd.zeroValue93
 t171 := Tryd.underlying123
 a171 := Tryd.isAgg123
 z171 := Tryd.sizeOf123
 v171 := Tryd.zeroValue123
 t173 := Tryd.underlying126
 a173 := Tryd.isAgg126
 z173 := Tryd.sizeOf126
 v173 := Tryd.zeroValue126
 t212 := Tryd.underlying131
 a212 := Tryd.isAgg131
 z212 := Tryd.sizeOf131
 v212 := Tryd.zeroValue131
 t213 := Tryd.underlying132
 a213 := Tryd.isAgg132
 z213 := Tryd.sizeOf132
 t232 := Tryd.underlying65
 a232 := Tryd.isAgg65
 z232 := Tryd.sizeOf65
 v232 := Tryd.zeroValue65
 t233 := Tryd.underlying140
 a233 := Tryd.isAgg140
 z233 := Tryd.sizeOf140
 v233 := Tryd.zeroValue140
 g17 := by kernel_rfl
 g18 := by kernel_rfl
 g19 := by kernel_rfl }
open Go.RowKit Go.Sort Go.Lib in
theorem Tryd.strconv_Itoa_small (i : Nat) (hi : i < 100) (w : World) :
  Calls Tryd.prog 55 #[.int .i64 i] w fun e w' => e = .returned (.string ⟨(Lib.decDigits i).toArray⟩) /\ w' = w := Any.strconv_Itoa_small Tryd.lays171 i hi w
def Tryd.lays219_ren : Go.Shelf.Ren := ⟨fun | 219 => 73 | 217 => 81 | 225 => 82 | 224 => 83 | 267 => 84 | 266 => 92 | 314 => 93 | n => n, fun | 9 => 9 | 3 => 3 | 4 => 4 | 5 => 5 | 46 => 114 | 146 => 128 | 51 => 94 | n => n, fun | 1 => 0 | n => n⟩
theorem Tryd.lays219 : Go.Proofs.Lays.n219 Tryd.prog Tryd.lays219_ren := {
 mixed := by kernel_rfl
 f217 := Tryd.func81.trans (congrArg some (by kernel_rfl))
 f219 := Tryd.func73.trans (congrArg some (by kernel_rfl))
 f224 := Tryd.func83.trans (congrArg some (by kernel_rfl))
 f225 := Tryd.func82.trans (congrArg some (by kernel_rfl))
 f266 := Tryd.func92.trans (congrArg some (by kernel_rfl))
 f267 := Tryd.func84.trans (congrArg some (by kernel_rfl))
 f314 := Tryd.func93.trans (congrArg some (by kernel_rfl))
 t3 := Tryd.underlying3
 a3 := Tryd.isAgg3
 z3 := Tryd.sizeOf3
 v3 := Tryd.zeroValue3
 t4 := Tryd.underlying4
 a4 := Tryd.isAgg4
 z4 := Tryd.sizeOf4
 v4 := Tryd.zeroValue4
 t5 := Tryd.underlying5
 a5 := Tryd.isAgg5
 z5 := Tryd.sizeOf5
 v5 := Tryd.zeroValue5
 t9 := Tryd.underlying9
 a9 := Tryd.isAgg9
 z9 := Tryd.sizeOf9
 v9 := Tryd.zeroValue9
 t46 := Tryd.underlying114
 a46 := Tryd.isAgg114
 z46 := Tryd.sizeOf114
 v46 := Tryd.zeroValue114
 t51 := Tryd.underlying94
 a51 := Tryd.isAgg94
 z51 := Tryd.sizeOf94
 v51 := Tryd.zeroValue94
 t146 := Tryd.underlying128
 a146 := Tryd.isAgg128
 z146 := Tryd.sizeOf128
 v146 := Tryd.zeroValue128
 g1 := by kernel_rfl }
open Go.RowKit Go.Lib in
theorem Tryd.stringslite_Index_one (s : ByteArray) (c : UInt8) (w : World) :
  Calls Tryd.prog 73 #[.string s, .string ⟨#[c]⟩] w fun e w' => e = .returned (.int .i64 (Lib.indexByte s.data.toList c)) /\ w' = w := Any.stringslite_Index_one Tryd.lays219 s c w
open Go.RowKit Go.Lib in
theorem Tryd.stringslite_Index (s sub : ByteArray) (m : Int) (w : World) (hs : s.size < 4294967281) (hm : w.cell? ⟨0, 0, none⟩ = some (.int .i64 m)) :
  Calls Tryd.prog 73 #[.string s, .string sub] w fun e w' => e = .returned (.int .i64 (Lib.index s.data.toList sub.data.toList)) /\ w' = w := Any.stringslite_Index Tryd.lays219 s sub m w hs hm
def Tryd.lays143_ren : Go.Shelf.Ren := ⟨fun | 143 => 78 | 219 => 73 | 217 => 81 | 225 => 82 | 224 => 83 | 267 => 84 | 266 => 92 | 314 => 93 | n => n, fun | 9 => 9 | 3 => 3 | 4 => 4 | 5 => 5 | 46 => 114 | 146 => 128 | 51 => 94 | n => n, fun | 1 => 0 | n => n⟩
theorem Tryd.lays143 : Go.Proofs.Lays.n143 Tryd.prog Tryd.lays143_ren := {
 mixed := by kernel_rfl
 f143 := Tryd.func78.trans (congrArg some (by kernel_rfl))
 f217 := Tryd.func81.trans (congrArg some (by kernel_rfl))
 f219 := Tryd.func73.trans (congrArg some (by kernel_rfl))
 f224 := Tryd.func83.trans (congrArg some (by kernel_rfl))
 f225 := Tryd.func82.trans (congrArg some (by kernel_rfl))
 f266 := Tryd.func92.trans (congrArg some (by kernel_rfl))
 f267 := Tryd.func84.trans (congrArg some (by kernel_rfl))
 f314 := Tryd.func93.trans (congrArg some (by kernel_rfl))
 t3 := Tryd.underlying3
 a3 := Tryd.isAgg3
 z3 := Tryd.sizeOf3
 v3 := Tryd.zeroValue3
 t4 := Tryd.underlying4
 a4 := Tryd.isAgg4
 z4 := Tryd.sizeOf4
 v4 := Tryd.zeroValue4
 t5 := Tryd.underlying5
 a5 := Tryd.isAgg5
 z5 := Tryd.sizeOf5
 v5 := Tryd.zeroValue5
 t9 := Tryd.underlying9
 a9 := Tryd.isAgg9
 z9 := Tryd.sizeOf9
 v9 := Tryd.zeroValue9
 t46 := Tryd.underlying114
 a46 := Tryd.isAgg114
 z46 := Tryd.sizeOf114
 v46 := Tryd.zeroValue114
 t51 := Tryd.underlying94
 a51 := Tryd.isAgg94
 z51 := Tryd.sizeOf94
 v51 := Tryd.zeroValue94
 t146 := Tryd.underlying128
 a146 := Tryd.isAgg128
 z146 := Tryd.sizeOf128
 v146 := Tryd.zeroValue128
 g1 := by kernel_rfl }
open Go.RowKit Go.Lib in
theorem Tryd.strings_Index_one (s : ByteArray) (c : UInt8) (w : World) :
  Calls Tryd.prog 78 #[.string s, .string ⟨#[c]⟩] w fun e w' => e = .returned (.int .i64 (Lib.indexByte s.data.toList c)) /\ w' = w := Any.strings_Index_one Tryd.lays143 s c w
def Tryd.lays220_ren : Go.Shelf.Ren := ⟨fun | 220 => 59 | 219 => 73 | 217 => 81 | 225 => 82 | 224 => 83 | 267 => 84 | 266 => 92 | 314 => 93 | n => n, fun | 9 => 9 | 4 => 4 | 3 => 3 | 5 => 5 | 46 => 114 | 146 => 128 | 51 => 94 | n => n, fun | 1 => 0 | n => n⟩
theorem Tryd.lays220 : Go.Proofs.Lays.n220 Tryd.prog Tryd.lays220_ren := {
 mixed := by kernel_rfl
 f217 := Tryd.func81.trans (congrArg some (by kernel_rfl))
 f219 := Tryd.func73.trans (congrArg some (by kernel_rfl))
 f220 := Tryd.func59.trans (congrArg some (by kernel_rfl))
 f224 := Tryd.func83.trans (congrArg some (by kernel_rfl))
 f225 := Tryd.func82.trans (congrArg some (by kernel_rfl))
 f266 := Tryd.func92.trans (congrArg some (by kernel_rfl))
 f267 := Tryd.func84.trans (congrArg some (by kernel_rfl))
 f314 := Tryd.func93.trans (congrArg some (by kernel_rfl))
 t3 := Tryd.underlying3
 a3 := Tryd.isAgg3
 z3 := Tryd.sizeOf3
 v3 := Tryd.zeroValue3
 t4 := Tryd.underlying4
 a4 := Tryd.isAgg4
 z4 := Tryd.sizeOf4
 v4 := Tryd.zeroValue4
 t5 := Tryd.underlying5
 a5 := Tryd.isAgg5
 z5 := Tryd.sizeOf5
 v5 := Tryd.zeroValue5
 t9 := Tryd.underlying9
 a9 := Tryd.isAgg9
 z9 := Tryd.sizeOf9
 v9 := Tryd.zeroValue9
 t46 := Tryd.underlying114
 a46 := Tryd.isAgg114
 z46 := Tryd.sizeOf114
 v46 := Tryd.zeroValue114
 t51 := Tryd.underlying94
 a51 := Tryd.isAgg94
 z51 := Tryd.sizeOf94
 v51 := Tryd.zeroValue94
 t146 := Tryd.underlying128
 a146 := Tryd.isAgg128
 z146 := Tryd.sizeOf128
 v146 := Tryd.zeroValue128
 g1 := by kernel_rfl }
open Go.RowKit Go.Lib in
theorem Tryd.stringslite_Cut (s sep : ByteArray) (m : Int) (w : World) (hs : s.size < 4294967281) (hm : w.cell? ⟨0, 0, none⟩ = some (.int .i64 m)) :
  Calls Tryd.prog 59 #[.string s, .string sep] w fun e w' => e = .returned (.tuple #[.string ⟨(Lib.cut s.data.toList sep.data.toList).1.toArray⟩, .string ⟨(Lib.cut s.data.toList sep.data.toList).2.1.toArray⟩, .bool (Lib.cut s.data.toList sep.data.toList).2.2]) /\ ∃ n, w' = w.drewN n := Any.stringslite_Cut Tryd.lays220 s sep m w hs hm
def Tryd.lays145_ren : Go.Shelf.Ren := ⟨fun | 145 => 39 | 220 => 59 | 219 => 73 | 217 => 81 | 225 => 82 | 224 => 83 | 267 => 84 | 266 => 92 | 314 => 93 | n => n, fun | 9 => 9 | 4 => 4 | 59 => 82 | 3 => 3 | 5 => 5 | 46 => 114 | 146 => 128 | 51 => 94 | n => n, fun | 1 => 0 | n => n⟩
theorem Tryd.lays145 : Go.Proofs.Lays.n145 Tryd.prog Tryd.lays145_ren := {
 mixed := by kernel_rfl
 f145 := Tryd.func39.trans (congrArg some (by kernel_rfl))
 f217 := Tryd.func81.trans (congrArg some (by kernel_rfl))
 f219 := Tryd.func73.trans (congrArg some (by kernel_rfl))
 f220 := Tryd.func59.trans (congrArg some (by kernel_rfl))
 f224 := Tryd.func83.trans (congrArg some (by kernel_rfl))
 f225 := Tryd.func82.trans (congrArg some (by kernel_rfl))
 f266 := Tryd.func92.trans (congrArg some (by kernel_rfl))
 f267 := Tryd.func84.trans (congrArg some (by kernel_rfl))
 f314 := Tryd.func93.trans (congrArg some (by kernel_rfl))
 t3 := Tryd.underlying3
 a3 := Tryd.isAgg3
 z3 := Tryd.sizeOf3
 v3 := Tryd.zeroValue3
 t4 := Tryd.underlying4
 a4 := Tryd.isAgg4
 z4 := Tryd.sizeOf4
 v4 := Tryd.zeroValue4
 t5 := Tryd.underlying5
 a5 := Tryd.isAgg5
 z5 := Tryd.sizeOf5
 v5 := Tryd.zeroValue5
 t9 := Tryd.underlying9
 a9 := Tryd.isAgg9
 z9 := Tryd.sizeOf9
 v9 := Tryd.zeroValue9
 t46 := Tryd.underlying114
 a46 := Tryd.isAgg114
 z46 := Tryd.sizeOf114
 v46 := Tryd.zeroValue114
 t51 := Tryd.underlying94
 a51 := Tryd.isAgg94
 z51 := Tryd.sizeOf94
 v51 := Tryd.zeroValue94
 t59 := Tryd.underlying82
 a59 := Tryd.isAgg82
 z59 := Tryd.sizeOf82
 v59 := Tryd.zeroValue82
 t146 := Tryd.underlying128
 a146 := Tryd.isAgg128
 z146 := Tryd.sizeOf128
 v146 := Tryd.zeroValue128
 g1 := by kernel_rfl }
open Go.RowKit Go.Lib in
theorem Tryd.strings_Cut (s sep : ByteArray) (m : Int) (w : World) (hs : s.size < 4294967281) (hm : w.cell? ⟨0, 0, none⟩ = some (.int .i64 m)) :
  Calls Tryd.prog 39 #[.string s, .string sep] w fun e w' => e = .returned (.tuple #[.string ⟨(Lib.cut s.data.toList sep.data.toList).1.toArray⟩, .string ⟨(Lib.cut s.data.toList sep.data.toList).2.1.toArray⟩, .bool (Lib.cut s.data.toList sep.data.toList).2.2]) /\ ∃ n, w' = w.drewN n := Any.strings_Cut Tryd.lays145 s sep m w hs hm
def Tryd.lays138_ren : Go.Shelf.Ren := ⟨fun | 138 => 77 | 195 => 85 | 218 => 87 | 143 => 78 | 219 => 73 | 217 => 81 | 225 => 82 | 224 => 83 | 267 => 84 | 266 => 92 | 314 => 93 | n => n, fun | 9 => 9 | 3 => 3 | 4 => 4 | 5 => 5 | 0 => 0 | 46 => 114 | 146 => 128 | 51 => 94 | n => n, fun | 1 => 0 | n => n⟩
theorem Tryd.lays138 : Go.Proofs.Lays.n138 Tryd.prog Tryd.lays138_ren := {
 mixed := by kernel_rfl
 f138 := Tryd.func77.trans (congrArg some (by kernel_rfl))
 f143 := Tryd.func78.trans (congrArg some (by kernel_rfl))
 f195 := Tryd.func85.trans (congrArg some (by kernel_rfl))
 f217 := Tryd.func81.trans (congrArg some (by kernel_rfl))
 f218 := Tryd.func87.trans (congrArg some (by kernel_rfl))
 f219 := Tryd.func73.trans (congrArg some (by kernel_rfl))
 f224 := Tryd.func83.trans (congrArg some (by kernel_rfl))
 f225 := Tryd.func82.trans (congrArg some (by kernel_rfl))
 f266 := Tryd.func92.trans (congrArg some (by kernel_rfl))
 f267 := Tryd.func84.trans (congrArg some (by kernel_rfl))
 f314 := Tryd.func93.trans (congrArg some (by kernel_rfl))
 t0 := Tryd.underlying0
 a0 := Tryd.isAgg0
 z0 := Tryd.sizeOf0
 v0 := Tryd.zeroValue0
 t3 := Tryd.underlying3
 a3 := Tryd.isAgg3
 z3 := Tryd.sizeOf3
 v3 := Tryd.zeroValue3
 t4 := Tryd.underlying4
 a4 := Tryd.isAgg4
 z4 := Tryd.sizeOf4
 v4 := Tryd.zeroValue4
 t5 := Tryd.underlying5
 a5 := Tryd.isAgg5
 z5 := Tryd.sizeOf5
 v5 := Tryd.zeroValue5
 t9 := Tryd.underlying9
 a9 := Tryd.isAgg9
 z9 := Tryd.sizeOf9
 v9 := Tryd.zeroValue9
 t46 := Tryd.underlying114
 a46 := Tryd.isAgg114
 z46 := Tryd.sizeOf114
 v46 := Tryd.zeroValue114
 t51 := Tryd.underlying94
 a51 := Tryd.isAgg94
 z51 := Tryd.sizeOf94
 v51 := Tryd.zeroValue94
 t146 := Tryd.underlying128
 a146 := Tryd.isAgg128
 z146 := Tryd.sizeOf128
 v146 := Tryd.zeroValue128
 g1 := by kernel_rfl }
open Go.RowKit Go.Lib in
theorem Tryd.strings_Count_one (s : ByteArray) (c : UInt8) (w : World) :
  Calls Tryd.prog 77 #[.string s, .string ⟨#[c]⟩] w fun e w' => e = .returned (.int .i64 (Lib.countByte s.data.toList c)) /\ w' = w := Any.strings_Count_one Tryd.lays138 s c w
def Tryd.lays206_ren : Go.Shelf.Ren := ⟨fun | 206 => 74 | n => n, fun | 9 => 9 | 4 => 4 | 3 => 3 | n => n, fun | n => n⟩
theorem Tryd.lays206 : Go.Proofs.Lays.n206 Tryd.prog Tryd.lays206_ren := {
 mixed := by kernel_rfl
 f206 := Tryd.func74.trans (congrArg some (by kernel_rfl))
 t3 := Tryd.underlying3
 a3 := Tryd.isAgg3
 z3 := Tryd.sizeOf3
 v3 := Tryd.zeroValue3
 t4 := Tryd.underlying4
 a4 := Tryd.isAgg4
 z4 := Tryd.sizeOf4
 v4 := Tryd.zeroValue4
 t9 := Tryd.underlying9
 a9 := Tryd.isAgg9
 z9 := Tryd.sizeOf9
 v9 := Tryd.zeroValue9 }
open Go.RowKit Go.Lib in
theorem Tryd.stringslite_HasPrefix (s p : ByteArray) (w : World) :
  Calls Tryd.prog 74 #[.string s, .string p] w fun e w' => e = .returned (.bool (Lib.hasPrefix s.data.toList p.data.toList)) /\ w' = w := Any.stringslite_HasPrefix Tryd.lays206 s p w
def Tryd.lays99_ren : Go.Shelf.Ren := ⟨fun | 99 => 70 | 206 => 74 | n => n, fun | 9 => 9 | 4 => 4 | 3 => 3 | n => n, fun | n => n⟩
theorem Tryd.lays99 : Go.Proofs.Lays.n99 Tryd.prog Tryd.lays99_ren := {
 mixed := by kernel_rfl
 f99 := Tryd.func70.trans (congrArg some (by kernel_rfl))
 f206 := Tryd.func74.trans (congrArg some (by kernel_rfl))
 t3 := Tryd.underlying3
 a3 := Tryd.isAgg3
 z3 := Tryd.sizeOf3
 v3 := Tryd.zeroValue3
 t4 := Tryd.underlying4
 a4 := Tryd.isAgg4
 z4 := Tryd.sizeOf4
 v4 := Tryd.zeroValue4
 t9 := Tryd.underlying9
 a9 := Tryd.isAgg9
 z9 := Tryd.sizeOf9
 v9 := Tryd.zeroValue9 }
open Go.RowKit Go.Lib in
theorem Tryd.strings_HasPrefix (s p : ByteArray) (w : World) :
  Calls Tryd.prog 70 #[.string s, .string p] w fun e w' => e = .returned (.bool (Lib.hasPrefix s.data.toList p.data.toList)) /\ w' = w := Any.strings_HasPrefix Tryd.lays99 s p w
def Tryd.lays207_ren : Go.Shelf.Ren := ⟨fun | 207 => 75 | n => n, fun | 9 => 9 | 4 => 4 | 3 => 3 | n => n, fun | n => n⟩
theorem Tryd.lays207 : Go.Proofs.Lays.n207 Tryd.prog Tryd.lays207_ren := {
 mixed := by kernel_rfl
 f207 := Tryd.func75.trans (congrArg some (by kernel_rfl))
 t3 := Tryd.underlying3
 a3 := Tryd.isAgg3
 z3 := Tryd.sizeOf3
 v3 := Tryd.zeroValue3
 t4 := Tryd.underlying4
 a4 := Tryd.isAgg4
 z4 := Tryd.sizeOf4
 v4 := Tryd.zeroValue4
 t9 := Tryd.underlying9
 a9 := Tryd.isAgg9
 z9 := Tryd.sizeOf9
 v9 := Tryd.zeroValue9 }
open Go.RowKit Go.Lib in
theorem Tryd.stringslite_HasSuffix (s p : ByteArray) (w : World) (hs : s.size <= 9223372036854775807) :
  Calls Tryd.prog 75 #[.string s, .string p] w fun e w' => e = .returned (.bool (Lib.hasSuffix s.data.toList p.data.toList)) /\ w' = w := Any.stringslite_HasSuffix Tryd.lays207 s p w hs
def Tryd.lays221_ren : Go.Shelf.Ren := ⟨fun | 221 => 68 | 268 => 76 | 138 => 77 | 143 => 78 | 195 => 85 | 197 => 86 | 218 => 87 | 219 => 73 | 260 => 94 | 217 => 81 | 225 => 82 | 224 => 83 | 267 => 84 | 266 => 92 | 314 => 93 | n => n, fun | 9 => 9 | 3 => 3 | 31 => 28 | 4 => 4 | 0 => 0 | 105 => 121 | 21 => 21 | 5 => 5 | 46 => 114 | 119 => 135 | 139 => 138 | 138 => 137 | 146 => 128 | 51 => 94 | n => n, fun | 1 => 0 | 3 => 2 | 4 => 3 | n => n⟩
theorem Tryd.lays221 : Go.Proofs.Lays.n221 Tryd.prog Tryd.lays221_ren := {
 mixed := by kernel_rfl
 f138 := Tryd.func77.trans (congrArg some (by kernel_rfl))
 f143 := Tryd.func78.trans (congrArg some (by kernel_rfl))
 f195 := Tryd.func85.trans (congrArg some (by kernel_rfl))
 f197 := Tryd.func86.trans (congrArg some (by kernel_rfl))
 f217 := Tryd.func81.trans (congrArg some (by kernel_rfl))
 f218 := Tryd.func87.trans (congrArg some (by kernel_rfl))
 f219 := Tryd.func73.trans (congrArg some (by kernel_rfl))
 f221 := Tryd.func68.trans (congrArg some (by kernel_rfl))
 f224 := Tryd.func83.trans (congrArg some (by kernel_rfl))
 f225 := Tryd.func82.trans (congrArg some (by kernel_rfl))
 f260 := Tryd.func94.trans (congrArg some (by kernel_rfl))
 f266 := Tryd.func92.trans (congrArg some (by kernel_rfl))
 f267 := Tryd.func84.trans (congrArg some (by kernel_rfl))
 f268 := Tryd.func76.trans (congrArg some (by kernel_rfl))
 f314 := Tryd.func93.trans (congrArg some (by kernel_rfl))
 t0 := Tryd.underlying0
 a0 := Tryd.isAgg0
 z0 := Tryd.sizeOf0
 v0 := Tryd.zeroValue0
 t3 := Tryd.underlying3
 a3 := Tryd.isAgg3
 z3 := Tryd.sizeOf3
 v3 := Tryd.zeroValue3
 t4 := Tryd.underlying4
 a4 := Tryd.isAgg4
 z4 := Tryd.sizeOf4
 v4 := Tryd.zeroValue4
 t5 := Tryd.underlying5
 a5 := Tryd.isAgg5
 z5 := Tryd.sizeOf5
 v5 := Tryd.zeroValue5
 t9 := Tryd.underlying9
 a9 := Tryd.isAgg9
 z9 := Tryd.sizeOf9
 v9 := Tryd.zeroValue9
 t21 := Tryd.underlying21
 a21 := Tryd.isAgg21
 z21 := Tryd.sizeOf21
 v21 := Tryd.zeroValue21
 t31 := Tryd.underlying28
 a31 := Tryd.isAgg28
 z31 := Tryd.sizeOf28
 v31 := Tryd.zeroValue28
 t46 := Tryd.underlying114
 a46 := Tryd.isAgg114
 z46 := Tryd.sizeOf114
 v46 := Tryd.zeroValue114
 t51 := Tryd.underlying94
 a51 := Tryd.isAgg94
 z51 := Tryd.sizeOf94
 v51 := Tryd.zeroValue94
 t105 := Tryd.underlying121
 a105 := Tryd.isAgg121
 z105 := Tryd.sizeOf121
 v105 := Tryd.zeroValue121
 t119 := Tryd.underlying135
 a119 := Tryd.isAgg135
 z119 := Tryd.sizeOf135
 t138 := Tryd.underlying137
 a138 := Tryd.isAgg137
 z138 := Tryd.sizeOf137
 v138 := Tryd.zeroValue137
 t139 := Tryd.underlying138
 a139 := Tryd.isAgg138
 z139 := Tryd.sizeOf138
 v139 := Tryd.zeroValue138
 t146 := Tryd.underlying128
 a146 := Tryd.isAgg128
 z146 := Tryd.sizeOf128
 v146 := Tryd.zeroValue128
 g1 := by kernel_rfl
 g3 := by kernel_rfl
 g4 := by kernel_rfl }
def Tryd.lays146_ren : Go.Shelf.Ren := ⟨fun | 146 => 49 | 221 => 68 | 268 => 76 | 138 => 77 | 143 => 78 | 195 => 85 | 197 => 86 | 218 => 87 | 219 => 73 | 260 => 94 | 217 => 81 | 225 => 82 | 224 => 83 | 267 => 84 | 266 => 92 | 314 => 93 | n => n, fun | 9 => 9 | 31 => 28 | 3 => 3 | 4 => 4 | 0 => 0 | 105 => 121 | 21 => 21 | 5 => 5 | 46 => 114 | 119 => 135 | 139 => 138 | 138 => 137 | 146 => 128 | 51 => 94 | n => n, fun | 1 => 0 | 3 => 2 | 4 => 3 | n => n⟩
theorem Tryd.lays146 : Go.Proofs.Lays.n146 Tryd.prog Tryd.lays146_ren := {
 mixed := by kernel_rfl
 f138 := Tryd.func77.trans (congrArg some (by kernel_rfl))
 f143 := Tryd.func78.trans (congrArg some (by kernel_rfl))
 f146 := Tryd.func49.trans (congrArg some (by kernel_rfl))
 f195 := Tryd.func85.trans (congrArg some (by kernel_rfl))
 f197 := Tryd.func86.trans (congrArg some (by kernel_rfl))
 f217 := Tryd.func81.trans (congrArg some (by kernel_rfl))
 f218 := Tryd.func87.trans (congrArg some (by kernel_rfl))
 f219 := Tryd.func73.trans (congrArg some (by kernel_rfl))
 f221 := Tryd.func68.trans (congrArg some (by kernel_rfl))
 f224 := Tryd.func83.trans (congrArg some (by kernel_rfl))
 f225 := Tryd.func82.trans (congrArg some (by kernel_rfl))
 f260 := Tryd.func94.trans (congrArg some (by kernel_rfl))
 f266 := Tryd.func92.trans (congrArg some (by kernel_rfl))
 f267 := Tryd.func84.trans (congrArg some (by kernel_rfl))
 f268 := Tryd.func76.trans (congrArg some (by kernel_rfl))
 f314 := Tryd.func93.trans (congrArg some (by kernel_rfl))
 t0 := Tryd.underlying0
 a0 := Tryd.isAgg0
 z0 := Tryd.sizeOf0
 v0 := Tryd.zeroValue0
 t3 := Tryd.underlying3
 a3 := Tryd.isAgg3
 z3 := Tryd.sizeOf3
 v3 := Tryd.zeroValue3
 t4 := Tryd.underlying4
 a4 := Tryd.isAgg4
 z4 := Tryd.sizeOf4
 v4 := Tryd.zeroValue4
 t5 := Tryd.underlying5
 a5 := Tryd.isAgg5
 z5 := Tryd.sizeOf5
 v5 := Tryd.zeroValue5
 t9 := Tryd.underlying9
 a9 := Tryd.isAgg9
 z9 := Tryd.sizeOf9
 v9 := Tryd.zeroValue9
 t21 := Tryd.underlying21
 a21 := Tryd.isAgg21
 z21 := Tryd.sizeOf21
 v21 := Tryd.zeroValue21
 t31 := Tryd.underlying28
 a31 := Tryd.isAgg28
 z31 := Tryd.sizeOf28
 v31 := Tryd.zeroValue28
 t46 := Tryd.underlying114
 a46 := Tryd.isAgg114
 z46 := Tryd.sizeOf114
 v46 := Tryd.zeroValue114
 t51 := Tryd.underlying94
 a51 := Tryd.isAgg94
 z51 := Tryd.sizeOf94
 v51 := Tryd.zeroValue94
 t105 := Tryd.underlying121
 a105 := Tryd.isAgg121
 z105 := Tryd.sizeOf121
 v105 := Tryd.zeroValue121
 t119 := Tryd.underlying135
 a119 := Tryd.isAgg135
 z119 := Tryd.sizeOf135
 t138 := Tryd.underlying137
 a138 := Tryd.isAgg137
 z138 := Tryd.sizeOf137
 v138 := Tryd.zeroValue137
 t139 := Tryd.underlying138
 a139 := Tryd.isAgg138
 z139 := Tryd.sizeOf138
 v139 := Tryd.zeroValue138
 t146 := Tryd.underlying128
 a146 := Tryd.isAgg128
 z146 := Tryd.sizeOf128
 v146 := Tryd.zeroValue128
 g1 := by kernel_rfl
 g3 := by kernel_rfl
 g4 := by kernel_rfl }
open Go.RowKit Go.Lib in
theorem Tryd.strings_Split (s sep : ByteArray) (m : Int) (w : World) (hs : s.size < 4294967281) (hm : w.cell? ⟨0, 0, none⟩ = some (.int .i64 m)) (h1 : 1 <= sep.size) :
  Calls Tryd.prog 49 #[.string s, .string sep] w fun e w' =>
   e = .returned (.slice (some ⟨w.heap.size, 0, none⟩) (Lib.countB s sep + 1) (Lib.countB s sep + 1)) /\ w' = w.alloc (.cells ((Lib.splitB sep 0 (Lib.countB s sep) s).map Value.string).toArray 9) := Any.strings_Split Tryd.lays146 (by kernel_rfl) s sep m w hs hm h1
def Tryd.lays187_ren : Go.Shelf.Ren := ⟨fun | 187 => 72 | 255 => 80 | n => n, fun | 37 => 22 | 5 => 5 | 3 => 3 | n => n, fun | n => n⟩
theorem Tryd.lays187 : Go.Proofs.Lays.n187 Tryd.prog Tryd.lays187_ren := {
 mixed := by kernel_rfl
 f187 := Tryd.func72.trans (congrArg some (by kernel_rfl))
 f255 := Tryd.func80.trans (congrArg some (by kernel_rfl))
 t3 := Tryd.underlying3
 a3 := Tryd.isAgg3
 z3 := Tryd.sizeOf3
 v3 := Tryd.zeroValue3
 t5 := Tryd.underlying5
 a5 := Tryd.isAgg5
 z5 := Tryd.sizeOf5
 v5 := Tryd.zeroValue5
 t37 := Tryd.underlying22
 a37 := Tryd.isAgg22
 z37 := Tryd.sizeOf22
 v37 := Tryd.zeroValue22 }
open Go.RowKit Go.Lib in
theorem Tryd.bytes_IndexByte_at (a : Addr) (n c : Nat) (xs : List Int) (cv : Int) (w : World) (hx : xs.length = n) (hc : ∀ i, i < n -> w.cell? (a.add i) = some (.int .u8 (xs.getD i 0))) :
  Calls Tryd.prog 72 #[.slice (some a) n c, .int .u8 cv] w fun e w' => e = .returned (.int .i64 (Lib.indexByte (Lib.bytesOf xs) cv.toNat.toUInt8)) /\ w' = w := Any.bytes_IndexByte_at Tryd.lays187 a n c xs cv w hx hc
theorem Tryd.bytes_IndexByte (b o n c : Nat) (xs : List Int) (cv : Int) (w : World) (hx : xs.length = n) (hc : ∀ i, i < n -> w.cell? ⟨b, o + i, none⟩ = some (.int .u8 (xs.getD i 0))) :
  Calls Tryd.prog 72 #[.slice (some ⟨b, o, none⟩) n c, .int .u8 cv] w fun e w' => e = .returned (.int .i64 (Lib.indexByte (Lib.bytesOf xs) cv.toNat.toUInt8)) /\ w' = w := Any.bytes_IndexByte Tryd.lays187 b o n c xs cv w hx hc
end Go.Proofs
