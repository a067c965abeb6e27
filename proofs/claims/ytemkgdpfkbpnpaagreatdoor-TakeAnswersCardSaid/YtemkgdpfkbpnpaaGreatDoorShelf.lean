/- Words for proofs. -/
import Derived.Shelf.Small.Wraps
import Derived.Shelf.Utf8.RuneCount
import Derived.Shelf.Strconv.Itoa0
import Derived.Shelf.Strconv.Itoa1
import Derived.Shelf.LaysM
import Derived.Shelf.Strconv.Itoa2
import Derived.Shelf.Strconv.Itoa3
import Derived.Shelf.Strings.Search1
import Derived.Shelf.Strings.Search2
import Derived.Shelf.Strings.Search3
import Derived.Shelf.Strings.Cut
import Derived.Shelf.Strings.Count
import Derived.Shelf.Strings.Shaped
import Derived.Shelf.Strings.Prefix
import Derived.Shelf.Strings.Split
import Derived.Shelf.Strings.SplitShaped
import Derived.Shelf.Unicode.Decode
import Derived.Shelf.Strings.RuneCount
import Derived.Shelf.Strings.Explode
import Derived.Shelf.Unicode.DecodeSlow
import Derived.Shelf.Unicode.DecodeAny
import Derived.Shelf.Bytes.SlIndexAt
import Derived.Shelf.Bytes.SlSearch0
import Derived.Ground.SlbCloneProg
import Derived.Shelf.Bytes.SlClone
import Derived.Shelf.Bytes.IndexByte
import Derived.Test.YtemkgdpfkbpnpaaGreatDoorProg
namespace Go.Proofs
open Go.Shelf
def Tryz.lays210_ren : Go.Shelf.Ren := ⟨fun | 210 => 52 | 206 => 74 | n => n, fun | 9 => 9 | 4 => 4 | 3 => 3 | n => n, fun | n => n⟩
theorem Tryz.lays210 : Go.Proofs.Lays.n210 Tryz.prog Tryz.lays210_ren := {
 mixed := by kernel_rfl
 f206 := Tryz.func74.trans (congrArg some (by kernel_rfl))
 f210 := Tryz.func52.trans (congrArg some (by kernel_rfl))
 t3 := Tryz.underlying3
 a3 := Tryz.isAgg3
 z3 := Tryz.sizeOf3
 v3 := Tryz.zeroValue3
 t4 := Tryz.underlying4
 a4 := Tryz.isAgg4
 z4 := Tryz.sizeOf4
 v4 := Tryz.zeroValue4
 t9 := Tryz.underlying9
 a9 := Tryz.isAgg9
 z9 := Tryz.sizeOf9
 v9 := Tryz.zeroValue9 }
open Go.RowKit in
theorem Tryz.stringslite_CutPrefix (s p : ByteArray) (w : World) :
  Calls Tryz.prog 52 #[.string s, .string p] w fun e w' => e = .returned (.tuple #[.string ⟨(Lib.trimPrefix s.data.toList p.data.toList).toArray⟩, .bool (Lib.hasPrefix s.data.toList p.data.toList)]) /\ w' = w := Any.stringslite_CutPrefix Tryz.lays210 s p w
def Tryz.lays103_ren : Go.Shelf.Ren := ⟨fun | 103 => 32 | 210 => 52 | 206 => 74 | n => n, fun | 9 => 9 | 4 => 4 | 24 => 69 | 3 => 3 | n => n, fun | n => n⟩
theorem Tryz.lays103 : Go.Proofs.Lays.n103 Tryz.prog Tryz.lays103_ren := {
 mixed := by kernel_rfl
 f103 := Tryz.func32.trans (congrArg some (by kernel_rfl))
 f206 := Tryz.func74.trans (congrArg some (by kernel_rfl))
 f210 := Tryz.func52.trans (congrArg some (by kernel_rfl))
 t3 := Tryz.underlying3
 a3 := Tryz.isAgg3
 z3 := Tryz.sizeOf3
 v3 := Tryz.zeroValue3
 t4 := Tryz.underlying4
 a4 := Tryz.isAgg4
 z4 := Tryz.sizeOf4
 v4 := Tryz.zeroValue4
 t9 := Tryz.underlying9
 a9 := Tryz.isAgg9
 z9 := Tryz.sizeOf9
 v9 := Tryz.zeroValue9
 t24 := Tryz.underlying69
 a24 := Tryz.isAgg69
 z24 := Tryz.sizeOf69
 v24 := Tryz.zeroValue69 }
open Go.RowKit in
theorem Tryz.strings_CutPrefix (s p : ByteArray) (w : World) :
  Calls Tryz.prog 32 #[.string s, .string p] w fun e w' => e = .returned (.tuple #[.string ⟨(Lib.trimPrefix s.data.toList p.data.toList).toArray⟩, .bool (Lib.hasPrefix s.data.toList p.data.toList)]) /\ w' = w := Any.strings_CutPrefix Tryz.lays103 s p w
def Tryz.lays211_ren : Go.Shelf.Ren := ⟨fun | 211 => 53 | 207 => 75 | n => n, fun | 9 => 9 | 4 => 4 | 3 => 3 | n => n, fun | n => n⟩
theorem Tryz.lays211 : Go.Proofs.Lays.n211 Tryz.prog Tryz.lays211_ren := {
 mixed := by kernel_rfl
 f207 := Tryz.func75.trans (congrArg some (by kernel_rfl))
 f211 := Tryz.func53.trans (congrArg some (by kernel_rfl))
 t3 := Tryz.underlying3
 a3 := Tryz.isAgg3
 z3 := Tryz.sizeOf3
 v3 := Tryz.zeroValue3
 t4 := Tryz.underlying4
 a4 := Tryz.isAgg4
 z4 := Tryz.sizeOf4
 v4 := Tryz.zeroValue4
 t9 := Tryz.underlying9
 a9 := Tryz.isAgg9
 z9 := Tryz.sizeOf9
 v9 := Tryz.zeroValue9 }
open Go.RowKit in
theorem Tryz.stringslite_CutSuffix (s p : ByteArray) (w : World) (hs : s.size <= 9223372036854775807) :
  Calls Tryz.prog 53 #[.string s, .string p] w fun e w' => e = .returned (.tuple #[.string ⟨(Lib.trimSuffix s.data.toList p.data.toList).toArray⟩, .bool (Lib.hasSuffix s.data.toList p.data.toList)]) /\ w' = w := Any.stringslite_CutSuffix Tryz.lays211 s p w hs
def Tryz.lays104_ren : Go.Shelf.Ren := ⟨fun | 104 => 33 | 211 => 53 | 207 => 75 | n => n, fun | 9 => 9 | 4 => 4 | 24 => 69 | 3 => 3 | n => n, fun | n => n⟩
theorem Tryz.lays104 : Go.Proofs.Lays.n104 Tryz.prog Tryz.lays104_ren := {
 mixed := by kernel_rfl
 f104 := Tryz.func33.trans (congrArg some (by kernel_rfl))
 f207 := Tryz.func75.trans (congrArg some (by kernel_rfl))
 f211 := Tryz.func53.trans (congrArg some (by kernel_rfl))
 t3 := Tryz.underlying3
 a3 := Tryz.isAgg3
 z3 := Tryz.sizeOf3
 v3 := Tryz.zeroValue3
 t4 := Tryz.underlying4
 a4 := Tryz.isAgg4
 z4 := Tryz.sizeOf4
 v4 := Tryz.zeroValue4
 t9 := Tryz.underlying9
 a9 := Tryz.isAgg9
 z9 := Tryz.sizeOf9
 v9 := Tryz.zeroValue9
 t24 := Tryz.underlying69
 a24 := Tryz.isAgg69
 z24 := Tryz.sizeOf69
 v24 := Tryz.zeroValue69 }
open Go.RowKit in
theorem Tryz.strings_CutSuffix (s p : ByteArray) (w : World) (hs : s.size <= 9223372036854775807) :
  Calls Tryz.prog 33 #[.string s, .string p] w fun e w' => e = .returned (.tuple #[.string ⟨(Lib.trimSuffix s.data.toList p.data.toList).toArray⟩, .bool (Lib.hasSuffix s.data.toList p.data.toList)]) /\ w' = w := Any.strings_CutSuffix Tryz.lays104 s p w hs
def Tryz.laysM171_ren : Go.Shelf.Ren := ⟨fun | 171 => 68 | 243 => 84 | 246 => 90 | 283 => 99 | 284 => 100 | 285 => 101 | 286 => 102 | 129 => 107 | 317 => 106 | 318 => 108 | 319 => 109 | 320 => 110 | 337 => 111 | 338 => 112 | n => n, fun | 3 => 3 | 9 => 9 | 2 => 2 | 4 => 4 | 171 => 133 | 0 => 0 | 53 => 103 | 37 => 22 | 5 => 5 | 173 => 136 | 212 => 141 | 51 => 104 | 20 => 20 | 213 => 142 | 46 => 124 | 232 => 76 | 233 => 150 | n => n, fun | 17 => 1 | 18 => 4 | 19 => 5 | n => n⟩
theorem Tryz.laysM171 : Go.Proofs.LaysM.n171 Tryz.prog Tryz.laysM171_ren := {
 mixed := by kernel_rfl
 f129 := Tryz.func107.trans (congrArg some (by kernel_rfl))
 f171 := Tryz.func68.trans (congrArg some (by kernel_rfl))
 f243 := Tryz.func84.trans (congrArg some (by kernel_rfl))
 f246 := Tryz.func90.trans (congrArg some (by kernel_rfl))
 f283 := Tryz.func99.trans (congrArg some (by kernel_rfl))
 f284 := Tryz.func100.trans (congrArg some (by kernel_rfl))
 f285 := Tryz.func101.trans (congrArg some (by kernel_rfl))
 f286 := Tryz.func102.trans (congrArg some (by kernel_rfl))
 f317 := Tryz.func106.trans (congrArg some (by kernel_rfl))
 f318 := Tryz.func108.trans (congrArg some (by kernel_rfl))
 f319 := Tryz.func109.trans (congrArg some (by kernel_rfl))
 f320 := Tryz.func110.trans (congrArg some (by kernel_rfl))
 f337 := Tryz.func111.trans (congrArg some (by kernel_rfl))
 f338 := Tryz.func112.trans (congrArg some (by kernel_rfl))
 t0 := Tryz.underlying0
 a0 := Tryz.isAgg0
 z0 := Tryz.sizeOf0
 v0 := Tryz.zeroValue0
 t2 := Tryz.underlying2
 a2 := Tryz.isAgg2
 z2 := Tryz.sizeOf2
 v2 := Tryz.zeroValue2
 t3 := Tryz.underlying3
 a3 := Tryz.isAgg3
 z3 := Tryz.sizeOf3
 v3 := Tryz.zeroValue3
 t4 := Tryz.underlying4
 a4 := Tryz.isAgg4
 z4 := Tryz.sizeOf4
 v4 := Tryz.zeroValue4
 t5 := Tryz.underlying5
 a5 := Tryz.isAgg5
 z5 := Tryz.sizeOf5
 v5 := Tryz.zeroValue5
 t9 := Tryz.underlying9
 a9 := Tryz.isAgg9
 z9 := Tryz.sizeOf9
 v9 := Tryz.zeroValue9
 t20 := Tryz.underlying20
 a20 := Tryz.isAgg20
 z20 := Tryz.sizeOf20
 v20 := Tryz.zeroValue20
 t37 := Tryz.underlying22
 a37 := Tryz.isAgg22
 z37 := Tryz.sizeOf22
 v37 := Tryz.zeroValue22
 t46 := Tryz.underlying124
 a46 := Tryz.isAgg124
 z46 := Tryz.sizeOf124
 v46 := Tryz.zeroValue124
 t51 := Tryz.underlying104
 a51 := Tryz.isAgg104
 z51 := Tryz.sizeOf104
 v51 := Tryz.zeroValue104
 t53 := Tryz.underlying103
 a53 := Tryz.isAgg103
 z53 := Tryz.sizeOf103
 v53 := Tryz.zeroValue103
 t171 := Tryz.underlying133
 a171 := Tryz.isAgg133
 z171 := Tryz.sizeOf133
 v171 := Tryz.zeroValue133
 t173 := Tryz.underlying136
 a173 := Tryz.isAgg136
 z173 := Tryz.sizeOf136
 v173 := Tryz.zeroValue136
 t212 := Tryz.underlying141
 a212 := Tryz.isAgg141
 z212 := Tryz.sizeOf141
 v212 := Tryz.zeroValue141
 t213 := Tryz.underlying142
 a213 := Tryz.isAgg142
 z213 := Tryz.sizeOf142
 t232 := Tryz.underlying76
 a232 := Tryz.isAgg76
 z232 := Tryz.sizeOf76
 v232 := Tryz.zeroValue76
 t233 := Tryz.underlying150
 a233 := Tryz.isAgg150
 z233 := Tryz.sizeOf150
 v233 := Tryz.zeroValue150
 g17 := by kernel_rfl
 g18 := by kernel_rfl
 g19 := by kernel_rfl
 i0 := by kernel_rfl
 i2 := by kernel_rfl
 i3 := by kernel_rfl
 i4 := by kernel_rfl
 i5 := by kernel_rfl
 i9 := by kernel_rfl
 i20 := by kernel_rfl
 i37 := by kernel_rfl
 i46 := by kernel_rfl
 i51 := by kernel_rfl
 i53 := by kernel_rfl
 i171 := by kernel_rfl
 i173 := by kernel_rfl
 i212 := by kernel_rfl
 i232 := by kernel_rfl
 i233 := by kernel_rfl
 m17 := by kernel_rfl
 m18 := by kernel_rfl
 m19 := by kernel_rfl }
open Go.RowKit Go.Sort Go.Lib in
theorem Tryz.strconv_Itoa (n : Int) (h0 : -9223372036854775808 <= n) (h1 : n <= 9223372036854775807) (w : World) (htab : Lib.TabIs Tryz.prog w "internal/strconv.uint64pow10" .u64 Lib.pow10Tab) :
  Calls Tryz.prog 68 #[.int .i64 n] w fun e w' => e = .returned (.string ⟨(Lib.itoa n).toArray⟩) /\ ∃ k os, w' = grow (w.drewN k) os := Any.strconv_Itoa Tryz.laysM171 n h0 h1 w htab
def Tryz.lays171_ren : Go.Shelf.Ren := ⟨fun | 171 => 68 | 243 => 84 | 246 => 90 | 283 => 99 | 284 => 100 | 285 => 101 | 286 => 102 | 129 => 107 | 317 => 106 | 318 => 108 | 319 => 109 | 320 => 110 | 337 => 111 | 338 => 112 | n => n, fun | 3 => 3 | 9 => 9 | 2 => 2 | 4 => 4 | 171 => 133 | 0 => 0 | 53 => 103 | 37 => 22 | 5 => 5 | 173 => 136 | 212 => 141 | 51 => 104 | 20 => 20 | 213 => 142 | 46 => 124 | 232 => 76 | 233 => 150 | n => n, fun | 17 => 1 | 18 => 4 | 19 => 5 | n => n⟩
theorem Tryz.lays171 : Go.Proofs.Lays.n171 Tryz.prog Tryz.lays171_ren := {
 mixed := by kernel_rfl
 f129 := Tryz.func107.trans (congrArg some (by kernel_rfl))
 f171 := Tryz.func68.trans (congrArg some (by kernel_rfl))
 f243 := Tryz.func84.trans (congrArg some (by kernel_rfl))
 f246 := Tryz.func90.trans (congrArg some (by kernel_rfl))
 f283 := Tryz.func99.trans (congrArg some (by kernel_rfl))
 f284 := Tryz.func100.trans (congrArg some (by kernel_rfl))
 f285 := Tryz.func101.trans (congrArg some (by kernel_rfl))
 f286 := Tryz.func102.trans (congrArg some (by kernel_rfl))
 f317 := Tryz.func106.trans (congrArg some (by kernel_rfl))
 f318 := Tryz.func108.trans (congrArg some (by kernel_rfl))
 f319 := Tryz.func109.trans (congrArg some (by kernel_rfl))
 f320 := Tryz.func110.trans (congrArg some (by kernel_rfl))
 f337 := Tryz.func111.trans (congrArg some (by kernel_rfl))
 f338 := Tryz.func112.trans (congrArg some (by kernel_rfl))
 t0 := Tryz.underlying0
 a0 := Tryz.isAgg0
 z0 := Tryz.sizeOf0
 v0 := Tryz.zeroValue0
 t2 := Tryz.underlying2
 a2 := Tryz.isAgg2
 z2 := Tryz.sizeOf2
 v2 := Tryz.zeroValue2
 t3 := Tryz.underlying3
 a3 := Tryz.isAgg3
 z3 := Tryz.sizeOf3
 v3 := Tryz.zeroValue3
 t4 := Tryz.underlying4
 a4 := Tryz.isAgg4
 z4 := Tryz.sizeOf4
 v4 := Tryz.zeroValue4
 t5 := Tryz.underlying5
 a5 := Tryz.isAgg5
 z5 := Tryz.sizeOf5
 v5 := Tryz.zeroValue5
 t9 := Tryz.underlying9
 a9 := Tryz.isAgg9
 z9 := Tryz.sizeOf9
 v9 := Tryz.zeroValue9
 t20 := Tryz.underlying20
 a20 := Tryz.isAgg20
 z20 := Tryz.sizeOf20
 v20 := Tryz.zeroValue20
 t37 := Tryz.underlying22
 a37 := Tryz.isAgg22
 z37 := Tryz.sizeOf22
 v37 := Tryz.zeroValue22
 t46 := Tryz.underlying124
 a46 := Tryz.isAgg124
 z46 := Tryz.sizeOf124
 v46 := Tryz.zeroValue124
 t51 := Tryz.underlying104
 a51 := Tryz.isAgg104
 z51 := Tryz.sizeOf104
 v51 := Tryz.zeroValue104
 t53 := Tryz.underlying103
 a53 := Tryz.isAgg103
 z53 := Tryz.sizeOf103
 v53 := Tryz.zeroValue103
 t171 := Tryz.underlying133
 a171 := Tryz.isAgg133
 z171 := Tryz.sizeOf133
 v171 := Tryz.zeroValue133
 t173 := Tryz.underlying136
 a173 := Tryz.isAgg136
 z173 := Tryz.sizeOf136
 v173 := Tryz.zeroValue136
 t212 := Tryz.underlying141
 a212 := Tryz.isAgg141
 z212 := Tryz.sizeOf141
 v212 := Tryz.zeroValue141
 t213 := Tryz.underlying142
 a213 := Tryz.isAgg142
 z213 := Tryz.sizeOf142
 t232 := Tryz.underlying76
 a232 := Tryz.isAgg76
 z232 := Tryz.sizeOf76
 v232 := Tryz.zeroValue76
 t233 := Tryz.underlying150
 a233 := Tryz.isAgg150
 z233 := Tryz.sizeOf150
 v233 := Tryz.zeroValue150
 g17 := by kernel_rfl
 g18 := by kernel_rfl
 g19 := by kernel_rfl }
open Go.RowKit Go.Sort Go.Lib in
theorem Tryz.strconv_Itoa_small (i : Nat) (hi : i < 100) (w : World) :
  Calls Tryz.prog 68 #[.int .i64 i] w fun e w' => e = .returned (.string ⟨(Lib.decDigits i).toArray⟩) /\ w' = w := Any.strconv_Itoa_small Tryz.lays171 i hi w
def Tryz.lays219_ren : Go.Shelf.Ren := ⟨fun | 219 => 86 | 217 => 92 | 225 => 93 | 224 => 94 | 267 => 95 | 266 => 103 | 314 => 104 | n => n, fun | 9 => 9 | 3 => 3 | 4 => 4 | 5 => 5 | 46 => 124 | 146 => 138 | 51 => 104 | n => n, fun | 1 => 0 | n => n⟩
theorem Tryz.lays219 : Go.Proofs.Lays.n219 Tryz.prog Tryz.lays219_ren := {
 mixed := by kernel_rfl
 f217 := Tryz.func92.trans (congrArg some (by kernel_rfl))
 f219 := Tryz.func86.trans (congrArg some (by kernel_rfl))
 f224 := Tryz.func94.trans (congrArg some (by kernel_rfl))
 f225 := Tryz.func93.trans (congrArg some (by kernel_rfl))
 f266 := Tryz.func103.trans (congrArg some (by kernel_rfl))
 f267 := Tryz.func95.trans (congrArg some (by kernel_rfl))
 f314 := Tryz.func104.trans (congrArg some (by kernel_rfl))
 t3 := Tryz.underlying3
 a3 := Tryz.isAgg3
 z3 := Tryz.sizeOf3
 v3 := Tryz.zeroValue3
 t4 := Tryz.underlying4
 a4 := Tryz.isAgg4
 z4 := Tryz.sizeOf4
 v4 := Tryz.zeroValue4
 t5 := Tryz.underlying5
 a5 := Tryz.isAgg5
 z5 := Tryz.sizeOf5
 v5 := Tryz.zeroValue5
 t9 := Tryz.underlying9
 a9 := Tryz.isAgg9
 z9 := Tryz.sizeOf9
 v9 := Tryz.zeroValue9
 t46 := Tryz.underlying124
 a46 := Tryz.isAgg124
 z46 := Tryz.sizeOf124
 v46 := Tryz.zeroValue124
 t51 := Tryz.underlying104
 a51 := Tryz.isAgg104
 z51 := Tryz.sizeOf104
 v51 := Tryz.zeroValue104
 t146 := Tryz.underlying138
 a146 := Tryz.isAgg138
 z146 := Tryz.sizeOf138
 v146 := Tryz.zeroValue138
 g1 := by kernel_rfl }
open Go.RowKit Go.Lib in
theorem Tryz.stringslite_Index_one (s : ByteArray) (c : UInt8) (w : World) :
  Calls Tryz.prog 86 #[.string s, .string ⟨#[c]⟩] w fun e w' => e = .returned (.int .i64 (Lib.indexByte s.data.toList c)) /\ w' = w := Any.stringslite_Index_one Tryz.lays219 s c w
open Go.RowKit Go.Lib in
theorem Tryz.stringslite_Index (s sub : ByteArray) (m : Int) (w : World) (hs : s.size < 4294967281) (hm : w.cell? ⟨0, 0, none⟩ = some (.int .i64 m)) :
  Calls Tryz.prog 86 #[.string s, .string sub] w fun e w' => e = .returned (.int .i64 (Lib.index s.data.toList sub.data.toList)) /\ w' = w := Any.stringslite_Index Tryz.lays219 s sub m w hs hm
def Tryz.lays143_ren : Go.Shelf.Ren := ⟨fun | 143 => 89 | 219 => 86 | 217 => 92 | 225 => 93 | 224 => 94 | 267 => 95 | 266 => 103 | 314 => 104 | n => n, fun | 9 => 9 | 3 => 3 | 4 => 4 | 5 => 5 | 46 => 124 | 146 => 138 | 51 => 104 | n => n, fun | 1 => 0 | n => n⟩
theorem Tryz.lays143 : Go.Proofs.Lays.n143 Tryz.prog Tryz.lays143_ren := {
 mixed := by kernel_rfl
 f143 := Tryz.func89.trans (congrArg some (by kernel_rfl))
 f217 := Tryz.func92.trans (congrArg some (by kernel_rfl))
 f219 := Tryz.func86.trans (congrArg some (by kernel_rfl))
 f224 := Tryz.func94.trans (congrArg some (by kernel_rfl))
 f225 := Tryz.func93.trans (congrArg some (by kernel_rfl))
 f266 := Tryz.func103.trans (congrArg some (by kernel_rfl))
 f267 := Tryz.func95.trans (congrArg some (by kernel_rfl))
 f314 := Tryz.func104.trans (congrArg some (by kernel_rfl))
 t3 := Tryz.underlying3
 a3 := Tryz.isAgg3
 z3 := Tryz.sizeOf3
 v3 := Tryz.zeroValue3
 t4 := Tryz.underlying4
 a4 := Tryz.isAgg4
 z4 := Tryz.sizeOf4
 v4 := Tryz.zeroValue4
 t5 := Tryz.underlying5
 a5 := Tryz.isAgg5
 z5 := Tryz.sizeOf5
 v5 := Tryz.zeroValue5
 t9 := Tryz.underlying9
 a9 := Tryz.isAgg9
 z9 := Tryz.sizeOf9
 v9 := Tryz.zeroValue9
 t46 := Tryz.underlying124
 a46 := Tryz.isAgg124
 z46 := Tryz.sizeOf124
 v46 := Tryz.zeroValue124
 t51 := Tryz.underlying104
 a51 := Tryz.isAgg104
 z51 := Tryz.sizeOf104
 v51 := Tryz.zeroValue104
 t146 := Tryz.underlying138
 a146 := Tryz.isAgg138
 z146 := Tryz.sizeOf138
 v146 := Tryz.zeroValue138
 g1 := by kernel_rfl }
open Go.RowKit Go.Lib in
theorem Tryz.strings_Index_one (s : ByteArray) (c : UInt8) (w : World) :
  Calls Tryz.prog 89 #[.string s, .string ⟨#[c]⟩] w fun e w' => e = .returned (.int .i64 (Lib.indexByte s.data.toList c)) /\ w' = w := Any.strings_Index_one Tryz.lays143 s c w
def Tryz.lays220_ren : Go.Shelf.Ren := ⟨fun | 220 => 73 | 219 => 86 | 217 => 92 | 225 => 93 | 224 => 94 | 267 => 95 | 266 => 103 | 314 => 104 | n => n, fun | 9 => 9 | 4 => 4 | 3 => 3 | 5 => 5 | 46 => 124 | 146 => 138 | 51 => 104 | n => n, fun | 1 => 0 | n => n⟩
theorem Tryz.lays220 : Go.Proofs.Lays.n220 Tryz.prog Tryz.lays220_ren := {
 mixed := by kernel_rfl
 f217 := Tryz.func92.trans (congrArg some (by kernel_rfl))
 f219 := Tryz.func86.trans (congrArg some (by kernel_rfl))
 f220 := Tryz.func73.trans (congrArg some (by kernel_rfl))
 f224 := Tryz.func94.trans (congrArg some (by kernel_rfl))
 f225 := Tryz.func93.trans (congrArg some (by kernel_rfl))
 f266 := Tryz.func103.trans (congrArg some (by kernel_rfl))
 f267 := Tryz.func95.trans (congrArg some (by kernel_rfl))
 f314 := Tryz.func104.trans (congrArg some (by kernel_rfl))
 t3 := Tryz.underlying3
 a3 := Tryz.isAgg3
 z3 := Tryz.sizeOf3
 v3 := Tryz.zeroValue3
 t4 := Tryz.underlying4
 a4 := Tryz.isAgg4
 z4 := Tryz.sizeOf4
 v4 := Tryz.zeroValue4
 t5 := Tryz.underlying5
 a5 := Tryz.isAgg5
 z5 := Tryz.sizeOf5
 v5 := Tryz.zeroValue5
 t9 := Tryz.underlying9
 a9 := Tryz.isAgg9
 z9 := Tryz.sizeOf9
 v9 := Tryz.zeroValue9
 t46 := Tryz.underlying124
 a46 := Tryz.isAgg124
 z46 := Tryz.sizeOf124
 v46 := Tryz.zeroValue124
 t51 := Tryz.underlying104
 a51 := Tryz.isAgg104
 z51 := Tryz.sizeOf104
 v51 := Tryz.zeroValue104
 t146 := Tryz.underlying138
 a146 := Tryz.isAgg138
 z146 := Tryz.sizeOf138
 v146 := Tryz.zeroValue138
 g1 := by kernel_rfl }
open Go.RowKit Go.Lib in
theorem Tryz.stringslite_Cut (s sep : ByteArray) (m : Int) (w : World) (hs : s.size < 4294967281) (hm : w.cell? ⟨0, 0, none⟩ = some (.int .i64 m)) :
  Calls Tryz.prog 73 #[.string s, .string sep] w fun e w' => e = .returned (.tuple #[.string ⟨(Lib.cut s.data.toList sep.data.toList).1.toArray⟩, .string ⟨(Lib.cut s.data.toList sep.data.toList).2.1.toArray⟩, .bool (Lib.cut s.data.toList sep.data.toList).2.2]) /\ ∃ n, w' = w.drewN n := Any.stringslite_Cut Tryz.lays220 s sep m w hs hm
def Tryz.lays145_ren : Go.Shelf.Ren := ⟨fun | 145 => 50 | 220 => 73 | 219 => 86 | 217 => 92 | 225 => 93 | 224 => 94 | 267 => 95 | 266 => 103 | 314 => 104 | n => n, fun | 9 => 9 | 4 => 4 | 59 => 94 | 3 => 3 | 5 => 5 | 46 => 124 | 146 => 138 | 51 => 104 | n => n, fun | 1 => 0 | n => n⟩
theorem Tryz.lays145 : Go.Proofs.Lays.n145 Tryz.prog Tryz.lays145_ren := {
 mixed := by kernel_rfl
 f145 := Tryz.func50.trans (congrArg some (by kernel_rfl))
 f217 := Tryz.func92.trans (congrArg some (by kernel_rfl))
 f219 := Tryz.func86.trans (congrArg some (by kernel_rfl))
 f220 := Tryz.func73.trans (congrArg some (by kernel_rfl))
 f224 := Tryz.func94.trans (congrArg some (by kernel_rfl))
 f225 := Tryz.func93.trans (congrArg some (by kernel_rfl))
 f266 := Tryz.func103.trans (congrArg some (by kernel_rfl))
 f267 := Tryz.func95.trans (congrArg some (by kernel_rfl))
 f314 := Tryz.func104.trans (congrArg some (by kernel_rfl))
 t3 := Tryz.underlying3
 a3 := Tryz.isAgg3
 z3 := Tryz.sizeOf3
 v3 := Tryz.zeroValue3
 t4 := Tryz.underlying4
 a4 := Tryz.isAgg4
 z4 := Tryz.sizeOf4
 v4 := Tryz.zeroValue4
 t5 := Tryz.underlying5
 a5 := Tryz.isAgg5
 z5 := Tryz.sizeOf5
 v5 := Tryz.zeroValue5
 t9 := Tryz.underlying9
 a9 := Tryz.isAgg9
 z9 := Tryz.sizeOf9
 v9 := Tryz.zeroValue9
 t46 := Tryz.underlying124
 a46 := Tryz.isAgg124
 z46 := Tryz.sizeOf124
 v46 := Tryz.zeroValue124
 t51 := Tryz.underlying104
 a51 := Tryz.isAgg104
 z51 := Tryz.sizeOf104
 v51 := Tryz.zeroValue104
 t59 := Tryz.underlying94
 a59 := Tryz.isAgg94
 z59 := Tryz.sizeOf94
 v59 := Tryz.zeroValue94
 t146 := Tryz.underlying138
 a146 := Tryz.isAgg138
 z146 := Tryz.sizeOf138
 v146 := Tryz.zeroValue138
 g1 := by kernel_rfl }
open Go.RowKit Go.Lib in
theorem Tryz.strings_Cut (s sep : ByteArray) (m : Int) (w : World) (hs : s.size < 4294967281) (hm : w.cell? ⟨0, 0, none⟩ = some (.int .i64 m)) :
  Calls Tryz.prog 50 #[.string s, .string sep] w fun e w' => e = .returned (.tuple #[.string ⟨(Lib.cut s.data.toList sep.data.toList).1.toArray⟩, .string ⟨(Lib.cut s.data.toList sep.data.toList).2.1.toArray⟩, .bool (Lib.cut s.data.toList sep.data.toList).2.2]) /\ ∃ n, w' = w.drewN n := Any.strings_Cut Tryz.lays145 s sep m w hs hm
def Tryz.lays138_ren : Go.Shelf.Ren := ⟨fun | 138 => 88 | 195 => 96 | 218 => 98 | 143 => 89 | 219 => 86 | 217 => 92 | 225 => 93 | 224 => 94 | 267 => 95 | 266 => 103 | 314 => 104 | n => n, fun | 9 => 9 | 3 => 3 | 4 => 4 | 5 => 5 | 0 => 0 | 46 => 124 | 146 => 138 | 51 => 104 | n => n, fun | 1 => 0 | n => n⟩
theorem Tryz.lays138 : Go.Proofs.Lays.n138 Tryz.prog Tryz.lays138_ren := {
 mixed := by kernel_rfl
 f138 := Tryz.func88.trans (congrArg some (by kernel_rfl))
 f143 := Tryz.func89.trans (congrArg some (by kernel_rfl))
 f195 := Tryz.func96.trans (congrArg some (by kernel_rfl))
 f217 := Tryz.func92.trans (congrArg some (by kernel_rfl))
 f218 := Tryz.func98.trans (congrArg some (by kernel_rfl))
 f219 := Tryz.func86.trans (congrArg some (by kernel_rfl))
 f224 := Tryz.func94.trans (congrArg some (by kernel_rfl))
 f225 := Tryz.func93.trans (congrArg some (by kernel_rfl))
 f266 := Tryz.func103.trans (congrArg some (by kernel_rfl))
 f267 := Tryz.func95.trans (congrArg some (by kernel_rfl))
 f314 := Tryz.func104.trans (congrArg some (by kernel_rfl))
 t0 := Tryz.underlying0
 a0 := Tryz.isAgg0
 z0 := Tryz.sizeOf0
 v0 := Tryz.zeroValue0
 t3 := Tryz.underlying3
 a3 := Tryz.isAgg3
 z3 := Tryz.sizeOf3
 v3 := Tryz.zeroValue3
 t4 := Tryz.underlying4
 a4 := Tryz.isAgg4
 z4 := Tryz.sizeOf4
 v4 := Tryz.zeroValue4
 t5 := Tryz.underlying5
 a5 := Tryz.isAgg5
 z5 := Tryz.sizeOf5
 v5 := Tryz.zeroValue5
 t9 := Tryz.underlying9
 a9 := Tryz.isAgg9
 z9 := Tryz.sizeOf9
 v9 := Tryz.zeroValue9
 t46 := Tryz.underlying124
 a46 := Tryz.isAgg124
 z46 := Tryz.sizeOf124
 v46 := Tryz.zeroValue124
 t51 := Tryz.underlying104
 a51 := Tryz.isAgg104
 z51 := Tryz.sizeOf104
 v51 := Tryz.zeroValue104
 t146 := Tryz.underlying138
 a146 := Tryz.isAgg138
 z146 := Tryz.sizeOf138
 v146 := Tryz.zeroValue138
 g1 := by kernel_rfl }
open Go.RowKit Go.Lib in
theorem Tryz.strings_Count_one (s : ByteArray) (c : UInt8) (w : World) :
  Calls Tryz.prog 88 #[.string s, .string ⟨#[c]⟩] w fun e w' => e = .returned (.int .i64 (Lib.countByte s.data.toList c)) /\ w' = w := Any.strings_Count_one Tryz.lays138 s c w
def Tryz.lays206_ren : Go.Shelf.Ren := ⟨fun | 206 => 74 | n => n, fun | 9 => 9 | 4 => 4 | 3 => 3 | n => n, fun | n => n⟩
theorem Tryz.lays206 : Go.Proofs.Lays.n206 Tryz.prog Tryz.lays206_ren := {
 mixed := by kernel_rfl
 f206 := Tryz.func74.trans (congrArg some (by kernel_rfl))
 t3 := Tryz.underlying3
 a3 := Tryz.isAgg3
 z3 := Tryz.sizeOf3
 v3 := Tryz.zeroValue3
 t4 := Tryz.underlying4
 a4 := Tryz.isAgg4
 z4 := Tryz.sizeOf4
 v4 := Tryz.zeroValue4
 t9 := Tryz.underlying9
 a9 := Tryz.isAgg9
 z9 := Tryz.sizeOf9
 v9 := Tryz.zeroValue9 }
open Go.RowKit Go.Lib in
theorem Tryz.stringslite_HasPrefix (s p : ByteArray) (w : World) :
  Calls Tryz.prog 74 #[.string s, .string p] w fun e w' => e = .returned (.bool (Lib.hasPrefix s.data.toList p.data.toList)) /\ w' = w := Any.stringslite_HasPrefix Tryz.lays206 s p w
def Tryz.lays99_ren : Go.Shelf.Ren := ⟨fun | 99 => 79 | 206 => 74 | n => n, fun | 9 => 9 | 4 => 4 | 3 => 3 | n => n, fun | n => n⟩
theorem Tryz.lays99 : Go.Proofs.Lays.n99 Tryz.prog Tryz.lays99_ren := {
 mixed := by kernel_rfl
 f99 := Tryz.func79.trans (congrArg some (by kernel_rfl))
 f206 := Tryz.func74.trans (congrArg some (by kernel_rfl))
 t3 := Tryz.underlying3
 a3 := Tryz.isAgg3
 z3 := Tryz.sizeOf3
 v3 := Tryz.zeroValue3
 t4 := Tryz.underlying4
 a4 := Tryz.isAgg4
 z4 := Tryz.sizeOf4
 v4 := Tryz.zeroValue4
 t9 := Tryz.underlying9
 a9 := Tryz.isAgg9
 z9 := Tryz.sizeOf9
 v9 := Tryz.zeroValue9 }
open Go.RowKit Go.Lib in
theorem Tryz.strings_HasPrefix (s p : ByteArray) (w : World) :
  Calls Tryz.prog 79 #[.string s, .string p] w fun e w' => e = .returned (.bool (Lib.hasPrefix s.data.toList p.data.toList)) /\ w' = w := Any.strings_HasPrefix Tryz.lays99 s p w
def Tryz.lays207_ren : Go.Shelf.Ren := ⟨fun | 207 => 75 | n => n, fun | 9 => 9 | 4 => 4 | 3 => 3 | n => n, fun | n => n⟩
theorem Tryz.lays207 : Go.Proofs.Lays.n207 Tryz.prog Tryz.lays207_ren := {
 mixed := by kernel_rfl
 f207 := Tryz.func75.trans (congrArg some (by kernel_rfl))
 t3 := Tryz.underlying3
 a3 := Tryz.isAgg3
 z3 := Tryz.sizeOf3
 v3 := Tryz.zeroValue3
 t4 := Tryz.underlying4
 a4 := Tryz.isAgg4
 z4 := Tryz.sizeOf4
 v4 := Tryz.zeroValue4
 t9 := Tryz.underlying9
 a9 := Tryz.isAgg9
 z9 := Tryz.sizeOf9
 v9 := Tryz.zeroValue9 }
open Go.RowKit Go.Lib in
theorem Tryz.stringslite_HasSuffix (s p : ByteArray) (w : World) (hs : s.size <= 9223372036854775807) :
  Calls Tryz.prog 75 #[.string s, .string p] w fun e w' => e = .returned (.bool (Lib.hasSuffix s.data.toList p.data.toList)) /\ w' = w := Any.stringslite_HasSuffix Tryz.lays207 s p w hs
def Tryz.lays221_ren : Go.Shelf.Ren := ⟨fun | 221 => 76 | 268 => 87 | 138 => 88 | 143 => 89 | 195 => 96 | 197 => 97 | 218 => 98 | 219 => 86 | 260 => 105 | 217 => 92 | 225 => 93 | 224 => 94 | 267 => 95 | 266 => 103 | 314 => 104 | n => n, fun | 9 => 9 | 3 => 3 | 31 => 38 | 4 => 4 | 0 => 0 | 105 => 131 | 21 => 21 | 5 => 5 | 46 => 124 | 119 => 145 | 139 => 148 | 138 => 147 | 146 => 138 | 51 => 104 | n => n, fun | 1 => 0 | 3 => 2 | 4 => 3 | n => n⟩
theorem Tryz.lays221 : Go.Proofs.Lays.n221 Tryz.prog Tryz.lays221_ren := {
 mixed := by kernel_rfl
 f138 := Tryz.func88.trans (congrArg some (by kernel_rfl))
 f143 := Tryz.func89.trans (congrArg some (by kernel_rfl))
 f195 := Tryz.func96.trans (congrArg some (by kernel_rfl))
 f197 := Tryz.func97.trans (congrArg some (by kernel_rfl))
 f217 := Tryz.func92.trans (congrArg some (by kernel_rfl))
 f218 := Tryz.func98.trans (congrArg some (by kernel_rfl))
 f219 := Tryz.func86.trans (congrArg some (by kernel_rfl))
 f221 := Tryz.func76.trans (congrArg some (by kernel_rfl))
 f224 := Tryz.func94.trans (congrArg some (by kernel_rfl))
 f225 := Tryz.func93.trans (congrArg some (by kernel_rfl))
 f260 := Tryz.func105.trans (congrArg some (by kernel_rfl))
 f266 := Tryz.func103.trans (congrArg some (by kernel_rfl))
 f267 := Tryz.func95.trans (congrArg some (by kernel_rfl))
 f268 := Tryz.func87.trans (congrArg some (by kernel_rfl))
 f314 := Tryz.func104.trans (congrArg some (by kernel_rfl))
 t0 := Tryz.underlying0
 a0 := Tryz.isAgg0
 z0 := Tryz.sizeOf0
 v0 := Tryz.zeroValue0
 t3 := Tryz.underlying3
 a3 := Tryz.isAgg3
 z3 := Tryz.sizeOf3
 v3 := Tryz.zeroValue3
 t4 := Tryz.underlying4
 a4 := Tryz.isAgg4
 z4 := Tryz.sizeOf4
 v4 := Tryz.zeroValue4
 t5 := Tryz.underlying5
 a5 := Tryz.isAgg5
 z5 := Tryz.sizeOf5
 v5 := Tryz.zeroValue5
 t9 := Tryz.underlying9
 a9 := Tryz.isAgg9
 z9 := Tryz.sizeOf9
 v9 := Tryz.zeroValue9
 t21 := Tryz.underlying21
 a21 := Tryz.isAgg21
 z21 := Tryz.sizeOf21
 v21 := Tryz.zeroValue21
 t31 := Tryz.underlying38
 a31 := Tryz.isAgg38
 z31 := Tryz.sizeOf38
 v31 := Tryz.zeroValue38
 t46 := Tryz.underlying124
 a46 := Tryz.isAgg124
 z46 := Tryz.sizeOf124
 v46 := Tryz.zeroValue124
 t51 := Tryz.underlying104
 a51 := Tryz.isAgg104
 z51 := Tryz.sizeOf104
 v51 := Tryz.zeroValue104
 t105 := Tryz.underlying131
 a105 := Tryz.isAgg131
 z105 := Tryz.sizeOf131
 v105 := Tryz.zeroValue131
 t119 := Tryz.underlying145
 a119 := Tryz.isAgg145
 z119 := Tryz.sizeOf145
 t138 := Tryz.underlying147
 a138 := Tryz.isAgg147
 z138 := Tryz.sizeOf147
 v138 := Tryz.zeroValue147
 t139 := Tryz.underlying148
 a139 := Tryz.isAgg148
 z139 := Tryz.sizeOf148
 v139 := Tryz.zeroValue148
 t146 := Tryz.underlying138
 a146 := Tryz.isAgg138
 z146 := Tryz.sizeOf138
 v146 := Tryz.zeroValue138
 g1 := by kernel_rfl
 g3 := by kernel_rfl
 g4 := by kernel_rfl }
def Tryz.lays146_ren : Go.Shelf.Ren := ⟨fun | 146 => 54 | 221 => 76 | 268 => 87 | 138 => 88 | 143 => 89 | 195 => 96 | 197 => 97 | 218 => 98 | 219 => 86 | 260 => 105 | 217 => 92 | 225 => 93 | 224 => 94 | 267 => 95 | 266 => 103 | 314 => 104 | n => n, fun | 9 => 9 | 31 => 38 | 3 => 3 | 4 => 4 | 0 => 0 | 105 => 131 | 21 => 21 | 5 => 5 | 46 => 124 | 119 => 145 | 139 => 148 | 138 => 147 | 146 => 138 | 51 => 104 | n => n, fun | 1 => 0 | 3 => 2 | 4 => 3 | n => n⟩
theorem Tryz.lays146 : Go.Proofs.Lays.n146 Tryz.prog Tryz.lays146_ren := {
 mixed := by kernel_rfl
 f138 := Tryz.func88.trans (congrArg some (by kernel_rfl))
 f143 := Tryz.func89.trans (congrArg some (by kernel_rfl))
 f146 := Tryz.func54.trans (congrArg some (by kernel_rfl))
 f195 := Tryz.func96.trans (congrArg some (by kernel_rfl))
 f197 := Tryz.func97.trans (congrArg some (by kernel_rfl))
 f217 := Tryz.func92.trans (congrArg some (by kernel_rfl))
 f218 := Tryz.func98.trans (congrArg some (by kernel_rfl))
 f219 := Tryz.func86.trans (congrArg some (by kernel_rfl))
 f221 := Tryz.func76.trans (congrArg some (by kernel_rfl))
 f224 := Tryz.func94.trans (congrArg some (by kernel_rfl))
 f225 := Tryz.func93.trans (congrArg some (by kernel_rfl))
 f260 := Tryz.func105.trans (congrArg some (by kernel_rfl))
 f266 := Tryz.func103.trans (congrArg some (by kernel_rfl))
 f267 := Tryz.func95.trans (congrArg some (by kernel_rfl))
 f268 := Tryz.func87.trans (congrArg some (by kernel_rfl))
 f314 := Tryz.func104.trans (congrArg some (by kernel_rfl))
 t0 := Tryz.underlying0
 a0 := Tryz.isAgg0
 z0 := Tryz.sizeOf0
 v0 := Tryz.zeroValue0
 t3 := Tryz.underlying3
 a3 := Tryz.isAgg3
 z3 := Tryz.sizeOf3
 v3 := Tryz.zeroValue3
 t4 := Tryz.underlying4
 a4 := Tryz.isAgg4
 z4 := Tryz.sizeOf4
 v4 := Tryz.zeroValue4
 t5 := Tryz.underlying5
 a5 := Tryz.isAgg5
 z5 := Tryz.sizeOf5
 v5 := Tryz.zeroValue5
 t9 := Tryz.underlying9
 a9 := Tryz.isAgg9
 z9 := Tryz.sizeOf9
 v9 := Tryz.zeroValue9
 t21 := Tryz.underlying21
 a21 := Tryz.isAgg21
 z21 := Tryz.sizeOf21
 v21 := Tryz.zeroValue21
 t31 := Tryz.underlying38
 a31 := Tryz.isAgg38
 z31 := Tryz.sizeOf38
 v31 := Tryz.zeroValue38
 t46 := Tryz.underlying124
 a46 := Tryz.isAgg124
 z46 := Tryz.sizeOf124
 v46 := Tryz.zeroValue124
 t51 := Tryz.underlying104
 a51 := Tryz.isAgg104
 z51 := Tryz.sizeOf104
 v51 := Tryz.zeroValue104
 t105 := Tryz.underlying131
 a105 := Tryz.isAgg131
 z105 := Tryz.sizeOf131
 v105 := Tryz.zeroValue131
 t119 := Tryz.underlying145
 a119 := Tryz.isAgg145
 z119 := Tryz.sizeOf145
 t138 := Tryz.underlying147
 a138 := Tryz.isAgg147
 z138 := Tryz.sizeOf147
 v138 := Tryz.zeroValue147
 t139 := Tryz.underlying148
 a139 := Tryz.isAgg148
 z139 := Tryz.sizeOf148
 v139 := Tryz.zeroValue148
 t146 := Tryz.underlying138
 a146 := Tryz.isAgg138
 z146 := Tryz.sizeOf138
 v146 := Tryz.zeroValue138
 g1 := by kernel_rfl
 g3 := by kernel_rfl
 g4 := by kernel_rfl }
open Go.RowKit Go.Lib in
theorem Tryz.strings_Split (s sep : ByteArray) (m : Int) (w : World) (hs : s.size < 4294967281) (hm : w.cell? ⟨0, 0, none⟩ = some (.int .i64 m)) (h1 : 1 <= sep.size) :
  Calls Tryz.prog 54 #[.string s, .string sep] w fun e w' =>
   e = .returned (.slice (some ⟨w.heap.size, 0, none⟩) (Lib.countB s sep + 1) (Lib.countB s sep + 1)) /\ w' = w.alloc (.cells ((Lib.splitB sep 0 (Lib.countB s sep) s).map Value.string).toArray 9) := Any.strings_Split Tryz.lays146 (by kernel_rfl) s sep m w hs hm h1
def Tryz.lays187_ren : Go.Shelf.Ren := ⟨fun | 187 => 85 | 255 => 91 | n => n, fun | 37 => 22 | 5 => 5 | 3 => 3 | n => n, fun | n => n⟩
theorem Tryz.lays187 : Go.Proofs.Lays.n187 Tryz.prog Tryz.lays187_ren := {
 mixed := by kernel_rfl
 f187 := Tryz.func85.trans (congrArg some (by kernel_rfl))
 f255 := Tryz.func91.trans (congrArg some (by kernel_rfl))
 t3 := Tryz.underlying3
 a3 := Tryz.isAgg3
 z3 := Tryz.sizeOf3
 v3 := Tryz.zeroValue3
 t5 := Tryz.underlying5
 a5 := Tryz.isAgg5
 z5 := Tryz.sizeOf5
 v5 := Tryz.zeroValue5
 t37 := Tryz.underlying22
 a37 := Tryz.isAgg22
 z37 := Tryz.sizeOf22
 v37 := Tryz.zeroValue22 }
open Go.RowKit Go.Lib in
theorem Tryz.bytes_IndexByte_at (a : Addr) (n c : Nat) (xs : List Int) (cv : Int) (w : World) (hx : xs.length = n) (hc : ∀ i, i < n -> w.cell? (a.add i) = some (.int .u8 (xs.getD i 0))) :
  Calls Tryz.prog 85 #[.slice (some a) n c, .int .u8 cv] w fun e w' => e = .returned (.int .i64 (Lib.indexByte (Lib.bytesOf xs) cv.toNat.toUInt8)) /\ w' = w := Any.bytes_IndexByte_at Tryz.lays187 a n c xs cv w hx hc
theorem Tryz.bytes_IndexByte (b o n c : Nat) (xs : List Int) (cv : Int) (w : World) (hx : xs.length = n) (hc : ∀ i, i < n -> w.cell? ⟨b, o + i, none⟩ = some (.int .u8 (xs.getD i 0))) :
  Calls Tryz.prog 85 #[.slice (some ⟨b, o, none⟩) n c, .int .u8 cv] w fun e w' => e = .returned (.int .i64 (Lib.indexByte (Lib.bytesOf xs) cv.toNat.toUInt8)) /\ w' = w := Any.bytes_IndexByte Tryz.lays187 b o n c xs cv w hx hc
end Go.Proofs
