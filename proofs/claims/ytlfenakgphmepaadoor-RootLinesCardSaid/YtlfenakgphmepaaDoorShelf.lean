/- Words for proofs. -/
import Derived.Shelf.Strings.Builder1
import Derived.Shelf.Strings.Builder2
import Derived.Shelf.Utf8.RuneCount
import Derived.Shelf.Strconv.Itoa0
import Derived.Shelf.Strconv.Itoa1
import Derived.Shelf.LaysM
import Derived.Shelf.Strconv.Itoa2
import Derived.Shelf.Strconv.Itoa3
import Derived.Shelf.Strings.Search1
import Derived.Shelf.Strings.Search2
import Derived.Shelf.Strings.Search3
import Derived.Shelf.Strings.Cut
import Derived.Shelf.Strings.Count
import Derived.Shelf.Strings.Shaped
import Derived.Shelf.Strings.Prefix
import Derived.Shelf.Strings.Split
import Derived.Shelf.Strings.SplitShaped
import Derived.Shelf.Unicode.Decode
import Derived.Shelf.Strings.RuneCount
import Derived.Shelf.Strings.Explode
import Derived.Shelf.Unicode.DecodeSlow
import Derived.Shelf.Unicode.DecodeAny
import Derived.Ground.Names2Prog
import Derived.Shelf.Slices.Clone
import Derived.Test.YtlfenakgphmepaaDoorProg
namespace Go.Proofs
open Go.Shelf
def Tryd.lays169_ren : Go.Shelf.Ren := ⟨fun | 169 => 23 | n => n, fun | 70 => 46 | 9 => 9 | 0 => 0 | 72 => 48 | 37 => 26 | 127 => 78 | 3 => 3 | 5 => 5 | n => n, fun | n => n⟩
theorem Tryd.lays169 : Go.Proofs.Lays.n169 Tryd.prog Tryd.lays169_ren := {
 mixed := by kernel_rfl
 f169 := Tryd.func23.trans (congrArg some (by kernel_rfl))
 t0 := Tryd.underlying0
 a0 := Tryd.isAgg0
 z0 := Tryd.sizeOf0
 v0 := Tryd.zeroValue0
 t3 := Tryd.underlying3
 a3 := Tryd.isAgg3
 z3 := Tryd.sizeOf3
 v3 := Tryd.zeroValue3
 t9 := Tryd.underlying9
 a9 := Tryd.isAgg9
 z9 := Tryd.sizeOf9
 v9 := Tryd.zeroValue9
 t37 := Tryd.underlying26
 a37 := Tryd.isAgg26
 z37 := Tryd.sizeOf26
 v37 := Tryd.zeroValue26
 t70 := Tryd.underlying46
 a70 := Tryd.isAgg46
 z70 := Tryd.sizeOf46
 v70 := Tryd.zeroValue46
 t72 := Tryd.underlying48
 a72 := Tryd.isAgg48
 z72 := Tryd.sizeOf48
 v72 := Tryd.zeroValue48
 t127 := Tryd.underlying78
 a127 := Tryd.isAgg78
 z127 := Tryd.sizeOf78
 v127 := Tryd.zeroValue78 }
theorem Tryd.Builder_Extra_169 : Builder.Extra Tryd.prog Tryd.lays169_ren := {
 sizeBuilder := by kernel_rfl
 liesBuilder := by kernel_rfl
 t5 := Tryd.underlying5
 a5 := Tryd.isAgg5
 z5 := Tryd.sizeOf5
 v5 := Tryd.zeroValue5
 infoByte := by kernel_rfl
 cellsByte := by kernel_rfl
 sizeByte := by kernel_rfl
 neB5 := by decide }
open Go.RowKit in
theorem Tryd.Builder_String_any (B b : Nat) (l : List UInt8) (w : World) (h : Lib.IsBuilder 48 5 B b (Lib.byteCells l) w) (hBw : B <= w.heap.size) :
  Calls Tryd.prog 23 #[.pointer (some ⟨b, 0, none⟩)] w fun e w' => e = .returned (.string ⟨l.toArray⟩) /\ Below B w w' := Any.Builder_String_any Tryd.lays169 Tryd.Builder_Extra_169 B b l w h hBw
def Tryd.lays241_ren : Go.Shelf.Ren := ⟨fun | 241 => 50 | 277 => 63 | n => n, fun | 70 => 46 | 3 => 3 | 0 => 0 | 72 => 48 | 37 => 26 | 5 => 5 | n => n, fun | n => n⟩
theorem Tryd.lays241 : Go.Proofs.Lays.n241 Tryd.prog Tryd.lays241_ren := {
 mixed := by kernel_rfl
 f241 := Tryd.func50.trans (congrArg some (by kernel_rfl))
 f277 := Tryd.func63.trans (congrArg some (by kernel_rfl))
 t0 := Tryd.underlying0
 a0 := Tryd.isAgg0
 z0 := Tryd.sizeOf0
 v0 := Tryd.zeroValue0
 t3 := Tryd.underlying3
 a3 := Tryd.isAgg3
 z3 := Tryd.sizeOf3
 v3 := Tryd.zeroValue3
 t37 := Tryd.underlying26
 a37 := Tryd.isAgg26
 z37 := Tryd.sizeOf26
 v37 := Tryd.zeroValue26
 t70 := Tryd.underlying46
 a70 := Tryd.isAgg46
 z70 := Tryd.sizeOf46
 v70 := Tryd.zeroValue46
 t72 := Tryd.underlying48
 a72 := Tryd.isAgg48
 z72 := Tryd.sizeOf48
 v72 := Tryd.zeroValue48 }
theorem Tryd.Builder_Extra_241 : Builder.Extra Tryd.prog Tryd.lays241_ren := {
 sizeBuilder := by kernel_rfl
 liesBuilder := by kernel_rfl
 t5 := Tryd.underlying5
 a5 := Tryd.isAgg5
 z5 := Tryd.sizeOf5
 v5 := Tryd.zeroValue5
 infoByte := by kernel_rfl
 cellsByte := by kernel_rfl
 sizeByte := by kernel_rfl
 neB5 := by decide }
open Go.RowKit in
theorem Tryd.Builder_grow_fresh (B b n : Nat) (w : World) (hB : B <= b) (hbk : w.heap[b]? = some (.cells #[.pointer (some ⟨b, 0, none⟩), .slice none 0 0] 48 (0, 0))) (hBw : B <= w.heap.size) (hn : n <= 281474976710656) :
  Calls Tryd.prog 50 #[.pointer (some ⟨b, 0, none⟩), .int .i64 n] w fun e w' => e = .returned (.tuple #[]) /\ (Lib.BuilderAt 48 5 B b (.pointer (some ⟨b, 0, none⟩)) [] w' /\ Below B w w') := Any.Builder_grow_fresh Tryd.lays241 Tryd.Builder_Extra_241 B b n w hB hbk hBw hn
def Tryd.laysM171_ren : Go.Shelf.Ren := ⟨fun | 171 => 38 | 243 => 51 | 246 => 64 | 283 => 72 | 284 => 73 | 285 => 74 | 286 => 75 | 129 => 82 | 317 => 81 | 318 => 83 | 319 => 84 | 320 => 85 | 337 => 88 | 338 => 89 | n => n, fun | 3 => 3 | 9 => 9 | 2 => 2 | 4 => 4 | 171 => 120 | 0 => 0 | 53 => 121 | 37 => 26 | 5 => 5 | 173 => 124 | 212 => 129 | 51 => 130 | 20 => 20 | 213 => 131 | 46 => 127 | 232 => 141 | 233 => 142 | n => n, fun | 17 => 1 | 18 => 4 | 19 => 5 | n => n⟩
theorem Tryd.laysM171 : Go.Proofs.LaysM.n171 Tryd.prog Tryd.laysM171_ren := {
 mixed := by kernel_rfl
 f129 := Tryd.func82.trans (congrArg some (by kernel_rfl))
 f171 := Tryd.func38.trans (congrArg some (by kernel_rfl))
 f243 := Tryd.func51.trans (congrArg some (by kernel_rfl))
 f246 := Tryd.func64.trans (congrArg some (by kernel_rfl))
 f283 := Tryd.func72.trans (congrArg some (by kernel_rfl))
 f284 := Tryd.func73.trans (congrArg some (by kernel_rfl))
 f285 := Tryd.func74.trans (congrArg some (by kernel_rfl))
 f286 := Tryd.func75.trans (congrArg some (by kernel_rfl))
 f317 := Tryd.func81.trans (congrArg some (by kernel_rfl))
 f318 := Tryd.func83.trans (congrArg some (by kernel_rfl))
 f319 := Tryd.func84.trans (congrArg some (by kernel_rfl))
 f320 := Tryd.func85.trans (congrArg some (by kernel_rfl))
 f337 := Tryd.func88.trans (congrArg some (by kernel_rfl))
 f338 := Tryd.func89.trans (congrArg some (by kernel_rfl))
 t0 := Tryd.underlying0
 a0 := Tryd.isAgg0
 z0 := Tryd.sizeOf0
 v0 := Tryd.zeroValue0
 t2 := Tryd.underlying2
 a2 := Tryd.isAgg2
 z2 := Tryd.sizeOf2
 v2 := Tryd.zeroValue2
 t3 := Tryd.underlying3
 a3 := Tryd.isAgg3
 z3 := Tryd.sizeOf3
 v3 := Tryd.zeroValue3
 t4 := Tryd.underlying4
 a4 := Tryd.isAgg4
 z4 := Tryd.sizeOf4
 v4 := Tryd.zeroValue4
 t5 := Tryd.underlying5
 a5 := Tryd.isAgg5
 z5 := Tryd.sizeOf5
 v5 := Tryd.zeroValue5
 t9 := Tryd.underlying9
 a9 := Tryd.isAgg9
 z9 := Tryd.sizeOf9
 v9 := Tryd.zeroValue9
 t20 := Tryd.underlying20
 a20 := Tryd.isAgg20
 z20 := Tryd.sizeOf20
 v20 := Tryd.zeroValue20
 t37 := Tryd.underlying26
 a37 := Tryd.isAgg26
 z37 := Tryd.sizeOf26
 v37 := Tryd.zeroValue26
 t46 := Tryd.underlying127
 a46 := Tryd.isAgg127
 z46 := Tryd.sizeOf127
 v46 := Tryd.zeroValue127
 t51 := Tryd.underlying130
 a51 := Tryd.isAgg130
 z51 := Tryd.sizeOf130
 v51 := Tryd.zeroValue130
 t53 := Tryd.underlying121
 a53 := Tryd.isAgg121
 z53 := Tryd.sizeOf121
 v53 := Tryd.zeroValue121
 t171 := Tryd.underlying120
 a171 := Tryd.isAgg120
 z171 := Tryd.sizeOf120
 v171 := Tryd.zeroValue120
 t173 := Tryd.underlying124
 a173 := Tryd.isAgg124
 z173 := Tryd.sizeOf124
 v173 := Tryd.zeroValue124
 t212 := Tryd.underlying129
 a212 := Tryd.isAgg129
 z212 := Tryd.sizeOf129
 v212 := Tryd.zeroValue129
 t213 := Tryd.underlying131
 a213 := Tryd.isAgg131
 z213 := Tryd.sizeOf131
 t232 := Tryd.underlying141
 a232 := Tryd.isAgg141
 z232 := Tryd.sizeOf141
 v232 := Tryd.zeroValue141
 t233 := Tryd.underlying142
 a233 := Tryd.isAgg142
 z233 := Tryd.sizeOf142
 v233 := Tryd.zeroValue142
 g17 := by kernel_rfl
 g18 := by kernel_rfl
 g19 := by kernel_rfl
 i0 := by kernel_rfl
 i2 := by kernel_rfl
 i3 := by kernel_rfl
 i4 := by kernel_rfl
 i5 := by kernel_rfl
 i9 := by kernel_rfl
 i20 := by kernel_rfl
 i37 := by kernel_rfl
 i46 := by kernel_rfl
 i51 := by kernel_rfl
 i53 := by kernel_rfl
 i171 := by kernel_rfl
 i173 := by kernel_rfl
 i212 := by kernel_rfl
 i232 := by kernel_rfl
 i233 := by kernel_rfl
 m17 := by kernel_rfl
 m18 := by kernel_rfl
 m19 := by kernel_rfl }
open Go.RowKit Go.Sort Go.Lib in
theorem Tryd.strconv_Itoa (n : Int) (h0 : -9223372036854775808 <= n) (h1 : n <= 9223372036854775807) (w : World) (htab : Lib.TabIs Tryd.prog w "internal/strconv.uint64pow10" .u64 Lib.pow10Tab) :
  Calls Tryd.prog 38 #[.int .i64 n] w fun e w' => e = .returned (.string ⟨(Lib.itoa n).toArray⟩) /\ ∃ k os, w' = grow (w.drewN k) os := Any.strconv_Itoa Tryd.laysM171 n h0 h1 w htab
def Tryd.lays219_ren : Go.Shelf.Ren := ⟨fun | 219 => 70 | 217 => 77 | 225 => 78 | 224 => 79 | 267 => 80 | 266 => 86 | 314 => 87 | n => n, fun | 9 => 9 | 3 => 3 | 4 => 4 | 5 => 5 | 46 => 127 | 146 => 138 | 51 => 130 | n => n, fun | 1 => 0 | n => n⟩
theorem Tryd.lays219 : Go.Proofs.Lays.n219 Tryd.prog Tryd.lays219_ren := {
 mixed := by kernel_rfl
 f217 := Tryd.func77.trans (congrArg some (by kernel_rfl))
 f219 := Tryd.func70.trans (congrArg some (by kernel_rfl))
 f224 := Tryd.func79.trans (congrArg some (by kernel_rfl))
 f225 := Tryd.func78.trans (congrArg some (by kernel_rfl))
 f266 := Tryd.func86.trans (congrArg some (by kernel_rfl))
 f267 := Tryd.func80.trans (congrArg some (by kernel_rfl))
 f314 := Tryd.func87.trans (congrArg some (by kernel_rfl))
 t3 := Tryd.underlying3
 a3 := Tryd.isAgg3
 z3 := Tryd.sizeOf3
 v3 := Tryd.zeroValue3
 t4 := Tryd.underlying4
 a4 := Tryd.isAgg4
 z4 := Tryd.sizeOf4
 v4 := Tryd.zeroValue4
 t5 := Tryd.underlying5
 a5 := Tryd.isAgg5
 z5 := Tryd.sizeOf5
 v5 := Tryd.zeroValue5
 t9 := Tryd.underlying9
 a9 := Tryd.isAgg9
 z9 := Tryd.sizeOf9
 v9 := Tryd.zeroValue9
 t46 := Tryd.underlying127
 a46 := Tryd.isAgg127
 z46 := Tryd.sizeOf127
 v46 := Tryd.zeroValue127
 t51 := Tryd.underlying130
 a51 := Tryd.isAgg130
 z51 := Tryd.sizeOf130
 v51 := Tryd.zeroValue130
 t146 := Tryd.underlying138
 a146 := Tryd.isAgg138
 z146 := Tryd.sizeOf138
 v146 := Tryd.zeroValue138
 g1 := by kernel_rfl }
open Go.RowKit Go.Lib in
theorem Tryd.stringslite_Index_one (s : ByteArray) (c : UInt8) (w : World) :
  Calls Tryd.prog 70 #[.string s, .string ⟨#[c]⟩] w fun e w' => e = .returned (.int .i64 (Lib.indexByte s.data.toList c)) /\ w' = w := Any.stringslite_Index_one Tryd.lays219 s c w
open Go.RowKit Go.Lib in
theorem Tryd.stringslite_Index (s sub : ByteArray) (m : Int) (w : World) (hs : s.size < 4294967281) (hm : w.cell? ⟨0, 0, none⟩ = some (.int .i64 m)) :
  Calls Tryd.prog 70 #[.string s, .string sub] w fun e w' => e = .returned (.int .i64 (Lib.index s.data.toList sub.data.toList)) /\ w' = w := Any.stringslite_Index Tryd.lays219 s sub m w hs hm
def Tryd.lays143_ren : Go.Shelf.Ren := ⟨fun | 143 => 61 | 219 => 70 | 217 => 77 | 225 => 78 | 224 => 79 | 267 => 80 | 266 => 86 | 314 => 87 | n => n, fun | 9 => 9 | 3 => 3 | 4 => 4 | 5 => 5 | 46 => 127 | 146 => 138 | 51 => 130 | n => n, fun | 1 => 0 | n => n⟩
theorem Tryd.lays143 : Go.Proofs.Lays.n143 Tryd.prog Tryd.lays143_ren := {
 mixed := by kernel_rfl
 f143 := Tryd.func61.trans (congrArg some (by kernel_rfl))
 f217 := Tryd.func77.trans (congrArg some (by kernel_rfl))
 f219 := Tryd.func70.trans (congrArg some (by kernel_rfl))
 f224 := Tryd.func79.trans (congrArg some (by kernel_rfl))
 f225 := Tryd.func78.trans (congrArg some (by kernel_rfl))
 f266 := Tryd.func86.trans (congrArg some (by kernel_rfl))
 f267 := Tryd.func80.trans (congrArg some (by kernel_rfl))
 f314 := Tryd.func87.trans (congrArg some (by kernel_rfl))
 t3 := Tryd.underlying3
 a3 := Tryd.isAgg3
 z3 := Tryd.sizeOf3
 v3 := Tryd.zeroValue3
 t4 := Tryd.underlying4
 a4 := Tryd.isAgg4
 z4 := Tryd.sizeOf4
 v4 := Tryd.zeroValue4
 t5 := Tryd.underlying5
 a5 := Tryd.isAgg5
 z5 := Tryd.sizeOf5
 v5 := Tryd.zeroValue5
 t9 := Tryd.underlying9
 a9 := Tryd.isAgg9
 z9 := Tryd.sizeOf9
 v9 := Tryd.zeroValue9
 t46 := Tryd.underlying127
 a46 := Tryd.isAgg127
 z46 := Tryd.sizeOf127
 v46 := Tryd.zeroValue127
 t51 := Tryd.underlying130
 a51 := Tryd.isAgg130
 z51 := Tryd.sizeOf130
 v51 := Tryd.zeroValue130
 t146 := Tryd.underlying138
 a146 := Tryd.isAgg138
 z146 := Tryd.sizeOf138
 v146 := Tryd.zeroValue138
 g1 := by kernel_rfl }
open Go.RowKit Go.Lib in
theorem Tryd.strings_Index_one (s : ByteArray) (c : UInt8) (w : World) :
  Calls Tryd.prog 61 #[.string s, .string ⟨#[c]⟩] w fun e w' => e = .returned (.int .i64 (Lib.indexByte s.data.toList c)) /\ w' = w := Any.strings_Index_one Tryd.lays143 s c w
def Tryd.lays220_ren : Go.Shelf.Ren := ⟨fun | 220 => 71 | 219 => 70 | 217 => 77 | 225 => 78 | 224 => 79 | 267 => 80 | 266 => 86 | 314 => 87 | n => n, fun | 9 => 9 | 4 => 4 | 3 => 3 | 5 => 5 | 46 => 127 | 146 => 138 | 51 => 130 | n => n, fun | 1 => 0 | n => n⟩
theorem Tryd.lays220 : Go.Proofs.Lays.n220 Tryd.prog Tryd.lays220_ren := {
 mixed := by kernel_rfl
 f217 := Tryd.func77.trans (congrArg some (by kernel_rfl))
 f219 := Tryd.func70.trans (congrArg some (by kernel_rfl))
 f220 := Tryd.func71.trans (congrArg some (by kernel_rfl))
 f224 := Tryd.func79.trans (congrArg some (by kernel_rfl))
 f225 := Tryd.func78.trans (congrArg some (by kernel_rfl))
 f266 := Tryd.func86.trans (congrArg some (by kernel_rfl))
 f267 := Tryd.func80.trans (congrArg some (by kernel_rfl))
 f314 := Tryd.func87.trans (congrArg some (by kernel_rfl))
 t3 := Tryd.underlying3
 a3 := Tryd.isAgg3
 z3 := Tryd.sizeOf3
 v3 := Tryd.zeroValue3
 t4 := Tryd.underlying4
 a4 := Tryd.isAgg4
 z4 := Tryd.sizeOf4
 v4 := Tryd.zeroValue4
 t5 := Tryd.underlying5
 a5 := Tryd.isAgg5
 z5 := Tryd.sizeOf5
 v5 := Tryd.zeroValue5
 t9 := Tryd.underlying9
 a9 := Tryd.isAgg9
 z9 := Tryd.sizeOf9
 v9 := Tryd.zeroValue9
 t46 := Tryd.underlying127
 a46 := Tryd.isAgg127
 z46 := Tryd.sizeOf127
 v46 := Tryd.zeroValue127
 t51 := Tryd.underlying130
 a51 := Tryd.isAgg130
 z51 := Tryd.sizeOf130
 v51 := Tryd.zeroValue130
 t146 := Tryd.underlying138
 a146 := Tryd.isAgg138
 z146 := Tryd.sizeOf138
 v146 := Tryd.zeroValue138
 g1 := by kernel_rfl }
open Go.RowKit Go.Lib in
theorem Tryd.stringslite_Cut (s sep : ByteArray) (m : Int) (w : World) (hs : s.size < 4294967281) (hm : w.cell? ⟨0, 0, none⟩ = some (.int .i64 m)) :
  Calls Tryd.prog 71 #[.string s, .string sep] w fun e w' => e = .returned (.tuple #[.string ⟨(Lib.cut s.data.toList sep.data.toList).1.toArray⟩, .string ⟨(Lib.cut s.data.toList sep.data.toList).2.1.toArray⟩, .bool (Lib.cut s.data.toList sep.data.toList).2.2]) /\ ∃ n, w' = w.drewN n := Any.stringslite_Cut Tryd.lays220 s sep m w hs hm
def Tryd.lays145_ren : Go.Shelf.Ren := ⟨fun | 145 => 62 | 220 => 71 | 219 => 70 | 217 => 77 | 225 => 78 | 224 => 79 | 267 => 80 | 266 => 86 | 314 => 87 | n => n, fun | 9 => 9 | 4 => 4 | 59 => 100 | 3 => 3 | 5 => 5 | 46 => 127 | 146 => 138 | 51 => 130 | n => n, fun | 1 => 0 | n => n⟩
theorem Tryd.lays145 : Go.Proofs.Lays.n145 Tryd.prog Tryd.lays145_ren := {
 mixed := by kernel_rfl
 f145 := Tryd.func62.trans (congrArg some (by kernel_rfl))
 f217 := Tryd.func77.trans (congrArg some (by kernel_rfl))
 f219 := Tryd.func70.trans (congrArg some (by kernel_rfl))
 f220 := Tryd.func71.trans (congrArg some (by kernel_rfl))
 f224 := Tryd.func79.trans (congrArg some (by kernel_rfl))
 f225 := Tryd.func78.trans (congrArg some (by kernel_rfl))
 f266 := Tryd.func86.trans (congrArg some (by kernel_rfl))
 f267 := Tryd.func80.trans (congrArg some (by kernel_rfl))
 f314 := Tryd.func87.trans (congrArg some (by kernel_rfl))
 t3 := Tryd.underlying3
 a3 := Tryd.isAgg3
 z3 := Tryd.sizeOf3
 v3 := Tryd.zeroValue3
 t4 := Tryd.underlying4
 a4 := Tryd.isAgg4
 z4 := Tryd.sizeOf4
 v4 := Tryd.zeroValue4
 t5 := Tryd.underlying5
 a5 := Tryd.isAgg5
 z5 := Tryd.sizeOf5
 v5 := Tryd.zeroValue5
 t9 := Tryd.underlying9
 a9 := Tryd.isAgg9
 z9 := Tryd.sizeOf9
 v9 := Tryd.zeroValue9
 t46 := Tryd.underlying127
 a46 := Tryd.isAgg127
 z46 := Tryd.sizeOf127
 v46 := Tryd.zeroValue127
 t51 := Tryd.underlying130
 a51 := Tryd.isAgg130
 z51 := Tryd.sizeOf130
 v51 := Tryd.zeroValue130
 t59 := Tryd.underlying100
 a59 := Tryd.isAgg100
 z59 := Tryd.sizeOf100
 v59 := Tryd.zeroValue100
 t146 := Tryd.underlying138
 a146 := Tryd.isAgg138
 z146 := Tryd.sizeOf138
 v146 := Tryd.zeroValue138
 g1 := by kernel_rfl }
open Go.RowKit Go.Lib in
theorem Tryd.strings_Cut (s sep : ByteArray) (m : Int) (w : World) (hs : s.size < 4294967281) (hm : w.cell? ⟨0, 0, none⟩ = some (.int .i64 m)) :
  Calls Tryd.prog 62 #[.string s, .string sep] w fun e w' => e = .returned (.tuple #[.string ⟨(Lib.cut s.data.toList sep.data.toList).1.toArray⟩, .string ⟨(Lib.cut s.data.toList sep.data.toList).2.1.toArray⟩, .bool (Lib.cut s.data.toList sep.data.toList).2.2]) /\ ∃ n, w' = w.drewN n := Any.strings_Cut Tryd.lays145 s sep m w hs hm
def Tryd.lays138_ren : Go.Shelf.Ren := ⟨fun | 138 => 60 | 195 => 67 | 218 => 69 | 143 => 61 | 219 => 70 | 217 => 77 | 225 => 78 | 224 => 79 | 267 => 80 | 266 => 86 | 314 => 87 | n => n, fun | 9 => 9 | 3 => 3 | 4 => 4 | 5 => 5 | 0 => 0 | 46 => 127 | 146 => 138 | 51 => 130 | n => n, fun | 1 => 0 | n => n⟩
theorem Tryd.lays138 : Go.Proofs.Lays.n138 Tryd.prog Tryd.lays138_ren := {
 mixed := by kernel_rfl
 f138 := Tryd.func60.trans (congrArg some (by kernel_rfl))
 f143 := Tryd.func61.trans (congrArg some (by kernel_rfl))
 f195 := Tryd.func67.trans (congrArg some (by kernel_rfl))
 f217 := Tryd.func77.trans (congrArg some (by kernel_rfl))
 f218 := Tryd.func69.trans (congrArg some (by kernel_rfl))
 f219 := Tryd.func70.trans (congrArg some (by kernel_rfl))
 f224 := Tryd.func79.trans (congrArg some (by kernel_rfl))
 f225 := Tryd.func78.trans (congrArg some (by kernel_rfl))
 f266 := Tryd.func86.trans (congrArg some (by kernel_rfl))
 f267 := Tryd.func80.trans (congrArg some (by kernel_rfl))
 f314 := Tryd.func87.trans (congrArg some (by kernel_rfl))
 t0 := Tryd.underlying0
 a0 := Tryd.isAgg0
 z0 := Tryd.sizeOf0
 v0 := Tryd.zeroValue0
 t3 := Tryd.underlying3
 a3 := Tryd.isAgg3
 z3 := Tryd.sizeOf3
 v3 := Tryd.zeroValue3
 t4 := Tryd.underlying4
 a4 := Tryd.isAgg4
 z4 := Tryd.sizeOf4
 v4 := Tryd.zeroValue4
 t5 := Tryd.underlying5
 a5 := Tryd.isAgg5
 z5 := Tryd.sizeOf5
 v5 := Tryd.zeroValue5
 t9 := Tryd.underlying9
 a9 := Tryd.isAgg9
 z9 := Tryd.sizeOf9
 v9 := Tryd.zeroValue9
 t46 := Tryd.underlying127
 a46 := Tryd.isAgg127
 z46 := Tryd.sizeOf127
 v46 := Tryd.zeroValue127
 t51 := Tryd.underlying130
 a51 := Tryd.isAgg130
 z51 := Tryd.sizeOf130
 v51 := Tryd.zeroValue130
 t146 := Tryd.underlying138
 a146 := Tryd.isAgg138
 z146 := Tryd.sizeOf138
 v146 := Tryd.zeroValue138
 g1 := by kernel_rfl }
open Go.RowKit Go.Lib in
theorem Tryd.strings_Count_one (s : ByteArray) (c : UInt8) (w : World) :
  Calls Tryd.prog 60 #[.string s, .string ⟨#[c]⟩] w fun e w' => e = .returned (.int .i64 (Lib.countByte s.data.toList c)) /\ w' = w := Any.strings_Count_one Tryd.lays138 s c w
def Tryd.lays206_ren : Go.Shelf.Ren := ⟨fun | 206 => 58 | n => n, fun | 9 => 9 | 4 => 4 | 3 => 3 | n => n, fun | n => n⟩
theorem Tryd.lays206 : Go.Proofs.Lays.n206 Tryd.prog Tryd.lays206_ren := {
 mixed := by kernel_rfl
 f206 := Tryd.func58.trans (congrArg some (by kernel_rfl))
 t3 := Tryd.underlying3
 a3 := Tryd.isAgg3
 z3 := Tryd.sizeOf3
 v3 := Tryd.zeroValue3
 t4 := Tryd.underlying4
 a4 := Tryd.isAgg4
 z4 := Tryd.sizeOf4
 v4 := Tryd.zeroValue4
 t9 := Tryd.underlying9
 a9 := Tryd.isAgg9
 z9 := Tryd.sizeOf9
 v9 := Tryd.zeroValue9 }
open Go.RowKit Go.Lib in
theorem Tryd.stringslite_HasPrefix (s p : ByteArray) (w : World) :
  Calls Tryd.prog 58 #[.string s, .string p] w fun e w' => e = .returned (.bool (Lib.hasPrefix s.data.toList p.data.toList)) /\ w' = w := Any.stringslite_HasPrefix Tryd.lays206 s p w
def Tryd.lays99_ren : Go.Shelf.Ren := ⟨fun | 99 => 41 | 206 => 58 | n => n, fun | 9 => 9 | 4 => 4 | 3 => 3 | n => n, fun | n => n⟩
theorem Tryd.lays99 : Go.Proofs.Lays.n99 Tryd.prog Tryd.lays99_ren := {
 mixed := by kernel_rfl
 f99 := Tryd.func41.trans (congrArg some (by kernel_rfl))
 f206 := Tryd.func58.trans (congrArg some (by kernel_rfl))
 t3 := Tryd.underlying3
 a3 := Tryd.isAgg3
 z3 := Tryd.sizeOf3
 v3 := Tryd.zeroValue3
 t4 := Tryd.underlying4
 a4 := Tryd.isAgg4
 z4 := Tryd.sizeOf4
 v4 := Tryd.zeroValue4
 t9 := Tryd.underlying9
 a9 := Tryd.isAgg9
 z9 := Tryd.sizeOf9
 v9 := Tryd.zeroValue9 }
open Go.RowKit Go.Lib in
theorem Tryd.strings_HasPrefix (s p : ByteArray) (w : World) :
  Calls Tryd.prog 41 #[.string s, .string p] w fun e w' => e = .returned (.bool (Lib.hasPrefix s.data.toList p.data.toList)) /\ w' = w := Any.strings_HasPrefix Tryd.lays99 s p w
def Tryd.lays221_ren : Go.Shelf.Ren := ⟨fun | 221 => 43 | 268 => 59 | 138 => 60 | 143 => 61 | 195 => 67 | 197 => 68 | 218 => 69 | 219 => 70 | 260 => 76 | 217 => 77 | 225 => 78 | 224 => 79 | 267 => 80 | 266 => 86 | 314 => 87 | n => n, fun | 9 => 9 | 3 => 3 | 31 => 22 | 4 => 4 | 0 => 0 | 105 => 117 | 21 => 21 | 5 => 5 | 46 => 127 | 119 => 134 | 139 => 137 | 138 => 136 | 146 => 138 | 51 => 130 | n => n, fun | 1 => 0 | 3 => 2 | 4 => 3 | n => n⟩
theorem Tryd.lays221 : Go.Proofs.Lays.n221 Tryd.prog Tryd.lays221_ren := {
 mixed := by kernel_rfl
 f138 := Tryd.func60.trans (congrArg some (by kernel_rfl))
 f143 := Tryd.func61.trans (congrArg some (by kernel_rfl))
 f195 := Tryd.func67.trans (congrArg some (by kernel_rfl))
 f197 := Tryd.func68.trans (congrArg some (by kernel_rfl))
 f217 := Tryd.func77.trans (congrArg some (by kernel_rfl))
 f218 := Tryd.func69.trans (congrArg some (by kernel_rfl))
 f219 := Tryd.func70.trans (congrArg some (by kernel_rfl))
 f221 := Tryd.func43.trans (congrArg some (by kernel_rfl))
 f224 := Tryd.func79.trans (congrArg some (by kernel_rfl))
 f225 := Tryd.func78.trans (congrArg some (by kernel_rfl))
 f260 := Tryd.func76.trans (congrArg some (by kernel_rfl))
 f266 := Tryd.func86.trans (congrArg some (by kernel_rfl))
 f267 := Tryd.func80.trans (congrArg some (by kernel_rfl))
 f268 := Tryd.func59.trans (congrArg some (by kernel_rfl))
 f314 := Tryd.func87.trans (congrArg some (by kernel_rfl))
 t0 := Tryd.underlying0
 a0 := Tryd.isAgg0
 z0 := Tryd.sizeOf0
 v0 := Tryd.zeroValue0
 t3 := Tryd.underlying3
 a3 := Tryd.isAgg3
 z3 := Tryd.sizeOf3
 v3 := Tryd.zeroValue3
 t4 := Tryd.underlying4
 a4 := Tryd.isAgg4
 z4 := Tryd.sizeOf4
 v4 := Tryd.zeroValue4
 t5 := Tryd.underlying5
 a5 := Tryd.isAgg5
 z5 := Tryd.sizeOf5
 v5 := Tryd.zeroValue5
 t9 := Tryd.underlying9
 a9 := Tryd.isAgg9
 z9 := Tryd.sizeOf9
 v9 := Tryd.zeroValue9
 t21 := Tryd.underlying21
 a21 := Tryd.isAgg21
 z21 := Tryd.sizeOf21
 v21 := Tryd.zeroValue21
 t31 := Tryd.underlying22
 a31 := Tryd.isAgg22
 z31 := Tryd.sizeOf22
 v31 := Tryd.zeroValue22
 t46 := Tryd.underlying127
 a46 := Tryd.isAgg127
 z46 := Tryd.sizeOf127
 v46 := Tryd.zeroValue127
 t51 := Tryd.underlying130
 a51 := Tryd.isAgg130
 z51 := Tryd.sizeOf130
 v51 := Tryd.zeroValue130
 t105 := Tryd.underlying117
 a105 := Tryd.isAgg117
 z105 := Tryd.sizeOf117
 v105 := Tryd.zeroValue117
 t119 := Tryd.underlying134
 a119 := Tryd.isAgg134
 z119 := Tryd.sizeOf134
 t138 := Tryd.underlying136
 a138 := Tryd.isAgg136
 z138 := Tryd.sizeOf136
 v138 := Tryd.zeroValue136
 t139 := Tryd.underlying137
 a139 := Tryd.isAgg137
 z139 := Tryd.sizeOf137
 v139 := Tryd.zeroValue137
 t146 := Tryd.underlying138
 a146 := Tryd.isAgg138
 z146 := Tryd.sizeOf138
 v146 := Tryd.zeroValue138
 g1 := by kernel_rfl
 g3 := by kernel_rfl
 g4 := by kernel_rfl }
def Tryd.lays146_ren : Go.Shelf.Ren := ⟨fun | 146 => 26 | 221 => 43 | 268 => 59 | 138 => 60 | 143 => 61 | 195 => 67 | 197 => 68 | 218 => 69 | 219 => 70 | 260 => 76 | 217 => 77 | 225 => 78 | 224 => 79 | 267 => 80 | 266 => 86 | 314 => 87 | n => n, fun | 9 => 9 | 31 => 22 | 3 => 3 | 4 => 4 | 0 => 0 | 105 => 117 | 21 => 21 | 5 => 5 | 46 => 127 | 119 => 134 | 139 => 137 | 138 => 136 | 146 => 138 | 51 => 130 | n => n, fun | 1 => 0 | 3 => 2 | 4 => 3 | n => n⟩
theorem Tryd.lays146 : Go.Proofs.Lays.n146 Tryd.prog Tryd.lays146_ren := {
 mixed := by kernel_rfl
 f138 := Tryd.func60.trans (congrArg some (by kernel_rfl))
 f143 := Tryd.func61.trans (congrArg some (by kernel_rfl))
 f146 := Tryd.func26.trans (congrArg some (by kernel_rfl))
 f195 := Tryd.func67.trans (congrArg some (by kernel_rfl))
 f197 := Tryd.func68.trans (congrArg some (by kernel_rfl))
 f217 := Tryd.func77.trans (congrArg some (by kernel_rfl))
 f218 := Tryd.func69.trans (congrArg some (by kernel_rfl))
 f219 := Tryd.func70.trans (congrArg some (by kernel_rfl))
 f221 := Tryd.func43.trans (congrArg some (by kernel_rfl))
 f224 := Tryd.func79.trans (congrArg some (by kernel_rfl))
 f225 := Tryd.func78.trans (congrArg some (by kernel_rfl))
 f260 := Tryd.func76.trans (congrArg some (by kernel_rfl))
 f266 := Tryd.func86.trans (congrArg some (by kernel_rfl))
 f267 := Tryd.func80.trans (congrArg some (by kernel_rfl))
 f268 := Tryd.func59.trans (congrArg some (by kernel_rfl))
 f314 := Tryd.func87.trans (congrArg some (by kernel_rfl))
 t0 := Tryd.underlying0
 a0 := Tryd.isAgg0
 z0 := Tryd.sizeOf0
 v0 := Tryd.zeroValue0
 t3 := Tryd.underlying3
 a3 := Tryd.isAgg3
 z3 := Tryd.sizeOf3
 v3 := Tryd.zeroValue3
 t4 := Tryd.underlying4
 a4 := Tryd.isAgg4
 z4 := Tryd.sizeOf4
 v4 := Tryd.zeroValue4
 t5 := Tryd.underlying5
 a5 := Tryd.isAgg5
 z5 := Tryd.sizeOf5
 v5 := Tryd.zeroValue5
 t9 := Tryd.underlying9
 a9 := Tryd.isAgg9
 z9 := Tryd.sizeOf9
 v9 := Tryd.zeroValue9
 t21 := Tryd.underlying21
 a21 := Tryd.isAgg21
 z21 := Tryd.sizeOf21
 v21 := Tryd.zeroValue21
 t31 := Tryd.underlying22
 a31 := Tryd.isAgg22
 z31 := Tryd.sizeOf22
 v31 := Tryd.zeroValue22
 t46 := Tryd.underlying127
 a46 := Tryd.isAgg127
 z46 := Tryd.sizeOf127
 v46 := Tryd.zeroValue127
 t51 := Tryd.underlying130
 a51 := Tryd.isAgg130
 z51 := Tryd.sizeOf130
 v51 := Tryd.zeroValue130
 t105 := Tryd.underlying117
 a105 := Tryd.isAgg117
 z105 := Tryd.sizeOf117
 v105 := Tryd.zeroValue117
 t119 := Tryd.underlying134
 a119 := Tryd.isAgg134
 z119 := Tryd.sizeOf134
 t138 := Tryd.underlying136
 a138 := Tryd.isAgg136
 z138 := Tryd.sizeOf136
 v138 := Tryd.zeroValue136
 t139 := Tryd.underlying137
 a139 := Tryd.isAgg137
 z139 := Tryd.sizeOf137
 v139 := Tryd.zeroValue137
 t146 := Tryd.underlying138
 a146 := Tryd.isAgg138
 z146 := Tryd.sizeOf138
 v146 := Tryd.zeroValue138
 g1 := by kernel_rfl
 g3 := by kernel_rfl
 g4 := by kernel_rfl }
open Go.RowKit Go.Lib in
theorem Tryd.strings_Split (s sep : ByteArray) (m : Int) (w : World) (hs : s.size < 4294967281) (hm : w.cell? ⟨0, 0, none⟩ = some (.int .i64 m)) (h1 : 1 <= sep.size) :
  Calls Tryd.prog 26 #[.string s, .string sep] w fun e w' =>
   e = .returned (.slice (some ⟨w.heap.size, 0, none⟩) (Lib.countB s sep + 1) (Lib.countB s sep + 1)) /\ w' = w.alloc (.cells ((Lib.splitB sep 0 (Lib.countB s sep) s).map Value.string).toArray 9) := Any.strings_Split Tryd.lays146 (by kernel_rfl) s sep m w hs hm h1
end Go.Proofs
