/- Words for proofs. -/
import Derived.Shelf.Strings.Builder1
import Derived.Shelf.Strings.Builder2
import Derived.Shelf.Utf8.RuneCount
import Derived.Shelf.Strconv.Itoa0
import Derived.Shelf.Strconv.Itoa1
import Derived.Shelf.LaysM
import Derived.Shelf.Strconv.Itoa2
import Derived.Shelf.Strconv.Itoa3
import Derived.Shelf.Strings.Search1
import Derived.Shelf.Strings.Search2
import Derived.Shelf.Strings.Search3
import Derived.Shelf.Strings.Cut
import Derived.Shelf.Strings.Count
import Derived.Shelf.Strings.Shaped
import Derived.Shelf.Strings.Prefix
import Derived.Shelf.Strings.Split
import Derived.Shelf.Strings.SplitShaped
import Derived.Shelf.Unicode.Decode
import Derived.Shelf.Strings.RuneCount
import Derived.Shelf.Strings.Explode
import Derived.Shelf.Unicode.DecodeSlow
import Derived.Shelf.Unicode.DecodeAny
import Derived.Ground.Names2Prog
import Derived.Shelf.Slices.Clone
import Derived.Test.YtlfenakgphmepaaGreatDoorProg
namespace Go.Proofs
open Go.Shelf
def Tryz.lays169_ren : Go.Shelf.Ren := ⟨fun | 169 => 26 | n => n, fun | 70 => 43 | 9 => 9 | 0 => 0 | 72 => 45 | 37 => 26 | 127 => 85 | 3 => 3 | 5 => 5 | n => n, fun | n => n⟩
theorem Tryz.lays169 : Go.Proofs.Lays.n169 Tryz.prog Tryz.lays169_ren := {
 mixed := by kernel_rfl
 f169 := Tryz.func26.trans (congrArg some (by kernel_rfl))
 t0 := Tryz.underlying0
 a0 := Tryz.isAgg0
 z0 := Tryz.sizeOf0
 v0 := Tryz.zeroValue0
 t3 := Tryz.underlying3
 a3 := Tryz.isAgg3
 z3 := Tryz.sizeOf3
 v3 := Tryz.zeroValue3
 t9 := Tryz.underlying9
 a9 := Tryz.isAgg9
 z9 := Tryz.sizeOf9
 v9 := Tryz.zeroValue9
 t37 := Tryz.underlying26
 a37 := Tryz.isAgg26
 z37 := Tryz.sizeOf26
 v37 := Tryz.zeroValue26
 t70 := Tryz.underlying43
 a70 := Tryz.isAgg43
 z70 := Tryz.sizeOf43
 v70 := Tryz.zeroValue43
 t72 := Tryz.underlying45
 a72 := Tryz.isAgg45
 z72 := Tryz.sizeOf45
 v72 := Tryz.zeroValue45
 t127 := Tryz.underlying85
 a127 := Tryz.isAgg85
 z127 := Tryz.sizeOf85
 v127 := Tryz.zeroValue85 }
theorem Tryz.Builder_Extra_169 : Builder.Extra Tryz.prog Tryz.lays169_ren := {
 sizeBuilder := by kernel_rfl
 liesBuilder := by kernel_rfl
 t5 := Tryz.underlying5
 a5 := Tryz.isAgg5
 z5 := Tryz.sizeOf5
 v5 := Tryz.zeroValue5
 infoByte := by kernel_rfl
 cellsByte := by kernel_rfl
 sizeByte := by kernel_rfl
 neB5 := by decide }
open Go.RowKit in
theorem Tryz.Builder_String_any (B b : Nat) (l : List UInt8) (w : World) (h : Lib.IsBuilder 45 5 B b (Lib.byteCells l) w) (hBw : B <= w.heap.size) :
  Calls Tryz.prog 26 #[.pointer (some ⟨b, 0, none⟩)] w fun e w' => e = .returned (.string ⟨l.toArray⟩) /\ Below B w w' := Any.Builder_String_any Tryz.lays169 Tryz.Builder_Extra_169 B b l w h hBw
def Tryz.lays241_ren : Go.Shelf.Ren := ⟨fun | 241 => 70 | 277 => 87 | n => n, fun | 70 => 43 | 3 => 3 | 0 => 0 | 72 => 45 | 37 => 26 | 5 => 5 | n => n, fun | n => n⟩
theorem Tryz.lays241 : Go.Proofs.Lays.n241 Tryz.prog Tryz.lays241_ren := {
 mixed := by kernel_rfl
 f241 := Tryz.func70.trans (congrArg some (by kernel_rfl))
 f277 := Tryz.func87.trans (congrArg some (by kernel_rfl))
 t0 := Tryz.underlying0
 a0 := Tryz.isAgg0
 z0 := Tryz.sizeOf0
 v0 := Tryz.zeroValue0
 t3 := Tryz.underlying3
 a3 := Tryz.isAgg3
 z3 := Tryz.sizeOf3
 v3 := Tryz.zeroValue3
 t37 := Tryz.underlying26
 a37 := Tryz.isAgg26
 z37 := Tryz.sizeOf26
 v37 := Tryz.zeroValue26
 t70 := Tryz.underlying43
 a70 := Tryz.isAgg43
 z70 := Tryz.sizeOf43
 v70 := Tryz.zeroValue43
 t72 := Tryz.underlying45
 a72 := Tryz.isAgg45
 z72 := Tryz.sizeOf45
 v72 := Tryz.zeroValue45 }
theorem Tryz.Builder_Extra_241 : Builder.Extra Tryz.prog Tryz.lays241_ren := {
 sizeBuilder := by kernel_rfl
 liesBuilder := by kernel_rfl
 t5 := Tryz.underlying5
 a5 := Tryz.isAgg5
 z5 := Tryz.sizeOf5
 v5 := Tryz.zeroValue5
 infoByte := by kernel_rfl
 cellsByte := by kernel_rfl
 sizeByte := by kernel_rfl
 neB5 := by decide }
open Go.RowKit in
theorem Tryz.Builder_grow_fresh (B b n : Nat) (w : World) (hB : B <= b) (hbk : w.heap[b]? = some (.cells #[.pointer (some ⟨b, 0, none⟩), .slice none 0 0] 45 (0, 0))) (hBw : B <= w.heap.size) (hn : n <= 281474976710656) :
  Calls Tryz.prog 70 #[.pointer (some ⟨b, 0, none⟩), .int .i64 n] w fun e w' => e = .returned (.tuple #[]) /\ (Lib.BuilderAt 45 5 B b (.pointer (some ⟨b, 0, none⟩)) [] w' /\ Below B w w') := Any.Builder_grow_fresh Tryz.lays241 Tryz.Builder_Extra_241 B b n w hB hbk hBw hn
def Tryz.laysM171_ren : Go.Shelf.Ren := ⟨fun | 171 => 53 | 243 => 71 | 246 => 88 | 283 => 96 | 284 => 97 | 285 => 98 | 286 => 99 | 129 => 106 | 317 => 105 | 318 => 107 | 319 => 108 | 320 => 109 | 337 => 112 | 338 => 113 | n => n, fun | 3 => 3 | 9 => 9 | 2 => 2 | 4 => 4 | 171 => 135 | 0 => 0 | 53 => 98 | 37 => 26 | 5 => 5 | 173 => 138 | 212 => 142 | 51 => 99 | 20 => 20 | 213 => 143 | 46 => 134 | 232 => 79 | 233 => 153 | n => n, fun | 17 => 1 | 18 => 4 | 19 => 5 | n => n⟩
theorem Tryz.laysM171 : Go.Proofs.LaysM.n171 Tryz.prog Tryz.laysM171_ren := {
 mixed := by kernel_rfl
 f129 := Tryz.func106.trans (congrArg some (by kernel_rfl))
 f171 := Tryz.func53.trans (congrArg some (by kernel_rfl))
 f243 := Tryz.func71.trans (congrArg some (by kernel_rfl))
 f246 := Tryz.func88.trans (congrArg some (by kernel_rfl))
 f283 := Tryz.func96.trans (congrArg some (by kernel_rfl))
 f284 := Tryz.func97.trans (congrArg some (by kernel_rfl))
 f285 := Tryz.func98.trans (congrArg some (by kernel_rfl))
 f286 := Tryz.func99.trans (congrArg some (by kernel_rfl))
 f317 := Tryz.func105.trans (congrArg some (by kernel_rfl))
 f318 := Tryz.func107.trans (congrArg some (by kernel_rfl))
 f319 := Tryz.func108.trans (congrArg some (by kernel_rfl))
 f320 := Tryz.func109.trans (congrArg some (by kernel_rfl))
 f337 := Tryz.func112.trans (congrArg some (by kernel_rfl))
 f338 := Tryz.func113.trans (congrArg some (by kernel_rfl))
 t0 := Tryz.underlying0
 a0 := Tryz.isAgg0
 z0 := Tryz.sizeOf0
 v0 := Tryz.zeroValue0
 t2 := Tryz.underlying2
 a2 := Tryz.isAgg2
 z2 := Tryz.sizeOf2
 v2 := Tryz.zeroValue2
 t3 := Tryz.underlying3
 a3 := Tryz.isAgg3
 z3 := Tryz.sizeOf3
 v3 := Tryz.zeroValue3
 t4 := Tryz.underlying4
 a4 := Tryz.isAgg4
 z4 := Tryz.sizeOf4
 v4 := Tryz.zeroValue4
 t5 := Tryz.underlying5
 a5 := Tryz.isAgg5
 z5 := Tryz.sizeOf5
 v5 := Tryz.zeroValue5
 t9 := Tryz.underlying9
 a9 := Tryz.isAgg9
 z9 := Tryz.sizeOf9
 v9 := Tryz.zeroValue9
 t20 := Tryz.underlying20
 a20 := Tryz.isAgg20
 z20 := Tryz.sizeOf20
 v20 := Tryz.zeroValue20
 t37 := Tryz.underlying26
 a37 := Tryz.isAgg26
 z37 := Tryz.sizeOf26
 v37 := Tryz.zeroValue26
 t46 := Tryz.underlying134
 a46 := Tryz.isAgg134
 z46 := Tryz.sizeOf134
 v46 := Tryz.zeroValue134
 t51 := Tryz.underlying99
 a51 := Tryz.isAgg99
 z51 := Tryz.sizeOf99
 v51 := Tryz.zeroValue99
 t53 := Tryz.underlying98
 a53 := Tryz.isAgg98
 z53 := Tryz.sizeOf98
 v53 := Tryz.zeroValue98
 t171 := Tryz.underlying135
 a171 := Tryz.isAgg135
 z171 := Tryz.sizeOf135
 v171 := Tryz.zeroValue135
 t173 := Tryz.underlying138
 a173 := Tryz.isAgg138
 z173 := Tryz.sizeOf138
 v173 := Tryz.zeroValue138
 t212 := Tryz.underlying142
 a212 := Tryz.isAgg142
 z212 := Tryz.sizeOf142
 v212 := Tryz.zeroValue142
 t213 := Tryz.underlying143
 a213 := Tryz.isAgg143
 z213 := Tryz.sizeOf143
 t232 := Tryz.underlying79
 a232 := Tryz.isAgg79
 z232 := Tryz.sizeOf79
 v232 := Tryz.zeroValue79
 t233 := Tryz.underlying153
 a233 := Tryz.isAgg153
 z233 := Tryz.sizeOf153
 v233 := Tryz.zeroValue153
 g17 := by kernel_rfl
 g18 := by kernel_rfl
 g19 := by kernel_rfl
 i0 := by kernel_rfl
 i2 := by kernel_rfl
 i3 := by kernel_rfl
 i4 := by kernel_rfl
 i5 := by kernel_rfl
 i9 := by kernel_rfl
 i20 := by kernel_rfl
 i37 := by kernel_rfl
 i46 := by kernel_rfl
 i51 := by kernel_rfl
 i53 := by kernel_rfl
 i171 := by kernel_rfl
 i173 := by kernel_rfl
 i212 := by kernel_rfl
 i232 := by kernel_rfl
 i233 := by kernel_rfl
 m17 := by kernel_rfl
 m18 := by kernel_rfl
 m19 := by kernel_rfl }
open Go.RowKit Go.Sort Go.Lib in
theorem Tryz.strconv_Itoa (n : Int) (h0 : -9223372036854775808 <= n) (h1 : n <= 9223372036854775807) (w : World) (htab : Lib.TabIs Tryz.prog w "internal/strconv.uint64pow10" .u64 Lib.pow10Tab) :
  Calls Tryz.prog 53 #[.int .i64 n] w fun e w' => e = .returned (.string ⟨(Lib.itoa n).toArray⟩) /\ ∃ k os, w' = grow (w.drewN k) os := Any.strconv_Itoa Tryz.laysM171 n h0 h1 w htab
def Tryz.lays219_ren : Go.Shelf.Ren := ⟨fun | 219 => 93 | 217 => 101 | 225 => 102 | 224 => 103 | 267 => 104 | 266 => 110 | 314 => 111 | n => n, fun | 9 => 9 | 3 => 3 | 4 => 4 | 5 => 5 | 46 => 134 | 146 => 150 | 51 => 99 | n => n, fun | 1 => 0 | n => n⟩
theorem Tryz.lays219 : Go.Proofs.Lays.n219 Tryz.prog Tryz.lays219_ren := {
 mixed := by kernel_rfl
 f217 := Tryz.func101.trans (congrArg some (by kernel_rfl))
 f219 := Tryz.func93.trans (congrArg some (by kernel_rfl))
 f224 := Tryz.func103.trans (congrArg some (by kernel_rfl))
 f225 := Tryz.func102.trans (congrArg some (by kernel_rfl))
 f266 := Tryz.func110.trans (congrArg some (by kernel_rfl))
 f267 := Tryz.func104.trans (congrArg some (by kernel_rfl))
 f314 := Tryz.func111.trans (congrArg some (by kernel_rfl))
 t3 := Tryz.underlying3
 a3 := Tryz.isAgg3
 z3 := Tryz.sizeOf3
 v3 := Tryz.zeroValue3
 t4 := Tryz.underlying4
 a4 := Tryz.isAgg4
 z4 := Tryz.sizeOf4
 v4 := Tryz.zeroValue4
 t5 := Tryz.underlying5
 a5 := Tryz.isAgg5
 z5 := Tryz.sizeOf5
 v5 := Tryz.zeroValue5
 t9 := Tryz.underlying9
 a9 := Tryz.isAgg9
 z9 := Tryz.sizeOf9
 v9 := Tryz.zeroValue9
 t46 := Tryz.underlying134
 a46 := Tryz.isAgg134
 z46 := Tryz.sizeOf134
 v46 := Tryz.zeroValue134
 t51 := Tryz.underlying99
 a51 := Tryz.isAgg99
 z51 := Tryz.sizeOf99
 v51 := Tryz.zeroValue99
 t146 := Tryz.underlying150
 a146 := Tryz.isAgg150
 z146 := Tryz.sizeOf150
 v146 := Tryz.zeroValue150
 g1 := by kernel_rfl }
open Go.RowKit Go.Lib in
theorem Tryz.stringslite_Index_one (s : ByteArray) (c : UInt8) (w : World) :
  Calls Tryz.prog 93 #[.string s, .string ⟨#[c]⟩] w fun e w' => e = .returned (.int .i64 (Lib.indexByte s.data.toList c)) /\ w' = w := Any.stringslite_Index_one Tryz.lays219 s c w
open Go.RowKit Go.Lib in
theorem Tryz.stringslite_Index (s sub : ByteArray) (m : Int) (w : World) (hs : s.size < 4294967281) (hm : w.cell? ⟨0, 0, none⟩ = some (.int .i64 m)) :
  Calls Tryz.prog 93 #[.string s, .string sub] w fun e w' => e = .returned (.int .i64 (Lib.index s.data.toList sub.data.toList)) /\ w' = w := Any.stringslite_Index Tryz.lays219 s sub m w hs hm
def Tryz.lays143_ren : Go.Shelf.Ren := ⟨fun | 143 => 77 | 219 => 93 | 217 => 101 | 225 => 102 | 224 => 103 | 267 => 104 | 266 => 110 | 314 => 111 | n => n, fun | 9 => 9 | 3 => 3 | 4 => 4 | 5 => 5 | 46 => 134 | 146 => 150 | 51 => 99 | n => n, fun | 1 => 0 | n => n⟩
theorem Tryz.lays143 : Go.Proofs.Lays.n143 Tryz.prog Tryz.lays143_ren := {
 mixed := by kernel_rfl
 f143 := Tryz.func77.trans (congrArg some (by kernel_rfl))
 f217 := Tryz.func101.trans (congrArg some (by kernel_rfl))
 f219 := Tryz.func93.trans (congrArg some (by kernel_rfl))
 f224 := Tryz.func103.trans (congrArg some (by kernel_rfl))
 f225 := Tryz.func102.trans (congrArg some (by kernel_rfl))
 f266 := Tryz.func110.trans (congrArg some (by kernel_rfl))
 f267 := Tryz.func104.trans (congrArg some (by kernel_rfl))
 f314 := Tryz.func111.trans (congrArg some (by kernel_rfl))
 t3 := Tryz.underlying3
 a3 := Tryz.isAgg3
 z3 := Tryz.sizeOf3
 v3 := Tryz.zeroValue3
 t4 := Tryz.underlying4
 a4 := Tryz.isAgg4
 z4 := Tryz.sizeOf4
 v4 := Tryz.zeroValue4
 t5 := Tryz.underlying5
 a5 := Tryz.isAgg5
 z5 := Tryz.sizeOf5
 v5 := Tryz.zeroValue5
 t9 := Tryz.underlying9
 a9 := Tryz.isAgg9
 z9 := Tryz.sizeOf9
 v9 := Tryz.zeroValue9
 t46 := Tryz.underlying134
 a46 := Tryz.isAgg134
 z46 := Tryz.sizeOf134
 v46 := Tryz.zeroValue134
 t51 := Tryz.underlying99
 a51 := Tryz.isAgg99
 z51 := Tryz.sizeOf99
 v51 := Tryz.zeroValue99
 t146 := Tryz.underlying150
 a146 := Tryz.isAgg150
 z146 := Tryz.sizeOf150
 v146 := Tryz.zeroValue150
 g1 := by kernel_rfl }
open Go.RowKit Go.Lib in
theorem Tryz.strings_Index_one (s : ByteArray) (c : UInt8) (w : World) :
  Calls Tryz.prog 77 #[.string s, .string ⟨#[c]⟩] w fun e w' => e = .returned (.int .i64 (Lib.indexByte s.data.toList c)) /\ w' = w := Any.strings_Index_one Tryz.lays143 s c w
def Tryz.lays220_ren : Go.Shelf.Ren := ⟨fun | 220 => 94 | 219 => 93 | 217 => 101 | 225 => 102 | 224 => 103 | 267 => 104 | 266 => 110 | 314 => 111 | n => n, fun | 9 => 9 | 4 => 4 | 3 => 3 | 5 => 5 | 46 => 134 | 146 => 150 | 51 => 99 | n => n, fun | 1 => 0 | n => n⟩
theorem Tryz.lays220 : Go.Proofs.Lays.n220 Tryz.prog Tryz.lays220_ren := {
 mixed := by kernel_rfl
 f217 := Tryz.func101.trans (congrArg some (by kernel_rfl))
 f219 := Tryz.func93.trans (congrArg some (by kernel_rfl))
 f220 := Tryz.func94.trans (congrArg some (by kernel_rfl))
 f224 := Tryz.func103.trans (congrArg some (by kernel_rfl))
 f225 := Tryz.func102.trans (congrArg some (by kernel_rfl))
 f266 := Tryz.func110.trans (congrArg some (by kernel_rfl))
 f267 := Tryz.func104.trans (congrArg some (by kernel_rfl))
 f314 := Tryz.func111.trans (congrArg some (by kernel_rfl))
 t3 := Tryz.underlying3
 a3 := Tryz.isAgg3
 z3 := Tryz.sizeOf3
 v3 := Tryz.zeroValue3
 t4 := Tryz.underlying4
 a4 := Tryz.isAgg4
 z4 := Tryz.sizeOf4
 v4 := Tryz.zeroValue4
 t5 := Tryz.underlying5
 a5 := Tryz.isAgg5
 z5 := Tryz.sizeOf5
 v5 := Tryz.zeroValue5
 t9 := Tryz.underlying9
 a9 := Tryz.isAgg9
 z9 := Tryz.sizeOf9
 v9 := Tryz.zeroValue9
 t46 := Tryz.underlying134
 a46 := Tryz.isAgg134
 z46 := Tryz.sizeOf134
 v46 := Tryz.zeroValue134
 t51 := Tryz.underlying99
 a51 := Tryz.isAgg99
 z51 := Tryz.sizeOf99
 v51 := Tryz.zeroValue99
 t146 := Tryz.underlying150
 a146 := Tryz.isAgg150
 z146 := Tryz.sizeOf150
 v146 := Tryz.zeroValue150
 g1 := by kernel_rfl }
open Go.RowKit Go.Lib in
theorem Tryz.stringslite_Cut (s sep : ByteArray) (m : Int) (w : World) (hs : s.size < 4294967281) (hm : w.cell? ⟨0, 0, none⟩ = some (.int .i64 m)) :
  Calls Tryz.prog 94 #[.string s, .string sep] w fun e w' => e = .returned (.tuple #[.string ⟨(Lib.cut s.data.toList sep.data.toList).1.toArray⟩, .string ⟨(Lib.cut s.data.toList sep.data.toList).2.1.toArray⟩, .bool (Lib.cut s.data.toList sep.data.toList).2.2]) /\ ∃ n, w' = w.drewN n := Any.stringslite_Cut Tryz.lays220 s sep m w hs hm
def Tryz.lays145_ren : Go.Shelf.Ren := ⟨fun | 145 => 78 | 220 => 94 | 219 => 93 | 217 => 101 | 225 => 102 | 224 => 103 | 267 => 104 | 266 => 110 | 314 => 111 | n => n, fun | 9 => 9 | 4 => 4 | 59 => 107 | 3 => 3 | 5 => 5 | 46 => 134 | 146 => 150 | 51 => 99 | n => n, fun | 1 => 0 | n => n⟩
theorem Tryz.lays145 : Go.Proofs.Lays.n145 Tryz.prog Tryz.lays145_ren := {
 mixed := by kernel_rfl
 f145 := Tryz.func78.trans (congrArg some (by kernel_rfl))
 f217 := Tryz.func101.trans (congrArg some (by kernel_rfl))
 f219 := Tryz.func93.trans (congrArg some (by kernel_rfl))
 f220 := Tryz.func94.trans (congrArg some (by kernel_rfl))
 f224 := Tryz.func103.trans (congrArg some (by kernel_rfl))
 f225 := Tryz.func102.trans (congrArg some (by kernel_rfl))
 f266 := Tryz.func110.trans (congrArg some (by kernel_rfl))
 f267 := Tryz.func104.trans (congrArg some (by kernel_rfl))
 f314 := Tryz.func111.trans (congrArg some (by kernel_rfl))
 t3 := Tryz.underlying3
 a3 := Tryz.isAgg3
 z3 := Tryz.sizeOf3
 v3 := Tryz.zeroValue3
 t4 := Tryz.underlying4
 a4 := Tryz.isAgg4
 z4 := Tryz.sizeOf4
 v4 := Tryz.zeroValue4
 t5 := Tryz.underlying5
 a5 := Tryz.isAgg5
 z5 := Tryz.sizeOf5
 v5 := Tryz.zeroValue5
 t9 := Tryz.underlying9
 a9 := Tryz.isAgg9
 z9 := Tryz.sizeOf9
 v9 := Tryz.zeroValue9
 t46 := Tryz.underlying134
 a46 := Tryz.isAgg134
 z46 := Tryz.sizeOf134
 v46 := Tryz.zeroValue134
 t51 := Tryz.underlying99
 a51 := Tryz.isAgg99
 z51 := Tryz.sizeOf99
 v51 := Tryz.zeroValue99
 t59 := Tryz.underlying107
 a59 := Tryz.isAgg107
 z59 := Tryz.sizeOf107
 v59 := Tryz.zeroValue107
 t146 := Tryz.underlying150
 a146 := Tryz.isAgg150
 z146 := Tryz.sizeOf150
 v146 := Tryz.zeroValue150
 g1 := by kernel_rfl }
open Go.RowKit Go.Lib in
theorem Tryz.strings_Cut (s sep : ByteArray) (m : Int) (w : World) (hs : s.size < 4294967281) (hm : w.cell? ⟨0, 0, none⟩ = some (.int .i64 m)) :
  Calls Tryz.prog 78 #[.string s, .string sep] w fun e w' => e = .returned (.tuple #[.string ⟨(Lib.cut s.data.toList sep.data.toList).1.toArray⟩, .string ⟨(Lib.cut s.data.toList sep.data.toList).2.1.toArray⟩, .bool (Lib.cut s.data.toList sep.data.toList).2.2]) /\ ∃ n, w' = w.drewN n := Any.strings_Cut Tryz.lays145 s sep m w hs hm
def Tryz.lays138_ren : Go.Shelf.Ren := ⟨fun | 138 => 76 | 195 => 90 | 218 => 92 | 143 => 77 | 219 => 93 | 217 => 101 | 225 => 102 | 224 => 103 | 267 => 104 | 266 => 110 | 314 => 111 | n => n, fun | 9 => 9 | 3 => 3 | 4 => 4 | 5 => 5 | 0 => 0 | 46 => 134 | 146 => 150 | 51 => 99 | n => n, fun | 1 => 0 | n => n⟩
theorem Tryz.lays138 : Go.Proofs.Lays.n138 Tryz.prog Tryz.lays138_ren := {
 mixed := by kernel_rfl
 f138 := Tryz.func76.trans (congrArg some (by kernel_rfl))
 f143 := Tryz.func77.trans (congrArg some (by kernel_rfl))
 f195 := Tryz.func90.trans (congrArg some (by kernel_rfl))
 f217 := Tryz.func101.trans (congrArg some (by kernel_rfl))
 f218 := Tryz.func92.trans (congrArg some (by kernel_rfl))
 f219 := Tryz.func93.trans (congrArg some (by kernel_rfl))
 f224 := Tryz.func103.trans (congrArg some (by kernel_rfl))
 f225 := Tryz.func102.trans (congrArg some (by kernel_rfl))
 f266 := Tryz.func110.trans (congrArg some (by kernel_rfl))
 f267 := Tryz.func104.trans (congrArg some (by kernel_rfl))
 f314 := Tryz.func111.trans (congrArg some (by kernel_rfl))
 t0 := Tryz.underlying0
 a0 := Tryz.isAgg0
 z0 := Tryz.sizeOf0
 v0 := Tryz.zeroValue0
 t3 := Tryz.underlying3
 a3 := Tryz.isAgg3
 z3 := Tryz.sizeOf3
 v3 := Tryz.zeroValue3
 t4 := Tryz.underlying4
 a4 := Tryz.isAgg4
 z4 := Tryz.sizeOf4
 v4 := Tryz.zeroValue4
 t5 := Tryz.underlying5
 a5 := Tryz.isAgg5
 z5 := Tryz.sizeOf5
 v5 := Tryz.zeroValue5
 t9 := Tryz.underlying9
 a9 := Tryz.isAgg9
 z9 := Tryz.sizeOf9
 v9 := Tryz.zeroValue9
 t46 := Tryz.underlying134
 a46 := Tryz.isAgg134
 z46 := Tryz.sizeOf134
 v46 := Tryz.zeroValue134
 t51 := Tryz.underlying99
 a51 := Tryz.isAgg99
 z51 := Tryz.sizeOf99
 v51 := Tryz.zeroValue99
 t146 := Tryz.underlying150
 a146 := Tryz.isAgg150
 z146 := Tryz.sizeOf150
 v146 := Tryz.zeroValue150
 g1 := by kernel_rfl }
open Go.RowKit Go.Lib in
theorem Tryz.strings_Count_one (s : ByteArray) (c : UInt8) (w : World) :
  Calls Tryz.prog 76 #[.string s, .string ⟨#[c]⟩] w fun e w' => e = .returned (.int .i64 (Lib.countByte s.data.toList c)) /\ w' = w := Any.strings_Count_one Tryz.lays138 s c w
def Tryz.lays206_ren : Go.Shelf.Ren := ⟨fun | 206 => 82 | n => n, fun | 9 => 9 | 4 => 4 | 3 => 3 | n => n, fun | n => n⟩
theorem Tryz.lays206 : Go.Proofs.Lays.n206 Tryz.prog Tryz.lays206_ren := {
 mixed := by kernel_rfl
 f206 := Tryz.func82.trans (congrArg some (by kernel_rfl))
 t3 := Tryz.underlying3
 a3 := Tryz.isAgg3
 z3 := Tryz.sizeOf3
 v3 := Tryz.zeroValue3
 t4 := Tryz.underlying4
 a4 := Tryz.isAgg4
 z4 := Tryz.sizeOf4
 v4 := Tryz.zeroValue4
 t9 := Tryz.underlying9
 a9 := Tryz.isAgg9
 z9 := Tryz.sizeOf9
 v9 := Tryz.zeroValue9 }
open Go.RowKit Go.Lib in
theorem Tryz.stringslite_HasPrefix (s p : ByteArray) (w : World) :
  Calls Tryz.prog 82 #[.string s, .string p] w fun e w' => e = .returned (.bool (Lib.hasPrefix s.data.toList p.data.toList)) /\ w' = w := Any.stringslite_HasPrefix Tryz.lays206 s p w
def Tryz.lays99_ren : Go.Shelf.Ren := ⟨fun | 99 => 63 | 206 => 82 | n => n, fun | 9 => 9 | 4 => 4 | 3 => 3 | n => n, fun | n => n⟩
theorem Tryz.lays99 : Go.Proofs.Lays.n99 Tryz.prog Tryz.lays99_ren := {
 mixed := by kernel_rfl
 f99 := Tryz.func63.trans (congrArg some (by kernel_rfl))
 f206 := Tryz.func82.trans (congrArg some (by kernel_rfl))
 t3 := Tryz.underlying3
 a3 := Tryz.isAgg3
 z3 := Tryz.sizeOf3
 v3 := Tryz.zeroValue3
 t4 := Tryz.underlying4
 a4 := Tryz.isAgg4
 z4 := Tryz.sizeOf4
 v4 := Tryz.zeroValue4
 t9 := Tryz.underlying9
 a9 := Tryz.isAgg9
 z9 := Tryz.sizeOf9
 v9 := Tryz.zeroValue9 }
open Go.RowKit Go.Lib in
theorem Tryz.strings_HasPrefix (s p : ByteArray) (w : World) :
  Calls Tryz.prog 63 #[.string s, .string p] w fun e w' => e = .returned (.bool (Lib.hasPrefix s.data.toList p.data.toList)) /\ w' = w := Any.strings_HasPrefix Tryz.lays99 s p w
def Tryz.lays221_ren : Go.Shelf.Ren := ⟨fun | 221 => 55 | 268 => 75 | 138 => 76 | 143 => 77 | 195 => 90 | 197 => 91 | 218 => 92 | 219 => 93 | 260 => 100 | 217 => 101 | 225 => 102 | 224 => 103 | 267 => 104 | 266 => 110 | 314 => 111 | n => n, fun | 9 => 9 | 3 => 3 | 31 => 22 | 4 => 4 | 0 => 0 | 105 => 130 | 21 => 21 | 5 => 5 | 46 => 134 | 119 => 146 | 139 => 149 | 138 => 148 | 146 => 150 | 51 => 99 | n => n, fun | 1 => 0 | 3 => 2 | 4 => 3 | n => n⟩
theorem Tryz.lays221 : Go.Proofs.Lays.n221 Tryz.prog Tryz.lays221_ren := {
 mixed := by kernel_rfl
 f138 := Tryz.func76.trans (congrArg some (by kernel_rfl))
 f143 := Tryz.func77.trans (congrArg some (by kernel_rfl))
 f195 := Tryz.func90.trans (congrArg some (by kernel_rfl))
 f197 := Tryz.func91.trans (congrArg some (by kernel_rfl))
 f217 := Tryz.func101.trans (congrArg some (by kernel_rfl))
 f218 := Tryz.func92.trans (congrArg some (by kernel_rfl))
 f219 := Tryz.func93.trans (congrArg some (by kernel_rfl))
 f221 := Tryz.func55.trans (congrArg some (by kernel_rfl))
 f224 := Tryz.func103.trans (congrArg some (by kernel_rfl))
 f225 := Tryz.func102.trans (congrArg some (by kernel_rfl))
 f260 := Tryz.func100.trans (congrArg some (by kernel_rfl))
 f266 := Tryz.func110.trans (congrArg some (by kernel_rfl))
 f267 := Tryz.func104.trans (congrArg some (by kernel_rfl))
 f268 := Tryz.func75.trans (congrArg some (by kernel_rfl))
 f314 := Tryz.func111.trans (congrArg some (by kernel_rfl))
 t0 := Tryz.underlying0
 a0 := Tryz.isAgg0
 z0 := Tryz.sizeOf0
 v0 := Tryz.zeroValue0
 t3 := Tryz.underlying3
 a3 := Tryz.isAgg3
 z3 := Tryz.sizeOf3
 v3 := Tryz.zeroValue3
 t4 := Tryz.underlying4
 a4 := Tryz.isAgg4
 z4 := Tryz.sizeOf4
 v4 := Tryz.zeroValue4
 t5 := Tryz.underlying5
 a5 := Tryz.isAgg5
 z5 := Tryz.sizeOf5
 v5 := Tryz.zeroValue5
 t9 := Tryz.underlying9
 a9 := Tryz.isAgg9
 z9 := Tryz.sizeOf9
 v9 := Tryz.zeroValue9
 t21 := Tryz.underlying21
 a21 := Tryz.isAgg21
 z21 := Tryz.sizeOf21
 v21 := Tryz.zeroValue21
 t31 := Tryz.underlying22
 a31 := Tryz.isAgg22
 z31 := Tryz.sizeOf22
 v31 := Tryz.zeroValue22
 t46 := Tryz.underlying134
 a46 := Tryz.isAgg134
 z46 := Tryz.sizeOf134
 v46 := Tryz.zeroValue134
 t51 := Tryz.underlying99
 a51 := Tryz.isAgg99
 z51 := Tryz.sizeOf99
 v51 := Tryz.zeroValue99
 t105 := Tryz.underlying130
 a105 := Tryz.isAgg130
 z105 := Tryz.sizeOf130
 v105 := Tryz.zeroValue130
 t119 := Tryz.underlying146
 a119 := Tryz.isAgg146
 z119 := Tryz.sizeOf146
 t138 := Tryz.underlying148
 a138 := Tryz.isAgg148
 z138 := Tryz.sizeOf148
 v138 := Tryz.zeroValue148
 t139 := Tryz.underlying149
 a139 := Tryz.isAgg149
 z139 := Tryz.sizeOf149
 v139 := Tryz.zeroValue149
 t146 := Tryz.underlying150
 a146 := Tryz.isAgg150
 z146 := Tryz.sizeOf150
 v146 := Tryz.zeroValue150
 g1 := by kernel_rfl
 g3 := by kernel_rfl
 g4 := by kernel_rfl }
def Tryz.lays146_ren : Go.Shelf.Ren := ⟨fun | 146 => 30 | 221 => 55 | 268 => 75 | 138 => 76 | 143 => 77 | 195 => 90 | 197 => 91 | 218 => 92 | 219 => 93 | 260 => 100 | 217 => 101 | 225 => 102 | 224 => 103 | 267 => 104 | 266 => 110 | 314 => 111 | n => n, fun | 9 => 9 | 31 => 22 | 3 => 3 | 4 => 4 | 0 => 0 | 105 => 130 | 21 => 21 | 5 => 5 | 46 => 134 | 119 => 146 | 139 => 149 | 138 => 148 | 146 => 150 | 51 => 99 | n => n, fun | 1 => 0 | 3 => 2 | 4 => 3 | n => n⟩
theorem Tryz.lays146 : Go.Proofs.Lays.n146 Tryz.prog Tryz.lays146_ren := {
 mixed := by kernel_rfl
 f138 := Tryz.func76.trans (congrArg some (by kernel_rfl))
 f143 := Tryz.func77.trans (congrArg some (by kernel_rfl))
 f146 := Tryz.func30.trans (congrArg some (by kernel_rfl))
 f195 := Tryz.func90.trans (congrArg some (by kernel_rfl))
 f197 := Tryz.func91.trans (congrArg some (by kernel_rfl))
 f217 := Tryz.func101.trans (congrArg some (by kernel_rfl))
 f218 := Tryz.func92.trans (congrArg some (by kernel_rfl))
 f219 := Tryz.func93.trans (congrArg some (by kernel_rfl))
 f221 := Tryz.func55.trans (congrArg some (by kernel_rfl))
 f224 := Tryz.func103.trans (congrArg some (by kernel_rfl))
 f225 := Tryz.func102.trans (congrArg some (by kernel_rfl))
 f260 := Tryz.func100.trans (congrArg some (by kernel_rfl))
 f266 := Tryz.func110.trans (congrArg some (by kernel_rfl))
 f267 := Tryz.func104.trans (congrArg some (by kernel_rfl))
 f268 := Tryz.func75.trans (congrArg some (by kernel_rfl))
 f314 := Tryz.func111.trans (congrArg some (by kernel_rfl))
 t0 := Tryz.underlying0
 a0 := Tryz.isAgg0
 z0 := Tryz.sizeOf0
 v0 := Tryz.zeroValue0
 t3 := Tryz.underlying3
 a3 := Tryz.isAgg3
 z3 := Tryz.sizeOf3
 v3 := Tryz.zeroValue3
 t4 := Tryz.underlying4
 a4 := Tryz.isAgg4
 z4 := Tryz.sizeOf4
 v4 := Tryz.zeroValue4
 t5 := Tryz.underlying5
 a5 := Tryz.isAgg5
 z5 := Tryz.sizeOf5
 v5 := Tryz.zeroValue5
 t9 := Tryz.underlying9
 a9 := Tryz.isAgg9
 z9 := Tryz.sizeOf9
 v9 := Tryz.zeroValue9
 t21 := Tryz.underlying21
 a21 := Tryz.isAgg21
 z21 := Tryz.sizeOf21
 v21 := Tryz.zeroValue21
 t31 := Tryz.underlying22
 a31 := Tryz.isAgg22
 z31 := Tryz.sizeOf22
 v31 := Tryz.zeroValue22
 t46 := Tryz.underlying134
 a46 := Tryz.isAgg134
 z46 := Tryz.sizeOf134
 v46 := Tryz.zeroValue134
 t51 := Tryz.underlying99
 a51 := Tryz.isAgg99
 z51 := Tryz.sizeOf99
 v51 := Tryz.zeroValue99
 t105 := Tryz.underlying130
 a105 := Tryz.isAgg130
 z105 := Tryz.sizeOf130
 v105 := Tryz.zeroValue130
 t119 := Tryz.underlying146
 a119 := Tryz.isAgg146
 z119 := Tryz.sizeOf146
 t138 := Tryz.underlying148
 a138 := Tryz.isAgg148
 z138 := Tryz.sizeOf148
 v138 := Tryz.zeroValue148
 t139 := Tryz.underlying149
 a139 := Tryz.isAgg149
 z139 := Tryz.sizeOf149
 v139 := Tryz.zeroValue149
 t146 := Tryz.underlying150
 a146 := Tryz.isAgg150
 z146 := Tryz.sizeOf150
 v146 := Tryz.zeroValue150
 g1 := by kernel_rfl
 g3 := by kernel_rfl
 g4 := by kernel_rfl }
open Go.RowKit Go.Lib in
theorem Tryz.strings_Split (s sep : ByteArray) (m : Int) (w : World) (hs : s.size < 4294967281) (hm : w.cell? ⟨0, 0, none⟩ = some (.int .i64 m)) (h1 : 1 <= sep.size) :
  Calls Tryz.prog 30 #[.string s, .string sep] w fun e w' =>
   e = .returned (.slice (some ⟨w.heap.size, 0, none⟩) (Lib.countB s sep + 1) (Lib.countB s sep + 1)) /\ w' = w.alloc (.cells ((Lib.splitB sep 0 (Lib.countB s sep) s).map Value.string).toArray 9) := Any.strings_Split Tryz.lays146 (by kernel_rfl) s sep m w hs hm h1
end Go.Proofs
