/- Functions of the program as plain functions, and proofs that the program's calls tell what these tell. Written by a program. -/
import Derived.Test.YtlfenakgphmepaaGreatDoorPrint0
import Derived.Test.YtlfenakgphmepaaGreatDoorPrint14
import Derived.Test.YtlfenakgphmepaaGreatDoorPrint15
namespace Go.Proofs.YtlfenakgphmepaaGreatDoor.Print
open Go.RowKit YtlfenakgphmepaaGreatDoorW.PrintWords YtlfenakgphmepaaGreatDoorW.PrintLast YtlfenakgphmepaaGreatDoorW.PrintMore YtlfenakgphmepaaGreatDoor.Conv
attribute [local go_sem] max2_int min2_int max_two min_two max_three min_three max_four min_four
set_option linter.unusedVariables false
set_option linter.unusedSimpArgs false
mutual
def sacristyref10_Put.l0 : Nat -> ByteArray -> Int -> Int -> List ByteArray -> List (S39) -> Option (List Int × Bool)
 | 0, _, _, _, _, _ => none
 | k + 1, x4, x5, x205000, x205001, x205002 => if x5 < (x205002.length : Int) then (if 0 <= x5 then (if (qT x205002 x5).f1 = true then (sacristyref10_Put.j1 k x4 x5 (⟨#[108, 105, 110, 107, 101, 100]⟩ : ByteArray) x205000 x205001 x205002 ((qT x205002 x5).f0) ((qT x205002 x5).f1) ((qT x205002 x5).f2) ((qT x205002 x5).f3) ((qT x205002 x5).f4)) else (sacristyref10_Put.j1 k x4 x5 (⟨#[97, 108, 111, 110, 101]⟩ : ByteArray) x205000 x205001 x205002 ((qT x205002 x5).f0) ((qT x205002 x5).f1) ((qT x205002 x5).f2) ((qT x205002 x5).f3) ((qT x205002 x5).f4))) else (none)) else ((conv_bytes.f x4).bind fun t210 => (some (t210, true)))
def sacristyref10_Put.j1 : Nat -> ByteArray -> Int -> ByteArray -> Int -> List ByteArray -> List (S39) -> ByteArray -> Bool -> ByteArray -> List (S83) -> List ByteArray -> Option (List Int × Bool)
 | 0, _, _, _, _, _, _, _, _, _, _, _ => none
 | k + 1, x4, x5, x7, x205000, x205001, x205002, x215000, x215001, x215002, x215003, x215004 => (q9_Put.f k x215003).bind fun bt215 => (if x4.size + 5 <= 9223372036854775807 then (if (x4 ++ (⟨#[102, 111, 114, 107, 32]⟩ : ByteArray)).size + x215000.size <= 9223372036854775807 then (if ((x4 ++ (⟨#[102, 111, 114, 107, 32]⟩ : ByteArray)) ++ x215000).size + 1 <= 9223372036854775807 then (if (((x4 ++ (⟨#[102, 111, 114, 107, 32]⟩ : ByteArray)) ++ x215000) ++ (⟨#[32]⟩ : ByteArray)).size + x7.size <= 9223372036854775807 then (if ((((x4 ++ (⟨#[102, 111, 114, 107, 32]⟩ : ByteArray)) ++ x215000) ++ (⟨#[32]⟩ : ByteArray)) ++ x7).size + 1 <= 9223372036854775807 then (if (((((x4 ++ (⟨#[102, 111, 114, 107, 32]⟩ : ByteArray)) ++ x215000) ++ (⟨#[32]⟩ : ByteArray)) ++ x7) ++ (⟨#[32]⟩ : ByteArray)).size + x215002.size <= 9223372036854775807 then (if ((((((x4 ++ (⟨#[102, 111, 114, 107, 32]⟩ : ByteArray)) ++ x215000) ++ (⟨#[32]⟩ : ByteArray)) ++ x7) ++ (⟨#[32]⟩ : ByteArray)) ++ x215002).size + 1 <= 9223372036854775807 then ((sacristyref03_Text.f k (x215003.length : Int)).bind fun t217 => (if (((((((x4 ++ (⟨#[102, 111, 114, 107, 32]⟩ : ByteArray)) ++ x215000) ++ (⟨#[32]⟩ : ByteArray)) ++ x7) ++ (⟨#[32]⟩ : ByteArray)) ++ x215002) ++ (⟨#[32]⟩ : ByteArray)).size + t217.size <= 9223372036854775807 then (if ((((((((x4 ++ (⟨#[102, 111, 114, 107, 32]⟩ : ByteArray)) ++ x215000) ++ (⟨#[32]⟩ : ByteArray)) ++ x7) ++ (⟨#[32]⟩ : ByteArray)) ++ x215002) ++ (⟨#[32]⟩ : ByteArray)) ++ t217).size + 1 <= 9223372036854775807 then ((sacristyref03_Text.f k (x215004.length : Int)).bind fun t218 => (if (((((((((x4 ++ (⟨#[102, 111, 114, 107, 32]⟩ : ByteArray)) ++ x215000) ++ (⟨#[32]⟩ : ByteArray)) ++ x7) ++ (⟨#[32]⟩ : ByteArray)) ++ x215002) ++ (⟨#[32]⟩ : ByteArray)) ++ t217) ++ (⟨#[32]⟩ : ByteArray)).size + t218.size <= 9223372036854775807 then (if ((((((((((x4 ++ (⟨#[102, 111, 114, 107, 32]⟩ : ByteArray)) ++ x215000) ++ (⟨#[32]⟩ : ByteArray)) ++ x7) ++ (⟨#[32]⟩ : ByteArray)) ++ x215002) ++ (⟨#[32]⟩ : ByteArray)) ++ t217) ++ (⟨#[32]⟩ : ByteArray)) ++ t218).size + 1 <= 9223372036854775807 then (if (((((((((((x4 ++ (⟨#[102, 111, 114, 107, 32]⟩ : ByteArray)) ++ x215000) ++ (⟨#[32]⟩ : ByteArray)) ++ x7) ++ (⟨#[32]⟩ : ByteArray)) ++ x215002) ++ (⟨#[32]⟩ : ByteArray)) ++ t217) ++ (⟨#[32]⟩ : ByteArray)) ++ t218) ++ (⟨#[10]⟩ : ByteArray)).size + bt215.1.size <= 9223372036854775807 then ((sacristyref10_rows.f k x215004).bind fun t219 => (if ((((((((((((x4 ++ (⟨#[102, 111, 114, 107, 32]⟩ : ByteArray)) ++ x215000) ++ (⟨#[32]⟩ : ByteArray)) ++ x7) ++ (⟨#[32]⟩ : ByteArray)) ++ x215002) ++ (⟨#[32]⟩ : ByteArray)) ++ t217) ++ (⟨#[32]⟩ : ByteArray)) ++ t218) ++ (⟨#[10]⟩ : ByteArray)) ++ bt215.1).size + t219.size <= 9223372036854775807 then (sacristyref10_Put.l0 k (((((((((((((x4 ++ (⟨#[102, 111, 114, 107, 32]⟩ : ByteArray)) ++ x215000) ++ (⟨#[32]⟩ : ByteArray)) ++ x7) ++ (⟨#[32]⟩ : ByteArray)) ++ x215002) ++ (⟨#[32]⟩ : ByteArray)) ++ t217) ++ (⟨#[32]⟩ : ByteArray)) ++ t218) ++ (⟨#[10]⟩ : ByteArray)) ++ bt215.1) ++ t219) (wrap64 (x5 + 1)) x205000 x205001 x205002) else (none))) else (none)) else (none)) else (none))) else (none)) else (none))) else (none)) else (none)) else (none)) else (none)) else (none)) else (none)) else (none))
end
def sacristyref10_Put.f (k : Nat) (a0_0 : Int) (l0_1 : List ByteArray) (l0_2 : List (S39)) : Option (List Int × Bool) := (sacristyref10_Right.f k a0_0 l0_1 l0_2).bind fun t205 => (if t205 = true then ((sacristyref03_Text.f k a0_0).bind fun t206 => (if 4 + t206.size <= 9223372036854775807 then (if ((⟨#[110, 101, 116, 32]⟩ : ByteArray) ++ t206).size + 6 <= 9223372036854775807 then ((sacristyref03_Text.f k (l0_1.length : Int)).bind fun t207 => (if (((⟨#[110, 101, 116, 32]⟩ : ByteArray) ++ t206) ++ (⟨#[10, 112, 111, 111, 108, 32]⟩ : ByteArray)).size + t207.size <= 9223372036854775807 then (if ((((⟨#[110, 101, 116, 32]⟩ : ByteArray) ++ t206) ++ (⟨#[10, 112, 111, 111, 108, 32]⟩ : ByteArray)) ++ t207).size + 1 <= 9223372036854775807 then ((sacristyref10_rows.f k l0_1).bind fun t208 => (if (((((⟨#[110, 101, 116, 32]⟩ : ByteArray) ++ t206) ++ (⟨#[10, 112, 111, 111, 108, 32]⟩ : ByteArray)) ++ t207) ++ (⟨#[10]⟩ : ByteArray)).size + t208.size <= 9223372036854775807 then (if ((((((⟨#[110, 101, 116, 32]⟩ : ByteArray) ++ t206) ++ (⟨#[10, 112, 111, 111, 108, 32]⟩ : ByteArray)) ++ t207) ++ (⟨#[10]⟩ : ByteArray)) ++ t208).size + 6 <= 9223372036854775807 then ((sacristyref03_Text.f k (l0_2.length : Int)).bind fun t209 => (if (((((((⟨#[110, 101, 116, 32]⟩ : ByteArray) ++ t206) ++ (⟨#[10, 112, 111, 111, 108, 32]⟩ : ByteArray)) ++ t207) ++ (⟨#[10]⟩ : ByteArray)) ++ t208) ++ (⟨#[102, 111, 114, 107, 115, 32]⟩ : ByteArray)).size + t209.size <= 9223372036854775807 then (if ((((((((⟨#[110, 101, 116, 32]⟩ : ByteArray) ++ t206) ++ (⟨#[10, 112, 111, 111, 108, 32]⟩ : ByteArray)) ++ t207) ++ (⟨#[10]⟩ : ByteArray)) ++ t208) ++ (⟨#[102, 111, 114, 107, 115, 32]⟩ : ByteArray)) ++ t209).size + 1 <= 9223372036854775807 then (sacristyref10_Put.l0 k (((((((((⟨#[110, 101, 116, 32]⟩ : ByteArray) ++ t206) ++ (⟨#[10, 112, 111, 111, 108, 32]⟩ : ByteArray)) ++ t207) ++ (⟨#[10]⟩ : ByteArray)) ++ t208) ++ (⟨#[102, 111, 114, 107, 115, 32]⟩ : ByteArray)) ++ t209) ++ (⟨#[10]⟩ : ByteArray)) 0 a0_0 l0_1 l0_2) else (none)) else (none))) else (none)) else (none))) else (none)) else (none))) else (none)) else (none))) else (some (([] : List Int), false)))
def sacristyref10_Put.T3 : Bool × List (List Nat × List Nat) := (true, [([], []), ([0], [0]), ([1], [1]), ([2], [2]), ([3], [3]), ([], []), ([5], [5]), ([6], [6]), ([7, 2], [7]), ([4, 8], [4, 8]), ([9], [9]), ([], []), ([11], [11]), ([12, 8], [12]), ([10, 13], [10, 13]), ([14, 13, 0, 1, 2, 3, 4, 5, 6, 7, 8, 9, 10, 11, 12, 13, 14], [14])])
def sacristyref10_Put.B3 : List Nat := [0, 1, 3, 7, 15, 0, 32, 96, 231, 511, 1023, 0, 2048, 6631, 16383, 32767]
theorem sacristyref10_Put.tab3 : rtab .any (opsOf Tryz.f8 3) = sacristyref10_Put.T3 := by kernel_rfl
theorem sacristyref10_Put.bits3 : waitsOk sacristyref10_Put.T3.2 sacristyref10_Put.B3 = true := by kernel_rfl
def sacristyref10_Put.T13 : Bool × List (List Nat × List Nat) := (true, [([], []), ([0], [0]), ([], []), ([2], [2]), ([1, 3], [1, 3]), ([4], [4]), ([], []), ([5, 6], [5, 6]), ([7], [7]), ([], []), ([9], [9]), ([8, 10], [8, 10]), ([11], [11]), ([], []), ([13], [13]), ([14], [14]), ([15], [15]), ([12, 16], [12, 16]), ([17], [17]), ([], []), ([19], [19]), ([20], [20]), ([21, 16], [21]), ([18, 22], [18, 22]), ([23], [23]), ([], []), ([24, 25], [24, 25]), ([], []), ([27], [27]), ([28, 22], [28]), ([26, 29], [26, 29]), ([30, 29, 0, 1, 2, 3, 4, 5, 6, 7, 8, 9, 10, 11, 12, 13, 14, 15, 16, 17, 18, 19, 20, 21, 22, 23, 24, 25, 26, 27, 28, 29, 30], [0, 30])])
def sacristyref10_Put.B13 : List Nat := [0, 1, 0, 4, 15, 31, 0, 127, 255, 0, 512, 2047, 4095, 0, 8192, 24576, 57344, 131071, 262143, 0, 524288, 1572864, 3792896, 8388607, 16777215, 0, 67108863, 0, 134217728, 410640384, 1073741823, 2147483647]
theorem sacristyref10_Put.tab13 : rtab .any (opsOf Tryz.f8 13) = sacristyref10_Put.T13 := by kernel_rfl
theorem sacristyref10_Put.bits13 : waitsOk sacristyref10_Put.T13.2 sacristyref10_Put.B13 = true := by kernel_rfl
set_option maxHeartbeats 8000000 in
set_option maxRecDepth 100000 in
theorem sacristyref10_Put.calls (k : Nat) (a0_0 : Int) (A0_1 : Option Addr) (c0_1 : Nat) (l0_1 : List ByteArray) (A0_2 : Option Addr) (c0_2 : Nat) (l0_2 : List (S39)) (r1 : List Int) (r2 : Bool) (w : World) (hr0_1 : Kd.C Kd.string w A0_1 l0_1.length l0_1) (hc0_1 : l0_1.length <= c0_1) (hr0_2 : Kd.C k39 w A0_2 l0_2.length l0_2) (hc0_2 : l0_2.length <= c0_2) (h : sacristyref10_Put.f k a0_0 l0_1 l0_2 = some (r1, r2)) :
  Calls Tryz.prog 8 #[.agg #[.int .i64 a0_0, .slice A0_1 l0_1.length c0_1, .slice A0_2 l0_2.length c0_2]] w fun e w' => ∃ v0_ : Value, e = .returned (.tuple #[v0_, .bool r2]) /\ Kd.V (Kd.int .u8) 5 w' w.heap.size (fun k_ => (w.heap.size <= k_)) v0_ r1 /\ Below w.heap.size w w' := by
 have hu25 := Tryz.underlying25
 have hu39 := Tryz.underlying39
 have HR0_1 := am hr0_1
 have HC0_1 := am hc0_1
 clear hr0_1 hc0_1
 have HR0_2 := am hr0_2
 have HC0_2 := am hc0_2
 clear hr0_2 hc0_2
 have HB := am (Below.refl w.heap.size w)
 have H : ((sacristyref10_Right.f k a0_0 l0_1 l0_2).bind fun t205 => (if t205 = true then ((sacristyref03_Text.f k a0_0).bind fun t206 => (if 4 + t206.size <= 9223372036854775807 then (if ((⟨#[110, 101, 116, 32]⟩ : ByteArray) ++ t206).size + 6 <= 9223372036854775807 then ((sacristyref03_Text.f k (l0_1.length : Int)).bind fun t207 => (if (((⟨#[110, 101, 116, 32]⟩ : ByteArray) ++ t206) ++ (⟨#[10, 112, 111, 111, 108, 32]⟩ : ByteArray)).size + t207.size <= 9223372036854775807 then (if ((((⟨#[110, 101, 116, 32]⟩ : ByteArray) ++ t206) ++ (⟨#[10, 112, 111, 111, 108, 32]⟩ : ByteArray)) ++ t207).size + 1 <= 9223372036854775807 then ((sacristyref10_rows.f k l0_1).bind fun t208 => (if (((((⟨#[110, 101, 116, 32]⟩ : ByteArray) ++ t206) ++ (⟨#[10, 112, 111, 111, 108, 32]⟩ : ByteArray)) ++ t207) ++ (⟨#[10]⟩ : ByteArray)).size + t208.size <= 9223372036854775807 then (if ((((((⟨#[110, 101, 116, 32]⟩ : ByteArray) ++ t206) ++ (⟨#[10, 112, 111, 111, 108, 32]⟩ : ByteArray)) ++ t207) ++ (⟨#[10]⟩ : ByteArray)) ++ t208).size + 6 <= 9223372036854775807 then ((sacristyref03_Text.f k (l0_2.length : Int)).bind fun t209 => (if (((((((⟨#[110, 101, 116, 32]⟩ : ByteArray) ++ t206) ++ (⟨#[10, 112, 111, 111, 108, 32]⟩ : ByteArray)) ++ t207) ++ (⟨#[10]⟩ : ByteArray)) ++ t208) ++ (⟨#[102, 111, 114, 107, 115, 32]⟩ : ByteArray)).size + t209.size <= 9223372036854775807 then (if ((((((((⟨#[110, 101, 116, 32]⟩ : ByteArray) ++ t206) ++ (⟨#[10, 112, 111, 111, 108, 32]⟩ : ByteArray)) ++ t207) ++ (⟨#[10]⟩ : ByteArray)) ++ t208) ++ (⟨#[102, 111, 114, 107, 115, 32]⟩ : ByteArray)) ++ t209).size + 1 <= 9223372036854775807 then (sacristyref10_Put.l0 k (((((((((⟨#[110, 101, 116, 32]⟩ : ByteArray) ++ t206) ++ (⟨#[10, 112, 111, 111, 108, 32]⟩ : ByteArray)) ++ t207) ++ (⟨#[10]⟩ : ByteArray)) ++ t208) ++ (⟨#[102, 111, 114, 107, 115, 32]⟩ : ByteArray)) ++ t209) ++ (⟨#[10]⟩ : ByteArray)) 0 a0_0 l0_1 l0_2) else (none)) else (none))) else (none)) else (none))) else (none)) else (none))) else (none)) else (none))) else (some (([] : List Int), false)))) = some (r1, r2) := h
 clear h
 replace H := Option.bind_eq_some_iff.mp H
 obtain ⟨t205, A20, H⟩ := H
 replace H : (if t205 = true then ((sacristyref03_Text.f k a0_0).bind fun t206 => (if 4 + t206.size <= 9223372036854775807 then (if ((⟨#[110, 101, 116, 32]⟩ : ByteArray) ++ t206).size + 6 <= 9223372036854775807 then ((sacristyref03_Text.f k (l0_1.length : Int)).bind fun t207 => (if (((⟨#[110, 101, 116, 32]⟩ : ByteArray) ++ t206) ++ (⟨#[10, 112, 111, 111, 108, 32]⟩ : ByteArray)).size + t207.size <= 9223372036854775807 then (if ((((⟨#[110, 101, 116, 32]⟩ : ByteArray) ++ t206) ++ (⟨#[10, 112, 111, 111, 108, 32]⟩ : ByteArray)) ++ t207).size + 1 <= 9223372036854775807 then ((sacristyref10_rows.f k l0_1).bind fun t208 => (if (((((⟨#[110, 101, 116, 32]⟩ : ByteArray) ++ t206) ++ (⟨#[10, 112, 111, 111, 108, 32]⟩ : ByteArray)) ++ t207) ++ (⟨#[10]⟩ : ByteArray)).size + t208.size <= 9223372036854775807 then (if ((((((⟨#[110, 101, 116, 32]⟩ : ByteArray) ++ t206) ++ (⟨#[10, 112, 111, 111, 108, 32]⟩ : ByteArray)) ++ t207) ++ (⟨#[10]⟩ : ByteArray)) ++ t208).size + 6 <= 9223372036854775807 then ((sacristyref03_Text.f k (l0_2.length : Int)).bind fun t209 => (if (((((((⟨#[110, 101, 116, 32]⟩ : ByteArray) ++ t206) ++ (⟨#[10, 112, 111, 111, 108, 32]⟩ : ByteArray)) ++ t207) ++ (⟨#[10]⟩ : ByteArray)) ++ t208) ++ (⟨#[102, 111, 114, 107, 115, 32]⟩ : ByteArray)).size + t209.size <= 9223372036854775807 then (if ((((((((⟨#[110, 101, 116, 32]⟩ : ByteArray) ++ t206) ++ (⟨#[10, 112, 111, 111, 108, 32]⟩ : ByteArray)) ++ t207) ++ (⟨#[10]⟩ : ByteArray)) ++ t208) ++ (⟨#[102, 111, 114, 107, 115, 32]⟩ : ByteArray)) ++ t209).size + 1 <= 9223372036854775807 then (sacristyref10_Put.l0 k (((((((((⟨#[110, 101, 116, 32]⟩ : ByteArray) ++ t206) ++ (⟨#[10, 112, 111, 111, 108, 32]⟩ : ByteArray)) ++ t207) ++ (⟨#[10]⟩ : ByteArray)) ++ t208) ++ (⟨#[102, 111, 114, 107, 115, 32]⟩ : ByteArray)) ++ t209) ++ (⟨#[10]⟩ : ByteArray)) 0 a0_0 l0_1 l0_2) else (none)) else (none))) else (none)) else (none))) else (none)) else (none))) else (none)) else (none))) else (some (([] : List Int), false))) = some (r1, r2) := H
 have A2 := am A20
 by_cases c3 : t205 = true
 ·subst c3
  have H1 : ((sacristyref03_Text.f k a0_0).bind fun t206 => (if 4 + t206.size <= 9223372036854775807 then (if ((⟨#[110, 101, 116, 32]⟩ : ByteArray) ++ t206).size + 6 <= 9223372036854775807 then ((sacristyref03_Text.f k (l0_1.length : Int)).bind fun t207 => (if (((⟨#[110, 101, 116, 32]⟩ : ByteArray) ++ t206) ++ (⟨#[10, 112, 111, 111, 108, 32]⟩ : ByteArray)).size + t207.size <= 9223372036854775807 then (if ((((⟨#[110, 101, 116, 32]⟩ : ByteArray) ++ t206) ++ (⟨#[10, 112, 111, 111, 108, 32]⟩ : ByteArray)) ++ t207).size + 1 <= 9223372036854775807 then ((sacristyref10_rows.f k l0_1).bind fun t208 => (if (((((⟨#[110, 101, 116, 32]⟩ : ByteArray) ++ t206) ++ (⟨#[10, 112, 111, 111, 108, 32]⟩ : ByteArray)) ++ t207) ++ (⟨#[10]⟩ : ByteArray)).size + t208.size <= 9223372036854775807 then (if ((((((⟨#[110, 101, 116, 32]⟩ : ByteArray) ++ t206) ++ (⟨#[10, 112, 111, 111, 108, 32]⟩ : ByteArray)) ++ t207) ++ (⟨#[10]⟩ : ByteArray)) ++ t208).size + 6 <= 9223372036854775807 then ((sacristyref03_Text.f k (l0_2.length : Int)).bind fun t209 => (if (((((((⟨#[110, 101, 116, 32]⟩ : ByteArray) ++ t206) ++ (⟨#[10, 112, 111, 111, 108, 32]⟩ : ByteArray)) ++ t207) ++ (⟨#[10]⟩ : ByteArray)) ++ t208) ++ (⟨#[102, 111, 114, 107, 115, 32]⟩ : ByteArray)).size + t209.size <= 9223372036854775807 then (if ((((((((⟨#[110, 101, 116, 32]⟩ : ByteArray) ++ t206) ++ (⟨#[10, 112, 111, 111, 108, 32]⟩ : ByteArray)) ++ t207) ++ (⟨#[10]⟩ : ByteArray)) ++ t208) ++ (⟨#[102, 111, 114, 107, 115, 32]⟩ : ByteArray)) ++ t209).size + 1 <= 9223372036854775807 then (sacristyref10_Put.l0 k (((((((((⟨#[110, 101, 116, 32]⟩ : ByteArray) ++ t206) ++ (⟨#[10, 112, 111, 111, 108, 32]⟩ : ByteArray)) ++ t207) ++ (⟨#[10]⟩ : ByteArray)) ++ t208) ++ (⟨#[102, 111, 114, 107, 115, 32]⟩ : ByteArray)) ++ t209) ++ (⟨#[10]⟩ : ByteArray)) 0 a0_0 l0_1 l0_2) else (none)) else (none))) else (none)) else (none))) else (none)) else (none))) else (none)) else (none))) = some (r1, r2) := by rw [if_pos rfl] at H; exact H
  clear H
  have H := H1
  clear H1
  replace H := Option.bind_eq_some_iff.mp H
  obtain ⟨t206, A40, H⟩ := H
  replace H : (if 4 + t206.size <= 9223372036854775807 then (if ((⟨#[110, 101, 116, 32]⟩ : ByteArray) ++ t206).size + 6 <= 9223372036854775807 then ((sacristyref03_Text.f k (l0_1.length : Int)).bind fun t207 => (if (((⟨#[110, 101, 116, 32]⟩ : ByteArray) ++ t206) ++ (⟨#[10, 112, 111, 111, 108, 32]⟩ : ByteArray)).size + t207.size <= 9223372036854775807 then (if ((((⟨#[110, 101, 116, 32]⟩ : ByteArray) ++ t206) ++ (⟨#[10, 112, 111, 111, 108, 32]⟩ : ByteArray)) ++ t207).size + 1 <= 9223372036854775807 then ((sacristyref10_rows.f k l0_1).bind fun t208 => (if (((((⟨#[110, 101, 116, 32]⟩ : ByteArray) ++ t206) ++ (⟨#[10, 112, 111, 111, 108, 32]⟩ : ByteArray)) ++ t207) ++ (⟨#[10]⟩ : ByteArray)).size + t208.size <= 9223372036854775807 then (if ((((((⟨#[110, 101, 116, 32]⟩ : ByteArray) ++ t206) ++ (⟨#[10, 112, 111, 111, 108, 32]⟩ : ByteArray)) ++ t207) ++ (⟨#[10]⟩ : ByteArray)) ++ t208).size + 6 <= 9223372036854775807 then ((sacristyref03_Text.f k (l0_2.length : Int)).bind fun t209 => (if (((((((⟨#[110, 101, 116, 32]⟩ : ByteArray) ++ t206) ++ (⟨#[10, 112, 111, 111, 108, 32]⟩ : ByteArray)) ++ t207) ++ (⟨#[10]⟩ : ByteArray)) ++ t208) ++ (⟨#[102, 111, 114, 107, 115, 32]⟩ : ByteArray)).size + t209.size <= 9223372036854775807 then (if ((((((((⟨#[110, 101, 116, 32]⟩ : ByteArray) ++ t206) ++ (⟨#[10, 112, 111, 111, 108, 32]⟩ : ByteArray)) ++ t207) ++ (⟨#[10]⟩ : ByteArray)) ++ t208) ++ (⟨#[102, 111, 114, 107, 115, 32]⟩ : ByteArray)) ++ t209).size + 1 <= 9223372036854775807 then (sacristyref10_Put.l0 k (((((((((⟨#[110, 101, 116, 32]⟩ : ByteArray) ++ t206) ++ (⟨#[10, 112, 111, 111, 108, 32]⟩ : ByteArray)) ++ t207) ++ (⟨#[10]⟩ : ByteArray)) ++ t208) ++ (⟨#[102, 111, 114, 107, 115, 32]⟩ : ByteArray)) ++ t209) ++ (⟨#[10]⟩ : ByteArray)) 0 a0_0 l0_1 l0_2) else (none)) else (none))) else (none)) else (none))) else (none)) else (none))) else (none)) else (none)) = some (r1, r2) := H
  have A4 := am A40
  by_cases c5 : 4 + t206.size <= 9223372036854775807
  ·rw [if_pos c5] at H
   have c5b0 := eq_true c5
   have c5b1 : decide (4 + t206.size <= 9223372036854775807) = true := dt c5
   try have c5b2 : (9223372036854775807 < 4 + t206.size) = False := eq_false (Nat.not_lt.2 c5)
   by_cases c6 : ((⟨#[110, 101, 116, 32]⟩ : ByteArray) ++ t206).size + 6 <= 9223372036854775807
   ·rw [if_pos c6] at H
    have c6b0 := eq_true c6
    have c6b1 : decide (((⟨#[110, 101, 116, 32]⟩ : ByteArray) ++ t206).size + 6 <= 9223372036854775807) = true := dt c6
    try have c6b2 : (9223372036854775807 < ((⟨#[110, 101, 116, 32]⟩ : ByteArray) ++ t206).size + 6) = False := eq_false (Nat.not_lt.2 c6)
    try have c6b3 : (9223372036854775807 < 4 + t206.size + 6) = False := eq_false (Nat.not_lt.2 (by have e_ := c6; simp only [ByteArray.size_append] at e_; exact e_))
    replace H := Option.bind_eq_some_iff.mp H
    obtain ⟨t207, A70, H⟩ := H
    replace H : (if (((⟨#[110, 101, 116, 32]⟩ : ByteArray) ++ t206) ++ (⟨#[10, 112, 111, 111, 108, 32]⟩ : ByteArray)).size + t207.size <= 9223372036854775807 then (if ((((⟨#[110, 101, 116, 32]⟩ : ByteArray) ++ t206) ++ (⟨#[10, 112, 111, 111, 108, 32]⟩ : ByteArray)) ++ t207).size + 1 <= 9223372036854775807 then ((sacristyref10_rows.f k l0_1).bind fun t208 => (if (((((⟨#[110, 101, 116, 32]⟩ : ByteArray) ++ t206) ++ (⟨#[10, 112, 111, 111, 108, 32]⟩ : ByteArray)) ++ t207) ++ (⟨#[10]⟩ : ByteArray)).size + t208.size <= 9223372036854775807 then (if ((((((⟨#[110, 101, 116, 32]⟩ : ByteArray) ++ t206) ++ (⟨#[10, 112, 111, 111, 108, 32]⟩ : ByteArray)) ++ t207) ++ (⟨#[10]⟩ : ByteArray)) ++ t208).size + 6 <= 9223372036854775807 then ((sacristyref03_Text.f k (l0_2.length : Int)).bind fun t209 => (if (((((((⟨#[110, 101, 116, 32]⟩ : ByteArray) ++ t206) ++ (⟨#[10, 112, 111, 111, 108, 32]⟩ : ByteArray)) ++ t207) ++ (⟨#[10]⟩ : ByteArray)) ++ t208) ++ (⟨#[102, 111, 114, 107, 115, 32]⟩ : ByteArray)).size + t209.size <= 9223372036854775807 then (if ((((((((⟨#[110, 101, 116, 32]⟩ : ByteArray) ++ t206) ++ (⟨#[10, 112, 111, 111, 108, 32]⟩ : ByteArray)) ++ t207) ++ (⟨#[10]⟩ : ByteArray)) ++ t208) ++ (⟨#[102, 111, 114, 107, 115, 32]⟩ : ByteArray)) ++ t209).size + 1 <= 9223372036854775807 then (sacristyref10_Put.l0 k (((((((((⟨#[110, 101, 116, 32]⟩ : ByteArray) ++ t206) ++ (⟨#[10, 112, 111, 111, 108, 32]⟩ : ByteArray)) ++ t207) ++ (⟨#[10]⟩ : ByteArray)) ++ t208) ++ (⟨#[102, 111, 114, 107, 115, 32]⟩ : ByteArray)) ++ t209) ++ (⟨#[10]⟩ : ByteArray)) 0 a0_0 l0_1 l0_2) else (none)) else (none))) else (none)) else (none))) else (none)) else (none)) = some (r1, r2) := H
    have A7 := am A70
    by_cases c8 : (((⟨#[110, 101, 116, 32]⟩ : ByteArray) ++ t206) ++ (⟨#[10, 112, 111, 111, 108, 32]⟩ : ByteArray)).size + t207.size <= 9223372036854775807
    ·rw [if_pos c8] at H
     have c8b0 := eq_true c8
     have c8b1 : decide ((((⟨#[110, 101, 116, 32]⟩ : ByteArray) ++ t206) ++ (⟨#[10, 112, 111, 111, 108, 32]⟩ : ByteArray)).size + t207.size <= 9223372036854775807) = true := dt c8
     try have c8b2 : (9223372036854775807 < (((⟨#[110, 101, 116, 32]⟩ : ByteArray) ++ t206) ++ (⟨#[10, 112, 111, 111, 108, 32]⟩ : ByteArray)).size + t207.size) = False := eq_false (Nat.not_lt.2 c8)
     try have c8b3 : (9223372036854775807 < 4 + t206.size + 6 + t207.size) = False := eq_false (Nat.not_lt.2 (by have e_ := c8; simp only [ByteArray.size_append] at e_; exact e_))
     by_cases c9 : ((((⟨#[110, 101, 116, 32]⟩ : ByteArray) ++ t206) ++ (⟨#[10, 112, 111, 111, 108, 32]⟩ : ByteArray)) ++ t207).size + 1 <= 9223372036854775807
     ·rw [if_pos c9] at H
      have c9b0 := eq_true c9
      have c9b1 : decide (((((⟨#[110, 101, 116, 32]⟩ : ByteArray) ++ t206) ++ (⟨#[10, 112, 111, 111, 108, 32]⟩ : ByteArray)) ++ t207).size + 1 <= 9223372036854775807) = true := dt c9
      try have c9b2 : (9223372036854775807 < ((((⟨#[110, 101, 116, 32]⟩ : ByteArray) ++ t206) ++ (⟨#[10, 112, 111, 111, 108, 32]⟩ : ByteArray)) ++ t207).size + 1) = False := eq_false (Nat.not_lt.2 c9)
      try have c9b3 : (9223372036854775807 < 4 + t206.size + 6 + t207.size + 1) = False := eq_false (Nat.not_lt.2 (by have e_ := c9; simp only [ByteArray.size_append] at e_; exact e_))
      replace H := Option.bind_eq_some_iff.mp H
      obtain ⟨t208, A100, H⟩ := H
      replace H : (if (((((⟨#[110, 101, 116, 32]⟩ : ByteArray) ++ t206) ++ (⟨#[10, 112, 111, 111, 108, 32]⟩ : ByteArray)) ++ t207) ++ (⟨#[10]⟩ : ByteArray)).size + t208.size <= 9223372036854775807 then (if ((((((⟨#[110, 101, 116, 32]⟩ : ByteArray) ++ t206) ++ (⟨#[10, 112, 111, 111, 108, 32]⟩ : ByteArray)) ++ t207) ++ (⟨#[10]⟩ : ByteArray)) ++ t208).size + 6 <= 9223372036854775807 then ((sacristyref03_Text.f k (l0_2.length : Int)).bind fun t209 => (if (((((((⟨#[110, 101, 116, 32]⟩ : ByteArray) ++ t206) ++ (⟨#[10, 112, 111, 111, 108, 32]⟩ : ByteArray)) ++ t207) ++ (⟨#[10]⟩ : ByteArray)) ++ t208) ++ (⟨#[102, 111, 114, 107, 115, 32]⟩ : ByteArray)).size + t209.size <= 9223372036854775807 then (if ((((((((⟨#[110, 101, 116, 32]⟩ : ByteArray) ++ t206) ++ (⟨#[10, 112, 111, 111, 108, 32]⟩ : ByteArray)) ++ t207) ++ (⟨#[10]⟩ : ByteArray)) ++ t208) ++ (⟨#[102, 111, 114, 107, 115, 32]⟩ : ByteArray)) ++ t209).size + 1 <= 9223372036854775807 then (sacristyref10_Put.l0 k (((((((((⟨#[110, 101, 116, 32]⟩ : ByteArray) ++ t206) ++ (⟨#[10, 112, 111, 111, 108, 32]⟩ : ByteArray)) ++ t207) ++ (⟨#[10]⟩ : ByteArray)) ++ t208) ++ (⟨#[102, 111, 114, 107, 115, 32]⟩ : ByteArray)) ++ t209) ++ (⟨#[10]⟩ : ByteArray)) 0 a0_0 l0_1 l0_2) else (none)) else (none))) else (none)) else (none)) = some (r1, r2) := H
      have A10 := am A100
      by_cases c11 : (((((⟨#[110, 101, 116, 32]⟩ : ByteArray) ++ t206) ++ (⟨#[10, 112, 111, 111, 108, 32]⟩ : ByteArray)) ++ t207) ++ (⟨#[10]⟩ : ByteArray)).size + t208.size <= 9223372036854775807
      ·rw [if_pos c11] at H
       have c11b0 := eq_true c11
       have c11b1 : decide ((((((⟨#[110, 101, 116, 32]⟩ : ByteArray) ++ t206) ++ (⟨#[10, 112, 111, 111, 108, 32]⟩ : ByteArray)) ++ t207) ++ (⟨#[10]⟩ : ByteArray)).size + t208.size <= 9223372036854775807) = true := dt c11
       try have c11b2 : (9223372036854775807 < (((((⟨#[110, 101, 116, 32]⟩ : ByteArray) ++ t206) ++ (⟨#[10, 112, 111, 111, 108, 32]⟩ : ByteArray)) ++ t207) ++ (⟨#[10]⟩ : ByteArray)).size + t208.size) = False := eq_false (Nat.not_lt.2 c11)
       try have c11b3 : (9223372036854775807 < 4 + t206.size + 6 + t207.size + 1 + t208.size) = False := eq_false (Nat.not_lt.2 (by have e_ := c11; simp only [ByteArray.size_append] at e_; exact e_))
       by_cases c12 : ((((((⟨#[110, 101, 116, 32]⟩ : ByteArray) ++ t206) ++ (⟨#[10, 112, 111, 111, 108, 32]⟩ : ByteArray)) ++ t207) ++ (⟨#[10]⟩ : ByteArray)) ++ t208).size + 6 <= 9223372036854775807
       ·rw [if_pos c12] at H
        have c12b0 := eq_true c12
        have c12b1 : decide (((((((⟨#[110, 101, 116, 32]⟩ : ByteArray) ++ t206) ++ (⟨#[10, 112, 111, 111, 108, 32]⟩ : ByteArray)) ++ t207) ++ (⟨#[10]⟩ : ByteArray)) ++ t208).size + 6 <= 9223372036854775807) = true := dt c12
        try have c12b2 : (9223372036854775807 < ((((((⟨#[110, 101, 116, 32]⟩ : ByteArray) ++ t206) ++ (⟨#[10, 112, 111, 111, 108, 32]⟩ : ByteArray)) ++ t207) ++ (⟨#[10]⟩ : ByteArray)) ++ t208).size + 6) = False := eq_false (Nat.not_lt.2 c12)
        try have c12b3 : (9223372036854775807 < 4 + t206.size + 6 + t207.size + 1 + t208.size + 6) = False := eq_false (Nat.not_lt.2 (by have e_ := c12; simp only [ByteArray.size_append] at e_; exact e_))
        replace H := Option.bind_eq_some_iff.mp H
        obtain ⟨t209, A130, H⟩ := H
        replace H : (if (((((((⟨#[110, 101, 116, 32]⟩ : ByteArray) ++ t206) ++ (⟨#[10, 112, 111, 111, 108, 32]⟩ : ByteArray)) ++ t207) ++ (⟨#[10]⟩ : ByteArray)) ++ t208) ++ (⟨#[102, 111, 114, 107, 115, 32]⟩ : ByteArray)).size + t209.size <= 9223372036854775807 then (if ((((((((⟨#[110, 101, 116, 32]⟩ : ByteArray) ++ t206) ++ (⟨#[10, 112, 111, 111, 108, 32]⟩ : ByteArray)) ++ t207) ++ (⟨#[10]⟩ : ByteArray)) ++ t208) ++ (⟨#[102, 111, 114, 107, 115, 32]⟩ : ByteArray)) ++ t209).size + 1 <= 9223372036854775807 then (sacristyref10_Put.l0 k (((((((((⟨#[110, 101, 116, 32]⟩ : ByteArray) ++ t206) ++ (⟨#[10, 112, 111, 111, 108, 32]⟩ : ByteArray)) ++ t207) ++ (⟨#[10]⟩ : ByteArray)) ++ t208) ++ (⟨#[102, 111, 114, 107, 115, 32]⟩ : ByteArray)) ++ t209) ++ (⟨#[10]⟩ : ByteArray)) 0 a0_0 l0_1 l0_2) else (none)) else (none)) = some (r1, r2) := H
        have A13 := am A130
        by_cases c14 : (((((((⟨#[110, 101, 116, 32]⟩ : ByteArray) ++ t206) ++ (⟨#[10, 112, 111, 111, 108, 32]⟩ : ByteArray)) ++ t207) ++ (⟨#[10]⟩ : ByteArray)) ++ t208) ++ (⟨#[102, 111, 114, 107, 115, 32]⟩ : ByteArray)).size + t209.size <= 9223372036854775807
        ·rw [if_pos c14] at H
         have c14b0 := eq_true c14
         have c14b1 : decide ((((((((⟨#[110, 101, 116, 32]⟩ : ByteArray) ++ t206) ++ (⟨#[10, 112, 111, 111, 108, 32]⟩ : ByteArray)) ++ t207) ++ (⟨#[10]⟩ : ByteArray)) ++ t208) ++ (⟨#[102, 111, 114, 107, 115, 32]⟩ : ByteArray)).size + t209.size <= 9223372036854775807) = true := dt c14
         try have c14b2 : (9223372036854775807 < (((((((⟨#[110, 101, 116, 32]⟩ : ByteArray) ++ t206) ++ (⟨#[10, 112, 111, 111, 108, 32]⟩ : ByteArray)) ++ t207) ++ (⟨#[10]⟩ : ByteArray)) ++ t208) ++ (⟨#[102, 111, 114, 107, 115, 32]⟩ : ByteArray)).size + t209.size) = False := eq_false (Nat.not_lt.2 c14)
         try have c14b3 : (9223372036854775807 < 4 + t206.size + 6 + t207.size + 1 + t208.size + 6 + t209.size) = False := eq_false (Nat.not_lt.2 (by have e_ := c14; simp only [ByteArray.size_append] at e_; exact e_))
         by_cases c15 : ((((((((⟨#[110, 101, 116, 32]⟩ : ByteArray) ++ t206) ++ (⟨#[10, 112, 111, 111, 108, 32]⟩ : ByteArray)) ++ t207) ++ (⟨#[10]⟩ : ByteArray)) ++ t208) ++ (⟨#[102, 111, 114, 107, 115, 32]⟩ : ByteArray)) ++ t209).size + 1 <= 9223372036854775807
         ·rw [if_pos c15] at H
          have c15b0 := eq_true c15
          have c15b1 : decide (((((((((⟨#[110, 101, 116, 32]⟩ : ByteArray) ++ t206) ++ (⟨#[10, 112, 111, 111, 108, 32]⟩ : ByteArray)) ++ t207) ++ (⟨#[10]⟩ : ByteArray)) ++ t208) ++ (⟨#[102, 111, 114, 107, 115, 32]⟩ : ByteArray)) ++ t209).size + 1 <= 9223372036854775807) = true := dt c15
          try have c15b2 : (9223372036854775807 < ((((((((⟨#[110, 101, 116, 32]⟩ : ByteArray) ++ t206) ++ (⟨#[10, 112, 111, 111, 108, 32]⟩ : ByteArray)) ++ t207) ++ (⟨#[10]⟩ : ByteArray)) ++ t208) ++ (⟨#[102, 111, 114, 107, 115, 32]⟩ : ByteArray)) ++ t209).size + 1) = False := eq_false (Nat.not_lt.2 c15)
          try have c15b3 : (9223372036854775807 < 4 + t206.size + 6 + t207.size + 1 + t208.size + 6 + t209.size + 1) = False := eq_false (Nat.not_lt.2 (by have e_ := c15; simp only [ByteArray.size_append] at e_; exact e_))
          have H' := am H
          clear H
          go_enter Tryz.func8, Tryz.ntmps8
          try go_wp2_with (first | ((with_reducible refine gate_dst (N := 1) rfl ?_); refine box_event ?hg (N := 1) ?hd (cs := #[.int .i64 a0_0, .slice A0_1 l0_1.length c0_1, .slice A0_2 l0_2.length c0_2]) (t := 25) ?hr ?_; (case hd => rfl); (case hg => rfl); (case hr => first | (go_simp; done) | (go_simp; rfl)); intro gb204 hg w16 hbox hb; have n0_ := am (qW (bz HB.out) hb); have n1_ := am (hbox); have n2_ := am ((by rw [hg]; exact (qZ (bz HB.out)) : w.heap.size <= gb204)); have n3_ := am ((by rw [hg]; exact (qZ (bz HB.out)) : w.heap.size <= gb204)); clear HB; have HB := n0_; have BK204 := n1_; have GW204 := n2_; have GE204 := n3_; clear n0_ n1_ n2_ n3_; clear hb hbox hg; have hcz17_0 : w16.cell? ⟨gb204, 0, none⟩ = some (.int .i64 a0_0) := bc BK204.out 0; have hcz17_1 : w16.cell? ⟨gb204, 1, none⟩ = some (.slice A0_1 l0_1.length c0_1) := bc BK204.out 1; have hcz17_2 : w16.cell? ⟨gb204, 2, none⟩ = some (.slice A0_2 l0_2.length c0_2) := bc BK204.out 2; have hfz17_0 := qf BK204.out 0; have hfz17_1 := qf BK204.out 1; have hfz17_2 := qf BK204.out 2) | ((with_reducible refine gate_callee (f := 12) rfl ?_); refine goesL_ (some 11) rfl rfl Tryz.func12 (by kernel_rfl) rfl #[.agg #[.int .i64 a0_0, .slice A0_1 l0_1.length c0_1, .slice A0_2 l0_2.length c0_2]] rfl mz ?_; (with_reducible refine (sacristyref10_Right.calls k a0_0 _ _ l0_1 _ _ l0_2 true _ ?side1 ?side2 ?side3 ?side4 A2.out).mono ?_); (case side1 => repeat (first | exact (Kd.C_below HR0_1.out HB.out) | (with_reducible refine Kd.C_alloc ?_ _) | (with_reducible refine Kd.C_drewN ?_ _) | (with_reducible refine Kd.C_drew ?_))); (case side2 => exact HC0_1.out); (case side3 => repeat (first | exact (Kd.C_below HR0_2.out HB.out) | (with_reducible refine Kd.C_alloc ?_ _) | (with_reducible refine Kd.C_drewN ?_ _) | (with_reducible refine Kd.C_drew ?_))); (case side4 => exact HC0_2.out); rintro e w18 ⟨rfl, hb⟩; refine ⟨_, rfl, ?_⟩; have n0_ := am (blk_below (g := gb204) (o := .cells #[.int .i64 a0_0, .slice A0_1 l0_1.length c0_1, .slice A0_2 l0_2.length c0_2] 25 (0, 0)) (kz BK204.out) hb); have n1_ := am (qW (bs1 HB.out GE204.out) hb); clear BK204; clear HB; have BK204 := n0_; have HB := n1_; clear n0_ n1_; (try clear hb); (try clear hb2); (try clear hk); (try clear hi)))
          have n0_ := am (qd BK204.out)
          have n1_ := am (bd1 HB.out)
          clear BK204
          clear HB
          have BK204 := n0_
          have HB := n1_
          clear n0_ n1_
          refine start_ (n := 16) (S := fun w' => w'.cell? ⟨gb204, 0, none⟩ = some (.int .i64 a0_0) /\ w'.cell? ⟨gb204, 1, none⟩ = some (.slice A0_1 l0_1.length c0_1) /\ w'.cell? ⟨gb204, 2, none⟩ = some (.slice A0_2 l0_2.length c0_2)) (ds := []) (bA 16 0) (by kernel_rfl) rfl rfl ⟨bc BK204.out 0, bc BK204.out 1, bc BK204.out 2⟩ (fun hHeld => ?_); refine with_tabW sacristyref10_Put.tab3 sacristyref10_Put.bits3 (fun HT_ HW_ => ?_)
          generalize w18.drew = w19 at BK204 HB hHeld ⊢
          refine py_ 0 13 (bA 16 1) HT_.out ?_
          refine py_ 5 18 (bA 16 33) HT_.out ?_
          refine py_ 11 24 (bA 16 2081) HT_.out ?_
          refine ty_ 1 14 (bA 16 2083) HT_.out HW_.out hHeld ?_
          refine ty_ 6 19 (bA 16 2147) HT_.out HW_.out hHeld ?_
          refine py_ 7 20 (bA 16 2275) HT_.out ?_
          refine ty_ 12 25 (bA 16 6371) HT_.out HW_.out hHeld ?_
          refine oz_ 2 15 (bA 16 6375) HT_.out (fun K hK => ?_)
          refine goes_ Tryz.func27 (by kernel_rfl) rfl #[.int .i64 a0_0] (by rfl) rfl rfl mz ?_
          with_reducible refine (sacristyref03_Text.calls k a0_0 t206 _ A4.out).mono ?_
          rintro e w20 ⟨rfl, hb⟩
          refine ⟨_, rfl, ?_⟩
          have n0_ := am (blk_below (g := gb204) (o := .cells #[.int .i64 a0_0, .slice A0_1 l0_1.length c0_1, .slice A0_2 l0_2.length c0_2] 25 (0, 0)) (kz BK204.out) hb)
          have n1_ := am (qW (bs1 HB.out GE204.out) hb)
          clear BK204
          clear HB
          have BK204 := n0_
          have HB := n1_
          clear n0_ n1_
          (try clear hb)
          (try clear hb2)
          (try clear hk)
          (try clear hi)
          refine hK.out _ _ ⟨bc BK204.out 0, bc BK204.out 1, bc BK204.out 2⟩ (fun hHeld => ?_)
          clear hK K
          refine nz_ 15 ?_
          refine py_ 3 16 (bA 16 6383) HT_.out ?_
          refine py_ 4 17 (bA 16 6399) HT_.out ?_
          refine oz_ 8 21 (bA 16 6655) HT_.out (fun K hK => ?_)
          refine goes_ Tryz.func27 (by kernel_rfl) rfl #[.int .i64 (l0_1.length : Int)] (by rfl) rfl rfl mz ?_
          with_reducible refine (sacristyref03_Text.calls k (l0_1.length : Int) t207 _ A7.out).mono ?_
          rintro e w21 ⟨rfl, hb⟩
          refine ⟨_, rfl, ?_⟩
          have n0_ := am (blk_below (g := gb204) (o := .cells #[.int .i64 a0_0, .slice A0_1 l0_1.length c0_1, .slice A0_2 l0_2.length c0_2] 25 (0, 0)) (kz BK204.out) hb)
          have n1_ := am (qW (bs1 HB.out GE204.out) hb)
          clear BK204
          clear HB
          have BK204 := n0_
          have HB := n1_
          clear n0_ n1_
          (try clear hb)
          (try clear hb2)
          (try clear hk)
          (try clear hi)
          refine hK.out _ _ ⟨bc BK204.out 0, bc BK204.out 1, bc BK204.out 2⟩ (fun hHeld => ?_)
          clear hK K
          refine nz_ 21 ?_
          refine py_ 9 22 (bA 16 7167) HT_.out ?_
          refine py_ 10 23 (bA 16 8191) HT_.out ?_
          refine oz_ 13 26 (bA 16 16383) HT_.out (fun K hK => ?_)
          refine goes_ Tryz.func28 (by kernel_rfl) rfl #[.slice A0_1 l0_1.length c0_1] (by rfl) rfl rfl mz ?_
          with_reducible refine (sacristyref10_rows.calls k _ _ l0_1 t208 _ ?side1 ?side2 A10.out).mono ?_
          (case side1 => repeat (first | exact (Kd.C_below HR0_1.out HB.out) | (with_reducible refine Kd.C_alloc ?_ _) | (with_reducible refine Kd.C_drewN ?_ _) | (with_reducible refine Kd.C_drew ?_)))
          (case side2 => exact HC0_1.out)
          rintro e w' ⟨rfl, ⟨nd, rfl⟩⟩
          refine ⟨_, rfl, ?_⟩
          refine hK.out _ _ ⟨bc BK204.out 0, bc BK204.out 1, bc BK204.out 2⟩ (fun hHeld => ?_)
          clear hK K
          refine nz_ 26 ?_
          refine py_ 14 27 (bA 16 32767) HT_.out ?_
          refine py_ 15 4 (bA 16 65535) HT_.out ?_
          refine done_ (done_of HT_.out (by kernel_rfl)) ?_
          have hcz22_0 : w21.cell? ⟨gb204, 0, none⟩ = some (.int .i64 a0_0) := bc BK204.out 0
          have hcz22_1 : w21.cell? ⟨gb204, 1, none⟩ = some (.slice A0_1 l0_1.length c0_1) := bc BK204.out 1
          have hcz22_2 : w21.cell? ⟨gb204, 2, none⟩ = some (.slice A0_2 l0_2.length c0_2) := bc BK204.out 2
          have hfz22_0 := qf BK204.out 0
          have hfz22_1 := qf BK204.out 1
          have hfz22_2 := qf BK204.out 2
          try go_wp2_with (first | ((with_reducible refine gate_callee (f := 27) rfl ?_); refine goesL_ (some 33) rfl rfl Tryz.func27 (by kernel_rfl) rfl #[.int .i64 (l0_2.length : Int)] rfl mz ?_; (with_reducible refine (sacristyref03_Text.calls k (l0_2.length : Int) t209 _ A13.out).mono ?_); rintro e w23 ⟨rfl, hb⟩; refine ⟨_, rfl, ?_⟩; have n0_ := am (blk_below (g := gb204) (o := .cells #[.int .i64 a0_0, .slice A0_1 l0_1.length c0_1, .slice A0_2 l0_2.length c0_2] 25 (0, 0)) (kz BK204.out) hb); have n1_ := am (qW (bs1 HB.out GE204.out) hb); clear BK204; clear HB; have BK204 := n0_; have HB := n1_; clear n0_ n1_; (try clear hb); (try clear hb2); (try clear hk); (try clear hi)))
          go_loopg [4, 5] k (fun kq v4 v5 w' => ∃ (x4_1 : ByteArray) (x5_1 : Int), v4 = .string x4_1 /\ v5 = .int .i64 x5_1 /\ Asd (sacristyref10_Put.l0 kq x4_1 x5_1 a0_0 l0_1 l0_2 = some (r1, r2)) /\ Asd (kq <= k) /\ Asd (w'.heap[gb204]? = some (.cells #[.int .i64 a0_0, (.slice A0_1 l0_1.length c0_1), (.slice A0_2 l0_2.length c0_2)] 25 (0, 0))) /\ Asd (Below w.heap.size w w'))
          case atStart => exact ⟨(((((((((⟨#[110, 101, 116, 32]⟩ : ByteArray) ++ t206) ++ (⟨#[10, 112, 111, 111, 108, 32]⟩ : ByteArray)) ++ t207) ++ (⟨#[10]⟩ : ByteArray)) ++ t208) ++ (⟨#[102, 111, 114, 107, 115, 32]⟩ : ByteArray)) ++ t209) ++ (⟨#[10]⟩ : ByteArray)), (0), (ez), (ez), H', ⟨Nat.le_refl _⟩, ⟨kz BK204.out⟩, ⟨bs1 HB.out GE204.out⟩⟩
          case round =>
           clear H'
           obtain ⟨x4_1, x5_1, rfl, rfl, HA, HK1, BK204, HB⟩ := hrel
           cases gk with
           | zero => exact absurd HA.out (by simp [sacristyref10_Put.l0])
           | succ k1 =>
            have H := HA.out
            clear HA
            simp only [sacristyref10_Put.l0] at H
            by_cases c24 : x5_1 < (l0_2.length : Int)
            ·rw [if_pos c24] at H
             have c24b0 : decide (x5_1 < (l0_2.length : Int)) = true := dt c24
             clear c24
             by_cases c25 : 0 <= x5_1
             ·rw [if_pos c25] at H
              have c25b0 : decide (0 <= x5_1) = true := dt c25
              clear c25
              have HC26 := am H
              clear H
              have hcz27_0 : wr.cell? ⟨gb204, 0, none⟩ = some (.int .i64 a0_0) := bc BK204.out 0
              have hcz27_1 : wr.cell? ⟨gb204, 1, none⟩ = some (.slice A0_1 l0_1.length c0_1) := bc BK204.out 1
              have hcz27_2 : wr.cell? ⟨gb204, 2, none⟩ = some (.slice A0_2 l0_2.length c0_2) := bc BK204.out 2
              have hfz27_0 := qf BK204.out 0
              have hfz27_1 := qf BK204.out 1
              have hfz27_2 := qf BK204.out 2
              have p213 : 0 <= (x5_1 : Int) := dz
              have q213 : x5_1 < (l0_2.length : Int) := dz
              obtain ⟨ad213, A213_3, c213_3, A213_4, c213_4, e213, hx213_0, hx213_1, hx213_2, hx213_3, hx213_4, hl213_3, hi213_3, hl213_4, hi213_4⟩ := at_T39 HR0_2.out x5_1 p213 q213
              cases e213
              replace hx213_0 := hZc HB.out hx213_0
              replace hx213_1 := hZc HB.out hx213_1
              replace hx213_2 := hZc HB.out hx213_2
              replace hx213_3 := hZc HB.out hx213_3
              replace hx213_4 := hZc HB.out hx213_4
              have HR213_3 := am hi213_3
              have HC213_3 := am hl213_3
              clear hi213_3 hl213_3
              have HR213_4 := am hi213_4
              have HC213_4 := am hl213_4
              clear hi213_4 hl213_4
              replace p213 := eq_true p213
              replace q213 := eq_true q213
              go_upto_if 49 with (first | ((with_reducible refine gate_dst (N := 6) rfl ?_); refine box_event ?hg (N := 6) ?hd (cs := #[.string (⟨#[]⟩ : ByteArray), .bool false, .string (⟨#[]⟩ : ByteArray), .slice none 0 0, .slice none 0 0]) (t := 39) ?hr ?_; (case hd => rfl); (case hg => rfl); (case hr => first | (go_simp; done) | (go_simp; rfl)); intro gb214 hg w28 hbox hb; have n0_ := am (blk_below (g := gb204) (o := .cells #[.int .i64 a0_0, .slice A0_1 l0_1.length c0_1, .slice (some ad213) l0_2.length c0_2] 25 (0, 0)) (kz BK204.out) hb); have n1_ := am (qW (bs1 HB.out GE204.out) hb); have n2_ := am (hbox); have n3_ := am ((by rw [hg]; exact (qZ (bs1 HB.out GE204.out)) : w.heap.size <= gb214)); have n4_ := am ((by rw [hg]; exact (qZ (bs1 HB.out GE204.out)) : w.heap.size <= gb214)); have n5_ := am ((by rw [hg]; exact Nat.ne_of_lt (blk_lt (g := gb204) (o := .cells #[.int .i64 a0_0, .slice A0_1 l0_1.length c0_1, .slice (some ad213) l0_2.length c0_2] 25 (0, 0)) (kz BK204.out)) : gb204 ≠ gb214)); have n6_ := am ((by rw [hg]; exact Nat.ne_of_gt (blk_lt (g := gb204) (o := .cells #[.int .i64 a0_0, .slice A0_1 l0_1.length c0_1, .slice (some ad213) l0_2.length c0_2] 25 (0, 0)) (kz BK204.out)) : gb214 ≠ gb204)); clear BK204; clear HB; have BK204 := n0_; have HB := n1_; have BK214 := n2_; have GW214 := n3_; have GE214 := n4_; have NB204_214 := n5_; have NB214_204 := n6_; clear n0_ n1_ n2_ n3_ n4_ n5_ n6_; clear hb hbox hg; have hnb29 := NB214_204.out; have hnc29 := NB204_214.out; have hcz30_0 : w28.cell? ⟨gb214, 0, none⟩ = some (.string (⟨#[]⟩ : ByteArray)) := bc BK214.out 0; have hcz30_1 : w28.cell? ⟨gb214, 1, none⟩ = some (.bool false) := bc BK214.out 1; have hcz30_2 : w28.cell? ⟨gb214, 2, none⟩ = some (.string (⟨#[]⟩ : ByteArray)) := bc BK214.out 2; have hcz30_3 : w28.cell? ⟨gb214, 3, none⟩ = some (.slice none 0 0) := bc BK214.out 3; have hcz30_4 : w28.cell? ⟨gb214, 4, none⟩ = some (.slice none 0 0) := bc BK214.out 4; have hfz30_0 := qf BK214.out 0; have hfz30_1 := qf BK214.out 1; have hfz30_2 := qf BK214.out 2; have hfz30_3 := qf BK214.out 3; have hfz30_4 := qf BK214.out 4))
              (try simp only [Act.put, zA, zB, zC])
              go_cut [7] (fun v7 wc => ∃ (kq : Nat) (x7_25 : ByteArray), v7 = .string x7_25 /\ Asd (sacristyref10_Put.j1 kq x4_1 x5_1 x7_25 a0_0 l0_1 l0_2 ((qT l0_2 x5_1).f0) ((qT l0_2 x5_1).f1) ((qT l0_2 x5_1).f2) ((qT l0_2 x5_1).f3) ((qT l0_2 x5_1).f4) = some (r1, r2)) /\ Asd (kq <= k1) /\ Asd (wc.heap[gb204]? = some (.cells #[.int .i64 a0_0, (.slice A0_1 l0_1.length c0_1), (.slice (some ad213) l0_2.length c0_2)] 25 (0, 0))) /\ Asd (wc.heap[gb214]? = some (.cells #[.string ((qT l0_2 x5_1).f0), .bool ((qT l0_2 x5_1).f1), .string ((qT l0_2 x5_1).f2), (.slice A213_3 ((qT l0_2 x5_1).f3).length c213_3), (.slice A213_4 ((qT l0_2 x5_1).f4).length c213_4)] 39 (0, 0))) /\ Asd (Below w.heap.size w wc))
              case first =>
               have H := HC26.out
               clear HC26
               obtain ⟨bq31, hbq31⟩ : ∃ b_ : Bool, b_ = ((qT l0_2 x5_1).f1) := ⟨_, rfl⟩
               replace H : (if bq31 = true then (sacristyref10_Put.j1 k1 x4_1 x5_1 (⟨#[108, 105, 110, 107, 101, 100]⟩ : ByteArray) a0_0 l0_1 l0_2 ((qT l0_2 x5_1).f0) bq31 ((qT l0_2 x5_1).f2) ((qT l0_2 x5_1).f3) ((qT l0_2 x5_1).f4)) else (sacristyref10_Put.j1 k1 x4_1 x5_1 (⟨#[97, 108, 111, 110, 101]⟩ : ByteArray) a0_0 l0_1 l0_2 ((qT l0_2 x5_1).f0) bq31 ((qT l0_2 x5_1).f2) ((qT l0_2 x5_1).f3) ((qT l0_2 x5_1).f4))) = some (r1, r2) := by rw [<- hbq31] at H; exact H
               have Nbq31 := am hbq31
               clear hbq31
               (try rw [<- Nbq31.out])
               by_cases c32 : bq31 = true
               ·subst c32
                have H1 : (sacristyref10_Put.j1 k1 x4_1 x5_1 (⟨#[108, 105, 110, 107, 101, 100]⟩ : ByteArray) a0_0 l0_1 l0_2 ((qT l0_2 x5_1).f0) true ((qT l0_2 x5_1).f2) ((qT l0_2 x5_1).f3) ((qT l0_2 x5_1).f4)) = some (r1, r2) := by rw [if_pos rfl] at H; exact H
                clear H
                have H := H1
                clear H1
                have H' := am H
                clear H
                go_wp2
                go_meet
                case rel => rw [<- Nbq31.out]; exact ⟨_, ((⟨#[108, 105, 110, 107, 101, 100]⟩ : ByteArray)), (ez), H', ⟨by have := HK1.out; first | omega | exact Nat.le_refl _⟩, ⟨by exact fz BK204.out NB204_214.out⟩, ⟨by (with_reducible repeat (first | refine qN ?_ _ | refine qd ?_ | refine qa ?_ _)); refine blk_put (cs := #[.string ((qT l0_2 x5_1).f0), .bool (true), .string ((qT l0_2 x5_1).f2), .slice A213_3 ((qT l0_2 x5_1).f3).length c213_3, .slice none 0 0]) ?_ 4 _ rfl; (with_reducible repeat (first | refine qN ?_ _ | refine qd ?_ | refine qa ?_ _)); refine blk_put (cs := #[.string ((qT l0_2 x5_1).f0), .bool (true), .string ((qT l0_2 x5_1).f2), .slice none 0 0, .slice none 0 0]) ?_ 3 _ rfl; (with_reducible repeat (first | refine qN ?_ _ | refine qd ?_ | refine qa ?_ _)); refine blk_put (cs := #[.string ((qT l0_2 x5_1).f0), .bool (true), .string (⟨#[]⟩ : ByteArray), .slice none 0 0, .slice none 0 0]) ?_ 2 _ rfl; (with_reducible repeat (first | refine qN ?_ _ | refine qd ?_ | refine qa ?_ _)); refine blk_put (cs := #[.string ((qT l0_2 x5_1).f0), .bool false, .string (⟨#[]⟩ : ByteArray), .slice none 0 0, .slice none 0 0]) ?_ 1 _ rfl; (with_reducible repeat (first | refine qN ?_ _ | refine qd ?_ | refine qa ?_ _)); refine blk_put (cs := #[.string (⟨#[]⟩ : ByteArray), .bool false, .string (⟨#[]⟩ : ByteArray), .slice none 0 0, .slice none 0 0]) ?_ 0 _ rfl; (with_reducible repeat (first | refine qN ?_ _ | refine qd ?_ | refine qa ?_ _)); exact BK214.out⟩, ⟨bs2 HB.out GE204.out GE214.out⟩⟩
               ·replace c32 := Bool.eq_false_iff.mpr c32
                subst c32
                have H1 : (sacristyref10_Put.j1 k1 x4_1 x5_1 (⟨#[97, 108, 111, 110, 101]⟩ : ByteArray) a0_0 l0_1 l0_2 ((qT l0_2 x5_1).f0) false ((qT l0_2 x5_1).f2) ((qT l0_2 x5_1).f3) ((qT l0_2 x5_1).f4)) = some (r1, r2) := by rw [if_neg (show ¬ (false = true) by decide)] at H; exact H
                clear H
                have H := H1
                clear H1
                have H' := am H
                clear H
                go_wp2
                go_meet
                case rel => rw [<- Nbq31.out]; exact ⟨_, ((⟨#[97, 108, 111, 110, 101]⟩ : ByteArray)), (ez), H', ⟨by have := HK1.out; first | omega | exact Nat.le_refl _⟩, ⟨by exact fz BK204.out NB204_214.out⟩, ⟨by (with_reducible repeat (first | refine qN ?_ _ | refine qd ?_ | refine qa ?_ _)); refine blk_put (cs := #[.string ((qT l0_2 x5_1).f0), .bool (false), .string ((qT l0_2 x5_1).f2), .slice A213_3 ((qT l0_2 x5_1).f3).length c213_3, .slice none 0 0]) ?_ 4 _ rfl; (with_reducible repeat (first | refine qN ?_ _ | refine qd ?_ | refine qa ?_ _)); refine blk_put (cs := #[.string ((qT l0_2 x5_1).f0), .bool (false), .string ((qT l0_2 x5_1).f2), .slice none 0 0, .slice none 0 0]) ?_ 3 _ rfl; (with_reducible repeat (first | refine qN ?_ _ | refine qd ?_ | refine qa ?_ _)); refine blk_put (cs := #[.string ((qT l0_2 x5_1).f0), .bool (false), .string (⟨#[]⟩ : ByteArray), .slice none 0 0, .slice none 0 0]) ?_ 2 _ rfl; (with_reducible repeat (first | refine qN ?_ _ | refine qd ?_ | refine qa ?_ _)); refine blk_put (cs := #[.string ((qT l0_2 x5_1).f0), .bool false, .string (⟨#[]⟩ : ByteArray), .slice none 0 0, .slice none 0 0]) ?_ 1 _ rfl; (with_reducible repeat (first | refine qN ?_ _ | refine qd ?_ | refine qa ?_ _)); refine blk_put (cs := #[.string (⟨#[]⟩ : ByteArray), .bool false, .string (⟨#[]⟩ : ByteArray), .slice none 0 0, .slice none 0 0]) ?_ 0 _ rfl; (with_reducible repeat (first | refine qN ?_ _ | refine qd ?_ | refine qa ?_ _)); exact BK214.out⟩, ⟨bs2 HB.out GE204.out GE214.out⟩⟩
              case rest =>
               clear HC26
               obtain ⟨kq, x7_25, rfl, HA, HJ25, BK204, BK214, HB⟩ := hcut
               cases kq with
               | zero => exact absurd HA.out (by simp [sacristyref10_Put.j1])
               | succ kj25 =>
                have H := HA.out
                clear HA
                simp only [sacristyref10_Put.j1] at H
                replace H := Option.bind_eq_some_iff.mp H
                obtain ⟨⟨t215, t216⟩, A330, H⟩ := H
                replace H : (if x4_1.size + 5 <= 9223372036854775807 then (if (x4_1 ++ (⟨#[102, 111, 114, 107, 32]⟩ : ByteArray)).size + ((qT l0_2 x5_1).f0).size <= 9223372036854775807 then (if ((x4_1 ++ (⟨#[102, 111, 114, 107, 32]⟩ : ByteArray)) ++ ((qT l0_2 x5_1).f0)).size + 1 <= 9223372036854775807 then (if (((x4_1 ++ (⟨#[102, 111, 114, 107, 32]⟩ : ByteArray)) ++ ((qT l0_2 x5_1).f0)) ++ (⟨#[32]⟩ : ByteArray)).size + x7_25.size <= 9223372036854775807 then (if ((((x4_1 ++ (⟨#[102, 111, 114, 107, 32]⟩ : ByteArray)) ++ ((qT l0_2 x5_1).f0)) ++ (⟨#[32]⟩ : ByteArray)) ++ x7_25).size + 1 <= 9223372036854775807 then (if (((((x4_1 ++ (⟨#[102, 111, 114, 107, 32]⟩ : ByteArray)) ++ ((qT l0_2 x5_1).f0)) ++ (⟨#[32]⟩ : ByteArray)) ++ x7_25) ++ (⟨#[32]⟩ : ByteArray)).size + ((qT l0_2 x5_1).f2).size <= 9223372036854775807 then (if ((((((x4_1 ++ (⟨#[102, 111, 114, 107, 32]⟩ : ByteArray)) ++ ((qT l0_2 x5_1).f0)) ++ (⟨#[32]⟩ : ByteArray)) ++ x7_25) ++ (⟨#[32]⟩ : ByteArray)) ++ ((qT l0_2 x5_1).f2)).size + 1 <= 9223372036854775807 then ((sacristyref03_Text.f kj25 (((qT l0_2 x5_1).f3).length : Int)).bind fun t217 => (if (((((((x4_1 ++ (⟨#[102, 111, 114, 107, 32]⟩ : ByteArray)) ++ ((qT l0_2 x5_1).f0)) ++ (⟨#[32]⟩ : ByteArray)) ++ x7_25) ++ (⟨#[32]⟩ : ByteArray)) ++ ((qT l0_2 x5_1).f2)) ++ (⟨#[32]⟩ : ByteArray)).size + t217.size <= 9223372036854775807 then (if ((((((((x4_1 ++ (⟨#[102, 111, 114, 107, 32]⟩ : ByteArray)) ++ ((qT l0_2 x5_1).f0)) ++ (⟨#[32]⟩ : ByteArray)) ++ x7_25) ++ (⟨#[32]⟩ : ByteArray)) ++ ((qT l0_2 x5_1).f2)) ++ (⟨#[32]⟩ : ByteArray)) ++ t217).size + 1 <= 9223372036854775807 then ((sacristyref03_Text.f kj25 (((qT l0_2 x5_1).f4).length : Int)).bind fun t218 => (if (((((((((x4_1 ++ (⟨#[102, 111, 114, 107, 32]⟩ : ByteArray)) ++ ((qT l0_2 x5_1).f0)) ++ (⟨#[32]⟩ : ByteArray)) ++ x7_25) ++ (⟨#[32]⟩ : ByteArray)) ++ ((qT l0_2 x5_1).f2)) ++ (⟨#[32]⟩ : ByteArray)) ++ t217) ++ (⟨#[32]⟩ : ByteArray)).size + t218.size <= 9223372036854775807 then (if ((((((((((x4_1 ++ (⟨#[102, 111, 114, 107, 32]⟩ : ByteArray)) ++ ((qT l0_2 x5_1).f0)) ++ (⟨#[32]⟩ : ByteArray)) ++ x7_25) ++ (⟨#[32]⟩ : ByteArray)) ++ ((qT l0_2 x5_1).f2)) ++ (⟨#[32]⟩ : ByteArray)) ++ t217) ++ (⟨#[32]⟩ : ByteArray)) ++ t218).size + 1 <= 9223372036854775807 then (if (((((((((((x4_1 ++ (⟨#[102, 111, 114, 107, 32]⟩ : ByteArray)) ++ ((qT l0_2 x5_1).f0)) ++ (⟨#[32]⟩ : ByteArray)) ++ x7_25) ++ (⟨#[32]⟩ : ByteArray)) ++ ((qT l0_2 x5_1).f2)) ++ (⟨#[32]⟩ : ByteArray)) ++ t217) ++ (⟨#[32]⟩ : ByteArray)) ++ t218) ++ (⟨#[10]⟩ : ByteArray)).size + t215.size <= 9223372036854775807 then ((sacristyref10_rows.f kj25 ((qT l0_2 x5_1).f4)).bind fun t219 => (if ((((((((((((x4_1 ++ (⟨#[102, 111, 114, 107, 32]⟩ : ByteArray)) ++ ((qT l0_2 x5_1).f0)) ++ (⟨#[32]⟩ : ByteArray)) ++ x7_25) ++ (⟨#[32]⟩ : ByteArray)) ++ ((qT l0_2 x5_1).f2)) ++ (⟨#[32]⟩ : ByteArray)) ++ t217) ++ (⟨#[32]⟩ : ByteArray)) ++ t218) ++ (⟨#[10]⟩ : ByteArray)) ++ t215).size + t219.size <= 9223372036854775807 then (sacristyref10_Put.l0 kj25 (((((((((((((x4_1 ++ (⟨#[102, 111, 114, 107, 32]⟩ : ByteArray)) ++ ((qT l0_2 x5_1).f0)) ++ (⟨#[32]⟩ : ByteArray)) ++ x7_25) ++ (⟨#[32]⟩ : ByteArray)) ++ ((qT l0_2 x5_1).f2)) ++ (⟨#[32]⟩ : ByteArray)) ++ t217) ++ (⟨#[32]⟩ : ByteArray)) ++ t218) ++ (⟨#[10]⟩ : ByteArray)) ++ t215) ++ t219) (wrap64 (x5_1 + 1)) a0_0 l0_1 l0_2) else (none))) else (none)) else (none)) else (none))) else (none)) else (none))) else (none)) else (none)) else (none)) else (none)) else (none)) else (none)) else (none)) = some (r1, r2) := H
                have A33 := am A330
                by_cases c34 : x4_1.size + 5 <= 9223372036854775807
                ·rw [if_pos c34] at H
                 have c34b0 := eq_true c34
                 have c34b1 : decide (x4_1.size + 5 <= 9223372036854775807) = true := dt c34
                 try have c34b2 : (9223372036854775807 < x4_1.size + 5) = False := eq_false (Nat.not_lt.2 c34)
                 by_cases c35 : (x4_1 ++ (⟨#[102, 111, 114, 107, 32]⟩ : ByteArray)).size + ((qT l0_2 x5_1).f0).size <= 9223372036854775807
                 ·rw [if_pos c35] at H
                  have c35b0 := eq_true c35
                  have c35b1 : decide ((x4_1 ++ (⟨#[102, 111, 114, 107, 32]⟩ : ByteArray)).size + ((qT l0_2 x5_1).f0).size <= 9223372036854775807) = true := dt c35
                  try have c35b2 : (9223372036854775807 < (x4_1 ++ (⟨#[102, 111, 114, 107, 32]⟩ : ByteArray)).size + ((qT l0_2 x5_1).f0).size) = False := eq_false (Nat.not_lt.2 c35)
                  try have c35b3 : (9223372036854775807 < x4_1.size + 5 + ((qT l0_2 x5_1).f0).size) = False := eq_false (Nat.not_lt.2 (by have e_ := c35; simp only [ByteArray.size_append] at e_; exact e_))
                  by_cases c36 : ((x4_1 ++ (⟨#[102, 111, 114, 107, 32]⟩ : ByteArray)) ++ ((qT l0_2 x5_1).f0)).size + 1 <= 9223372036854775807
                  ·rw [if_pos c36] at H
                   have c36b0 := eq_true c36
                   have c36b1 : decide (((x4_1 ++ (⟨#[102, 111, 114, 107, 32]⟩ : ByteArray)) ++ ((qT l0_2 x5_1).f0)).size + 1 <= 9223372036854775807) = true := dt c36
                   try have c36b2 : (9223372036854775807 < ((x4_1 ++ (⟨#[102, 111, 114, 107, 32]⟩ : ByteArray)) ++ ((qT l0_2 x5_1).f0)).size + 1) = False := eq_false (Nat.not_lt.2 c36)
                   try have c36b3 : (9223372036854775807 < x4_1.size + 5 + ((qT l0_2 x5_1).f0).size + 1) = False := eq_false (Nat.not_lt.2 (by have e_ := c36; simp only [ByteArray.size_append] at e_; exact e_))
                   by_cases c37 : (((x4_1 ++ (⟨#[102, 111, 114, 107, 32]⟩ : ByteArray)) ++ ((qT l0_2 x5_1).f0)) ++ (⟨#[32]⟩ : ByteArray)).size + x7_25.size <= 9223372036854775807
                   ·rw [if_pos c37] at H
                    have c37b0 := eq_true c37
                    have c37b1 : decide ((((x4_1 ++ (⟨#[102, 111, 114, 107, 32]⟩ : ByteArray)) ++ ((qT l0_2 x5_1).f0)) ++ (⟨#[32]⟩ : ByteArray)).size + x7_25.size <= 9223372036854775807) = true := dt c37
                    try have c37b2 : (9223372036854775807 < (((x4_1 ++ (⟨#[102, 111, 114, 107, 32]⟩ : ByteArray)) ++ ((qT l0_2 x5_1).f0)) ++ (⟨#[32]⟩ : ByteArray)).size + x7_25.size) = False := eq_false (Nat.not_lt.2 c37)
                    try have c37b3 : (9223372036854775807 < x4_1.size + 5 + ((qT l0_2 x5_1).f0).size + 1 + x7_25.size) = False := eq_false (Nat.not_lt.2 (by have e_ := c37; simp only [ByteArray.size_append] at e_; exact e_))
                    by_cases c38 : ((((x4_1 ++ (⟨#[102, 111, 114, 107, 32]⟩ : ByteArray)) ++ ((qT l0_2 x5_1).f0)) ++ (⟨#[32]⟩ : ByteArray)) ++ x7_25).size + 1 <= 9223372036854775807
                    ·rw [if_pos c38] at H
                     have c38b0 := eq_true c38
                     have c38b1 : decide (((((x4_1 ++ (⟨#[102, 111, 114, 107, 32]⟩ : ByteArray)) ++ ((qT l0_2 x5_1).f0)) ++ (⟨#[32]⟩ : ByteArray)) ++ x7_25).size + 1 <= 9223372036854775807) = true := dt c38
                     try have c38b2 : (9223372036854775807 < ((((x4_1 ++ (⟨#[102, 111, 114, 107, 32]⟩ : ByteArray)) ++ ((qT l0_2 x5_1).f0)) ++ (⟨#[32]⟩ : ByteArray)) ++ x7_25).size + 1) = False := eq_false (Nat.not_lt.2 c38)
                     try have c38b3 : (9223372036854775807 < x4_1.size + 5 + ((qT l0_2 x5_1).f0).size + 1 + x7_25.size + 1) = False := eq_false (Nat.not_lt.2 (by have e_ := c38; simp only [ByteArray.size_append] at e_; exact e_))
                     by_cases c39 : (((((x4_1 ++ (⟨#[102, 111, 114, 107, 32]⟩ : ByteArray)) ++ ((qT l0_2 x5_1).f0)) ++ (⟨#[32]⟩ : ByteArray)) ++ x7_25) ++ (⟨#[32]⟩ : ByteArray)).size + ((qT l0_2 x5_1).f2).size <= 9223372036854775807
                     ·rw [if_pos c39] at H
                      have c39b0 := eq_true c39
                      have c39b1 : decide ((((((x4_1 ++ (⟨#[102, 111, 114, 107, 32]⟩ : ByteArray)) ++ ((qT l0_2 x5_1).f0)) ++ (⟨#[32]⟩ : ByteArray)) ++ x7_25) ++ (⟨#[32]⟩ : ByteArray)).size + ((qT l0_2 x5_1).f2).size <= 9223372036854775807) = true := dt c39
                      try have c39b2 : (9223372036854775807 < (((((x4_1 ++ (⟨#[102, 111, 114, 107, 32]⟩ : ByteArray)) ++ ((qT l0_2 x5_1).f0)) ++ (⟨#[32]⟩ : ByteArray)) ++ x7_25) ++ (⟨#[32]⟩ : ByteArray)).size + ((qT l0_2 x5_1).f2).size) = False := eq_false (Nat.not_lt.2 c39)
                      try have c39b3 : (9223372036854775807 < x4_1.size + 5 + ((qT l0_2 x5_1).f0).size + 1 + x7_25.size + 1 + ((qT l0_2 x5_1).f2).size) = False := eq_false (Nat.not_lt.2 (by have e_ := c39; simp only [ByteArray.size_append] at e_; exact e_))
                      by_cases c40 : ((((((x4_1 ++ (⟨#[102, 111, 114, 107, 32]⟩ : ByteArray)) ++ ((qT l0_2 x5_1).f0)) ++ (⟨#[32]⟩ : ByteArray)) ++ x7_25) ++ (⟨#[32]⟩ : ByteArray)) ++ ((qT l0_2 x5_1).f2)).size + 1 <= 9223372036854775807
                      ·rw [if_pos c40] at H
                       have c40b0 := eq_true c40
                       have c40b1 : decide (((((((x4_1 ++ (⟨#[102, 111, 114, 107, 32]⟩ : ByteArray)) ++ ((qT l0_2 x5_1).f0)) ++ (⟨#[32]⟩ : ByteArray)) ++ x7_25) ++ (⟨#[32]⟩ : ByteArray)) ++ ((qT l0_2 x5_1).f2)).size + 1 <= 9223372036854775807) = true := dt c40
                       try have c40b2 : (9223372036854775807 < ((((((x4_1 ++ (⟨#[102, 111, 114, 107, 32]⟩ : ByteArray)) ++ ((qT l0_2 x5_1).f0)) ++ (⟨#[32]⟩ : ByteArray)) ++ x7_25) ++ (⟨#[32]⟩ : ByteArray)) ++ ((qT l0_2 x5_1).f2)).size + 1) = False := eq_false (Nat.not_lt.2 c40)
                       try have c40b3 : (9223372036854775807 < x4_1.size + 5 + ((qT l0_2 x5_1).f0).size + 1 + x7_25.size + 1 + ((qT l0_2 x5_1).f2).size + 1) = False := eq_false (Nat.not_lt.2 (by have e_ := c40; simp only [ByteArray.size_append] at e_; exact e_))
                       replace H := Option.bind_eq_some_iff.mp H
                       obtain ⟨t217, A410, H⟩ := H
                       replace H : (if (((((((x4_1 ++ (⟨#[102, 111, 114, 107, 32]⟩ : ByteArray)) ++ ((qT l0_2 x5_1).f0)) ++ (⟨#[32]⟩ : ByteArray)) ++ x7_25) ++ (⟨#[32]⟩ : ByteArray)) ++ ((qT l0_2 x5_1).f2)) ++ (⟨#[32]⟩ : ByteArray)).size + t217.size <= 9223372036854775807 then (if ((((((((x4_1 ++ (⟨#[102, 111, 114, 107, 32]⟩ : ByteArray)) ++ ((qT l0_2 x5_1).f0)) ++ (⟨#[32]⟩ : ByteArray)) ++ x7_25) ++ (⟨#[32]⟩ : ByteArray)) ++ ((qT l0_2 x5_1).f2)) ++ (⟨#[32]⟩ : ByteArray)) ++ t217).size + 1 <= 9223372036854775807 then ((sacristyref03_Text.f kj25 (((qT l0_2 x5_1).f4).length : Int)).bind fun t218 => (if (((((((((x4_1 ++ (⟨#[102, 111, 114, 107, 32]⟩ : ByteArray)) ++ ((qT l0_2 x5_1).f0)) ++ (⟨#[32]⟩ : ByteArray)) ++ x7_25) ++ (⟨#[32]⟩ : ByteArray)) ++ ((qT l0_2 x5_1).f2)) ++ (⟨#[32]⟩ : ByteArray)) ++ t217) ++ (⟨#[32]⟩ : ByteArray)).size + t218.size <= 9223372036854775807 then (if ((((((((((x4_1 ++ (⟨#[102, 111, 114, 107, 32]⟩ : ByteArray)) ++ ((qT l0_2 x5_1).f0)) ++ (⟨#[32]⟩ : ByteArray)) ++ x7_25) ++ (⟨#[32]⟩ : ByteArray)) ++ ((qT l0_2 x5_1).f2)) ++ (⟨#[32]⟩ : ByteArray)) ++ t217) ++ (⟨#[32]⟩ : ByteArray)) ++ t218).size + 1 <= 9223372036854775807 then (if (((((((((((x4_1 ++ (⟨#[102, 111, 114, 107, 32]⟩ : ByteArray)) ++ ((qT l0_2 x5_1).f0)) ++ (⟨#[32]⟩ : ByteArray)) ++ x7_25) ++ (⟨#[32]⟩ : ByteArray)) ++ ((qT l0_2 x5_1).f2)) ++ (⟨#[32]⟩ : ByteArray)) ++ t217) ++ (⟨#[32]⟩ : ByteArray)) ++ t218) ++ (⟨#[10]⟩ : ByteArray)).size + t215.size <= 9223372036854775807 then ((sacristyref10_rows.f kj25 ((qT l0_2 x5_1).f4)).bind fun t219 => (if ((((((((((((x4_1 ++ (⟨#[102, 111, 114, 107, 32]⟩ : ByteArray)) ++ ((qT l0_2 x5_1).f0)) ++ (⟨#[32]⟩ : ByteArray)) ++ x7_25) ++ (⟨#[32]⟩ : ByteArray)) ++ ((qT l0_2 x5_1).f2)) ++ (⟨#[32]⟩ : ByteArray)) ++ t217) ++ (⟨#[32]⟩ : ByteArray)) ++ t218) ++ (⟨#[10]⟩ : ByteArray)) ++ t215).size + t219.size <= 9223372036854775807 then (sacristyref10_Put.l0 kj25 (((((((((((((x4_1 ++ (⟨#[102, 111, 114, 107, 32]⟩ : ByteArray)) ++ ((qT l0_2 x5_1).f0)) ++ (⟨#[32]⟩ : ByteArray)) ++ x7_25) ++ (⟨#[32]⟩ : ByteArray)) ++ ((qT l0_2 x5_1).f2)) ++ (⟨#[32]⟩ : ByteArray)) ++ t217) ++ (⟨#[32]⟩ : ByteArray)) ++ t218) ++ (⟨#[10]⟩ : ByteArray)) ++ t215) ++ t219) (wrap64 (x5_1 + 1)) a0_0 l0_1 l0_2) else (none))) else (none)) else (none)) else (none))) else (none)) else (none)) = some (r1, r2) := H
                       have A41 := am A410
                       by_cases c42 : (((((((x4_1 ++ (⟨#[102, 111, 114, 107, 32]⟩ : ByteArray)) ++ ((qT l0_2 x5_1).f0)) ++ (⟨#[32]⟩ : ByteArray)) ++ x7_25) ++ (⟨#[32]⟩ : ByteArray)) ++ ((qT l0_2 x5_1).f2)) ++ (⟨#[32]⟩ : ByteArray)).size + t217.size <= 9223372036854775807
                       ·rw [if_pos c42] at H
                        have c42b0 := eq_true c42
                        have c42b1 : decide ((((((((x4_1 ++ (⟨#[102, 111, 114, 107, 32]⟩ : ByteArray)) ++ ((qT l0_2 x5_1).f0)) ++ (⟨#[32]⟩ : ByteArray)) ++ x7_25) ++ (⟨#[32]⟩ : ByteArray)) ++ ((qT l0_2 x5_1).f2)) ++ (⟨#[32]⟩ : ByteArray)).size + t217.size <= 9223372036854775807) = true := dt c42
                        try have c42b2 : (9223372036854775807 < (((((((x4_1 ++ (⟨#[102, 111, 114, 107, 32]⟩ : ByteArray)) ++ ((qT l0_2 x5_1).f0)) ++ (⟨#[32]⟩ : ByteArray)) ++ x7_25) ++ (⟨#[32]⟩ : ByteArray)) ++ ((qT l0_2 x5_1).f2)) ++ (⟨#[32]⟩ : ByteArray)).size + t217.size) = False := eq_false (Nat.not_lt.2 c42)
                        try have c42b3 : (9223372036854775807 < x4_1.size + 5 + ((qT l0_2 x5_1).f0).size + 1 + x7_25.size + 1 + ((qT l0_2 x5_1).f2).size + 1 + t217.size) = False := eq_false (Nat.not_lt.2 (by have e_ := c42; simp only [ByteArray.size_append] at e_; exact e_))
                        by_cases c43 : ((((((((x4_1 ++ (⟨#[102, 111, 114, 107, 32]⟩ : ByteArray)) ++ ((qT l0_2 x5_1).f0)) ++ (⟨#[32]⟩ : ByteArray)) ++ x7_25) ++ (⟨#[32]⟩ : ByteArray)) ++ ((qT l0_2 x5_1).f2)) ++ (⟨#[32]⟩ : ByteArray)) ++ t217).size + 1 <= 9223372036854775807
                        ·rw [if_pos c43] at H
                         have c43b0 := eq_true c43
                         have c43b1 : decide (((((((((x4_1 ++ (⟨#[102, 111, 114, 107, 32]⟩ : ByteArray)) ++ ((qT l0_2 x5_1).f0)) ++ (⟨#[32]⟩ : ByteArray)) ++ x7_25) ++ (⟨#[32]⟩ : ByteArray)) ++ ((qT l0_2 x5_1).f2)) ++ (⟨#[32]⟩ : ByteArray)) ++ t217).size + 1 <= 9223372036854775807) = true := dt c43
                         try have c43b2 : (9223372036854775807 < ((((((((x4_1 ++ (⟨#[102, 111, 114, 107, 32]⟩ : ByteArray)) ++ ((qT l0_2 x5_1).f0)) ++ (⟨#[32]⟩ : ByteArray)) ++ x7_25) ++ (⟨#[32]⟩ : ByteArray)) ++ ((qT l0_2 x5_1).f2)) ++ (⟨#[32]⟩ : ByteArray)) ++ t217).size + 1) = False := eq_false (Nat.not_lt.2 c43)
                         try have c43b3 : (9223372036854775807 < x4_1.size + 5 + ((qT l0_2 x5_1).f0).size + 1 + x7_25.size + 1 + ((qT l0_2 x5_1).f2).size + 1 + t217.size + 1) = False := eq_false (Nat.not_lt.2 (by have e_ := c43; simp only [ByteArray.size_append] at e_; exact e_))
                         replace H := Option.bind_eq_some_iff.mp H
                         obtain ⟨t218, A440, H⟩ := H
                         replace H : (if (((((((((x4_1 ++ (⟨#[102, 111, 114, 107, 32]⟩ : ByteArray)) ++ ((qT l0_2 x5_1).f0)) ++ (⟨#[32]⟩ : ByteArray)) ++ x7_25) ++ (⟨#[32]⟩ : ByteArray)) ++ ((qT l0_2 x5_1).f2)) ++ (⟨#[32]⟩ : ByteArray)) ++ t217) ++ (⟨#[32]⟩ : ByteArray)).size + t218.size <= 9223372036854775807 then (if ((((((((((x4_1 ++ (⟨#[102, 111, 114, 107, 32]⟩ : ByteArray)) ++ ((qT l0_2 x5_1).f0)) ++ (⟨#[32]⟩ : ByteArray)) ++ x7_25) ++ (⟨#[32]⟩ : ByteArray)) ++ ((qT l0_2 x5_1).f2)) ++ (⟨#[32]⟩ : ByteArray)) ++ t217) ++ (⟨#[32]⟩ : ByteArray)) ++ t218).size + 1 <= 9223372036854775807 then (if (((((((((((x4_1 ++ (⟨#[102, 111, 114, 107, 32]⟩ : ByteArray)) ++ ((qT l0_2 x5_1).f0)) ++ (⟨#[32]⟩ : ByteArray)) ++ x7_25) ++ (⟨#[32]⟩ : ByteArray)) ++ ((qT l0_2 x5_1).f2)) ++ (⟨#[32]⟩ : ByteArray)) ++ t217) ++ (⟨#[32]⟩ : ByteArray)) ++ t218) ++ (⟨#[10]⟩ : ByteArray)).size + t215.size <= 9223372036854775807 then ((sacristyref10_rows.f kj25 ((qT l0_2 x5_1).f4)).bind fun t219 => (if ((((((((((((x4_1 ++ (⟨#[102, 111, 114, 107, 32]⟩ : ByteArray)) ++ ((qT l0_2 x5_1).f0)) ++ (⟨#[32]⟩ : ByteArray)) ++ x7_25) ++ (⟨#[32]⟩ : ByteArray)) ++ ((qT l0_2 x5_1).f2)) ++ (⟨#[32]⟩ : ByteArray)) ++ t217) ++ (⟨#[32]⟩ : ByteArray)) ++ t218) ++ (⟨#[10]⟩ : ByteArray)) ++ t215).size + t219.size <= 9223372036854775807 then (sacristyref10_Put.l0 kj25 (((((((((((((x4_1 ++ (⟨#[102, 111, 114, 107, 32]⟩ : ByteArray)) ++ ((qT l0_2 x5_1).f0)) ++ (⟨#[32]⟩ : ByteArray)) ++ x7_25) ++ (⟨#[32]⟩ : ByteArray)) ++ ((qT l0_2 x5_1).f2)) ++ (⟨#[32]⟩ : ByteArray)) ++ t217) ++ (⟨#[32]⟩ : ByteArray)) ++ t218) ++ (⟨#[10]⟩ : ByteArray)) ++ t215) ++ t219) (wrap64 (x5_1 + 1)) a0_0 l0_1 l0_2) else (none))) else (none)) else (none)) else (none)) = some (r1, r2) := H
                         have A44 := am A440
                         by_cases c45 : (((((((((x4_1 ++ (⟨#[102, 111, 114, 107, 32]⟩ : ByteArray)) ++ ((qT l0_2 x5_1).f0)) ++ (⟨#[32]⟩ : ByteArray)) ++ x7_25) ++ (⟨#[32]⟩ : ByteArray)) ++ ((qT l0_2 x5_1).f2)) ++ (⟨#[32]⟩ : ByteArray)) ++ t217) ++ (⟨#[32]⟩ : ByteArray)).size + t218.size <= 9223372036854775807
                         ·rw [if_pos c45] at H
                          have c45b0 := eq_true c45
                          have c45b1 : decide ((((((((((x4_1 ++ (⟨#[102, 111, 114, 107, 32]⟩ : ByteArray)) ++ ((qT l0_2 x5_1).f0)) ++ (⟨#[32]⟩ : ByteArray)) ++ x7_25) ++ (⟨#[32]⟩ : ByteArray)) ++ ((qT l0_2 x5_1).f2)) ++ (⟨#[32]⟩ : ByteArray)) ++ t217) ++ (⟨#[32]⟩ : ByteArray)).size + t218.size <= 9223372036854775807) = true := dt c45
                          try have c45b2 : (9223372036854775807 < (((((((((x4_1 ++ (⟨#[102, 111, 114, 107, 32]⟩ : ByteArray)) ++ ((qT l0_2 x5_1).f0)) ++ (⟨#[32]⟩ : ByteArray)) ++ x7_25) ++ (⟨#[32]⟩ : ByteArray)) ++ ((qT l0_2 x5_1).f2)) ++ (⟨#[32]⟩ : ByteArray)) ++ t217) ++ (⟨#[32]⟩ : ByteArray)).size + t218.size) = False := eq_false (Nat.not_lt.2 c45)
                          try have c45b3 : (9223372036854775807 < x4_1.size + 5 + ((qT l0_2 x5_1).f0).size + 1 + x7_25.size + 1 + ((qT l0_2 x5_1).f2).size + 1 + t217.size + 1 + t218.size) = False := eq_false (Nat.not_lt.2 (by have e_ := c45; simp only [ByteArray.size_append] at e_; exact e_))
                          by_cases c46 : ((((((((((x4_1 ++ (⟨#[102, 111, 114, 107, 32]⟩ : ByteArray)) ++ ((qT l0_2 x5_1).f0)) ++ (⟨#[32]⟩ : ByteArray)) ++ x7_25) ++ (⟨#[32]⟩ : ByteArray)) ++ ((qT l0_2 x5_1).f2)) ++ (⟨#[32]⟩ : ByteArray)) ++ t217) ++ (⟨#[32]⟩ : ByteArray)) ++ t218).size + 1 <= 9223372036854775807
                          ·rw [if_pos c46] at H
                           have c46b0 := eq_true c46
                           have c46b1 : decide (((((((((((x4_1 ++ (⟨#[102, 111, 114, 107, 32]⟩ : ByteArray)) ++ ((qT l0_2 x5_1).f0)) ++ (⟨#[32]⟩ : ByteArray)) ++ x7_25) ++ (⟨#[32]⟩ : ByteArray)) ++ ((qT l0_2 x5_1).f2)) ++ (⟨#[32]⟩ : ByteArray)) ++ t217) ++ (⟨#[32]⟩ : ByteArray)) ++ t218).size + 1 <= 9223372036854775807) = true := dt c46
                           try have c46b2 : (9223372036854775807 < ((((((((((x4_1 ++ (⟨#[102, 111, 114, 107, 32]⟩ : ByteArray)) ++ ((qT l0_2 x5_1).f0)) ++ (⟨#[32]⟩ : ByteArray)) ++ x7_25) ++ (⟨#[32]⟩ : ByteArray)) ++ ((qT l0_2 x5_1).f2)) ++ (⟨#[32]⟩ : ByteArray)) ++ t217) ++ (⟨#[32]⟩ : ByteArray)) ++ t218).size + 1) = False := eq_false (Nat.not_lt.2 c46)
                           try have c46b3 : (9223372036854775807 < x4_1.size + 5 + ((qT l0_2 x5_1).f0).size + 1 + x7_25.size + 1 + ((qT l0_2 x5_1).f2).size + 1 + t217.size + 1 + t218.size + 1) = False := eq_false (Nat.not_lt.2 (by have e_ := c46; simp only [ByteArray.size_append] at e_; exact e_))
                           by_cases c47 : (((((((((((x4_1 ++ (⟨#[102, 111, 114, 107, 32]⟩ : ByteArray)) ++ ((qT l0_2 x5_1).f0)) ++ (⟨#[32]⟩ : ByteArray)) ++ x7_25) ++ (⟨#[32]⟩ : ByteArray)) ++ ((qT l0_2 x5_1).f2)) ++ (⟨#[32]⟩ : ByteArray)) ++ t217) ++ (⟨#[32]⟩ : ByteArray)) ++ t218) ++ (⟨#[10]⟩ : ByteArray)).size + t215.size <= 9223372036854775807
                           ·rw [if_pos c47] at H
                            have c47b0 := eq_true c47
                            have c47b1 : decide ((((((((((((x4_1 ++ (⟨#[102, 111, 114, 107, 32]⟩ : ByteArray)) ++ ((qT l0_2 x5_1).f0)) ++ (⟨#[32]⟩ : ByteArray)) ++ x7_25) ++ (⟨#[32]⟩ : ByteArray)) ++ ((qT l0_2 x5_1).f2)) ++ (⟨#[32]⟩ : ByteArray)) ++ t217) ++ (⟨#[32]⟩ : ByteArray)) ++ t218) ++ (⟨#[10]⟩ : ByteArray)).size + t215.size <= 9223372036854775807) = true := dt c47
                            try have c47b2 : (9223372036854775807 < (((((((((((x4_1 ++ (⟨#[102, 111, 114, 107, 32]⟩ : ByteArray)) ++ ((qT l0_2 x5_1).f0)) ++ (⟨#[32]⟩ : ByteArray)) ++ x7_25) ++ (⟨#[32]⟩ : ByteArray)) ++ ((qT l0_2 x5_1).f2)) ++ (⟨#[32]⟩ : ByteArray)) ++ t217) ++ (⟨#[32]⟩ : ByteArray)) ++ t218) ++ (⟨#[10]⟩ : ByteArray)).size + t215.size) = False := eq_false (Nat.not_lt.2 c47)
                            try have c47b3 : (9223372036854775807 < x4_1.size + 5 + ((qT l0_2 x5_1).f0).size + 1 + x7_25.size + 1 + ((qT l0_2 x5_1).f2).size + 1 + t217.size + 1 + t218.size + 1 + t215.size) = False := eq_false (Nat.not_lt.2 (by have e_ := c47; simp only [ByteArray.size_append] at e_; exact e_))
                            replace H := Option.bind_eq_some_iff.mp H
                            obtain ⟨t219, A480, H⟩ := H
                            replace H : (if ((((((((((((x4_1 ++ (⟨#[102, 111, 114, 107, 32]⟩ : ByteArray)) ++ ((qT l0_2 x5_1).f0)) ++ (⟨#[32]⟩ : ByteArray)) ++ x7_25) ++ (⟨#[32]⟩ : ByteArray)) ++ ((qT l0_2 x5_1).f2)) ++ (⟨#[32]⟩ : ByteArray)) ++ t217) ++ (⟨#[32]⟩ : ByteArray)) ++ t218) ++ (⟨#[10]⟩ : ByteArray)) ++ t215).size + t219.size <= 9223372036854775807 then (sacristyref10_Put.l0 kj25 (((((((((((((x4_1 ++ (⟨#[102, 111, 114, 107, 32]⟩ : ByteArray)) ++ ((qT l0_2 x5_1).f0)) ++ (⟨#[32]⟩ : ByteArray)) ++ x7_25) ++ (⟨#[32]⟩ : ByteArray)) ++ ((qT l0_2 x5_1).f2)) ++ (⟨#[32]⟩ : ByteArray)) ++ t217) ++ (⟨#[32]⟩ : ByteArray)) ++ t218) ++ (⟨#[10]⟩ : ByteArray)) ++ t215) ++ t219) (wrap64 (x5_1 + 1)) a0_0 l0_1 l0_2) else (none)) = some (r1, r2) := H
                            have A48 := am A480
                            by_cases c49 : ((((((((((((x4_1 ++ (⟨#[102, 111, 114, 107, 32]⟩ : ByteArray)) ++ ((qT l0_2 x5_1).f0)) ++ (⟨#[32]⟩ : ByteArray)) ++ x7_25) ++ (⟨#[32]⟩ : ByteArray)) ++ ((qT l0_2 x5_1).f2)) ++ (⟨#[32]⟩ : ByteArray)) ++ t217) ++ (⟨#[32]⟩ : ByteArray)) ++ t218) ++ (⟨#[10]⟩ : ByteArray)) ++ t215).size + t219.size <= 9223372036854775807
                            ·rw [if_pos c49] at H
                             have c49b0 := eq_true c49
                             have c49b1 : decide (((((((((((((x4_1 ++ (⟨#[102, 111, 114, 107, 32]⟩ : ByteArray)) ++ ((qT l0_2 x5_1).f0)) ++ (⟨#[32]⟩ : ByteArray)) ++ x7_25) ++ (⟨#[32]⟩ : ByteArray)) ++ ((qT l0_2 x5_1).f2)) ++ (⟨#[32]⟩ : ByteArray)) ++ t217) ++ (⟨#[32]⟩ : ByteArray)) ++ t218) ++ (⟨#[10]⟩ : ByteArray)) ++ t215).size + t219.size <= 9223372036854775807) = true := dt c49
                             try have c49b2 : (9223372036854775807 < ((((((((((((x4_1 ++ (⟨#[102, 111, 114, 107, 32]⟩ : ByteArray)) ++ ((qT l0_2 x5_1).f0)) ++ (⟨#[32]⟩ : ByteArray)) ++ x7_25) ++ (⟨#[32]⟩ : ByteArray)) ++ ((qT l0_2 x5_1).f2)) ++ (⟨#[32]⟩ : ByteArray)) ++ t217) ++ (⟨#[32]⟩ : ByteArray)) ++ t218) ++ (⟨#[10]⟩ : ByteArray)) ++ t215).size + t219.size) = False := eq_false (Nat.not_lt.2 c49)
                             try have c49b3 : (9223372036854775807 < x4_1.size + 5 + ((qT l0_2 x5_1).f0).size + 1 + x7_25.size + 1 + ((qT l0_2 x5_1).f2).size + 1 + t217.size + 1 + t218.size + 1 + t215.size + t219.size) = False := eq_false (Nat.not_lt.2 (by have e_ := c49; simp only [ByteArray.size_append] at e_; exact e_))
                             have H' := am H
                             clear H
                             have hnb50 := NB214_204.out
                             have hnc50 := NB204_214.out
                             have hcz51_0 : wc.cell? ⟨gb214, 0, none⟩ = some (.string ((qT l0_2 x5_1).f0)) := bc BK214.out 0
                             have hcz51_1 : wc.cell? ⟨gb214, 1, none⟩ = some (.bool ((qT l0_2 x5_1).f1)) := bc BK214.out 1
                             have hcz51_2 : wc.cell? ⟨gb214, 2, none⟩ = some (.string ((qT l0_2 x5_1).f2)) := bc BK214.out 2
                             have hcz51_3 : wc.cell? ⟨gb214, 3, none⟩ = some (.slice A213_3 ((qT l0_2 x5_1).f3).length c213_3) := bc BK214.out 3
                             have hcz51_4 : wc.cell? ⟨gb214, 4, none⟩ = some (.slice A213_4 ((qT l0_2 x5_1).f4).length c213_4) := bc BK214.out 4
                             have hfz51_0 := qf BK214.out 0
                             have hfz51_1 := qf BK214.out 1
                             have hfz51_2 := qf BK214.out 2
                             have hfz51_3 := qf BK214.out 3
                             have hfz51_4 := qf BK214.out 4
                             try go_wp2_with (first | ((with_reducible refine gate_callee (f := 29) rfl ?_); refine goesL_ (some 53) rfl rfl Tryz.func29 (by kernel_rfl) rfl #[.slice A213_3 ((qT l0_2 x5_1).f3).length c213_3] rfl mz ?_; (with_reducible refine (q9_Put.calls kj25 _ _ ((qT l0_2 x5_1).f3) t215 t216 _ ?side1 ?side2 A33.out).mono ?_); (case side1 => repeat (first | exact (Kd.C_below HR213_3.out HB.out) | (with_reducible refine Kd.C_alloc ?_ _) | (with_reducible refine Kd.C_drewN ?_ _) | (with_reducible refine Kd.C_drew ?_))); (case side2 => exact HC213_3.out); rintro e w52 ⟨rfl, hb⟩; refine ⟨_, rfl, ?_⟩; have n0_ := am (blk_below (g := gb204) (o := .cells #[.int .i64 a0_0, .slice A0_1 l0_1.length c0_1, .slice (some ad213) l0_2.length c0_2] 25 (0, 0)) (kz BK204.out) hb); have n1_ := am (blk_below (g := gb214) (o := .cells #[.string ((qT l0_2 x5_1).f0), .bool ((qT l0_2 x5_1).f1), .string ((qT l0_2 x5_1).f2), .slice A213_3 ((qT l0_2 x5_1).f3).length c213_3, .slice A213_4 ((qT l0_2 x5_1).f4).length c213_4] 39 (0, 0)) (kz BK214.out) hb); have n2_ := am (qW (bs2 HB.out GE204.out GE214.out) hb); clear BK204; clear BK214; clear HB; have BK204 := n0_; have BK214 := n1_; have HB := n2_; clear n0_ n1_ n2_; (try clear hb); (try clear hb2); (try clear hk); (try clear hi)))
                             have n0_ := am (qd BK204.out)
                             have n1_ := am (qd BK214.out)
                             have n2_ := am (bd1 HB.out)
                             clear BK204
                             clear BK214
                             clear HB
                             have BK204 := n0_
                             have BK214 := n1_
                             have HB := n2_
                             clear n0_ n1_ n2_
                             refine start_ (n := 32) (S := fun w' => w'.cell? ⟨gb214, 0, none⟩ = some (.string ((qT l0_2 x5_1).f0)) /\ w'.cell? ⟨gb214, 1, none⟩ = some (.bool ((qT l0_2 x5_1).f1)) /\ w'.cell? ⟨gb214, 2, none⟩ = some (.string ((qT l0_2 x5_1).f2)) /\ w'.cell? ⟨gb214, 3, none⟩ = some (.slice A213_3 ((qT l0_2 x5_1).f3).length c213_3) /\ w'.cell? ⟨gb214, 4, none⟩ = some (.slice A213_4 ((qT l0_2 x5_1).f4).length c213_4)) (ds := []) (bA 32 0) (by kernel_rfl) rfl rfl ⟨bc BK214.out 0, bc BK214.out 1, bc BK214.out 2, bc BK214.out 3, bc BK214.out 4⟩ (fun hHeld => ?_); refine with_tabW sacristyref10_Put.tab13 sacristyref10_Put.bits13 (fun HT_ HW_ => ?_)
                             generalize w52.drew = w53 at BK204 BK214 HB hHeld ⊢
                             refine py_ 0 56 (bA 32 1) HT_.out ?_
                             refine py_ 1 57 (bA 32 3) HT_.out ?_
                             refine py_ 2 58 (bA 32 7) HT_.out ?_
                             refine py_ 6 62 (bA 32 71) HT_.out ?_
                             refine py_ 9 65 (bA 32 583) HT_.out ?_
                             refine py_ 13 69 (bA 32 8775) HT_.out ?_
                             refine py_ 19 75 (bA 32 533063) HT_.out ?_
                             refine py_ 25 81 (bA 32 34087495) HT_.out ?_
                             refine py_ 27 83 (bA 32 168305223) HT_.out ?_
                             refine ty_ 3 59 (bA 32 168305231) HT_.out HW_.out hHeld ?_
                             refine py_ 4 60 (bA 32 168305247) HT_.out ?_
                             refine py_ 5 61 (bA 32 168305279) HT_.out ?_
                             refine py_ 7 63 (bA 32 168305407) HT_.out ?_
                             refine py_ 8 64 (bA 32 168305663) HT_.out ?_
                             refine ty_ 10 66 (bA 32 168306687) HT_.out HW_.out hHeld ?_
                             refine py_ 11 67 (bA 32 168308735) HT_.out ?_
                             refine py_ 12 68 (bA 32 168312831) HT_.out ?_
                             refine ty_ 14 70 (bA 32 168329215) HT_.out HW_.out hHeld ?_
                             refine py_ 15 71 (bA 32 168361983) HT_.out ?_
                             refine ty_ 20 76 (bA 32 169410559) HT_.out HW_.out hHeld ?_
                             refine py_ 21 77 (bA 32 171507711) HT_.out ?_
                             refine ty_ 28 84 (bA 32 439943167) HT_.out HW_.out hHeld ?_
                             refine oz_ 16 72 (bA 32 440008703) HT_.out (fun K hK => ?_)
                             refine goes_ Tryz.func27 (by kernel_rfl) rfl #[.int .i64 (((qT l0_2 x5_1).f3).length : Int)] (by rfl) rfl rfl mz ?_
                             with_reducible refine (sacristyref03_Text.calls kj25 (((qT l0_2 x5_1).f3).length : Int) t217 _ A41.out).mono ?_
                             rintro e w54 ⟨rfl, hb⟩
                             refine ⟨_, rfl, ?_⟩
                             have n0_ := am (blk_below (g := gb204) (o := .cells #[.int .i64 a0_0, .slice A0_1 l0_1.length c0_1, .slice (some ad213) l0_2.length c0_2] 25 (0, 0)) (kz BK204.out) hb)
                             have n1_ := am (blk_below (g := gb214) (o := .cells #[.string ((qT l0_2 x5_1).f0), .bool ((qT l0_2 x5_1).f1), .string ((qT l0_2 x5_1).f2), .slice A213_3 ((qT l0_2 x5_1).f3).length c213_3, .slice A213_4 ((qT l0_2 x5_1).f4).length c213_4] 39 (0, 0)) (kz BK214.out) hb)
                             have n2_ := am (qW (bs2 HB.out GE204.out GE214.out) hb)
                             clear BK204
                             clear BK214
                             clear HB
                             have BK204 := n0_
                             have BK214 := n1_
                             have HB := n2_
                             clear n0_ n1_ n2_
                             (try clear hb)
                             (try clear hb2)
                             (try clear hk)
                             (try clear hi)
                             refine hK.out _ _ ⟨bc BK214.out 0, bc BK214.out 1, bc BK214.out 2, bc BK214.out 3, bc BK214.out 4⟩ (fun hHeld => ?_)
                             clear hK K
                             refine nz_ 72 ?_
                             refine py_ 17 73 (bA 32 440139775) HT_.out ?_
                             refine py_ 18 74 (bA 32 440401919) HT_.out ?_
                             refine oz_ 22 78 (bA 32 444596223) HT_.out (fun K hK => ?_)
                             refine goes_ Tryz.func27 (by kernel_rfl) rfl #[.int .i64 (((qT l0_2 x5_1).f4).length : Int)] (by rfl) rfl rfl mz ?_
                             with_reducible refine (sacristyref03_Text.calls kj25 (((qT l0_2 x5_1).f4).length : Int) t218 _ A44.out).mono ?_
                             rintro e w55 ⟨rfl, hb⟩
                             refine ⟨_, rfl, ?_⟩
                             have n0_ := am (blk_below (g := gb204) (o := .cells #[.int .i64 a0_0, .slice A0_1 l0_1.length c0_1, .slice (some ad213) l0_2.length c0_2] 25 (0, 0)) (kz BK204.out) hb)
                             have n1_ := am (blk_below (g := gb214) (o := .cells #[.string ((qT l0_2 x5_1).f0), .bool ((qT l0_2 x5_1).f1), .string ((qT l0_2 x5_1).f2), .slice A213_3 ((qT l0_2 x5_1).f3).length c213_3, .slice A213_4 ((qT l0_2 x5_1).f4).length c213_4] 39 (0, 0)) (kz BK214.out) hb)
                             have n2_ := am (qW (bs2 HB.out GE204.out GE214.out) hb)
                             clear BK204
                             clear BK214
                             clear HB
                             have BK204 := n0_
                             have BK214 := n1_
                             have HB := n2_
                             clear n0_ n1_ n2_
                             (try clear hb)
                             (try clear hb2)
                             (try clear hk)
                             (try clear hi)
                             refine hK.out _ _ ⟨bc BK214.out 0, bc BK214.out 1, bc BK214.out 2, bc BK214.out 3, bc BK214.out 4⟩ (fun hHeld => ?_)
                             clear hK K
                             refine nz_ 78 ?_
                             refine py_ 23 79 (bA 32 452984831) HT_.out ?_
                             refine py_ 24 80 (bA 32 469762047) HT_.out ?_
                             refine py_ 26 82 (bA 32 536870911) HT_.out ?_
                             refine oz_ 29 85 (bA 32 1073741823) HT_.out (fun K hK => ?_)
                             refine goes_ Tryz.func28 (by kernel_rfl) rfl #[.slice A213_4 ((qT l0_2 x5_1).f4).length c213_4] (by rfl) rfl rfl mz ?_
                             with_reducible refine (sacristyref10_rows.calls kj25 _ _ ((qT l0_2 x5_1).f4) t219 _ ?side1 ?side2 A48.out).mono ?_
                             (case side1 => repeat (first | exact (Kd.C_below HR213_4.out HB.out) | (with_reducible refine Kd.C_alloc ?_ _) | (with_reducible refine Kd.C_drewN ?_ _) | (with_reducible refine Kd.C_drew ?_)))
                             (case side2 => exact HC213_4.out)
                             rintro e w' ⟨rfl, ⟨nd, rfl⟩⟩
                             refine ⟨_, rfl, ?_⟩
                             refine hK.out _ _ ⟨bc BK214.out 0, bc BK214.out 1, bc BK214.out 2, bc BK214.out 3, bc BK214.out 4⟩ (fun hHeld => ?_)
                             clear hK K
                             refine nz_ 85 ?_
                             refine py_ 30 86 (bA 32 2147483647) HT_.out ?_
                             refine py_ 31 4 (bA 32 4294967295) HT_.out ?_
                             refine done_ (done_of HT_.out (by kernel_rfl)) ?_
                             try go_wp2
                             go_roundg kj25
                             case measure => have := HK1.out; have := HJ25.out; omega
                             case rel => exact ⟨(((((((((((((x4_1 ++ (⟨#[102, 111, 114, 107, 32]⟩ : ByteArray)) ++ ((qT l0_2 x5_1).f0)) ++ (⟨#[32]⟩ : ByteArray)) ++ x7_25) ++ (⟨#[32]⟩ : ByteArray)) ++ ((qT l0_2 x5_1).f2)) ++ (⟨#[32]⟩ : ByteArray)) ++ t217) ++ (⟨#[32]⟩ : ByteArray)) ++ t218) ++ (⟨#[10]⟩ : ByteArray)) ++ t215) ++ t219), (wrap64 (x5_1 + 1)), (ez), (ez), H', ⟨by have := HK1.out; have := HJ25.out; omega⟩, ⟨kz BK204.out⟩, ⟨bs2 HB.out GE204.out GE214.out⟩⟩
                            ·rw [if_neg c49] at H
                             exact absurd H (by simp)
                           ·rw [if_neg c47] at H
                            exact absurd H (by simp)
                          ·rw [if_neg c46] at H
                           exact absurd H (by simp)
                         ·rw [if_neg c45] at H
                          exact absurd H (by simp)
                        ·rw [if_neg c43] at H
                         exact absurd H (by simp)
                       ·rw [if_neg c42] at H
                        exact absurd H (by simp)
                      ·rw [if_neg c40] at H
                       exact absurd H (by simp)
                     ·rw [if_neg c39] at H
                      exact absurd H (by simp)
                    ·rw [if_neg c38] at H
                     exact absurd H (by simp)
                   ·rw [if_neg c37] at H
                    exact absurd H (by simp)
                  ·rw [if_neg c36] at H
                   exact absurd H (by simp)
                 ·rw [if_neg c35] at H
                  exact absurd H (by simp)
                ·rw [if_neg c34] at H
                 exact absurd H (by simp)
             ·rw [if_neg c25] at H
              exact absurd H (by simp)
            ·rw [if_neg c24] at H
             have c24b0 : decide (x5_1 < (l0_2.length : Int)) = false := df c24
             clear c24
             replace H := Option.bind_eq_some_iff.mp H
             obtain ⟨t210, A560, H⟩ := H
             replace H : (some (t210, true)) = some (r1, r2) := H
             have A56 := am A560
             simp only [Option.some.injEq, Prod.mk.injEq] at H
             obtain ⟨rfl, rfl⟩ := H
             have hcz57_0 : wr.cell? ⟨gb204, 0, none⟩ = some (.int .i64 a0_0) := bc BK204.out 0
             have hcz57_1 : wr.cell? ⟨gb204, 1, none⟩ = some (.slice A0_1 l0_1.length c0_1) := bc BK204.out 1
             have hcz57_2 : wr.cell? ⟨gb204, 2, none⟩ = some (.slice A0_2 l0_2.length c0_2) := bc BK204.out 2
             have hfz57_0 := qf BK204.out 0
             have hfz57_1 := qf BK204.out 1
             have hfz57_2 := qf BK204.out 2
             go_wp2_with (first | ((with_reducible refine gate_dst (N := 88) rfl ?_); refine conv_ev ?hg (N := 88) ?hd 9 26 5 (.tmp 87) rfl Tryz.underlying9 Tryz.underlying26 Tryz.underlying5 x4_1 rfl A56.out ?_; (case hg => rfl); (case hd => rfl); rintro v211 w58 ho0 hb; have n0_ := am (Kd.V_lower (Kd.V_mono (ok' := fun k_ => (w.heap.size <= k_) /\ k_ ≠ gb204) ho0 (fun k_ hk_ => ⟨(Nat.le_trans (qZ (bs1 HB.out GE204.out)) hk_), (Kd.freshB (g := gb204) (o := .cells #[.int .i64 a0_0, .slice A0_1 l0_1.length c0_1, .slice A0_2 l0_2.length c0_2] 25 (0, 0)) (kz BK204.out) k_ hk_)⟩)) (qZ (bs1 HB.out GE204.out))); have n1_ := am (blk_below (g := gb204) (o := .cells #[.int .i64 a0_0, .slice A0_1 l0_1.length c0_1, .slice A0_2 l0_2.length c0_2] 25 (0, 0)) (kz BK204.out) hb); have n2_ := am (qW (bs1 HB.out GE204.out) hb); clear BK204; clear HB; have HO212 := n0_; have BK204 := n1_; have HB := n2_; clear n0_ n1_ n2_; (try clear hb); (try clear hb2); (try clear hk); (try clear hi); (try clear ho0)))
             go_ret2
             exact ⟨_, ey, by (with_reducible repeat (first | apply Kd.V_alloc | apply Kd.V_drewN | apply Kd.V_drew)); exact Kd.V_mono HO212.out (fun _ hk => by first | exact hk.1 | exact hk.1.1 | exact hk.1.2 | exact hk.1.1.1 | exact hk.1.1.2 | exact hk.1.2.1 | exact hk.1.2.2 | exact hk.2), bs1 HB.out GE204.out⟩
         ·rw [if_neg c15] at H
          exact absurd H (by simp)
        ·rw [if_neg c14] at H
         exact absurd H (by simp)
       ·rw [if_neg c12] at H
        exact absurd H (by simp)
      ·rw [if_neg c11] at H
       exact absurd H (by simp)
     ·rw [if_neg c9] at H
      exact absurd H (by simp)
    ·rw [if_neg c8] at H
     exact absurd H (by simp)
   ·rw [if_neg c6] at H
    exact absurd H (by simp)
  ·rw [if_neg c5] at H
   exact absurd H (by simp)
 ·replace c3 := Bool.eq_false_iff.mpr c3
  subst c3
  have H1 : (some (([] : List Int), false)) = some (r1, r2) := by rw [if_neg (show ¬ (false = true) by decide)] at H; exact H
  clear H
  have H := H1
  clear H1
  simp only [Option.some.injEq, Prod.mk.injEq] at H
  obtain ⟨rfl, rfl⟩ := H
  go_enter Tryz.func8, Tryz.ntmps8
  go_wp2_with (first | ((with_reducible refine gate_dst (N := 1) rfl ?_); refine box_event ?hg (N := 1) ?hd (cs := #[.int .i64 a0_0, .slice A0_1 l0_1.length c0_1, .slice A0_2 l0_2.length c0_2]) (t := 25) ?hr ?_; (case hd => rfl); (case hg => rfl); (case hr => first | (go_simp; done) | (go_simp; rfl)); intro gb204 hg w59 hbox hb; have n0_ := am (qW (bz HB.out) hb); have n1_ := am (hbox); have n2_ := am ((by rw [hg]; exact (qZ (bz HB.out)) : w.heap.size <= gb204)); have n3_ := am ((by rw [hg]; exact (qZ (bz HB.out)) : w.heap.size <= gb204)); clear HB; have HB := n0_; have BK204 := n1_; have GW204 := n2_; have GE204 := n3_; clear n0_ n1_ n2_ n3_; clear hb hbox hg; have hcz60_0 : w59.cell? ⟨gb204, 0, none⟩ = some (.int .i64 a0_0) := bc BK204.out 0; have hcz60_1 : w59.cell? ⟨gb204, 1, none⟩ = some (.slice A0_1 l0_1.length c0_1) := bc BK204.out 1; have hcz60_2 : w59.cell? ⟨gb204, 2, none⟩ = some (.slice A0_2 l0_2.length c0_2) := bc BK204.out 2; have hfz60_0 := qf BK204.out 0; have hfz60_1 := qf BK204.out 1; have hfz60_2 := qf BK204.out 2) | ((with_reducible refine gate_callee (f := 12) rfl ?_); refine goesL_ (some 11) rfl rfl Tryz.func12 (by kernel_rfl) rfl #[.agg #[.int .i64 a0_0, .slice A0_1 l0_1.length c0_1, .slice A0_2 l0_2.length c0_2]] rfl mz ?_; (with_reducible refine (sacristyref10_Right.calls k a0_0 _ _ l0_1 _ _ l0_2 false _ ?side1 ?side2 ?side3 ?side4 A2.out).mono ?_); (case side1 => repeat (first | exact (Kd.C_below HR0_1.out HB.out) | (with_reducible refine Kd.C_alloc ?_ _) | (with_reducible refine Kd.C_drewN ?_ _) | (with_reducible refine Kd.C_drew ?_))); (case side2 => exact HC0_1.out); (case side3 => repeat (first | exact (Kd.C_below HR0_2.out HB.out) | (with_reducible refine Kd.C_alloc ?_ _) | (with_reducible refine Kd.C_drewN ?_ _) | (with_reducible refine Kd.C_drew ?_))); (case side4 => exact HC0_2.out); rintro e w61 ⟨rfl, hb⟩; refine ⟨_, rfl, ?_⟩; have n0_ := am (blk_below (g := gb204) (o := .cells #[.int .i64 a0_0, .slice A0_1 l0_1.length c0_1, .slice A0_2 l0_2.length c0_2] 25 (0, 0)) (kz BK204.out) hb); have n1_ := am (qW (bs1 HB.out GE204.out) hb); clear BK204; clear HB; have BK204 := n0_; have HB := n1_; clear n0_ n1_; (try clear hb); (try clear hb2); (try clear hk); (try clear hi)))
  go_ret2
  exact ⟨_, ey, Kd.R_V (base := 0) (by first | exact Kd.R_nil _ _ _ _ _ | exact Kd.N_nil _ _ _ _ _ | exact Kd.V_nil _ _ _ _ _ | exact Kd.Q_nil _ _ _ _ _ | exact Kd.S_nil _ _ _ _ _), bs1 HB.out GE204.out⟩
end Go.Proofs.YtlfenakgphmepaaGreatDoor.Print
