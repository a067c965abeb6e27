/- Parts of the proof. -/
import Derived.Test.YtlfenakgphmepaaGreatDoorRootPlain
section
namespace Go.Proofs.YtlfenakgphmepaaGreatDoor.Root
open Go.RowKit YtlfenakgphmepaaGreatDoorW.PrintWords YtlfenakgphmepaaGreatDoorW.PrintLast YtlfenakgphmepaaGreatDoorW.PrintMore YtlfenakgphmepaaGreatDoor.Conv Print Build
set_option linter.unusedVariables false
def G0 (t : ByteArray) : List Rf × Bool := (refs_Get.f 3000000 t).getD ([], false)
theorem G0_eq (t : ByteArray) (ht : t.size <= 1000000) : refs_Get.f 3000000 t = some (G0 t) := by
 obtain ⟨r, hr⟩ := rget_total (M := 1000000) (k := 3000000) (Nat.le_refl _) (by omega) t ht
 unfold G0
 rw [hr]
 rfl
def P0 (l : List Rf) : ByteArray := ((refs_Put.f 3000000 l).getD (⟨#[]⟩, false)).1
abbrev fkT : ByteArray := ⟨#[102, 111, 114, 107, 32, 97, 32, 108, 105, 110, 107, 101, 100, 32, 104, 101, 97, 100, 115, 47, 109, 32, 48, 32, 48]⟩
abbrev hT1 : ByteArray := ⟨#[110, 101, 116, 32, 51, 10, 112, 111, 111, 108, 32, 48, 10, 102, 111, 114, 107, 115, 32, 49, 10, 102, 111, 114, 107, 32, 97, 32, 108, 105, 110, 107, 101, 100, 32, 104, 101, 97, 100, 115, 47, 109, 32, 48, 32, 48, 10]⟩
abbrev hT2 : ByteArray := ⟨#[110, 101, 116, 32, 51, 10, 112, 111, 111, 108, 32, 48, 10, 102, 111, 114, 107, 115, 32, 49, 10]⟩
abbrev n3T : ByteArray := ⟨#[110, 101, 116, 32, 51]⟩
abbrev p0T : ByteArray := ⟨#[112, 111, 111, 108, 32, 48]⟩
abbrev f1T : ByteArray := ⟨#[102, 111, 114, 107, 115, 32, 49]⟩
abbrev c0T : ByteArray := ⟨#[48]⟩
abbrev c1T : ByteArray := ⟨#[49]⟩
abbrev c3T : ByteArray := ⟨#[51]⟩
abbrev fkA : Fk := ⟨⟨#[97]⟩, true, ⟨#[104, 101, 97, 100, 115, 47, 109]⟩, [], []⟩
theorem t1 : cutsF 10 hT1 = [n3T, p0T, f1T, fkT, ⟨#[]⟩] := by decide +kernel
theorem t2 : cutsF 10 hT2 = [n3T, p0T, f1T, ⟨#[]⟩] := by decide +kernel
theorem t3 (l : List ByteArray) : wordsF netT 2 (n3T :: l) false = ([netT, c3T], l, false) := by kernel_rfl
theorem t4 (l : List ByteArray) : wordsF poolT 2 (p0T :: l) false = ([poolT, c0T], l, false) := by kernel_rfl
theorem t5 (l : List ByteArray) : wordsF forksT 2 (f1T :: l) false = ([forksT, c1T], l, false) := by kernel_rfl
theorem d0 : decF c0T = (0, true) := by decide +kernel
theorem d1 : decF c1T = (1, true) := by decide +kernel
theorem d3 : decF c3T = (3, true) := by decide +kernel
theorem t6 (l : List ByteArray) : someF 0 l false = ([], l, false) := some_ok (Nat.zero_le _)
theorem t7 : getL G0 1 [] [fkT, ⟨#[]⟩] false = ([fkA], false) := by kernel_rfl
theorem r1 : root_Right.f 3000000 0 [] [] = some true := by decide +kernel
theorem r2 : root_Right.f 3000000 3 [] [fkA] = some true := by decide +kernel
theorem r3 : root_Right.f 3000000 0 [] [⟨⟨#[97]⟩, false, ⟨#[116, 97, 103, 115, 47, 109]⟩, [], []⟩] = some false := by decide +kernel
theorem x1 : textP P0 0 [] [] = ⟨#[110, 101, 116, 32, 48, 10, 112, 111, 111, 108, 32, 48, 10, 102, 111, 114, 107, 115, 32, 48, 10]⟩ := by decide +kernel
theorem x2 : textP P0 3 [] [fkA] = hT1 := by decide +kernel
theorem z1 : sizeT (cutsF 10 hT1) <= 1000000 := by decide +kernel
theorem z2 : sizeT (cutsF 10 hT2) <= 1000000 := by decide +kernel
theorem z3 : sizeP P0 3 [] [fkA] <= 800000000 := by decide +kernel
theorem z4 : sizeP P0 0 [] [] <= 800000000 := by decide +kernel
end Go.Proofs.YtlfenakgphmepaaGreatDoor.Root
end
section
namespace Go.Proofs.YtlfenakgphmepaaGreatDoor.Root
open Go.RowKit YtlfenakgphmepaaGreatDoorW.PrintWords YtlfenakgphmepaaGreatDoorW.PrintLast YtlfenakgphmepaaGreatDoorW.PrintMore YtlfenakgphmepaaGreatDoor.Conv Print Build
set_option linter.unusedVariables false
theorem p_none : ∃ b, refs_Put.f 3000000 [] = some (P0 [], b) := ⟨true, by kernel_rfl⟩
theorem get_h1 {W : World} (hT : Tb W) (A : Option Addr) (c : Nat) (bs : List Int) (hr : Kd.C (Kd.int .u8) W A 47 bs) (hbs : strOfNums bs = hT1) :
  Calls Tryz.prog 9 #[.slice A 47 c] W fun r w' => Below W.heap.size W w' /\ ∃ Ap cp Af cf, r = .returned (.tuple #[.agg #[.int .i64 3, .slice Ap 0 cp, .slice Af 1 cf], .bool true]) /\ Kd.C Kd.string w' Ap 0 [] /\ 0 <= cp /\ Kd.C k39 w' Af 1 [fkA] /\ 1 <= cf := by
 refine (get_calls 3000000 hT1 A 47 c bs W hr hbs (by decide) 1000000 (by decide) z1 G0 G0_eq [netT, c3T] [poolT, c0T] [forksT, c1T] [] [p0T, f1T, fkT, ⟨#[]⟩] [f1T, fkT, ⟨#[]⟩] [f1T, fkT, ⟨#[]⟩] [fkT, ⟨#[]⟩] false false false false true true true false true 3 0 1 [fkA] (by rw [t1]; exact t3 _) d3 (t4 _) d0 (t6 _) (t5 _) d1 t7 r2 P0 (fun _ => ⟨fun f hf => by obtain rfl := List.mem_singleton.1 hf; exact p_none, z3⟩) hT).mono ?_
 rintro r w' ⟨hb, h | h⟩
 ·exact ⟨hb, h.2⟩
 ·exact absurd ⟨rfl, rfl, x2⟩ h.1
abbrev fkN : Fk := ⟨⟨#[]⟩, false, ⟨#[]⟩, [], []⟩
theorem t9 : getL G0 1 [] [⟨#[]⟩] false = ([fkN], true) := by kernel_rfl
theorem r4 : root_Right.f 3000000 3 [] [fkN] = some false := by decide +kernel
theorem get_h2 {W : World} (hT : Tb W) (A : Option Addr) (c : Nat) (bs : List Int) (hr : Kd.C (Kd.int .u8) W A 21 bs) (hbs : strOfNums bs = hT2) :
  Calls Tryz.prog 9 #[.slice A 21 c] W fun r w' => Below W.heap.size W w' /\ r = .returned (.tuple #[.agg #[.int .i64 0, .slice none 0 0, .slice none 0 0], .bool false]) := by
 refine (get_calls 3000000 hT2 A 21 c bs W hr hbs (by decide) 1000000 (by decide) z2 G0 G0_eq [netT, c3T] [poolT, c0T] [forksT, c1T] [] [p0T, f1T, ⟨#[]⟩] [f1T, ⟨#[]⟩] [f1T, ⟨#[]⟩] [⟨#[]⟩] false false false false true true true true false 3 0 1 [fkN] (by rw [t2]; exact t3 _) d3 (t4 _) d0 (t6 _) (t5 _) d1 t9 r4 P0 (fun h => Bool.noConfusion h) hT).mono ?_
 rintro r w' ⟨hb, h | h⟩
 ·exact Bool.noConfusion h.1.1
 ·exact ⟨hb, h.2⟩
theorem put_h1 {W : World} (hT : Tb W) : Calls Tryz.prog 7 #[.agg #[.int .i64 0, .slice none 0 0, .slice none 0 0]] W fun e w' => ∃ v, e = .returned (.tuple #[v, .bool true]) /\ Kd.V (Kd.int .u8) 5 w' W.heap.size (fun k_ => W.heap.size <= k_) v (bytesOf ⟨#[110, 101, 116, 32, 48, 10, 112, 111, 111, 108, 32, 48, 10, 102, 111, 114, 107, 115, 32, 48, 10]⟩) /\ Below W.heap.size W w' := by
 have h := put_ok 3000000 0 none 0 [] none 0 [] W (Kd.F_now (Kd.F_nil _ W (fun _ => True))) (Nat.le_refl _) (Kd.F_now (Kd.F_nil _ W (fun _ => True))) (Nat.le_refl _) r1 P0 (fun f hf => absurd hf List.not_mem_nil) z4 (by decide) (by decide) hT
 rw [x1] at h
 exact h
abbrev fkB : Fk := ⟨⟨#[97]⟩, false, ⟨#[116, 97, 103, 115, 47, 109]⟩, [], []⟩
theorem put_h2 {W : World} (A : Option Addr) (c : Nat) (hr : Kd.C k39 W A 1 [fkB]) (hc : 1 <= c) : Calls Tryz.prog 7 #[.agg #[.int .i64 0, .slice none 0 0, .slice A 1 c]] W fun e w' => e = .returned (.tuple #[.slice none 0 0, .bool false]) /\ Below W.heap.size W w' :=
 put_no 3000000 0 none 0 [] A c [fkB] W (Kd.F_now (Kd.F_nil _ W (fun _ => True))) (Nat.le_refl _) hr hc r3
end Go.Proofs.YtlfenakgphmepaaGreatDoor.Root
end
