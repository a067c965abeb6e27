/- head: the live question. Its pure facts. -/
import Derived.Test.YtlfenakgphmepaaGreatDoorRootPlain
namespace Go.Proofs.YtlfenakgphmepaaGreatDoor.Root
open Go.RowKit Go.Proofs.YtlfenakgphmepaaGreatDoorW.PrintWords Go.Proofs.YtlfenakgphmepaaGreatDoorW.PrintLast Go.Proofs.YtlfenakgphmepaaGreatDoorW.PrintMore Go.Proofs.YtlfenakgphmepaaGreatDoor.Conv Go.Proofs.YtlfenakgphmepaaGreatDoor.Print Go.Proofs.YtlfenakgphmepaaGreatDoor.Build
set_option linter.unusedVariables false
def G0 (t : ByteArray) : List Rf × Bool := (refs_Get.f 3000000 t).getD ([], false)
theorem G0_eq (t : ByteArray) (ht : t.size <= 1000000) : refs_Get.f 3000000 t = some (G0 t) := by
 obtain ⟨r, hr⟩ := rget_total (M := 1000000) (k := 3000000) (Nat.le_refl _) (by omega) t ht
 unfold G0
 rw [hr]
 rfl
def P0 (l : List Rf) : ByteArray := ((refs_Put.f 3000000 l).getD (⟨#[]⟩, false)).1
abbrev fkT : ByteArray := ⟨#[102, 111, 114, 107, 32, 97, 32, 108, 105, 110, 107, 101, 100, 32, 104, 101, 97, 100, 115, 47, 109, 32, 48, 32, 48]⟩
abbrev hT1 : ByteArray := ⟨#[110, 101, 116, 32, 51, 10, 112, 111, 111, 108, 32, 48, 10, 102, 111, 114, 107, 115, 32, 49, 10, 102, 111, 114, 107, 32, 97, 32, 108, 105, 110, 107, 101, 100, 32, 104, 101, 97, 100, 115, 47, 109, 32, 48, 32, 48, 10]⟩
abbrev hT2 : ByteArray := ⟨#[110, 101, 116, 32, 51, 10, 112, 111, 111, 108, 32, 48, 10, 102, 111, 114, 107, 115, 32, 49, 10]⟩
abbrev n3T : ByteArray := ⟨#[110, 101, 116, 32, 51]⟩
abbrev p0T : ByteArray := ⟨#[112, 111, 111, 108, 32, 48]⟩
abbrev f1T : ByteArray := ⟨#[102, 111, 114, 107, 115, 32, 49]⟩
abbrev c0T : ByteArray := ⟨#[48]⟩
abbrev c1T : ByteArray := ⟨#[49]⟩
abbrev c3T : ByteArray := ⟨#[51]⟩
abbrev fkA : Fk := ⟨⟨#[97]⟩, true, ⟨#[104, 101, 97, 100, 115, 47, 109]⟩, [], []⟩
theorem t1 : cutsF 10 hT1 = [n3T, p0T, f1T, fkT, ⟨#[]⟩] := by decide +kernel
theorem t2 : cutsF 10 hT2 = [n3T, p0T, f1T, ⟨#[]⟩] := by decide +kernel
theorem t3 (l : List ByteArray) : wordsF netT 2 (n3T :: l) false = ([netT, c3T], l, false) := by kernel_rfl
theorem t4 (l : List ByteArray) : wordsF poolT 2 (p0T :: l) false = ([poolT, c0T], l, false) := by kernel_rfl
theorem t5 (l : List ByteArray) : wordsF forksT 2 (f1T :: l) false = ([forksT, c1T], l, false) := by kernel_rfl
theorem d0 : decF c0T = (0, true) := by decide +kernel
theorem d1 : decF c1T = (1, true) := by decide +kernel
theorem d3 : decF c3T = (3, true) := by decide +kernel
theorem t6 (l : List ByteArray) : someF 0 l false = ([], l, false) := some_ok (Nat.zero_le _)
theorem t7 : getL G0 1 [] [fkT, ⟨#[]⟩] false = ([fkA], false) := by kernel_rfl
theorem r1 : root_Right.f 3000000 0 [] [] = some true := by decide +kernel
theorem r2 : root_Right.f 3000000 3 [] [fkA] = some true := by decide +kernel
theorem r3 : root_Right.f 3000000 0 [] [⟨⟨#[97]⟩, false, ⟨#[116, 97, 103, 115, 47, 109]⟩, [], []⟩] = some false := by decide +kernel
theorem x1 : textP P0 0 [] [] = ⟨#[110, 101, 116, 32, 48, 10, 112, 111, 111, 108, 32, 48, 10, 102, 111, 114, 107, 115, 32, 48, 10]⟩ := by decide +kernel
theorem x2 : textP P0 3 [] [fkA] = hT1 := by decide +kernel
theorem z1 : sizeT (cutsF 10 hT1) <= 1000000 := by decide +kernel
theorem z2 : sizeT (cutsF 10 hT2) <= 1000000 := by decide +kernel
theorem z3 : sizeP P0 3 [] [fkA] <= 800000000 := by decide +kernel
theorem z4 : sizeP P0 0 [] [] <= 800000000 := by decide +kernel
end Go.Proofs.YtlfenakgphmepaaGreatDoor.Root
