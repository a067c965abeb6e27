/- The reference's name of nothing is a name; a row of one text. -/
import Derived.Test.YtemkgdpfkbpnpaaGreatDoorHelloF
import Derived.Test.YtemkgdpfkbpnpaaGreatDoorName
namespace Go.Proofs.YtemkgdpfkbpnpaaGreatDoor.Hello
open Go.RowKit Go.Proofs.YtemkgdpfkbpnpaaGreatDoorW.PrintWords Go.Proofs.YtemkgdpfkbpnpaaGreatDoorW.PrintLast Go.Proofs.YtemkgdpfkbpnpaaGreatDoorW.PrintMore Go.Proofs.YtemkgdpfkbpnpaaGreatDoor.Conv Go.Proofs.YtemkgdpfkbpnpaaGreatDoor.Print
set_option linter.unusedVariables false
set_option linter.unusedSimpArgs false
theorem bt_strOf (xs : List Int) (i : Nat) (h : i < xs.length) (h0 : 0 <= xs[i]) (h1 : xs[i] <= 255) : bt (strOfNums xs) (i : Int) = xs[i] := by
 have hz : (strOfNums xs).size = xs.length := by
  show (strOfNums xs).data.size = _
  simp [strOfNums]
 rw [<- bt_at _ _ (by rw [Int.toNat_natCast]; omega)]
 simp only [Int.toNat_natCast]
 show (((strOfNums xs).data[i]'(by rw [<- hz] at h; exact h)).toNat : Int) = xs[i]
 simp [strOfNums]
 omega
theorem id_of_hexy {xs : List Int} (hl : xs.length = 64) (h : ∀ x ∈ xs, NameOf.hexy x) : idF (strOfNums xs) = true := by
 have hz : (strOfNums xs).size = xs.length := by
  show (strOfNums xs).data.size = _
  simp [strOfNums]
 have key : ∀ d i, i + d = 64 -> hexFrom (strOfNums xs) d i = true := by
  intro d
  induction d with
  | zero => intro i _; rfl
  | succ d ih =>
   intro i hi
   unfold hexFrom
   have hx := h xs[i] (List.getElem_mem (by omega))
   unfold NameOf.hexy at hx
   rw [ih (i + 1) (by omega), Bool.and_true, bt_strOf xs i (by omega) (by omega) (by omega), hexB_iff]
   exact hx
 unfold idF
 rw [hz, hl, key 64 0 rfl]
 rfl
theorem name_nil (w : World) : Calls Tryz.prog 22 #[.slice none 0 0] w fun e w' => Below w.heap.size w w' /\ ∃ s : ByteArray, e = .returned (.string s) /\ idF s = true := by
 refine (NameOf.Name_calls none 0 [] w (Kd.C_nil _ _) (Nat.le_refl _) (by simp)).mono ?_
 rintro e w' ⟨hb, xs, rfl, hl, hx⟩
 exact ⟨hb, _, rfl, id_of_hexy hl hx⟩
theorem add0_block (a : Addr) : (a.add 0).block = a.block := by unfold Addr.add; split <;> rfl
theorem add0_off (a : Addr) : (a.add 0).off = a.off := by unfold Addr.add; split <;> simp_all
end Go.Proofs.YtemkgdpfkbpnpaaGreatDoor.Hello
