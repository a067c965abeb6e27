/- The reference's name of any bytes is a name. -/
import Derived.Test.YtlfenakgphmepaaGreatDoorHelloC
import Derived.Test.YtlfenakgphmepaaGreatDoorName
namespace Go.Proofs.YtlfenakgphmepaaGreatDoor.Hello
open Go.RowKit Go.Proofs.YtlfenakgphmepaaGreatDoorW.PrintWords Go.Proofs.YtlfenakgphmepaaGreatDoorW.PrintLast Go.Proofs.YtlfenakgphmepaaGreatDoorW.PrintMore Go.Proofs.YtlfenakgphmepaaGreatDoor.Conv Go.Proofs.YtlfenakgphmepaaGreatDoor.Print
set_option linter.unusedVariables false
set_option linter.unusedSimpArgs false
theorem bt_strOf (xs : List Int) (i : Nat) (h : i < xs.length) (h0 : 0 <= xs[i]) (h1 : xs[i] <= 255) : bt (strOfNums xs) (i : Int) = xs[i] := by
 have hz : (strOfNums xs).size = xs.length := by
  show (strOfNums xs).data.size = _
  simp [strOfNums]
 rw [<- bt_at _ _ (by rw [Int.toNat_natCast]; omega)]
 simp only [Int.toNat_natCast]
 show (((strOfNums xs).data[i]'(by rw [<- hz] at h; exact h)).toNat : Int) = xs[i]
 simp [strOfNums]
 omega
theorem id_of_hexy {xs : List Int} (hl : xs.length = 64) (h : ∀ x ∈ xs, NameOf.hexy x) : idF (strOfNums xs) = true := by
 have hz : (strOfNums xs).size = xs.length := by
  show (strOfNums xs).data.size = _
  simp [strOfNums]
 have key : ∀ d i, i + d = 64 -> hexFrom (strOfNums xs) d i = true := by
  intro d
  induction d with
  | zero => intro i _; rfl
  | succ d ih =>
   intro i hi
   unfold hexFrom
   have hx := h xs[i] (List.getElem_mem (by omega))
   unfold NameOf.hexy at hx
   rw [ih (i + 1) (by omega), Bool.and_true, bt_strOf xs i (by omega) (by omega) (by omega), hexB_iff]
   exact hx
 unfold idF
 rw [hz, hl, key 64 0 rfl]
 rfl
theorem name_any (A : Option Addr) (c : Nat) (bs : List Int) (w : World) (hC : Kd.C (Kd.int .u8) w A bs.length bs) (hc : bs.length <= c) (hl : bs.length <= 1000000000) : Calls Tryz.prog 18 #[.slice A bs.length c] w fun e w' => Below w.heap.size w w' /\ ∃ s : ByteArray, e = .returned (.string s) /\ idF s = true := by
 refine (NameOf.Name_calls A c bs w hC hc hl).mono ?_
 rintro e w' ⟨hb, xs, rfl, hl, hx⟩
 exact ⟨hb, _, rfl, id_of_hexy hl hx⟩
end Go.Proofs.YtlfenakgphmepaaGreatDoor.Hello
