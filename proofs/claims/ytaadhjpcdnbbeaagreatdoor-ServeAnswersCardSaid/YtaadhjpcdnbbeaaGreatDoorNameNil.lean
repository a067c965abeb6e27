/- The reference's name of nothing is a name; a row of one text. -/
import Derived.Test.YtaadhjpcdnbbeaaGreatDoorHelloF
import Derived.Test.YtaadhjpcdnbbeaaGreatDoorName
namespace Go.Proofs.YtaadhjpcdnbbeaaGreatDoor.Hello
open Go.RowKit Go.Proofs.YtaadhjpcdnbbeaaGreatDoorW.PrintWords Go.Proofs.YtaadhjpcdnbbeaaGreatDoorW.PrintLast Go.Proofs.YtaadhjpcdnbbeaaGreatDoorW.PrintMore Go.Proofs.YtaadhjpcdnbbeaaGreatDoor.Conv Go.Proofs.YtaadhjpcdnbbeaaGreatDoor.Print
set_option linter.unusedVariables false
set_option linter.unusedSimpArgs false
theorem bt_strOf (xs : List Int) (i : Nat) (h : i < xs.length) (h0 : 0 <= xs[i]) (h1 : xs[i] <= 255) : bt (strOfNums xs) (i : Int) = xs[i] := by
 have hz : (strOfNums xs).size = xs.length := by
  show (strOfNums xs).data.size = _
  simp [strOfNums]
 rw [<- bt_at _ _ (by rw [Int.toNat_natCast]; omega)]
 simp only [Int.toNat_natCast]
 show (((strOfNums xs).data[i]'(by rw [<- hz] at h; exact h)).toNat : Int) = xs[i]
 simp [strOfNums]
 omega
theorem id_of_hexy {xs : List Int} (hl : xs.length = 64) (h : ∀ x ∈ xs, NameOf.hexy x) : idF (strOfNums xs) = true := by
 have hz : (strOfNums xs).size = xs.length := by
  show (strOfNums xs).data.size = _
  simp [strOfNums]
 have key : ∀ d i, i + d = 64 -> hexFrom (strOfNums xs) d i = true := by
  intro d
  induction d with
  | zero => intro i _; rfl
  | succ d ih =>
   intro i hi
   unfold hexFrom
   have hx := h xs[i] (List.getElem_mem (by omega))
   unfold NameOf.hexy at hx
   rw [ih (i + 1) (by omega), Bool.and_true, bt_strOf xs i (by omega) (by omega) (by omega), hexB_iff]
   exact hx
 unfold idF
 rw [hz, hl, key 64 0 rfl]
 rfl
theorem name_nil (w : World) : Calls Tryz.prog 20 #[.slice none 0 0] w fun e w' => Below w.heap.size w w' /\ ∃ s : ByteArray, e = .returned (.string s) /\ idF s = true := by
 refine (NameOf.Name_calls none 0 [] w (Kd.C_nil _ _) (Nat.le_refl _) (by simp)).mono ?_
 rintro e w' ⟨hb, xs, rfl, hl, hx⟩
 exact ⟨hb, _, rfl, id_of_hexy hl hx⟩
theorem C_str1 (W : World) (x : ByteArray) : Kd.C Kd.string (W.alloc (.cells #[.string x] 9)) (some ⟨W.heap.size, 0, none⟩) [x].length [x] := by
 have h1 := World.ownsRow_lit (base := 0) (e := 9) (size := 1) W #[.string x] 1 (Nat.zero_le _) (by decide) rfl
 have h2 : Kd.R Kd.string 9 (W.alloc (.cells #[.string x] 9)) 0 (fun _ => True) (.slice (some ⟨W.heap.size, 0, none⟩) 1 1) [x] := ⟨fun _ _ => trivial, _, h1, Reps.one rfl (Reps.none _ _)⟩
 exact (Kd.R_reads' h2).2.2
theorem add0_block (a : Addr) : (a.add 0).block = a.block := by unfold Addr.add; split <;> rfl
theorem add0_off (a : Addr) : (a.add 0).off = a.off := by unfold Addr.add; split <;> simp_all
theorem ask_one {s : ByteArray} (h : idF s = true) : askF [s] [] = (endsF (asks [s] []), true) := if_pos ⟨by simp, by unfold namesF; simp [h], by rfl⟩
end Go.Proofs.YtaadhjpcdnbbeaaGreatDoor.Hello
