/- What talks begin with, the reference's part: refs that may be, and their lines. -/
import Derived.Test.YtmmionafcmnfoaaDoorHelloP
import Derived.Test.YtmmionafcmnfoaaDoorHelloF
import Derived.Test.YtmmionafcmnfoaaDoorPNamB
namespace Go.Proofs.YtmmionafcmnfoaaDoor.Hello
open Go.RowKit Go.Proofs.YtmmionafcmnfoaaDoorW.PrintWords Go.Proofs.YtmmionafcmnfoaaDoorW.PrintLast Go.Proofs.YtmmionafcmnfoaaDoorW.PrintMore Go.Proofs.YtmmionafcmnfoaaDoor.Conv Go.Proofs.YtmmionafcmnfoaaDoor.Print
theorem take_list (s : ByteArray) (n : Nat) : (s.extract 0 n).toList = s.data.toList.take n := by
  rw [Lib.toList_data, ByteArray.data_extract, Array.toList_extract]
  simp [List.extract]
theorem rabove_eq (a b : ByteArray) : q9_above.f a b = some (prefF b (a ++ slashT)) := by
  unfold q9_above.f prefF
  have hz : (a ++ slashT).size = a.size + 1 := by rw [ByteArray.size_append]; rfl
  have hl : (a ++ slashT).toList = a.data.toList ++ [47] := by rw [Lib.toList_data, ByteArray.data_append]; simp [slashT]
  have hn : a.data.toList.length = a.size := by simp
  by_cases c : (b.size : Int) > (a.size : Int)
  · have hlt : a.size < b.data.toList.length := by have : b.data.toList.length = b.size := by simp
                                                   omega
    have hr : (if (b.size : Int) >= ((a ++ slashT).size : Int) then (b.extract 0 (a ++ slashT).size).toList == (a ++ slashT).toList else false) = (b.data.toList.take a.size ++ [b.data.toList[a.size]] == a.data.toList ++ [47]) := by
      rw [if_pos (by omega), hz, hl, take_list, List.take_succ_eq_append_getElem hlt]
    rw [hr, if_pos c, if_pos (by omega), if_pos (by omega), Int.toNat_natCast, take_list, Lib.toList_data a]
    by_cases d : b.data.toList.take a.size = a.data.toList
    · rw [if_pos d, if_pos c, d, bt_get b a.size (by omega)]
      congr 1
      generalize b.data.toList[a.size] = x
      by_cases e : x = 47
      · subst e
        simp
      · have h1 : ¬ ((x.toNat : Int) = 47) := fun h => e (UInt8.toNat_inj.1 (show x.toNat = (47 : UInt8).toNat by show x.toNat = 47; omega))
        rw [beq_eq_false_iff_ne.2 h1]
        symm
        rw [beq_eq_false_iff_ne]
        intro h
        have := List.append_cancel_left h
        simp at this
        exact e this
    · rw [if_neg d]
      congr 1
      symm
      rw [beq_eq_false_iff_ne]
      intro h
      exact d (List.append_inj_left' h rfl)
  · rw [if_neg c, if_neg (by omega)]
def prevF (l : List Rf) : Nat -> Option ByteArray
  | 0 => none
  | j + 1 => (l[j]?).map (·.f0)
theorem rright_l1 (l : List Rf) (i : Nat) (hi : i < l.length) (hl : l.length <= 100000) : ∀ (d j k : Nat), j + d = l.length -> d + 1 <= k ->
    q9_Right.l1 k l (i : Int) (j : Int) = cond ((l.drop j).any fun z => prefF l[i].f0 (z.f0 ++ slashT)) (some false) (q9_Right.l0 (k - d - 1) l ((i : Int) + 1)) := by
  intro d
  induction d with
  | zero =>
    intro j k hj hk
    obtain ⟨k, rfl⟩ : ∃ j, k = j + 1 := ⟨k - 1, by omega⟩
    simp only [q9_Right.l1]
    rw [if_neg (by omega), List.drop_eq_nil_of_le (by omega), w64 (by omega) (by omega)]
    rfl
  | succ d ih =>
    intro j k hj hk
    obtain ⟨k, rfl⟩ : ∃ j, k = j + 1 := ⟨k - 1, by omega⟩
    have hlt : j < l.length := by omega
    simp only [q9_Right.l1]
    rw [if_pos (by omega), if_pos (by omega), if_pos (by omega), if_pos (by omega), getR l i hi, getR l j hlt, rabove_eq, w64 (by omega) (by omega), show ((j : Int) + 1) = ((j + 1 : Nat) : Int) by omega, ih (j + 1) k (by omega) (by omega), List.drop_eq_getElem_cons hlt]
    simp only [Option.bind_some, List.any_cons]
    rw [show k + 1 - (d + 1) - 1 = k - d - 1 by omega]
    by_cases c : prefF l[i].f0 (l[j].f0 ++ slashT) = true
    · rw [if_pos c, c, Bool.true_or, cond_true]
    · rw [if_neg c, Bool.eq_false_iff.2 c, Bool.false_or]
theorem rright_l0 (l : List Rf) (hl : l.length <= 100000) : ∀ (d i k : Nat), i + d = l.length -> 1000 + d * (l.length + 4) <= k ->
    q9_Right.l0 k l (i : Int) = some (rightGo l (l.drop i) (prevF l i)) := by
  intro d
  induction d with
  | zero =>
    intro i k hi hk
    obtain ⟨k, rfl⟩ : ∃ j, k = j + 1 := ⟨k - 1, by omega⟩
    simp only [q9_Right.l0]
    rw [if_neg (by omega), List.drop_eq_nil_of_le (by omega)]
    rfl
  | succ d ih =>
    intro i k hi hk
    rw [Nat.succ_mul] at hk
    obtain ⟨q, hq⟩ : ∃ q, q = d * (l.length + 4) := ⟨_, rfl⟩
    rw [<- hq] at hk ih
    obtain ⟨k, rfl⟩ : ∃ j, k = j + 2 := ⟨k - 2, by omega⟩
    have hlt : i < l.length := by omega
    have hj : ∀ b : Bool, q9_Right.j1 (k + 1) l (i : Int) b = some (!b && (!(l.any fun z => prefF l[i].f0 (z.f0 ++ slashT)) && rightGo l (l.drop (i + 1)) (some l[i].f0))) := by
      intro b
      simp only [q9_Right.j1]
      by_cases c : b = true
      · rw [if_pos c, c]; rfl
      · rw [if_neg c, Bool.eq_false_iff.2 c]
        have h1 := rright_l1 l i hlt hl l.length 0 k (by omega) (by omega)
        rw [List.drop_zero] at h1
        rw [show (0 : Int) = ((0 : Nat) : Int) from rfl, h1]
        have h2 := ih (i + 1) (k - l.length - 1) (by omega) (by omega)
        rw [show prevF l (i + 1) = some l[i].f0 by simp [prevF, hlt]] at h2
        by_cases e : (l.any fun z => prefF l[i].f0 (z.f0 ++ slashT)) = true
        · rw [e]; rfl
        · rw [Bool.eq_false_iff.2 e, cond_false, show ((i : Int) + 1) = ((i + 1 : Nat) : Int) by omega, h2]; rfl
    simp only [q9_Right.l0]
    rw [if_pos (by omega), if_pos (by omega), getR l i hlt, refn_eq _ (by omega), rnamed_eq _ (by omega), hj, hj, hj, List.drop_eq_getElem_cons hlt]
    simp only [Option.bind_some, rightGo]
    by_cases a : namedF l[i].f0 = true
    · rw [if_pos a, a, Bool.true_and]
      by_cases b : idF l[i].f1 = true
      · rw [if_pos b, b, Bool.true_and]
        by_cases c : i = 0
        · subst c
          rw [if_neg (by omega)]
          rfl
        · obtain ⟨j, rfl⟩ : ∃ j, i = j + 1 := ⟨i - 1, by omega⟩
          have hp : prevF l (j + 1) = some l[j].f0 := by
            have : j < l.length := by omega
            simp [prevF, this]
          rw [if_pos (by omega), w64 (by omega) (by omega), show (((j + 1 : Nat) : Int) - 1) = ((j : Nat) : Int) by omega, if_pos (by omega), if_pos (by omega), getR l j (by omega), hp]
          rfl
      · rw [if_neg b, Bool.eq_false_iff.2 b]
        simp
    · rw [if_neg a, Bool.eq_false_iff.2 a]
      simp
theorem rright_big (l : List Rf) (hl : l.length <= 20000) {k : Nat} (hk : 499999999 <= k) : q9_Right.f k l = some (rightF l) := by
  refine rright_l0 l (by omega) l.length 0 k (by omega) ?_
  have := Nat.mul_le_mul hl (show l.length + 4 <= 20004 by omega)
  omega
end Go.Proofs.YtmmionafcmnfoaaDoor.Hello
