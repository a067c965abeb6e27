/- RootTells: the contracts of both sides, in one form. -/
import Derived.Test.YtlfenakgphmepaaGreatDoorRefH
import Derived.Test.YtlfenakgphmepaaGreatDoorRootSameS
import Derived.Test.YtlfenakgphmepaaGreatDoorRootRise
namespace Go.Proofs.YtlfenakgphmepaaGreatDoor.Root
open Go.RowKit YtlfenakgphmepaaGreatDoorW.PrintWords YtlfenakgphmepaaGreatDoorW.PrintLast YtlfenakgphmepaaGreatDoorW.PrintMore YtlfenakgphmepaaGreatDoor.Conv Print Build
set_option linter.unusedVariables false
set_option linter.unusedSimpArgs false
theorem str_size (l : List Int) : (strOfNums l).size = l.length := by simp [strOfNums, ByteArray.size]
def getU (s : ByteArray) : Int × List ByteArray × List Fk × Bool :=
 match getR s with
 | none => (0, [], [], false)
 | some (m, pl, fl) => (m, pl, fl, true)
theorem getU_len {s : ByteArray} {m : Int} {pl : List ByteArray} {fl : List Fk} {b : Bool} (h : getU s = (m, pl, fl, b)) : LenR pl fl := by
 unfold getU at h
 cases hg : getR s with
 | none =>
  rw [hg] at h
  simp only [Prod.mk.injEq] at h
  obtain ⟨rfl, rfl, rfl, rfl⟩ := h
  exact ⟨by decide, by decide, fun g hg => absurd hg List.not_mem_nil⟩
 | some u =>
  obtain ⟨m2, pl2, fl2⟩ := u
  rw [hg] at h
  simp only [Prod.mk.injEq] at h
  obtain ⟨rfl, rfl, rfl, rfl⟩ := h
  exact right_len (getR_out hg).1
theorem get_U (s : ByteArray) (hs : s.size <= 800000) {m : Int} {pl : List ByteArray} {fl : List Fk} {b : Bool} (h : getU s = (m, pl, fl, b)) (A : Option Addr) (n c : Nat) (bs : List Int) (W : World) (hr : Kd.C (Kd.int .u8) W A n bs) (hbs : strOfNums bs = s) (hT : Tb W) :
  Calls Tryz.prog 9 #[.slice A n c] W fun r w' => Below W.heap.size W w' /\ ∃ Ap cp Af cf, r = .returned (.tuple #[.agg #[.int .i64 m, .slice Ap pl.length cp, .slice Af fl.length cf], .bool b]) /\ Kd.C Kd.string w' Ap pl.length pl /\ pl.length <= cp /\ Kd.C k39 w' Af fl.length fl /\ fl.length <= cf := by
 refine (get_R s hs A n c bs W hr hbs hT).mono ?_
 unfold getU at h
 rintro r w' ⟨hb, ⟨m2, pl2, fl2, hg2, h2⟩ | ⟨hg2, rfl⟩⟩
 ·rw [hg2] at h
  simp only [Prod.mk.injEq] at h
  obtain ⟨rfl, rfl, rfl, rfl⟩ := h
  exact ⟨hb, h2⟩
 ·rw [hg2] at h
  simp only [Prod.mk.injEq] at h
  obtain ⟨rfl, rfl, rfl, rfl⟩ := h
  exact ⟨hb, none, 0, none, 0, rfl, Kd.C_nil _ _, Nat.le_refl _, Kd.C_nil _ _, Nat.le_refl _⟩
theorem rget_U (s : ByteArray) (hs : s.size <= 20000) {m : Int} {pl : List ByteArray} {fl : List Fk} {b : Bool} (h : getU s = (m, pl, fl, b)) (A : Option Addr) (n c : Nat) (bs : List Int) (W : World) (hr : Kd.C (Kd.int .u8) W A n bs) (hbs : strOfNums bs = s) :
  Calls Tryz.prog 10 #[.slice A n c] W fun r w' => Below W.heap.size W w' /\ ∃ Ap cp Af cf, r = .returned (.tuple #[.agg #[.int .i64 m, .slice Ap pl.length cp, .slice Af fl.length cf], .bool b]) /\ Kd.C Kd.string w' Ap pl.length pl /\ pl.length <= cp /\ Kd.C k39 w' Af fl.length fl /\ fl.length <= cf := by
 refine (rget_calls s A n c bs W hr hbs hs).mono ?_
 unfold getU at h
 rw [rgetF_eq]
 rintro r w' ⟨hb, ⟨m2, pl2, fl2, hg2, h2⟩ | ⟨hg2, rfl⟩⟩
 ·rw [hg2] at h
  simp only [Prod.mk.injEq] at h
  obtain ⟨rfl, rfl, rfl, rfl⟩ := h
  exact ⟨hb, h2⟩
 ·rw [hg2] at h
  simp only [Prod.mk.injEq] at h
  obtain ⟨rfl, rfl, rfl, rfl⟩ := h
  exact ⟨hb, none, 0, none, 0, rfl, Kd.C_nil _ _, Nat.le_refl _, Kd.C_nil _ _, Nat.le_refl _⟩
def putU (n : Int) (pool : List ByteArray) (forks : List Fk) : List Int × Bool := if rootF n pool forks = true then (bytesOf (textR n pool forks), true) else ([], false)
theorem put_U {n : Int} {pool : List ByteArray} {forks : List Fk} (h : SmR n pool forks) {bs : List Int} {b : Bool} (hu : putU n pool forks = (bs, b)) (Ap : Option Addr) (cp : Nat) (Af : Option Addr) (cf : Nat) (W : World) (hrp : Kd.C Kd.string W Ap pool.length pool) (hcp : pool.length <= cp) (hrf : Kd.C k39 W Af forks.length forks) (hcf : forks.length <= cf) (hT : Tb W) :
  Calls Tryz.prog 7 #[.agg #[.int .i64 n, .slice Ap pool.length cp, .slice Af forks.length cf]] W fun e w' => Below W.heap.size W w' /\ ∃ A m c, e = .returned (.tuple #[.slice A m c, .bool b]) /\ Kd.C (Kd.int .u8) w' A m bs := by
 unfold putU at hu
 cases hR : rootF n pool forks with
 | true =>
  rw [hR, if_pos rfl] at hu
  simp only [Prod.mk.injEq] at hu
  obtain ⟨rfl, rfl⟩ := hu
  refine (put_R h hR Ap cp Af cf W hrp hcp hrf hcf hT).mono ?_
  rintro e w' ⟨v, rfl, hv, hb⟩
  obtain ⟨A, c, rfl⟩ := Kd.V_slice hv
  exact ⟨hb, A, _, c, rfl, Kd.F_now (Kd.V_F hv)⟩
 | false =>
  rw [hR, if_neg Bool.false_ne_true] at hu
  simp only [Prod.mk.injEq] at hu
  obtain ⟨rfl, rfl⟩ := hu
  refine (put_R_no h hR Ap cp Af cf W hrp hcp hrf hcf).mono ?_
  rintro e w' ⟨rfl, hb⟩
  exact ⟨hb, none, 0, 0, rfl, Kd.C_nil _ _⟩
theorem right_bf {n : Int} {pool : List ByteArray} {forks : List Fk} (h : rootF n pool forks = true) : ∀ f ∈ forks, Bf f := fun f hf => by
 obtain ⟨a, b, c, d, e⟩ := forkB_out ((rootF_out h).1 f hf)
 have h1 := rn_size a
 have h2 := Hello.named_size d
 have h3 := (rightF_out c).1
 have h4 := sizeT_refs (rf_size c)
 have h5 := packs_out b
 have h6 := sizeT_ids (fun s hs => Hello.id_size (h5.2.1 s hs))
 exact ⟨by omega, by omega, by omega, by omega, by show sizeT _ <= _; omega, by omega⟩
theorem rput_U {n : Int} {pool : List ByteArray} {forks : List Fk} (h : SmallR pool forks) {bs : List Int} {b : Bool} (hu : putU n pool forks = (bs, b)) (Ap : Option Addr) (cp : Nat) (Af : Option Addr) (cf : Nat) (W : World) (hrp : Kd.C Kd.string W Ap pool.length pool) (hcp : pool.length <= cp) (hrf : Kd.C k39 W Af forks.length forks) (hcf : forks.length <= cf) :
  Calls Tryz.prog 8 #[.agg #[.int .i64 n, .slice Ap pool.length cp, .slice Af forks.length cf]] W fun e w' => Below W.heap.size W w' /\ ∃ A m c, e = .returned (.tuple #[.slice A m c, .bool b]) /\ Kd.C (Kd.int .u8) w' A m bs := by
 have he := rput_eq n pool forks (by have := h.pl; omega) (fun f hf => by
  have a := h.f f hf
  obtain ⟨s0, s2, _, _⟩ := a.s
  have := a.r
  have := a.p
  omega) (by have := h.l; omega) (fun hR => by
  have ho := rootF_out hR
  have h1 := sizeK_bd forks (right_bf hR)
  have h2 := packs_out ho.2.2.1
  have h3 := sizeT_ids (fun s hs => Hello.id_size (h2.2.1 s hs))
  have := ho.2.2.2
  omega) (show 1000001000 <= 2000000000 by decide)
 have e2 : (if rootF n pool forks = true then (bytesOf (textR n pool forks), true) else ([], false)) = (bs, b) := hu
 rw [e2] at he
 refine (sacristyref10_Put.calls 2000000000 n Ap cp pool Af cf forks bs b W hrp hcp hrf hcf he).mono ?_
 rintro e w' ⟨v, rfl, hv, hb⟩
 obtain ⟨A, c, rfl⟩ := Kd.V_slice hv
 exact ⟨hb, A, _, c, rfl, Kd.F_now (Kd.V_F hv)⟩
theorem two_of {α β : Type} (x : α × β) : ∃ a b, x = (a, b) := ⟨x.1, x.2, rfl⟩
theorem four_of {α β γ δ : Type} (x : α × β × γ × δ) : ∃ a b c d, x = (a, b, c, d) := ⟨x.1, x.2.1, x.2.2.1, x.2.2.2, rfl⟩
theorem rfind_loop (n : Int) (pool : List ByteArray) (forks : List Fk) (s : ByteArray) (hl : forks.length <= 1000000) : ∀ (d i k : Nat), i + d = forks.length -> d + 1 <= k -> sacristyref10_Find.l0 k s (i : Int) n pool forks = some (match root_Find.pos s (forks.drop i) with | none => -1 | some j => ((i + j : Nat) : Int))
 | 0, i, k, hi, hk => by
  obtain ⟨k, rfl⟩ : ∃ m, k = m + 1 := ⟨k - 1, by omega⟩
  rw [sacristyref10_Find.l0, if_neg (by omega), List.drop_eq_nil_of_le (by omega)]
  rfl
 | d + 1, i, k, hi, hk => by
  obtain ⟨k, rfl⟩ : ∃ m, k = m + 1 := ⟨k - 1, by omega⟩
  have h1 : i < forks.length := by omega
  have e1 : wrap64 ((i : Int) + 1) = ((i + 1 : Nat) : Int) := by unfold wrap64; omega
  rw [sacristyref10_Find.l0, if_pos (by omega), if_pos (by omega), rd_fk forks i h1, e1, List.drop_eq_getElem_cons h1]
  simp only [root_Find.pos]
  by_cases c : (forks[i]).f0.toList = s.toList
  ·rw [if_pos c, if_pos c]
   rfl
  ·rw [if_neg c, if_neg c, rfind_loop n pool forks s hl d (i + 1) k (by omega) (by omega)]
   cases root_Find.pos s (forks.drop (i + 1)) with
   | none => rfl
   | some j =>
    show some (((i + 1 + j : Nat) : Int)) = some (((i + (j + 1) : Nat) : Int))
    congr 2
    omega
theorem rfind_eq (n : Int) (pool : List ByteArray) (forks : List Fk) (s : ByteArray) (hl : forks.length <= 1000000) : sacristyref10_Find.f 2000000 n pool forks s = some (root_Find.ix s forks) := by
 have h := rfind_loop n pool forks s hl forks.length 0 2000000 (by omega) (by omega)
 rw [List.drop_zero] at h
 refine h.trans ?_
 unfold root_Find.ix
 congr 1
 cases root_Find.pos s forks with
 | none => rfl
 | some j =>
  show ((0 + j : Nat) : Int) = (j : Int)
  rw [Nat.zero_add]
end Go.Proofs.YtlfenakgphmepaaGreatDoor.Root
