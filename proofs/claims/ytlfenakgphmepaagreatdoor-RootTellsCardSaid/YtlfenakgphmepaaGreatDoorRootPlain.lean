/- Root's plain law: what the kept tests answer, at any size. -/
import Derived.Test.YtlfenakgphmepaaGreatDoorRootGet
import Derived.Test.YtlfenakgphmepaaGreatDoorHelloQ
namespace Go.Proofs.YtlfenakgphmepaaGreatDoor.Root
open Go.RowKit YtlfenakgphmepaaGreatDoorW.PrintWords Print Build
set_option linter.unusedVariables false
set_option linter.unusedSimpArgs false
theorem right1_total (x : ByteArray) : ∀ l : List Rf, (∀ y ∈ l, y.f0.size <= 9223372036854775806) -> ∃ b, refs_Right_1.f x l = some b
 | [], _ => ⟨_, rfl⟩
 | y :: t, h => by
  have hy := h y List.mem_cons_self
  obtain ⟨b, hb⟩ := right1_total x t (fun z hz => h z (List.mem_cons_of_mem _ hz))
  simp only [refs_Right_1.f]
  rw [Hello.above_eq y.f0 x (by omega), hb]
  simp only [Option.bind_some]
  split
  all_goals exact ⟨_, rfl⟩
theorem rights_total {M k : Nat} (hM : M <= 4294967280) (hk : M + 1 <= k) (l : List Rf) (hl : ∀ y ∈ l, y.f0.size <= M /\ y.f1.size <= M) : ∀ (t : List Rf) (p : Option ByteArray), (∀ y ∈ t, y.f0.size <= M /\ y.f1.size <= M) -> ∃ b, refs_Right.go k l t p = some b
 | [], _, _ => ⟨_, rfl⟩
 | y :: t, p, h => by
  have hy := h y List.mem_cons_self
  obtain ⟨b, hb⟩ := rights_total hM hk l hl t (some y.f0) (fun z hz => h z (List.mem_cons_of_mem _ hz))
  obtain ⟨c, hc⟩ := right1_total y.f0 l (fun z hz => by have := hl z hz; omega)
  simp only [refs_Right.go]
  rw [Hello.refnamed_eq y.f0 (by omega) (by omega), Hello.digest_eq y.f1 (by omega) (by omega), hc, hb]
  simp only [Option.bind_some]
  repeat' split
  all_goals exact ⟨_, rfl⟩
theorem right_total {M k : Nat} (hM : M <= 4294967280) (hk : M + 1 <= k) (l : List Rf) (hl : ∀ y ∈ l, y.f0.size <= M /\ y.f1.size <= M) : ∃ b, refs_Right.f k l = some b := rights_total hM hk l hl l none hl
def SmF (M : Nat) (f : Fk) : Prop := f.f0.size <= M /\ f.f2.size <= M /\ (∀ y ∈ f.f3, y.f0.size <= M /\ y.f1.size <= M) /\ ∀ s ∈ f.f4, s.size <= M
def cutC (c : UInt8) (s : ByteArray) : ByteArray × ByteArray := if Lib.indexByte s.data.toList c >= 0 then (s.extract 0 (Lib.indexByte s.data.toList c).toNat, s.extract ((Lib.indexByte s.data.toList c).toNat + 1) s.size) else (s, ⟨#[]⟩)
theorem cutC_eq (c : UInt8) (s : ByteArray) (hs : s.size <= 9223372036854775800) : ∃ b, strings_Cut.f s (⟨#[c]⟩ : ByteArray) = some ((cutC c s).1, (cutC c s).2, b) := by
 have e1 : ((⟨#[c]⟩ : ByteArray).size : Int) = 1 := rfl
 have hi : sl_Index.f s (⟨#[c]⟩ : ByteArray) = some (Lib.indexByte s.data.toList c) := by
  unfold sl_Index.f
  exact if_pos rfl
 have hlt := Hello.indexByte_lt s.data.toList c
 rw [Array.length_toList] at hlt
 have hz : s.data.size = s.size := rfl
 unfold strings_Cut.f sl_Cut.f cutC
 rw [hi]
 simp only [Option.bind_some]
 generalize Lib.indexByte s.data.toList c = t at hlt ⊢
 by_cases h : t >= 0
 ·have hw : wrap64 (t + 1) = ((t.toNat + 1 : Nat) : Int) := by unfold wrap64; omega
  rw [e1, hw, if_pos h, if_pos h, if_pos (by omega), if_pos (by omega), if_pos (by omega), if_pos h]
  exact ⟨true, rfl⟩
 ·rw [if_neg h, if_neg h]
  exact ⟨false, rfl⟩
theorem cutC_size (c : UInt8) (s : ByteArray) : (cutC c s).1.size <= s.size /\ (cutC c s).2.size <= s.size /\ (0 < s.size -> (cutC c s).2.size < s.size) := by
 unfold cutC
 split
 ·show (s.extract 0 _).size <= _ /\ (s.extract _ _).size <= _ /\ (_ -> (s.extract _ _).size < _)
  rw [ByteArray.size_extract, ByteArray.size_extract]
  omega
 ·show s.size <= s.size /\ 0 <= s.size /\ (_ -> 0 < _)
  omega
theorem putg_total (B : Nat) : ∀ (l : List Rf) (acc : ByteArray), (∀ y ∈ l, y.f1.size + 1 + y.f0.size + 1 <= B) -> acc.size + l.length * B <= 140737488355328 -> ∃ r, refs_Put.g acc l = some r
 | [], acc, _, _ => ⟨_, rfl⟩
 | y :: t, acc, h, hz => by
  have hy := h y List.mem_cons_self
  rw [List.length_cons, Nat.succ_mul] at hz
  simp only [refs_Put.g]
  rw [if_pos (by omega)]
  refine putg_total B t _ (fun z hz => h z (List.mem_cons_of_mem _ hz)) ?_
  rw [ByteArray.size_append, ByteArray.size_append, ByteArray.size_append, ByteArray.size_append]
  show acc.size + (y.f1.size + 1 + y.f0.size + 1) + _ <= _
  omega
theorem put_total {M k : Nat} (hM : M <= 1000000) (hk : M + 1 <= k) (l : List Rf) (hn : l.length <= 2000000) (hl : ∀ y ∈ l, y.f0.size <= M /\ y.f1.size <= M) : ∃ r, refs_Put.f k l = some r := by
 obtain ⟨b, hb⟩ := right_total (by omega) hk l hl
 obtain ⟨r, hr⟩ := putg_total 2000002 l ⟨#[]⟩ (fun y hy => by have := hl y hy; omega) (by show 0 + _ <= _; omega)
 unfold refs_Put.f
 rw [hb]
 simp only [Option.bind_some]
 split
 ·exact ⟨_, hr⟩
 ·exact ⟨_, rfl⟩
theorem rget_some {M : Nat} (hM : M <= 1000000) (x0 : ByteArray) : ∀ (d : Nat) (x4 : List Rf) (x5 : ByteArray) (k : Nat), x5.size <= d -> d <= M -> M + 2 + d <= k -> x4.length + d <= 2000000 -> (∀ y ∈ x4, y.f0.size <= M /\ y.f1.size <= M) -> ∃ r, refs_Get.l0 k x0 x4 x5 = some r := by
 intro d
 induction d with
 | zero =>
  intro x4 x5 k h0 hd hk hn hl
  obtain ⟨k, rfl⟩ : ∃ m, k = m + 1 := ⟨k - 1, by omega⟩
  obtain ⟨r, hr⟩ := put_total hM (k := k) (by omega) x4 (by omega) hl
  have e : x5.toList = [] := by
   rw [Lib.toList_data]
   exact List.eq_nil_of_length_eq_zero (by rw [Array.length_toList]; show x5.size = 0; omega)
  unfold refs_Get.l0
  rw [if_pos e, hr]
  simp only [Option.bind_some]
  repeat' split
  all_goals exact ⟨_, rfl⟩
 | succ d ih =>
  intro x4 x5 k h0 hd hk hn hl
  obtain ⟨k, rfl⟩ : ∃ m, k = m + 1 := ⟨k - 1, by omega⟩
  by_cases e : x5.toList = []
  ·obtain ⟨r, hr⟩ := put_total hM (k := k) (by omega) x4 (by omega) hl
   unfold refs_Get.l0
   rw [if_pos e, hr]
   simp only [Option.bind_some]
   repeat' split
   all_goals exact ⟨_, rfl⟩
  ·have hp : 0 < x5.size := by
    rcases Nat.eq_zero_or_pos x5.size with h | h
    ·exact absurd (by rw [Lib.toList_data]; exact List.eq_nil_of_length_eq_zero (by rw [Array.length_toList]; exact h)) e
    ·exact h
   obtain ⟨b1, h1⟩ := cutC_eq 10 x5 (by omega)
   have z1 := cutC_size 10 x5
   obtain ⟨b2, h2⟩ := cutC_eq 32 (cutC 10 x5).1 (by omega)
   have z2 := cutC_size 32 (cutC 10 x5).1
   unfold refs_Get.l0
   rw [if_neg e, h1]
   simp only [Option.bind_some]
   rw [h2]
   simp only [Option.bind_some]
   rw [if_pos (by omega)]
   refine ih _ _ k (by have := z1.2.2 hp; omega) (by omega) (by omega) (by rw [List.length_append]; show _ + 1 + _ <= _; omega) (fun y hy => ?_)
   rcases List.mem_append.1 hy with hy | hy
   ·exact hl y hy
   ·obtain rfl := List.mem_singleton.1 hy
    exact ⟨by show (cutC 32 (cutC 10 x5).1).2.size <= M; omega, by show (cutC 32 (cutC 10 x5).1).1.size <= M; omega⟩
theorem rget_total {M k : Nat} (hM : M <= 1000000) (hk : 2 * M + 2 <= k) (t : ByteArray) (ht : t.size <= M) : ∃ r, refs_Get.f k t = some r := rget_some hM t M [] t k ht (Nat.le_refl _) (by omega) (by show 0 + _ <= _; omega) (fun y hy => absurd hy List.not_mem_nil)
end Go.Proofs.YtlfenakgphmepaaGreatDoor.Root
