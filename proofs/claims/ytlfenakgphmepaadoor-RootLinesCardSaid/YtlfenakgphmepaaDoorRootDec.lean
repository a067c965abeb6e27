/- Root's plain law: decimals are heard as they are told; texts are cut where they were joined. -/
import Derived.Test.YtlfenakgphmepaaDoorRootPure
namespace Go.Proofs.YtlfenakgphmepaaDoor.Root
open Go.RowKit Go.Proofs.YtlfenakgphmepaaDoorW.PrintWords Go.Proofs.YtlfenakgphmepaaDoor.Print Go.Proofs.YtlfenakgphmepaaDoor.Build
set_option linter.unusedVariables false
set_option linter.unusedSimpArgs false
def decL : List UInt8 -> Nat -> Int -> Option Int
 | [], _, n => some n
 | b :: t, i, n => if 48 <= (b.toNat : Int) /\ (b.toNat : Int) <= 57 /\ i ≠ 13 then decL t (i + 1) (10 * n + ((b.toNat : Int) - 48)) else none
theorem bt_get (s : ByteArray) (i : Nat) (h : i < s.size) : bt s (i : Int) = ((s.data.toList[i]'(by simpa using h)).toNat : Int) := by
 rw [<- bt_at s (i : Int) (by rw [Int.toNat_natCast]; exact h)]
 simp only [Int.toNat_natCast]
 rfl
theorem decR_list (s : ByteArray) : ∀ (d i : Nat) (n : Int), i + d = s.size -> decR s d i n = decL (s.data.toList.drop i) i n
 | 0, i, n, h => by
  have e : s.data.toList.drop i = [] := List.drop_eq_nil_of_le (by rw [Array.length_toList]; show s.size <= i; omega)
  rw [e]
  rfl
 | d + 1, i, n, h => by
  have hi : i < s.data.toList.length := by rw [Array.length_toList]; show i < s.size; omega
  have hb : bt s (i : Int) = ((s.data.toList[i]).toNat : Int) := bt_get s i (by omega)
  rw [List.drop_eq_getElem_cons hi]
  simp only [decR, decL]
  rw [hb]
  split
  ·exact decR_list s d (i + 1) _ (by omega)
  ·rfl
theorem pow13 : (10 : Nat) ^ 13 = 10000000000000 := by decide
theorem dig_nat {u : Nat} (h : u < 10) : ((UInt8.ofNat (48 + u)).toNat : Int) = 48 + (u : Int) := by
 rw [show (UInt8.ofNat (48 + u)).toNat = (48 + u) % 256 from rfl]
 omega
theorem decL_digits : ∀ (u : Nat) (t : List UInt8), Lib.nDigits u <= 13 -> decL (Lib.decDigits u ++ t) 0 0 = decL t (Lib.nDigits u) (u : Int) := by
 intro u
 induction u using Nat.strongRecOn with
 | _ u ih =>
  intro t hn
  by_cases h : u < 10
  ·rw [Lib.decDigits, dif_pos h, Lib.nDigits_small h]
   show (if _ then _ else _) = _
   rw [dig_nat h, if_pos (by omega)]
   congr 1
   omega
  ·rw [Lib.decDigits, dif_neg h, Lib.nDigits_big h, List.append_assoc, ih (u / 10) (by omega) _ (by rw [Lib.nDigits_big h] at hn; omega)]
   rw [Lib.nDigits_big h] at hn
   show (if _ then _ else _) = _
   rw [dig_nat (Nat.mod_lt u (by decide)), if_pos (by omega)]
   congr 1
   omega
theorem nDigits_le : ∀ (k u : Nat), 1 <= k -> u < 10 ^ k -> Lib.nDigits u <= k
 | 0, u, h, _ => by omega
 | k + 1, u, _, h2 => by
  by_cases h : u < 10
  ·rw [Lib.nDigits_small h]; omega
  ·rw [Lib.nDigits_big h]
   have h0 : 1 <= k := by
    rcases Nat.eq_zero_or_pos k with e | e
    ·subst e; rw [Nat.zero_add, Nat.pow_one] at h2; omega
    ·exact e
   have := nDigits_le k (u / 10) h0 (by rw [Nat.pow_succ] at h2; omega)
   omega
theorem digits_mem : ∀ (u : Nat), ∀ b ∈ Lib.decDigits u, 48 <= b.toNat /\ b.toNat <= 57 := by
 intro u
 induction u using Nat.strongRecOn with
 | _ u ih =>
  intro b hb
  by_cases h : u < 10
  ·rw [Lib.decDigits, dif_pos h] at hb
   have e := List.mem_singleton.1 hb
   have := dig_nat h
   rw [<- e] at this
   omega
  ·rw [Lib.decDigits, dif_neg h] at hb
   rcases List.mem_append.1 hb with hb | hb
   ·exact ih (u / 10) (by omega) b hb
   ·have e := List.mem_singleton.1 hb
    have := dig_nat (Nat.mod_lt u (show 10 > 0 by decide))
    rw [<- e] at this
    omega
theorem itoa_list {n : Int} (h : 0 <= n) : (itoaB n).data.toList = Lib.decDigits n.toNat := by
 unfold itoaB Lib.itoa
 rw [if_neg (by omega)]
theorem itoa_bytes {n : Int} (h : 0 <= n) : ∀ b ∈ (itoaB n).data.toList, 48 <= b.toNat /\ b.toNat <= 57 := by
 rw [itoa_list h]
 exact digits_mem _
theorem dec_itoa {n : Int} (h0 : 0 <= n) (h1 : n <= 1099511627776) : decF (itoaB n) = (n, true) := by
 have hd : decR (itoaB n) (itoaB n).size 0 0 = some n := by
  rw [decR_list _ _ 0 0 (by omega), List.drop_zero, itoa_list h0]
  have := decL_digits n.toNat [] (nDigits_le 13 _ (by decide) (by have := pow13; omega))
  rw [List.append_nil] at this
  rw [this]
  show some _ = some n
  congr 1
  omega
 rw [dec_some hd, if_pos ⟨h1, rfl⟩]
theorem itoa_size {n : Int} (h0 : 0 <= n) (h1 : n <= 1099511627776) : (itoaB n).size <= 13 /\ 1 <= (itoaB n).size := by
 have e : (itoaB n).size = (Lib.decDigits n.toNat).length := by
  rw [<- itoa_list h0, Array.length_toList]
  rfl
 rw [e, Lib.decDigits_length]
 exact ⟨nDigits_le 13 _ (by decide) (by have := pow13; omega), Lib.nDigits_pos _⟩
def plainC (c : UInt8) (s : ByteArray) : Prop := c ∉ s.data.toList
theorem plain_app {c : UInt8} {a b : ByteArray} (ha : plainC c a) (hb : plainC c b) : plainC c (a ++ b) := by
 unfold plainC at *
 rw [ByteArray.data_append, Array.toList_append, List.mem_append]
 exact fun e => e.elim ha hb
theorem plain_nil (c : UInt8) : plainC c (⟨#[]⟩ : ByteArray) := List.not_mem_nil
theorem indexB_one (c : UInt8) (s : ByteArray) : Lib.indexB s ⟨#[c]⟩ = Lib.indexByte s.data.toList c := Lib.index_one _ _
theorem index_miss {c : UInt8} : ∀ {l : List UInt8}, c ∉ l -> Lib.indexByte l c = -1
 | [], _ => rfl
 | b :: l, h => by
  unfold Lib.indexByte
  rw [if_neg (fun e => h (by rw [eq_of_beq e]; exact List.mem_cons_self)), if_pos (by rw [index_miss (fun e => h (List.mem_cons_of_mem _ e))]; rfl)]
theorem cuts_miss {c : UInt8} {s : ByteArray} (h : plainC c s) : cutsF c s = [s] := by
 unfold cutsF
 exact Lib.splitB_miss _ _ _ _ (by rw [indexB_one, index_miss h])
theorem cuts_at (c : UInt8) (s : ByteArray) (i : Nat) (h : Lib.indexB s ⟨#[c]⟩ = i) : cutsF c s = s.extract 0 i :: cutsF c (s.extract (i + 1) s.size) := by
 have hc := Lib.countB_hit s ⟨#[c]⟩ i (Nat.le_refl 1) h
 unfold cutsF
 rw [show Lib.countB s ⟨#[c]⟩ = Lib.countB (s.extract (i + 1) s.size) ⟨#[c]⟩ + 1 from by rw [hc]; show 1 + _ = _; rw [Nat.add_comm]; rfl]
 show (if Lib.indexB s ⟨#[c]⟩ == -1 then [s] else _) = _
 rw [h, if_neg (by simp), Int.toNat_natCast]
 rfl
theorem ba_ext {a b : ByteArray} (h : a.data.toList = b.data.toList) : a = b := ByteArray.ext (Array.toList_inj.1 h)
theorem ext_from (a b : ByteArray) : (a ++ b).extract a.size (a ++ b).size = b := by
 refine ba_ext ?_
 rw [ByteArray.data_extract, Array.toList_extract, List.extract_eq_take_drop, ByteArray.data_append, Array.toList_append]
 have e : a.size = a.data.toList.length := by rw [Array.length_toList]; rfl
 rw [e, List.drop_left, List.take_of_length_le]
 rw [ByteArray.size_append]
 have e2 : b.size = b.data.toList.length := by rw [Array.length_toList]; rfl
 omega
theorem ext_to (a b : ByteArray) : (a ++ b).extract 0 a.size = a := by
 refine ba_ext ?_
 rw [ByteArray.data_extract, Array.toList_extract, List.extract_eq_take_drop, ByteArray.data_append, Array.toList_append]
 have e : a.size = a.data.toList.length := by rw [Array.length_toList]; rfl
 rw [e, List.drop_zero, Nat.sub_zero, List.take_left]
theorem cuts_app {c : UInt8} {a : ByteArray} (h : plainC c a) (t : ByteArray) : cutsF c ((a ++ (⟨#[c]⟩ : ByteArray)) ++ t) = a :: cutsF c t := by
 have hi : Lib.indexB ((a ++ (⟨#[c]⟩ : ByteArray)) ++ t) ⟨#[c]⟩ = (a.size : Int) := by
  rw [indexB_one, ByteArray.data_append, ByteArray.data_append, Array.toList_append, Array.toList_append, List.append_assoc]
  exact (Hello.indexByte_app a.data.toList t.data.toList c h).trans (by rw [Array.length_toList]; rfl)
 rw [cuts_at c _ a.size hi]
 congr 1
 ·rw [ByteArray.append_assoc]
  exact ext_to a _
 ·congr 1
  have e : (a ++ (⟨#[c]⟩ : ByteArray)).size = a.size + 1 := by rw [ByteArray.size_append]; rfl
  rw [<- e]
  exact ext_from _ t
theorem joinA_app (l : List ByteArray) : ∀ acc : ByteArray, joinA acc l = acc ++ joinA ⟨#[]⟩ l := by
 induction l with
 | nil => intro acc; show acc = acc ++ (⟨#[]⟩ : ByteArray); exact (ByteArray.append_empty (b := acc)).symm
 | cons x t ih =>
  intro acc
  show joinA (acc ++ lineS [x]) t = acc ++ joinA ((⟨#[]⟩ : ByteArray) ++ lineS [x]) t
  rw [ih (acc ++ lineS [x]), ih ((⟨#[]⟩ : ByteArray) ++ lineS [x]), ByteArray.append_assoc]
  congr 2
end Go.Proofs.YtlfenakgphmepaaDoor.Root
