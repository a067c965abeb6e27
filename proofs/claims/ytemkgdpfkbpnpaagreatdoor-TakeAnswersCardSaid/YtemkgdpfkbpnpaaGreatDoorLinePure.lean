/- Lines, as plain functions: what is cut, put, joined, and parted. -/
import Derived.Test.YtemkgdpfkbpnpaaGreatDoorPrint0
import Derived.Test.YtemkgdpfkbpnpaaGreatDoorConv
import Derived.Lib.Bytes
namespace Go.Proofs.YtemkgdpfkbpnpaaGreatDoor.Line
open Go.RowKit Go.Proofs.YtemkgdpfkbpnpaaGreatDoorW.PrintWords Go.Proofs.YtemkgdpfkbpnpaaGreatDoorW.PrintLast Go.Proofs.YtemkgdpfkbpnpaaGreatDoorW.PrintMore Go.Proofs.YtemkgdpfkbpnpaaGreatDoor.Conv Go.Proofs.YtemkgdpfkbpnpaaGreatDoor.Print
abbrev Ln := S65
def Byte (x : Int) : Prop := 0 <= x /\ x <= 255
theorem w64 {x : Int} (h0 : -9223372036854775808 <= x) (h1 : x <= 9223372036854775807) : wrap64 x = x := by unfold wrap64; omega
def hexv (c : Int) : Int := if 48 <= c /\ c <= 57 then c - 48 else if 97 <= c /\ c <= 102 then c - 87 else -1
theorem hexv_bd (c : Int) : -1 <= hexv c /\ hexv c < 16 := by unfold hexv; split; omega; split <;> omega
theorem idx_nat : ∀ n : Fin 256, Lib.indexByte (Lib.bytesOf [48, 49, 50, 51, 52, 53, 54, 55, 56, 57, 97, 98, 99, 100, 101, 102]) (n.val.toUInt8) = hexv n.val := by decide +kernel
theorem idx (c : Int) (h : Byte c) : Lib.indexByte (Lib.bytesOf [48, 49, 50, 51, 52, 53, 54, 55, 56, 57, 97, 98, 99, 100, 101, 102]) c.toNat.toUInt8 = hexv c := by
 have h1 := h.1
 have h2 := h.2
 have := idx_nat ⟨c.toNat, by omega⟩
 simp only at this
 rw [this, Int.toNat_of_nonneg h1]
theorem or16 (x v : Int) (h0 : 0 <= x) (h1 : x <= 4095) (h2 : 0 <= v) (h3 : v < 16) : Go.bits .or .i64 (wrap64 (x * 16)) v = x * 16 + v := by
 rw [w64 (by omega) (by omega)]
 exact bits_join .i64 60 (by decide) (fun n h0 h1 => by rw [IntKind.wrap_i64]; omega) 4 _ _ (by omega) (by omega) (by omega) h2 (by omega) (by omega)
def len4 (a b c d : Int) : Int := if hexv a < 0 ∨ hexv b < 0 ∨ hexv c < 0 ∨ hexv d < 0 then -1 else ((hexv a * 16 + hexv b) * 16 + hexv c) * 16 + hexv d
theorem len4_bd (a b c d : Int) : -1 <= len4 a b c d /\ len4 a b c d <= 65535 := by
 have := hexv_bd a; have := hexv_bd b; have := hexv_bd c; have := hexv_bd d
 unfold len4; split <;> omega
def hexd (n : Int) : Int := bt ⟨#[48, 49, 50, 51, 52, 53, 54, 55, 56, 57, 97, 98, 99, 100, 101, 102]⟩ n
def hex4 (n : Int) : List Int := [hexd (n / 4096), hexd (n / 256 % 16), hexd (n / 16 % 16), hexd (n % 16)]
theorem hexd_nat : ∀ n : Fin 16, hexv (hexd n.val) = n.val /\ 48 <= hexd n.val /\ hexd n.val <= 102 := by decide +kernel
theorem hexv_hexd (n : Int) (h0 : 0 <= n) (h1 : n < 16) : hexv (hexd n) = n := by
 obtain ⟨m, rfl⟩ := Int.eq_ofNat_of_zero_le h0
 exact (hexd_nat ⟨m, by omega⟩).1
theorem hexd_byte (n : Int) (h0 : 0 <= n) (h1 : n < 16) : Byte (hexd n) := by
 obtain ⟨m, rfl⟩ := Int.eq_ofNat_of_zero_le h0
 have := (hexd_nat ⟨m, by omega⟩).2
 simp only at this
 exact ⟨by omega, by omega⟩
theorem hexd_hexv_nat : ∀ c : Fin 256, 0 <= hexv c.val -> hexd (hexv c.val) = c.val := by decide +kernel
theorem hexd_hexv (c : Int) (hc : Byte c) (h : 0 <= hexv c) : hexd (hexv c) = c := by
 have h1 := hc.1
 have h2 := hc.2
 obtain ⟨m, rfl⟩ := Int.eq_ofNat_of_zero_le h1
 exact hexd_hexv_nat ⟨m, by omega⟩ h
theorem hex4_length (n : Int) : (hex4 n).length = 4 := rfl
theorem hex4_byte (n : Int) (h0 : 0 <= n) (h1 : n <= 65535) : ∀ x ∈ hex4 n, Byte x := by
 intro x hx
 simp only [hex4, List.mem_cons, List.not_mem_nil, or_false] at hx
 rcases hx with rfl | rfl | rfl | rfl <;> exact hexd_byte _ (by omega) (by omega)
theorem len4_hex4 (n : Int) (h0 : 0 <= n) (h1 : n <= 65535) : len4 (hexd (n / 4096)) (hexd (n / 256 % 16)) (hexd (n / 16 % 16)) (hexd (n % 16)) = n := by
 unfold len4
 rw [hexv_hexd _ (by omega) (by omega), hexv_hexd _ (by omega) (by omega), hexv_hexd _ (by omega) (by omega), hexv_hexd _ (by omega) (by omega), if_neg (by omega)]
 omega
theorem hex4_len4 (a b c d : Int) (ha : Byte a) (hb : Byte b) (hc : Byte c) (hd : Byte d) (h : 0 <= len4 a b c d) : hex4 (len4 a b c d) = [a, b, c, d] := by
 have va := hexv_bd a; have vb := hexv_bd b; have vc := hexv_bd c; have vd := hexv_bd d
 have hn : ¬ (hexv a < 0 ∨ hexv b < 0 ∨ hexv c < 0 ∨ hexv d < 0) := fun e => by unfold len4 at h; rw [if_pos e] at h; omega
 have e : len4 a b c d = ((hexv a * 16 + hexv b) * 16 + hexv c) * 16 + hexv d := by unfold len4; rw [if_neg hn]
 unfold hex4
 rw [show len4 a b c d / 4096 = hexv a by omega, show len4 a b c d / 256 % 16 = hexv b by omega, show len4 a b c d / 16 % 16 = hexv c by omega, show len4 a b c d % 16 = hexv d by omega,
  hexd_hexv a ha (by omega), hexd_hexv b hb (by omega), hexd_hexv c hc (by omega), hexd_hexv d hd (by omega)]
def badLen (m : Int) : Bool := decide (m < 0 ∨ (0 < m /\ m <= 4) ∨ 4004 < m)
def cutR : Nat -> List Int -> List Ln × List Int × Int
 | n + 1, a :: x :: c :: d :: t =>
  if badLen (len4 a x c d) then ([], a :: x :: c :: d :: t, 3)
  else if ((a :: x :: c :: d :: t).length : Int) < len4 a x c d then ([], a :: x :: c :: d :: t, 0)
  else if len4 a x c d = 0 then (⟨true, ⟨#[]⟩⟩ :: (cutR n t).1, (cutR n t).2)
  else (⟨false, strOfNums (((a :: x :: c :: d :: t).take (len4 a x c d).toNat).drop 4)⟩ :: (cutR n ((a :: x :: c :: d :: t).drop (len4 a x c d).toNat)).1, (cutR n ((a :: x :: c :: d :: t).drop (len4 a x c d).toNat)).2)
 | _, b => ([], b, 0)
theorem cutR_short (n : Nat) (b : List Int) (h : b.length < 4) : cutR n b = ([], b, 0) := by
 unfold cutR
 split
 ·simp at h; omega
 ·rfl
theorem four (b : List Int) (h : ¬ b.length < 4) : ∃ a x c d t, b = a :: x :: c :: d :: t := by
 match b, h with
 | a :: x :: c :: d :: t, _ => exact ⟨a, x, c, d, t, rfl⟩
 | [], h => simp at h
 | [_], h => simp at h
 | [_, _], h => simp at h
 | [_, _, _], h => simp at h
def Bytes (b : List Int) : Prop := ∀ x ∈ b, Byte x
theorem Bytes.drop {b : List Int} (h : Bytes b) (n : Nat) : Bytes (b.drop n) := fun x hx => h x (List.mem_of_mem_drop hx)
theorem Bytes.take {b : List Int} (h : Bytes b) (n : Nat) : Bytes (b.take n) := fun x hx => h x (List.mem_of_mem_take hx)
theorem Bytes.append {a b : List Int} (h : Bytes a) (k : Bytes b) : Bytes (a ++ b) := fun x hx => (List.mem_append.1 hx).elim (h x) (k x)
section
variable {n : Nat} {a x c d : Int} {t : List Int}
theorem badLen_iff (m : Int) : badLen m = true <-> m < 0 ∨ (0 < m /\ m <= 4) ∨ 4004 < m := by unfold badLen; simp
theorem cutR_bad (h : len4 a x c d < 0 ∨ (0 < len4 a x c d /\ len4 a x c d <= 4) ∨ 4004 < len4 a x c d) : cutR (n + 1) (a :: x :: c :: d :: t) = ([], a :: x :: c :: d :: t, 3) := by
 simp only [cutR]
 rw [if_pos ((badLen_iff _).2 h)]
theorem cutR_lack (h : ¬ (len4 a x c d < 0 ∨ (0 < len4 a x c d /\ len4 a x c d <= 4) ∨ 4004 < len4 a x c d)) (h2 : ((a :: x :: c :: d :: t).length : Int) < len4 a x c d) : cutR (n + 1) (a :: x :: c :: d :: t) = ([], a :: x :: c :: d :: t, 0) := by
 simp only [cutR]
 rw [if_neg (fun e => h ((badLen_iff _).1 e)), if_pos h2]
theorem cutR_flush (h3 : len4 a x c d = 0) : cutR (n + 1) (a :: x :: c :: d :: t) = (⟨true, ⟨#[]⟩⟩ :: (cutR n t).1, (cutR n t).2) := by
 simp only [cutR]
 rw [if_neg (fun e => by have := (badLen_iff _).1 e; omega), if_neg (by rw [h3]; simp; omega), if_pos h3]
theorem cutR_line (h : ¬ (len4 a x c d < 0 ∨ (0 < len4 a x c d /\ len4 a x c d <= 4) ∨ 4004 < len4 a x c d)) (h2 : ¬ ((a :: x :: c :: d :: t).length : Int) < len4 a x c d) (h3 : ¬ len4 a x c d = 0) :
  cutR (n + 1) (a :: x :: c :: d :: t) = (⟨false, strOfNums (((a :: x :: c :: d :: t).take (len4 a x c d).toNat).drop 4)⟩ :: (cutR n ((a :: x :: c :: d :: t).drop (len4 a x c d).toNat)).1, (cutR n ((a :: x :: c :: d :: t).drop (len4 a x c d).toNat)).2) := by
 simp only [cutR]
 rw [if_neg (fun e => h ((badLen_iff _).1 e)), if_neg h2, if_neg h3]
end
theorem cutR_more (n : Nat) : ∀ (b : List Int) (m : Nat), b.length <= n -> n <= m -> cutR m b = cutR n b := by
 induction n with
 | zero => intro b m hb _; rw [cutR_short _ _ (by omega), cutR_short _ _ (by omega)]
 | succ n ih =>
  intro b m hb hm
  obtain ⟨m, rfl⟩ : ∃ q, m = q + 1 := ⟨m - 1, by omega⟩
  by_cases h4 : b.length < 4
  ·rw [cutR_short _ _ h4, cutR_short _ _ h4]
  ·obtain ⟨a, x, c, d, t, rfl⟩ := four b h4
   by_cases h1 : len4 a x c d < 0 ∨ (0 < len4 a x c d /\ len4 a x c d <= 4) ∨ 4004 < len4 a x c d
   ·rw [cutR_bad h1, cutR_bad h1]
   ·by_cases h2 : ((a :: x :: c :: d :: t).length : Int) < len4 a x c d
    ·rw [cutR_lack h1 h2, cutR_lack h1 h2]
    ·by_cases h3 : len4 a x c d = 0
     ·rw [cutR_flush h3, cutR_flush h3, ih t m (by simp at hb; omega) (by omega)]
     ·rw [cutR_line h1 h2 h3, cutR_line h1 h2 h3, ih _ m (by rw [List.length_drop]; simp at hb ⊢; omega) (by omega)]
def cutB (b : List Int) : List Ln × List Int × Int := cutR b.length b
theorem cutR_eq (n : Nat) (b : List Int) (h : b.length <= n) : cutR n b = cutB b := cutR_more b.length b n (Nat.le_refl _) h
theorem cutR_facts (n : Nat) : ∀ (b : List Int), b.length <= n -> Bytes b -> (cutR n b).1.length * 4 <= b.length /\ (cutR n b).2.1.length <= b.length /\ Bytes (cutR n b).2.1 /\ ((cutR n b).2.2 = 0 ∨ (cutR n b).2.2 = 3) := by
 induction n with
 | zero => intro b hb hB; rw [cutR_short _ _ (by omega)]; exact ⟨by simp, by simp, hB, .inl rfl⟩
 | succ n ih =>
  intro b hb hB
  by_cases h4 : b.length < 4
  ·rw [cutR_short _ _ h4]; exact ⟨by simp, by simp, hB, .inl rfl⟩
  ·obtain ⟨a, x, c, d, t, rfl⟩ := four b h4
   by_cases h1 : len4 a x c d < 0 ∨ (0 < len4 a x c d /\ len4 a x c d <= 4) ∨ 4004 < len4 a x c d
   ·rw [cutR_bad h1]; exact ⟨by simp, by simp, hB, .inr rfl⟩
   ·by_cases h2 : ((a :: x :: c :: d :: t).length : Int) < len4 a x c d
    ·rw [cutR_lack h1 h2]; exact ⟨by simp, by simp, hB, .inl rfl⟩
    ·by_cases h3 : len4 a x c d = 0
     ·rw [cutR_flush h3]
      obtain ⟨i1, i2, i3, i4⟩ := ih t (by simp at hb; omega) (hB.drop 4)
      exact ⟨by simp; omega, by simp; omega, i3, i4⟩
     ·rw [cutR_line h1 h2 h3]
      obtain ⟨i1, i2, i3, i4⟩ := ih ((a :: x :: c :: d :: t).drop (len4 a x c d).toNat) (by rw [List.length_drop]; simp at hb ⊢; omega) (hB.drop _)
      rw [List.length_drop] at i1 i2
      have h5 : ((a :: x :: c :: d :: t).length : Int) >= len4 a x c d := by omega
      generalize (a :: x :: c :: d :: t).length = L at *
      exact ⟨by simp; omega, by simp; omega, i3, i4⟩
theorem cutB_facts (b : List Int) (hB : Bytes b) : (cutB b).1.length * 4 <= b.length /\ (cutB b).2.1.length <= b.length /\ Bytes (cutB b).2.1 /\ ((cutB b).2.2 = 0 ∨ (cutB b).2.2 = 3) := cutR_facts b.length b (Nat.le_refl _) hB
def cutF (b : List Int) : List Ln × List Int × Int := if (cutB b).2.2 = 0 then ((cutB b).1, (cutB b).2.1, 0) else ([], [], 3)
def okL (x : Ln) : Bool := !((x.f0 != ((x.f1.size : Int) == 0)) || decide ((x.f1.size : Int) > 4000))
def lenL (x : Ln) : Int := if x.f0 = true then 0 else (x.f1.size : Int) + 4
def encL (x : Ln) : List Int := hex4 (lenL x) ++ bytesOf x.f1
def putF (l : List Ln) : List Int × Int := if l.all okL then (l.flatMap encL, 0) else ([], 1)
theorem okL_size {x : Ln} (h : okL x = true) : x.f1.size <= 4000 := by
 unfold okL at h
 simp at h
 omega
theorem okL_flush {x : Ln} (h : okL x = true) (c : x.f0 = true) : x.f1.size = 0 := by
 by_cases e : x.f1.size = 0
 ·exact e
 ·have e2 : ((x.f1.size : Int) == 0) = false := by simpa using e
  unfold okL at h
  rw [c, e2] at h
  simp at h
theorem lenL_bd {x : Ln} (h : okL x = true) : 0 <= lenL x /\ lenL x <= 4004 := by
 have := okL_size h
 unfold lenL; split <;> omega
theorem encL_length (x : Ln) : (encL x).length = 4 + x.f1.size := by unfold encL; rw [List.length_append, hex4_length, bytesOf_length]
theorem rdT_get (l : List Ln) (i : Nat) (h : i < l.length) : rd_T65 l (i : Int) = l[i] := by
 unfold rd_T65
 rw [List.getD_eq_getElem?_getD, show ((i : Int)).toNat = i from rfl, List.getElem?_eq_getElem h]
 rfl
theorem drop_cons (l : List Ln) (i : Nat) (h : i < l.length) : l.drop i = l[i] :: l.drop (i + 1) := List.drop_eq_getElem_cons h
theorem dig_and (x : Int) (h0 : 0 <= x) (h1 : x <= 65535) (s : Int) (q : Int) (hs : s = 12 /\ q = 4096 ∨ s = 8 /\ q = 256 ∨ s = 4 /\ q = 16 ∨ s = 0 /\ q = 1) : Go.bits .and .i64 (shr .i64 x s) 15 = x / q % 16 := by
 have e : shr .i64 x s = x / q := by
  unfold shr
  rcases hs with ⟨rfl, rfl⟩ | ⟨rfl, rfl⟩ | ⟨rfl, rfl⟩ | ⟨rfl, rfl⟩ <;> rfl
 have hq : 0 <= x / q /\ x / q <= 65535 := by
  rcases hs with ⟨rfl, rfl⟩ | ⟨rfl, rfl⟩ | ⟨rfl, rfl⟩ | ⟨rfl, rfl⟩ <;> constructor <;> omega
 rw [e]
 exact bits_mask .i64 60 (by decide) (fun n h0 h1 => by rw [IntKind.wrap_i64]; omega) 4 (by decide) _ hq.1 (by omega)
theorem bytesOf_nil {s : ByteArray} (h : s.size = 0) : bytesOf s = [] := List.eq_nil_of_length_eq_zero (by rw [bytesOf_length]; exact h)
def sizes (l : List Ln) : Nat := (l.map fun x => x.f1.size).sum
def joinF (l : List Ln) : List Int := l.flatMap fun x => bytesOf x.f1
theorem joinF_length (l : List Ln) : (joinF l).length = sizes l := by
 induction l with
 | nil => rfl
 | cons x l ih => simp [joinF, sizes, bytesOf_length] at ih ⊢; try omega
theorem strOf_size (xs : List Int) : (strOfNums xs).size = xs.length := by
 show (strOfNums xs).data.size = _
 simp [strOfNums]
theorem bytesOf_strOf {xs : List Int} (h : Bytes xs) : bytesOf (strOfNums xs) = xs := by
 unfold bytesOf strOfNums
 simp only [List.map_map]
 conv => rhs; rw [<- List.map_id xs]
 refine List.map_congr_left (fun x hx => ?_)
 have h1 := (h x hx).1
 have h2 := (h x hx).2
 simp
 omega
theorem strOf_bytesOf (s : ByteArray) : strOfNums (bytesOf s) = s := by
 apply ByteArray.ext
 apply Array.ext'
 unfold bytesOf strOfNums
 simp only [List.map_map]
 conv => rhs; rw [<- List.map_id s.data.toList]
 refine List.map_congr_left (fun x hx => ?_)
 simp
theorem bytesOf_bytes (s : ByteArray) : Bytes (bytesOf s) := by
 intro x hx
 unfold bytesOf at hx
 obtain ⟨b, _, rfl⟩ := List.mem_map.1 hx
 have := b.toNat_lt
 exact ⟨by omega, by omega⟩
theorem encL_bytes {x : Ln} (h : okL x = true) : Bytes (encL x) := by
 have := lenL_bd h
 exact Bytes.append (hex4_byte _ this.1 (by omega)) (bytesOf_bytes _)
theorem enc_bytes {l : List Ln} (h : l.all okL = true) : Bytes (l.flatMap encL) := by
 intro x hx
 obtain ⟨y, hy, hxy⟩ := List.mem_flatMap.1 hx
 exact encL_bytes (List.all_eq_true.1 h y hy) x hxy
theorem okL_line {x : Ln} (h : okL x = true) (c : ¬ x.f0 = true) : x.f1.size ≠ 0 := by
 intro e
 unfold okL at h
 rw [e] at h
 have : x.f0 = false := by simpa using c
 rw [this] at h
 simp at h
theorem flush_is {x : Ln} (h : okL x = true) (c : x.f0 = true) : x = ⟨true, ⟨#[]⟩⟩ := by
 obtain ⟨f0, f1⟩ := x
 have hs := okL_flush h c
 simp only at c hs
 subst c
 congr 1
 apply ByteArray.ext
 exact Array.eq_empty_of_size_eq_zero hs
theorem cutR_enc (x : Ln) (h : okL x = true) (n : Nat) (t : List Int) : cutR (n + 1) (encL x ++ t) = (x :: (cutR n t).1, (cutR n t).2) := by
 have hb := lenL_bd h
 have e : encL x ++ t = hexd (lenL x / 4096) :: hexd (lenL x / 256 % 16) :: hexd (lenL x / 16 % 16) :: hexd (lenL x % 16) :: (bytesOf x.f1 ++ t) := rfl
 have hl := len4_hex4 (lenL x) hb.1 (by omega)
 rw [e]
 by_cases c : x.f0 = true
 ·have h0 : lenL x = 0 := by unfold lenL; rw [if_pos c]
  rw [cutR_flush (by rw [hl]; exact h0), bytesOf_nil (okL_flush h c), flush_is h c]
  rfl
 ·have hs := okL_line h c
  have hsz := okL_size h
  have h0 : lenL x = (x.f1.size : Int) + 4 := by unfold lenL; rw [if_neg c]
  rw [cutR_line (by rw [hl]; omega) (by rw [hl]; simp [bytesOf_length]; omega) (by rw [hl]; omega), hl]
  have ht : (lenL x).toNat = x.f1.size + 4 := by omega
  have e1 : ∀ (a b c d : Int), (a :: b :: c :: d :: (bytesOf x.f1 ++ t)).drop (x.f1.size + 4) = t := by
   intro a b c d
   simp only [List.drop_succ_cons]
   rw [List.drop_left' (bytesOf_length _)]
  have e2 : ∀ (a b c d : Int), ((a :: b :: c :: d :: (bytesOf x.f1 ++ t)).take (x.f1.size + 4)).drop 4 = bytesOf x.f1 := by
   intro a b c d
   simp only [List.take_succ_cons, List.drop_succ_cons, List.drop_zero]
   rw [List.take_left' (bytesOf_length _)]
  rw [ht, e1, e2, strOf_bytesOf]
  have : x = ⟨false, x.f1⟩ := by
   obtain ⟨f0, f1⟩ := x
   simp only at c
   simp at c
   rw [c]
  rw [<- this]
theorem cutB_enc : ∀ (l : List Ln) (t : List Int), l.all okL = true -> cutB (l.flatMap encL ++ t) = (l ++ (cutB t).1, (cutB t).2)
 | [], t, _ => by simp
 | x :: l, t, h => by
  have hx : okL x = true := List.all_eq_true.1 h x (by simp)
  have hl : l.all okL = true := List.all_eq_true.2 fun y hy => List.all_eq_true.1 h y (by simp [hy])
  have ih := cutB_enc l t hl
  have e : (x :: l).flatMap encL ++ t = encL x ++ (l.flatMap encL ++ t) := by simp
  rw [e]
  have h1 : cutB (encL x ++ (l.flatMap encL ++ t)) = cutR ((l.flatMap encL ++ t).length + x.f1.size + 3 + 1) (encL x ++ (l.flatMap encL ++ t)) :=
   (cutR_eq _ _ (by rw [List.length_append, encL_length]; omega)).symm
  rw [h1, cutR_enc x hx, cutR_eq _ _ (by omega), ih]
  simp
theorem cutB_nil : cutB [] = ([], [], 0) := rfl
theorem cutF_enc (l : List Ln) (h : l.all okL = true) : cutF (l.flatMap encL) = (l, [], 0) := by
 have := cutB_enc l [] h
 rw [List.append_nil, cutB_nil] at this
 unfold cutF
 rw [this]
 simp
theorem cutR_back (n : Nat) : ∀ (b : List Int), b.length <= n -> Bytes b -> (cutR n b).2.2 = 0 -> (cutR n b).1.all okL = true /\ (cutR n b).1.flatMap encL ++ (cutR n b).2.1 = b := by
 induction n with
 | zero => intro b hb hB _; rw [cutR_short _ _ (by omega)]; simp
 | succ n ih =>
  intro b hb hB h0
  by_cases h4 : b.length < 4
  ·rw [cutR_short _ _ h4]; simp
  ·obtain ⟨a, x, c, d, t, rfl⟩ := four b h4
   have lb := len4_bd a x c d
   by_cases h1 : len4 a x c d < 0 ∨ (0 < len4 a x c d /\ len4 a x c d <= 4) ∨ 4004 < len4 a x c d
   ·rw [cutR_bad h1] at h0; simp at h0
   ·have hx4 := hex4_len4 a x c d (hB a (by simp)) (hB x (by simp)) (hB c (by simp)) (hB d (by simp)) (by omega)
    by_cases h2 : ((a :: x :: c :: d :: t).length : Int) < len4 a x c d
    ·rw [cutR_lack h1 h2]; simp
    ·by_cases h3 : len4 a x c d = 0
     ·rw [cutR_flush h3] at h0 ⊢
      obtain ⟨i1, i2⟩ := ih t (by simp at hb; omega) (hB.drop 4) h0
      refine ⟨by rw [List.all_cons, i1]; rfl, ?_⟩
      rw [List.flatMap_cons, List.append_assoc, i2]
      rw [h3] at hx4
      show hex4 0 ++ bytesOf ⟨#[]⟩ ++ t = _
      rw [hx4]
      rfl
     ·rw [cutR_line h1 h2 h3] at h0 ⊢
      obtain ⟨i1, i2⟩ := ih ((a :: x :: c :: d :: t).drop (len4 a x c d).toNat) (by rw [List.length_drop]; simp at hb ⊢; omega) (hB.drop _) h0
      have hz : (strOfNums (((a :: x :: c :: d :: t).take (len4 a x c d).toNat).drop 4)).size = (len4 a x c d).toNat - 4 := by
       rw [strOf_size, List.length_drop, List.length_take]
       omega
      have hlen : lenL ⟨false, strOfNums (((a :: x :: c :: d :: t).take (len4 a x c d).toNat).drop 4)⟩ = len4 a x c d := by
       unfold lenL
       simp only [Bool.false_eq_true, if_false]
       rw [hz]
       omega
      refine ⟨?_, ?_⟩
      ·rw [List.all_cons, i1, Bool.and_true]
       unfold okL
       simp only [hz]
       have c1 : (((len4 a x c d).toNat - 4 : Nat) : Int) ≠ 0 := by omega
       have c2 : ¬ (((len4 a x c d).toNat - 4 : Nat) : Int) > 4000 := by omega
       simp [c2]
       omega
      ·rw [List.flatMap_cons, List.append_assoc, i2]
       unfold encL
       rw [hlen, hx4, bytesOf_strOf ((hB.take _).drop 4)]
       have e : [a, x, c, d] = (a :: x :: c :: d :: t).take 4 := rfl
       have e4 : ((a :: x :: c :: d :: t).take (len4 a x c d).toNat).take 4 = (a :: x :: c :: d :: t).take 4 := by
        rw [List.take_take]; congr 1; omega
       rw [e, <- e4, List.take_append_drop, List.take_append_drop]
theorem cutB_back (b : List Int) (hB : Bytes b) (h : (cutB b).2.2 = 0) : (cutB b).1.all okL = true /\ (cutB b).1.flatMap encL ++ (cutB b).2.1 = b := cutR_back b.length b (Nat.le_refl _) hB h
theorem cutR_two (n : Nat) : ∀ (p q : List Int), p.length <= n ->
  ((cutR n p).2.2 = 0 -> cutB (p ++ q) = ((cutR n p).1 ++ (cutB ((cutR n p).2.1 ++ q)).1, (cutB ((cutR n p).2.1 ++ q)).2)) /\ ((cutR n p).2.2 ≠ 0 -> (cutR n p).2.2 = 3 /\ (cutB (p ++ q)).2.2 = 3) := by
 induction n with
 | zero => intro p q hp; rw [cutR_short _ _ (by omega)]; simp
 | succ n ih =>
  intro p q hp
  by_cases h4 : p.length < 4
  ·rw [cutR_short _ _ h4]; simp
  ·obtain ⟨a, x, c, d, t, rfl⟩ := four p h4
   have lb := len4_bd a x c d
   have eB : ∀ b : List Int, cutB (a :: x :: c :: d :: b) = cutR (b.length + 3 + 1) (a :: x :: c :: d :: b) := fun b => rfl
   have ea : a :: x :: c :: d :: t ++ q = a :: x :: c :: d :: (t ++ q) := rfl
   by_cases h1 : len4 a x c d < 0 ∨ (0 < len4 a x c d /\ len4 a x c d <= 4) ∨ 4004 < len4 a x c d
   ·rw [cutR_bad h1, ea, eB, cutR_bad h1]; simp
   ·by_cases h2 : ((a :: x :: c :: d :: t).length : Int) < len4 a x c d
    ·rw [cutR_lack h1 h2]; simp
    ·by_cases h3 : len4 a x c d = 0
     ·rw [cutR_flush h3, ea, eB, cutR_flush h3, cutR_eq ((t ++ q).length + 3) (t ++ q) (by omega)]
      obtain ⟨i1, i2⟩ := ih t q (by simp at hp; omega)
      refine ⟨fun e => ?_, fun e => i2 e⟩
      rw [i1 e]
      simp
     ·have hle : (len4 a x c d).toNat <= (a :: x :: c :: d :: t).length := by omega
      have h2' : ¬ ((a :: x :: c :: d :: (t ++ q)).length : Int) < len4 a x c d := by
       have : (a :: x :: c :: d :: (t ++ q)).length = (a :: x :: c :: d :: t).length + q.length := by rw [<- ea, List.length_append]
       rw [this]; omega
      rw [cutR_line h1 h2 h3, ea, eB, cutR_line h1 h2' h3, <- ea, List.drop_append_of_le_length hle, List.take_append_of_le_length hle, cutR_eq ((t ++ q).length + 3) ((a :: x :: c :: d :: t).drop (len4 a x c d).toNat ++ q) (by rw [List.length_append, List.length_append, List.length_drop]; simp only [List.length_cons]; omega)]
      obtain ⟨i1, i2⟩ := ih ((a :: x :: c :: d :: t).drop (len4 a x c d).toNat) q (by rw [List.length_drop]; simp at hp ⊢; omega)
      refine ⟨fun e => ?_, fun e => i2 e⟩
      rw [i1 e]
      simp
theorem cutB_two (p q : List Int) : ((cutB p).2.2 = 0 -> cutB (p ++ q) = ((cutB p).1 ++ (cutB ((cutB p).2.1 ++ q)).1, (cutB ((cutB p).2.1 ++ q)).2)) /\ ((cutB p).2.2 ≠ 0 -> (cutB p).2.2 = 3 /\ (cutB (p ++ q)).2.2 = 3) := cutR_two p.length p q (Nat.le_refl _)
theorem joinE_length (l : List Ln) : (l.flatMap encL).length = 4 * l.length + sizes l := by
 induction l with
 | nil => rfl
 | cons x l ih => rw [List.flatMap_cons, List.length_append, ih, encL_length]; simp only [sizes, List.map_cons, List.sum_cons, List.length_cons]; omega
def flushL : Ln := ⟨true, ⟨#[]⟩⟩
end Go.Proofs.YtemkgdpfkbpnpaaGreatDoor.Line
