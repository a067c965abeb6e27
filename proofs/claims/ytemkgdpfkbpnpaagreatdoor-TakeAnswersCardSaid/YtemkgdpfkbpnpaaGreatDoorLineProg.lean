/- What the program cuts, puts, joins, and parts are these plain functions. -/
import Derived.Test.YtemkgdpfkbpnpaaGreatDoorLinePure
import Derived.Test.YtemkgdpfkbpnpaaGreatDoorPrint
namespace Go.Proofs.YtemkgdpfkbpnpaaGreatDoor.Line
open Go.RowKit Go.Proofs.YtemkgdpfkbpnpaaGreatDoorW.PrintWords Go.Proofs.YtemkgdpfkbpnpaaGreatDoorW.PrintLast Go.Proofs.YtemkgdpfkbpnpaaGreatDoorW.PrintMore Go.Proofs.YtemkgdpfkbpnpaaGreatDoor.Conv Go.Proofs.YtemkgdpfkbpnpaaGreatDoor.Print
theorem length_step (k : Nat) (x : Int) (l : List Int) (hl : l.length = 4) (i : Nat) (hi : i < 4) (h0 : 0 <= x) (h1 : x <= 4095) (hb : Byte (rd l i)) :
  line_length.l0 (k + 1) x l 4 i = if hexv (rd l i) < 0 then some (-1) else line_length.l0 k (x * 16 + hexv (rd l i)) l 4 ((i + 1 : Nat) : Int) := by
 simp only [line_length.l0]
 rw [if_pos (by omega), if_pos (by omega), if_pos (by omega)]
 simp only [lit_bytes.f, Option.bind_some, bytes_IndexByte.f]
 rw [if_pos (by decide)]
 simp only [Option.bind_some]
 rw [idx _ hb]
 have := hexv_bd (rd l i)
 by_cases h : hexv (rd l i) < 0
 ·rw [if_pos h, if_pos h]
 ·rw [if_neg h, if_neg h, or16 _ _ h0 h1 (by omega) (by omega), w64 (by omega) (by omega)]
  rfl
theorem length_end (k : Nat) (x : Int) (l : List Int) (_hl : l.length = 4) : line_length.l0 (k + 1) x l 4 ((4 : Nat) : Int) = some x := by
 simp only [line_length.l0]
 rw [if_neg (by omega)]
theorem length_eq (a b c d : Int) (t : List Int) (ha : Byte a) (hb : Byte b) (hc : Byte c) (hd : Byte d) {k : Nat} (hk : 5 <= k) : line_length.f k (a :: b :: c :: d :: t) = some (len4 a b c d) := by
 refine at_rounds (line_length.mono _) hk ?_
 unfold line_length.f
 rw [if_pos (by simp; omega)]
 have e : (a :: b :: c :: d :: t).take 4 = [a, b, c, d] := rfl
 rw [e]
 have h4 : [a, b, c, d].length = 4 := rfl
 show line_length.l0 (4 + 1) 0 [a, b, c, d] 4 ((0 : Nat) : Int) = _
 have va := hexv_bd a; have vb := hexv_bd b; have vc := hexv_bd c; have vd := hexv_bd d
 rw [length_step 4 0 _ h4 0 (by omega) (by omega) (by omega) ha]
 simp only [show rd [a, b, c, d] ((0 : Nat) : Int) = a from rfl]
 unfold len4
 by_cases h1 : hexv a < 0
 ·rw [if_pos h1, if_pos (.inl h1)]
 rw [if_neg h1, length_step 3 _ _ h4 1 (by omega) (by omega) (by omega) hb]
 simp only [show rd [a, b, c, d] ((0 + 1 : Nat) : Int) = b from rfl]
 by_cases h2 : hexv b < 0
 ·rw [if_pos h2, if_pos (.inr (.inl h2))]
 rw [if_neg h2, length_step 2 _ _ h4 2 (by omega) (by omega) (by omega) hc]
 simp only [show rd [a, b, c, d] ((2 : Nat) : Int) = c from rfl]
 by_cases h3 : hexv c < 0
 ·rw [if_pos h3, if_pos (.inr (.inr (.inl h3)))]
 rw [if_neg h3, length_step 1 _ _ h4 3 (by omega) (by omega) (by omega) hd]
 simp only [show rd [a, b, c, d] ((3 : Nat) : Int) = d from rfl]
 by_cases h5 : hexv d < 0
 ·rw [if_pos h5, if_pos (.inr (.inr (.inr h5)))]
 rw [if_neg h5, length_end 0 _ _ h4, if_neg (by omega)]
 simp
theorem cut_l : ∀ (n : Nat) (b : List Int) (out : List Ln) (k : Nat), b.length <= n -> Bytes b -> n + 6 <= k -> line_Cut.l k b out = some (out ++ (cutR n b).1, (cutR n b).2.1, (cutR n b).2.2) := by
 intro n
 induction n with
 | zero =>
  intro b out k hb hB hk
  obtain ⟨k, rfl⟩ : ∃ m, k = m + 1 := ⟨k - 1, by omega⟩
  simp only [line_Cut.l]
  rw [if_pos (by omega), cutR_short _ _ (by omega)]
  simp
 | succ n ih =>
  intro b out k hb hB hk
  obtain ⟨k, rfl⟩ : ∃ m, k = m + 1 := ⟨k - 1, by omega⟩
  simp only [line_Cut.l]
  by_cases h4 : b.length < 4
  ·rw [if_pos h4, cutR_short _ _ h4]
   simp
  ·rw [if_neg h4]
   obtain ⟨a, x, c, d, t, rfl⟩ := four b h4
   rw [length_eq a x c d t (hB a (by simp)) (hB x (by simp)) (hB c (by simp)) (hB d (by simp)) (by omega)]
   simp only [Option.bind_some]
   by_cases h1 : len4 a x c d < 0 ∨ (0 < len4 a x c d /\ len4 a x c d <= 4) ∨ 4004 < len4 a x c d
   ·rw [if_pos h1, cutR_bad h1]
    simp
   ·rw [if_neg h1]
    by_cases h2 : ((a :: x :: c :: d :: t).length : Int) < len4 a x c d
    ·rw [if_pos h2, cutR_lack h1 h2]
     simp
    ·rw [if_neg h2]
     by_cases h3 : len4 a x c d = 0
     ·rw [if_pos h3, cutR_flush h3]
      have e : (a :: x :: c :: d :: t).drop 4 = t := rfl
      rw [e, ih t _ k (by simp at hb; omega) (hB.drop 4) (by omega)]
      simp
     ·rw [if_neg h3, cutR_line h1 h2 h3]
      rw [ih _ _ k (by rw [List.length_drop]; simp at hb ⊢; omega) (hB.drop _) (by omega)]
      simp
theorem cut_eq (b : List Int) (hB : Bytes b) (hl : b.length <= 5000000000000) {k : Nat} (hk : b.length + 6 <= k) : line_Cut.f k b = some (cutF b) := by
 unfold line_Cut.f cutF
 rw [cut_l b.length b [] k (Nat.le_refl _) hB hk]
 obtain ⟨h1, h2, h3, h4⟩ := cutB_facts b hB
 simp only [Option.bind_some, List.nil_append]
 change (if (cutB b).1.length * 24 <= 140737488355328 then (if (cutB b).2.2 = 0 then (bytes_Clone.f (cutB b).2.1).bind fun c => some ((cutB b).1, c, 0) else some ([], [], (cutB b).2.2)) else none) = _
 rw [if_pos (by omega)]
 rcases h4 with h4 | h4
 ·rw [if_pos h4, if_pos h4]
  unfold bytes_Clone.f
  rw [if_pos (by omega)]
  rfl
 ·rw [if_neg (by omega), if_neg (by omega), h4]
theorem put_digit (k : Nat) (out : List Int) (x7 : Int) (l : List Ln) (n i : Int) (f0 : Bool) (f1 : ByteArray) (h0 : 0 <= x7) (h1 : x7 <= 65535) (ho : out.length < 100000000000000) (j q : Int) (hj : j = 0 /\ q = 4096 ∨ j = 1 /\ q = 256 ∨ j = 2 /\ q = 16 ∨ j = 3 /\ q = 1) :
  line_Put.l1 (k + 1) out x7 l n i j f0 f1 = line_Put.l1 k (out ++ [hexd (x7 / q % 16)]) x7 l n i (j + 1) f0 f1 := by
 simp only [line_Put.l1]
 have e1 : wrap64 (12 - wrap64 (4 * j)) = 12 - 4 * j := by rw [w64 (x := 4 * j) (by omega) (by omega), w64 (by omega) (by omega)]
 have e2 : wrap64 (j + 1) = j + 1 := w64 (by omega) (by omega)
 have e3 : Go.bits .and .i64 (shr .i64 x7 (12 - 4 * j)) 15 = x7 / q % 16 := dig_and x7 h0 h1 _ _ (by omega)
 rw [if_pos (by omega), e1, e2, e3, if_pos (by omega), if_pos (by omega), if_pos (by omega), if_pos (by omega)]
 rfl
theorem put_inner (k : Nat) (out : List Int) (x7 : Int) (l : List Ln) (n i : Int) (f0 : Bool) (f1 : ByteArray) (h0 : 0 <= x7) (h1 : x7 <= 65535) (ho : out.length + f1.size < 90000000000000) :
  line_Put.l1 (k + 5) out x7 l n i 0 f0 f1 = line_Put.l0 k (out ++ (hex4 x7 ++ bytesOf f1)) l n (wrap64 (i + 1)) := by
 rw [put_digit (k + 4) out x7 l n i f0 f1 h0 h1 (by omega) 0 4096 (by omega), put_digit (k + 3) _ x7 l n i f0 f1 h0 h1 (by simp; omega) _ 256 (by omega), put_digit (k + 2) _ x7 l n i f0 f1 h0 h1 (by simp; omega) _ 16 (by omega), put_digit (k + 1) _ x7 l n i f0 f1 h0 h1 (by simp; omega) _ 1 (by omega)]
 simp only [line_Put.l1]
 rw [if_neg (by omega), if_pos (by simp; omega)]
 have e : hex4 x7 = [hexd (x7 / 4096 % 16), hexd (x7 / 256 % 16), hexd (x7 / 16 % 16), hexd (x7 / 1 % 16)] := by
  unfold hex4
  rw [show x7 / 4096 % 16 = x7 / 4096 by omega, show x7 / 1 = x7 by omega]
 rw [e]
 simp
theorem put_loop (l : List Ln) (hl : l.length <= 1000000000) : ∀ (d i : Nat) (out : List Int) (k : Nat), i + d = l.length -> out.length <= 4004 * i -> 8 * d + 8 <= k ->
  line_Put.l0 k out l (l.length : Int) (i : Int) = some (if (l.drop i).all okL then (out ++ (l.drop i).flatMap encL, 0) else ([], 1)) := by
 intro d
 induction d with
 | zero =>
  intro i out k hi ho hk
  obtain ⟨k, rfl⟩ : ∃ m, k = m + 1 := ⟨k - 1, by omega⟩
  simp only [line_Put.l0]
  rw [if_neg (by omega), List.drop_eq_nil_of_le (by omega)]
  simp
 | succ d ih =>
  intro i out k hi ho hk
  obtain ⟨k, rfl⟩ : ∃ m, k = m + 8 := ⟨k - 8, by omega⟩
  have hlt : i < l.length := by omega
  rw [drop_cons l i hlt]
  have hr := rdT_get l i hlt
  generalize hx : l[i] = x at *
  have hstep : line_Put.l0 (k + 8) out l (l.length : Int) (i : Int) = line_Put.j1 (k + 7) out (x.f1.size : Int) l (l.length : Int) (i : Int) (!okL x) x.f0 x.f1 := by
   simp only [line_Put.l0, hr]
   rw [if_pos (by omega), if_pos (by omega), if_pos (by omega)]
   unfold okL
   by_cases c : (x.f0 != ((x.f1.size : Int) == 0)) = true
   ·rw [if_pos c, c]; rfl
   ·rw [if_neg c, Bool.not_eq_true] at *
    rw [c]; simp
  rw [hstep]
  simp only [line_Put.j1]
  cases hok : okL x with
  | false => simp [hok]
  | true =>
   rw [if_neg (by simp)]
   have hsz := okL_size hok
   have hle := lenL_bd hok
   have hin : (if x.f0 = true then line_Put.j2 (k + 6) out (x.f1.size : Int) l (l.length : Int) (i : Int) x.f0 x.f1 else line_Put.j2 (k + 6) out (wrap64 ((x.f1.size : Int) + 4)) l (l.length : Int) (i : Int) x.f0 x.f1) = line_Put.j2 (k + 6) out (lenL x) l (l.length : Int) (i : Int) x.f0 x.f1 := by
    unfold lenL
    by_cases c : x.f0 = true
    ·have : (x.f1.size : Int) = 0 := by rw [okL_flush hok c]; rfl
     rw [if_pos c, if_pos c, this]
    ·rw [if_neg c, if_neg c, w64 (by omega) (by omega)]
   rw [hin]
   simp only [line_Put.j2]
   rw [put_inner k out (lenL x) l _ _ x.f0 x.f1 hle.1 (by omega) (by omega), w64 (by omega) (by omega)]
   have := ih (i + 1) (out ++ encL x) k (by omega) (by rw [List.length_append, encL_length]; omega) (by omega)
   rw [show ((i : Int) + 1) = ((i + 1 : Nat) : Int) by omega]
   rw [show hex4 (lenL x) ++ bytesOf x.f1 = encL x from rfl, this]
   simp [hok]
theorem put_eq (l : List Ln) (hl : l.length <= 1000000000) {k : Nat} (hk : 8 * l.length + 8 <= k) : line_Put.f k l = some (putF l) := by
 unfold line_Put.f putF
 have := put_loop l hl l.length 0 [] k (by omega) (by simp) hk
 simpa using this
theorem join_loop (l : List Ln) (hl : l.length <= 1000000000000) (hs : sizes l <= 1000000000000) : ∀ (d i : Nat) (out : List Int) (k : Nat), i + d = l.length -> out.length + sizes (l.drop i) <= sizes l -> d + 1 <= k ->
  line_Join.l0 k out l (l.length : Int) (i : Int) = some (out ++ joinF (l.drop i)) := by
 intro d
 induction d with
 | zero =>
  intro i out k hi ho hk
  obtain ⟨k, rfl⟩ : ∃ m, k = m + 1 := ⟨k - 1, by omega⟩
  simp only [line_Join.l0]
  rw [if_neg (by omega), List.drop_eq_nil_of_le (by omega)]
  simp [joinF]
 | succ d ih =>
  intro i out k hi ho hk
  obtain ⟨k, rfl⟩ : ∃ m, k = m + 1 := ⟨k - 1, by omega⟩
  have hlt : i < l.length := by omega
  rw [drop_cons l i hlt] at ho ⊢
  have hr := rdT_get l i hlt
  generalize hx : l[i] = x at *
  have hs2 : sizes (x :: l.drop (i + 1)) = x.f1.size + sizes (l.drop (i + 1)) := by simp [sizes]
  rw [hs2] at ho
  simp only [line_Join.l0, hr]
  repeat rw [if_pos (by omega)]
  rw [w64 (by omega) (by omega)]
  have h1 := ih (i + 1) (out ++ bytesOf x.f1) k (by omega) (by rw [List.length_append, bytesOf_length]; omega) (by omega)
  rw [show ((i : Int) + 1) = ((i + 1 : Nat) : Int) by omega, h1]
  simp [joinF]
theorem join_eq (l : List Ln) (hl : l.length <= 1000000000000) (hs : sizes l <= 1000000000000) {k : Nat} (hk : l.length + 1 <= k) : line_Join.f k l = some (joinF l) := by
 unfold line_Join.f
 have := join_loop l hl hs l.length 0 [] k (by omega) (by simp) hk
 simpa using this
theorem pieces_length (b : List Int) : (pieces b).length = (b.length + 3999) / 4000 := by unfold pieces; simp
theorem pieces_get (b : List Int) (i : Nat) (h : i < (pieces b).length) : (pieces b)[i] = (b.drop (4000 * i)).take 4000 := by
 rw [List.getElem_of_eq (show pieces b = (List.range ((b.length + 3999) / 4000)).map fun i => (b.drop (4000 * i)).take 4000 from rfl) h]
 simp
theorem pieces_cons (b : List Int) (h : b ≠ []) : pieces b = b.take 4000 :: pieces (b.drop 4000) := by
 have hl : 0 < b.length := List.length_pos_iff.2 h
 unfold pieces
 rw [show (b.length + 3999) / 4000 = ((b.drop 4000).length + 3999) / 4000 + 1 by rw [List.length_drop]; omega, List.range_succ_eq_map, List.map_cons, List.map_map]
 congr 1
 refine List.map_congr_left fun i _ => ?_
 simp only [Function.comp, List.drop_drop]
 congr 2
 omega
theorem lineOf_bytes {p : List Int} (h : Bytes p) : bytesOf (lineOf p).f1 = p := bytesOf_strOf h
theorem pieces_join (n : Nat) : ∀ b : List Int, b.length <= n -> Bytes b -> ((pieces b).map lineOf).flatMap (fun x => bytesOf x.f1) = b := by
 induction n with
 | zero => intro b hb _; obtain rfl := List.eq_nil_of_length_eq_zero (Nat.le_zero.1 hb); rfl
 | succ n ih =>
  intro b hb hB
  by_cases h : b = []
  ·subst h; rfl
  ·have hl : 0 < b.length := List.length_pos_iff.2 h
   rw [pieces_cons b h, List.map_cons, List.flatMap_cons, lineOf_bytes (hB.take 4000), ih (b.drop 4000) (by rw [List.length_drop]; omega) (hB.drop 4000), List.take_append_drop]
def partsF (b : List Int) : List Ln := (pieces b).map lineOf ++ [flushL]
theorem parts_eq (b : List Int) (h : b.length < 140737488355328) : line_Parts.f b = some (partsF b) := if_pos h
theorem partsF_length (b : List Int) : (partsF b).length = (b.length + 3999) / 4000 + 1 := by unfold partsF; rw [List.length_append, List.length_map, pieces_length]; rfl
theorem partsF_join (b : List Int) (hB : Bytes b) : joinF (partsF b) = b := by
 unfold joinF partsF
 rw [List.flatMap_append, pieces_join b.length b (Nat.le_refl _) hB]
 simp [flushL, bytesOf]
theorem lineOf_size (p : List Int) : (lineOf p).f1.size = p.length := strOf_size p
theorem lineOf_flush (p : List Int) : (lineOf p).f0 = false := rfl
theorem piece_len (b : List Int) (i : Nat) (h : i < (pieces b).length) : (pieces b)[i].length = min 4000 (b.length - 4000 * i) := by rw [pieces_get, List.length_take, List.length_drop]
theorem piece_ok (b : List Int) (i : Nat) (h : i < (pieces b).length) : okL (lineOf (pieces b)[i]) = true := by
 have h2 := piece_len b i h
 have h3 := h
 rw [pieces_length] at h3
 unfold okL
 rw [lineOf_size, lineOf_flush, h2]
 have h4 : 0 < min 4000 (b.length - 4000 * i) := by omega
 have h5 : min 4000 (b.length - 4000 * i) <= 4000 := by omega
 generalize min 4000 (b.length - 4000 * i) = m at *
 have e1 : (((m : Nat) : Int) == 0) = false := by simp; omega
 have e2 : decide (((m : Nat) : Int) > 4000) = false := by simp; omega
 rw [e1, e2]
 rfl
theorem partsF_ok (b : List Int) : (partsF b).all okL = true := by
 unfold partsF
 rw [List.all_append, Bool.and_eq_true]
 refine ⟨List.all_eq_true.2 fun x hx => ?_, by decide⟩
 obtain ⟨p, hp, rfl⟩ := List.mem_map.1 hx
 obtain ⟨i, hi, rfl⟩ := List.mem_iff_getElem.1 hp
 exact piece_ok b i hi
end Go.Proofs.YtemkgdpfkbpnpaaGreatDoor.Line
