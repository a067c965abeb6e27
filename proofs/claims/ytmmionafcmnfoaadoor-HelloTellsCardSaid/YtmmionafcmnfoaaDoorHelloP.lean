/- What talks begin with, the reference's part: a ref's name. -/
import Derived.Test.YtmmionafcmnfoaaDoorHelloN
namespace Go.Proofs.YtmmionafcmnfoaaDoor.Hello
open Go.RowKit Go.Proofs.YtmmionafcmnfoaaDoorW.PrintWords Go.Proofs.YtmmionafcmnfoaaDoorW.PrintLast Go.Proofs.YtmmionafcmnfoaaDoorW.PrintMore Go.Proofs.YtmmionafcmnfoaaDoor.Conv Go.Proofs.YtmmionafcmnfoaaDoor.Print
theorem index_one (c : UInt8) : ∀ l : List UInt8, Lib.index l [c] = Lib.indexByte l c
 | [] => rfl
 | b :: l => by
  unfold Lib.index Lib.indexByte
  rw [index_one c l]
  have e : [c].isPrefixOf (b :: l) = (b == c) := by
   simp only [List.isPrefixOf, Bool.and_true]
   exact BEq.comm
  rw [e]
theorem bt_get (s : ByteArray) (i : Nat) (h : i < s.size) : bt s (i : Int) = ((s.data.toList[i]'(by simpa using h)).toNat : Int) := by
 rw [<- bt_at s (i : Int) (by rw [Int.toNat_natCast]; exact h)]
 simp only [Int.toNat_natCast]
 rfl
theorem bt_slash (s : ByteArray) (i : Nat) (h : i < s.size) : bt s (i : Int) = 47 <-> s.data.toList[i]? = some 47 := by
 rw [bt_get s i h, List.getElem?_eq_getElem (by simpa using h)]
 constructor
 ·intro e
  have : (s.data.toList[i]'(by simpa using h)).toNat = 47 := by omega
  congr 1
  exact UInt8.toNat_inj.1 this
 ·intro e
  rw [Option.some.inj e]
  rfl
theorem slash_cases (s : ByteArray) : (piecesF s = [s] /\ ∀ x, x < s.size -> bt s (x : Int) ≠ 47) ∨ ∃ e, e < s.size /\ bt s (e : Int) = 47 /\ (∀ x, x < e -> bt s (x : Int) ≠ 47) /\ piecesF s = s.extract 0 e :: piecesF (s.extract (e + 1) s.size) := by
 have hi : Lib.indexB s ⟨#[47]⟩ = Lib.indexByte s.data.toList 47 := index_one 47 s.data.toList
 have hge := Lib.indexByte_ge s.data.toList 47
 by_cases h : Lib.indexByte s.data.toList 47 = -1
 ·left
  exact ⟨pieces_miss s (hi.trans h), fun x hx e => Lib.indexByte_none h x ((bt_slash s x hx).1 e)⟩
 ·right
  obtain ⟨o, ho⟩ : ∃ o : Nat, Lib.indexByte s.data.toList 47 = o := ⟨(Lib.indexByte s.data.toList 47).toNat, by omega⟩
  have h1 := Lib.indexByte_some ho
  have hlt : o < s.size := by
   have := (List.getElem?_eq_some_iff.1 h1.1).1
   simpa using this
  exact ⟨o, hlt, (bt_slash s o hlt).2 h1.1, fun x hx e => h1.2 x hx ((bt_slash s x (by omega)).1 e), pieces_hit s o (hi.trans ho)⟩
theorem part_nil (s : ByteArray) (h : s.size = 0) : partF s = false := by
 unfold partF partEnd
 rw [decide_eq_false (by omega), Bool.false_and, Bool.and_false]
theorem pieces_nil (s : ByteArray) (h : s.size = 0) : piecesF s = [s] := by
 rcases slash_cases s with h1 | ⟨e, h1, _⟩
 ·exact h1.1
 ·omega
def behindF (k n : Nat) (s : ByteArray) (e : Nat) : Option Bool := if (e : Int) = (s.size : Int) - 1 then some false else q9_Named.l0 k ((n : Int) + 1) (s.extract (e + 1) s.size)
def pieceF (n : Nat) (p : ByteArray) : Bool := if n = 0 then firstF p else partF p
theorem mn_next (e m : Nat) (h : e <= m) : (mn ((e : Int) + 1) (m : Int)).toNat = min (e + 1) m /\ 0 <= mn ((e : Int) + 1) (m : Int) /\ mn ((e : Int) + 1) (m : Int) <= (m : Int) := by
 unfold mn
 split <;> omega
theorem extract_min (s : ByteArray) (e : Nat) (h : e <= s.size) : s.extract (min (e + 1) s.size) s.size = s.extract (e + 1) s.size := by
 by_cases c : e + 1 <= s.size
 ·rw [Nat.min_eq_left c]
 ·rw [Nat.min_eq_right (by omega)]
  apply ByteArray.ext
  rw [ByteArray.data_extract, ByteArray.data_extract]
  apply Array.ext'
  simp [List.extract]
  omega
theorem stop_eq (k n : Nat) (s : ByteArray) (e : Nat) (hn : n <= 1000) (hs : s.size <= 1000) (he : e <= s.size) (hk : s.size + 1 <= k) (hx : e < s.size -> bt s (e : Int) = 47) : q9_Named.l1 (k + 1) (n : Int) s (e : Int) = if pieceF n (s.extract 0 e) = true then behindF k n s e else some false := by
 have hw1 : wrap64 ((e : Int) + 1) = (e : Int) + 1 := w64 (by omega) (by omega)
 have hw2 : wrap64 ((s.size : Int) - 1) = (s.size : Int) - 1 := w64 (by omega) (by omega)
 have hw3 : wrap64 ((n : Int) + 1) = (n : Int) + 1 := w64 (by omega) (by omega)
 obtain ⟨m1, m2, m3⟩ := mn_next e s.size he
 have hx1 : s.extract (mn ((e : Int) + 1) (s.size : Int)).toNat s.size = s.extract (e + 1) s.size := by rw [m1, extract_min s e he]
 have hp := part_eq (s.extract 0 e) (by rw [ByteArray.size_extract]; omega) (k := k) (by rw [ByteArray.size_extract]; omega)
 have key : (if (n : Int) = 0 then
   (if (s.extract 0 e).toList = ([104, 101, 97, 100, 115] : List UInt8) then behindF k n s e
    else if (s.extract 0 e).toList = ([116, 97, 103, 115] : List UInt8) then behindF k n s e else some false)
   else (if partF (s.extract 0 e) = true then behindF k n s e else some false)) = if pieceF n (s.extract 0 e) = true then behindF k n s e else some false := by
  unfold pieceF firstF
  by_cases c0 : n = 0
  ·rw [if_pos (by omega), if_pos c0]
   by_cases c1 : (s.extract 0 e).toList = ([104, 101, 97, 100, 115] : List UInt8)
   ·rw [if_pos c1, decide_eq_true (Or.inl c1), if_pos rfl]
   ·rw [if_neg c1]
    by_cases c2 : (s.extract 0 e).toList = ([116, 97, 103, 115] : List UInt8)
    ·rw [if_pos c2, decide_eq_true (Or.inr c2), if_pos rfl]
    ·rw [if_neg c2, decide_eq_false (by simp [c1, c2]), if_neg (by simp)]
  ·rw [if_neg (by omega), if_neg c0]
 rw [<- key]
 by_cases c : e < s.size
 ·simp only [q9_Named.l1, hp, Option.bind_some, hw1, hw2, hw3, hx1, Int.toNat_natCast]
  rw [if_pos (by omega), if_pos (by omega), if_pos (hx c), if_pos (by omega)]
  by_cases c0 : n = 0
  ·subst c0
   simp [m2, m3, behindF]
  ·have c1 : ¬ (n : Int) = 0 := by omega
   have c2 : 0 < n := by omega
   simp [m2, m3, behindF, c0, c2]
 ·simp only [q9_Named.l1, hp, Option.bind_some, hw1, hw2, hw3, hx1, Int.toNat_natCast]
  rw [if_neg (by omega), if_pos (by omega), if_pos (by omega)]
  by_cases c0 : n = 0
  ·subst c0
   simp [m2, m3, behindF]
  ·have c1 : ¬ (n : Int) = 0 := by omega
   have c2 : 0 < n := by omega
   simp [m2, m3, behindF, c0, c2]
theorem scan_eq (n : Nat) (s : ByteArray) (e : Nat) (hn : n <= 1000) (hs : s.size <= 1000) (he : e <= s.size) (hx : e < s.size -> bt s (e : Int) = 47) (hne : ∀ x, x < e -> bt s (x : Int) ≠ 47) : ∀ (d i k : Nat), i + d = e -> s.size + 2 + d <= k ->
  q9_Named.l1 k (n : Int) s (i : Int) = if pieceF n (s.extract 0 e) = true then behindF (k - d - 1) n s e else some false := by
 intro d
 induction d with
 | zero =>
  intro i k hi hk
  obtain ⟨k, rfl⟩ : ∃ j, k = j + 1 := ⟨k - 1, by omega⟩
  obtain rfl : i = e := by omega
  exact stop_eq k n s i hn hs he (by omega) hx
 | succ d ih =>
  intro i k hi hk
  obtain ⟨k, rfl⟩ : ∃ j, k = j + 1 := ⟨k - 1, by omega⟩
  have h := ih (i + 1) k (by omega) (by omega)
  simp only [q9_Named.l1]
  rw [if_pos (by omega), if_pos (by omega), if_neg (hne i (by omega)), w64 (by omega) (by omega), show ((i : Int) + 1) = ((i + 1 : Nat) : Int) by omega, h, show k + 1 - (d + 1) - 1 = k - d - 1 by omega]
theorem named_empty (n : Nat) (s : ByteArray) (hs : s.size = 0) (hn : 1 <= n) {k : Nat} (hk : 2 <= k) : q9_Named.l0 k (n : Int) s = some (decide (2 <= n /\ n <= 4)) := by
 obtain ⟨k, rfl⟩ : ∃ j, k = j + 2 := ⟨k - 2, by omega⟩
 have hf : ((n : Int) == 0) = false := by
  rw [beq_eq_false_iff_ne]
  omega
 simp only [q9_Named.l0, q9_Named.j1]
 rw [if_neg (by omega), hf, if_neg (by simp)]
 by_cases c : 2 <= n
 ·rw [if_pos (by omega)]
  congr 1
  by_cases c2 : n <= 4
  ·rw [decide_eq_true (by omega), decide_eq_true (by omega)]
  ·rw [decide_eq_false (by omega), decide_eq_false (by omega)]
 ·rw [if_neg (by omega), decide_eq_false (by omega)]
theorem first_scan (n : Nat) (s : ByteArray) (e : Nat) (hn : n <= 1000) (hs : s.size <= 1000) (hp : 0 < s.size ∨ n = 0) (he : e <= s.size) (hx : e < s.size -> bt s (e : Int) = 47) (hne : ∀ x, x < e -> bt s (x : Int) ≠ 47) {k : Nat} (hk : s.size + 5 + e <= k) :
  q9_Named.l0 k (n : Int) s = if pieceF n (s.extract 0 e) = true then behindF (k - 2 - e - 1) n s e else some false := by
 obtain ⟨k, rfl⟩ : ∃ j, k = j + 2 := ⟨k - 2, by omega⟩
 have h := scan_eq n s e hn hs he hx hne e 0 k (by omega) (by omega)
 simp only [q9_Named.l0, q9_Named.j1]
 by_cases c : (s.size : Int) > 0
 ·rw [if_pos c, if_pos True.intro]
  exact h
 ·rw [if_neg c]
  have hf : ((n : Int) == 0) = true := by
   rw [beq_iff_eq]
   omega
  rw [hf, if_pos rfl]
  exact h
set_option maxHeartbeats 1000000 in
theorem named_rest : ∀ (m : Nat) (s : ByteArray) (n k : Nat), s.size <= m -> s.size <= 80 -> 1 <= n -> n + s.size <= 200 -> 4 * s.size + 10 <= k -> 0 < s.size -> q9_Named.l0 k (n : Int) s = some ((piecesF s).all partF && decide (2 <= n + (piecesF s).length /\ n + (piecesF s).length <= 4)) := by
 intro m
 induction m with
 | zero => intro s n k hm _ _ _ _ h0; omega
 | succ m ih =>
  intro s n k hm h80 hn hns hk h0
  have hp : ∀ p, pieceF n p = partF p := fun p => if_neg (by omega)
  rcases slash_cases s with ⟨h1, h2⟩ | ⟨e, h1, h2, h3, h4⟩
  ·have hz : (s.extract (s.size + 1) s.size).size = 0 := by rw [ByteArray.size_extract]; omega
   have h5 := named_empty (n + 1) _ hz (by omega) (k := k - 2 - s.size - 1) (by omega)
   have h6 := first_scan n s s.size (by omega) (by omega) (Or.inl h0) (Nat.le_refl _) (fun h => absurd h (Nat.lt_irrefl _)) h2 (k := k) (by omega)
   rw [h6, h1, hp, ByteArray.extract_zero_size]
   by_cases c : partF s = true
   ·have h7 : behindF (k - 2 - s.size - 1) n s s.size = some (decide (2 <= n + 1 /\ n + 1 <= 4)) := by
     unfold behindF
     rw [if_neg (by omega), show ((n : Int) + 1) = ((n + 1 : Nat) : Int) by omega, h5]
    rw [if_pos c, h7]
    simp [c]
   ·rw [if_neg c]
    simp [c]
  ·have h6 := first_scan n s e (by omega) (by omega) (Or.inl h0) (by omega) (fun _ => h2) h3 (k := k) (by omega)
   rw [h6, h4, hp]
   have hz : (s.extract (e + 1) s.size).size = s.size - (e + 1) := by rw [ByteArray.size_extract]; omega
   generalize hr : s.extract (e + 1) s.size = r at hz ⊢
   generalize s.extract 0 e = p
   by_cases c : partF p = true
   ·rw [if_pos c]
    by_cases c2 : e + 1 = s.size
    ·have h7 : behindF (k - 2 - e - 1) n s e = some false := by
      unfold behindF
      rw [if_pos (by omega)]
     rw [h7, pieces_nil r (by omega)]
     simp [part_nil r (by omega)]
    ·have h5 := ih r (n + 1) (k - 2 - e - 1) (by omega) (by omega) (by omega) (by omega) (by omega) (by omega)
     have h7 : behindF (k - 2 - e - 1) n s e = some ((piecesF r).all partF && decide (2 <= n + 1 + (piecesF r).length /\ n + 1 + (piecesF r).length <= 4)) := by
      unfold behindF
      rw [if_neg (by omega), show ((n : Int) + 1) = ((n + 1 : Nat) : Int) by omega, hr, h5]
     rw [h7, List.all_cons, c, Bool.true_and, List.length_cons, show n + 1 + (piecesF r).length = n + ((piecesF r).length + 1) by omega]
   ·rw [if_neg c]
    simp [c]
theorem refn_eq (s : ByteArray) {k : Nat} (hk : 400 <= k) : q9_Named.f k s = some (namedF s) := by
 unfold q9_Named.f namedF
 by_cases h80 : (s.size : Int) > 80
 ·rw [if_pos h80, decide_eq_false (by omega), Bool.false_and]
 rw [if_neg h80, show (0 : Int) = ((0 : Nat) : Int) from rfl]
 have hp : ∀ p, pieceF 0 p = firstF p := fun p => if_pos rfl
 rcases slash_cases s with ⟨h1, h2⟩ | ⟨e, h1, h2, h3, h4⟩
 ·rw [first_scan 0 s s.size (by omega) (by omega) (Or.inr rfl) (Nat.le_refl _) (fun h => absurd h (Nat.lt_irrefl _)) h2 (by omega), h1, hp, decide_eq_false (by simp), Bool.false_and]
  split
  ·unfold behindF
   rw [if_neg (by omega), show (((0 : Nat) : Int) + 1) = ((1 : Nat) : Int) from rfl, named_empty 1 _ (by rw [ByteArray.size_extract]; omega) (by omega) (by omega)]
   rfl
  ·rfl
 ·have h6 := first_scan 0 s e (by omega) (by omega) (Or.inr rfl) (by omega) (fun _ => h2) h3 (k := k) (by omega)
  rw [h6, h4, hp]
  have hr : rdOf ByteArray.empty (s.extract 0 e :: piecesF (s.extract (e + 1) s.size)) ((0 : Nat) : Int) = s.extract 0 e := rfl
  rw [hr, List.drop_succ_cons, List.drop_zero, List.length_cons]
  have hz : (s.extract (e + 1) s.size).size = s.size - (e + 1) := by rw [ByteArray.size_extract]; omega
  clear hr h4
  generalize hr : s.extract (e + 1) s.size = r at hz ⊢
  generalize s.extract 0 e = p
  by_cases c : firstF p = true
  ·rw [if_pos c, c, Bool.true_and]
   by_cases c2 : e + 1 = s.size
   ·have h7 : behindF (k - 2 - e - 1) 0 s e = some false := by
     unfold behindF
     rw [if_pos (by omega)]
    rw [h7, pieces_nil r (by omega)]
    simp [part_nil r (by omega)]
   ·have h5 := named_rest s.size r 1 (k - 2 - e - 1) (by omega) (by omega) (by omega) (by omega) (by omega) (by omega)
    have h7 : behindF (k - 2 - e - 1) 0 s e = some ((piecesF r).all partF && decide (2 <= 1 + (piecesF r).length /\ 1 + (piecesF r).length <= 4)) := by
     unfold behindF
     rw [if_neg (by omega), show (((0 : Nat) : Int) + 1) = ((1 : Nat) : Int) from rfl, hr, h5]
    rw [h7, Bool.and_comm]
    congr 2
    by_cases c3 : 2 <= 1 + (piecesF r).length /\ 1 + (piecesF r).length <= 4
    ·rw [decide_eq_true c3, decide_eq_true (by omega)]
    ·rw [decide_eq_false c3, decide_eq_false (by omega)]
  ·rw [if_neg c]
   simp [c]
end Go.Proofs.YtmmionafcmnfoaaDoor.Hello
