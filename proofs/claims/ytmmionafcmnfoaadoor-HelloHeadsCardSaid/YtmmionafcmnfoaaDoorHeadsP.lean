/- HelloHeads as a plain function answers true. -/
import Derived.Test.YtmmionafcmnfoaaDoorHelloQ
import Derived.Test.YtmmionafcmnfoaaDoorGreat
import Derived.Test.YtmmionafcmnfoaaDoorPHeads
namespace Go.Proofs.YtmmionafcmnfoaaDoor.Hello
open Go.RowKit Go.Proofs.YtmmionafcmnfoaaDoorW.PrintWords Go.Proofs.YtmmionafcmnfoaaDoorW.PrintLast Go.Proofs.YtmmionafcmnfoaaDoorW.PrintMore Go.Proofs.YtmmionafcmnfoaaDoor.Conv Go.Proofs.YtmmionafcmnfoaaDoor.Print
def joinL : List Ln → ByteArray
  | [] => ⟨#[]⟩
  | x :: t => x.f1 ++ joinL t
theorem empty_app (s : ByteArray) : (⟨#[]⟩ : ByteArray) ++ s = s := by
  apply ByteArray.ext
  rw [ByteArray.data_append]
  simp
theorem app_empty (s : ByteArray) : s ++ (⟨#[]⟩ : ByteArray) = s := by
  apply ByteArray.ext
  rw [ByteArray.data_append]
  simp
theorem rput_loop (l : List Rf) (hs : ∀ y ∈ l, y.f0.size ≤ 1000 ∧ y.f1.size ≤ 1000) (hl : l.length ≤ 1000) : ∀ (d i k : Nat) (out : ByteArray), i + d = l.length → out.size ≤ 3000 * i → d + 1 ≤ k →
    sacristyref09_Put.l0 k l out (i : Int) = some (out ++ joinL ((l.drop i).map fun y => lineOf (refT y)), true) := by
  intro d
  induction d with
  | zero =>
    intro i k out hi ho hk
    obtain ⟨k, rfl⟩ : ∃ j, k = j + 1 := ⟨k - 1, by omega⟩
    simp only [sacristyref09_Put.l0]
    rw [if_neg (by omega), List.drop_eq_nil_of_le (by omega)]
    show some (out, true) = some (out ++ (⟨#[]⟩ : ByteArray), true)
    rw [app_empty]
  | succ d ih =>
    intro i k out hi ho hk
    obtain ⟨k, rfl⟩ : ∃ j, k = j + 1 := ⟨k - 1, by omega⟩
    have hlt : i < l.length := by omega
    have h1 := hs l[i] (List.getElem_mem hlt)
    have s1 : ∀ a : ByteArray, (a ++ (⟨#[32]⟩ : ByteArray)).size = a.size + 1 := fun a => by rw [ByteArray.size_append]; rfl
    have s2 : ∀ a : ByteArray, (a ++ (⟨#[10]⟩ : ByteArray)).size = a.size + 1 := fun a => by rw [ByteArray.size_append]; rfl
    simp only [sacristyref09_Put.l0]
    rw [if_pos (by omega), if_pos (by omega), getR l i hlt, if_pos (by omega), if_pos (by rw [ByteArray.size_append]; omega), if_pos (by rw [s1, ByteArray.size_append]; omega), if_pos (by rw [ByteArray.size_append, s1, ByteArray.size_append]; omega), w64 (by omega) (by omega), show ((i : Int) + 1) = ((i + 1 : Nat) : Int) by omega]
    rw [ih (i + 1) k _ (by omega) (by rw [s2, ByteArray.size_append, s1, ByteArray.size_append]; omega) (by omega), List.drop_eq_getElem_cons hlt, List.map_cons]
    show some (_ ++ joinL _, true) = some (out ++ ((((l[i].f1 ++ (⟨#[32]⟩ : ByteArray)) ++ l[i].f0) ++ (⟨#[10]⟩ : ByteArray)) ++ joinL _), true)
    simp only [ByteArray.append_assoc]
theorem rput_eq (l : List Rf) (h : rightF l = true) {k : Nat} (hk : 1100000 ≤ k) : sacristyref09_Put.f k l = some (joinL (l.map fun y => lineOf (refT y)), true) := by
  have h1 := rightGo_out l l none h
  have h2 := rput_loop l (fun y hy => by have h := h1.2 y hy; have := named_size h.1; have := id_size h.2; omega) (by omega) l.length 0 k (⟨#[]⟩ : ByteArray) (by omega) (Nat.zero_le _) (by omega)
  unfold sacristyref09_Put.f
  rw [rright_eq l (by omega) hk, h]
  simp only [Option.bind_some]
  rw [if_pos True.intro, show (0 : Int) = ((0 : Nat) : Int) from rfl, h2, List.drop_zero, empty_app]
theorem rdL_of {l : List Ln} {i : Nat} {x : Ln} (h : l[i]? = some x) : rd_T49 l (i : Int) = x := by
  obtain ⟨h1, h2⟩ := List.getElem?_eq_some_iff.1 h
  rw [getL l i h1, h2]
theorem heads_loop (h0 : Ln) (R : List Ln) (hs : ∀ x ∈ R, x.f1.size ≤ 3000) (hl : R.length ≤ 1000) (a0 J : ByteArray) (ha : a0.size ≤ 1000) (e0 : h0.f1 = (titleT ++ a0) ++ (⟨#[10]⟩ : ByteArray)) (lw lh : List ByteArray) : ∀ (d j k : Nat) (out : ByteArray), j + d = R.length → out.size ≤ 3000 * j → out ++ joinL (R.drop j) = J → d + 1 ≤ k →
    sacristylaw16_HelloHeads.l0 k a0 true (h0 :: (R ++ [flushL])) J true out ((j + 1 : Nat) : Int) lw lh = sacristylaw16_HelloHeads.j2 (k - d - 1) true lw lh := by
  have hlen : (h0 :: (R ++ [flushL])).length = R.length + 2 := by simp
  generalize hL : h0 :: (R ++ [flushL]) = L at hlen ⊢
  have hw : wrap64 ((L.length : Int) - 1) = ((R.length + 1 : Nat) : Int) := by rw [hlen, w64 (by omega) (by omega)]; omega
  have g0 : rd_T49 L 0 = h0 := rdL_of (i := 0) (by rw [← hL]; rfl)
  have g1 : rd_T49 L ((R.length + 1 : Nat) : Int) = flushL := rdL_of (by rw [← hL]; simp)
  have gj : ∀ j (h : j < R.length), rd_T49 L ((j + 1 : Nat) : Int) = R[j] := fun j h => rdL_of (by rw [← hL, List.getElem?_cons_succ, List.getElem?_append_left h, List.getElem?_eq_getElem h])
  clear hL
  intro d
  induction d with
  | zero =>
    intro j k out hj ho he hk
    obtain ⟨k, rfl⟩ : ∃ j, k = j + 1 := ⟨k - 1, by omega⟩
    rw [List.drop_eq_nil_of_le (by omega)] at he
    have he2 : out = J := by rw [← he]; exact (app_empty out).symm
    have t1 : (titleT ++ a0).size = 14 + a0.size := by rw [ByteArray.size_append]; rfl
    simp only [sacristylaw16_HelloHeads.l0]
    rw [show (⟨#[115, 97, 99, 114, 105, 115, 116, 121, 32, 104, 101, 97, 100, 32]⟩ : ByteArray) = titleT from rfl]
    rw [hw, if_neg (by omega), if_pos True.intro, he2, if_pos rfl, if_pos (by omega), if_pos (by omega), if_pos (by omega), g0, if_pos (by rw [e0]), if_pos (by omega), if_pos (by omega), g1, if_pos (show flushL.f0 = true from rfl)]
    rfl
  | succ d ih =>
    intro j k out hj ho he hk
    obtain ⟨k, rfl⟩ : ∃ j, k = j + 1 := ⟨k - 1, by omega⟩
    have hlt : j < R.length := by omega
    have hx := hs R[j] (List.getElem_mem hlt)
    rw [List.drop_eq_getElem_cons hlt] at he
    have h := ih (j + 1) k (out ++ R[j].f1) (by omega) (by rw [ByteArray.size_append]; omega) (by rw [← he, ByteArray.append_assoc]; rfl) (by omega)
    simp only [sacristylaw16_HelloHeads.l0]
    rw [hw, if_pos (by omega), if_pos (by omega), if_pos (by omega), gj j hlt, if_pos (by omega), w64 (by omega) (by omega), show (((j + 1 : Nat) : Int) + 1) = ((j + 1 + 1 : Nat) : Int) by omega, h, show k + 1 - (d + 1) - 1 = k - d - 1 by omega]
theorem word_five (p x : ByteArray) (hp : p.size = 5) : (((p ++ x) ++ (⟨#[10]⟩ : ByteArray)).extract 0 5) = p := by
  rw [ByteArray.append_assoc]
  exact ByteArray.extract_append_eq_left hp.symm
theorem asks_loop (lw lh : List ByteArray) (hw : ∀ s ∈ lw, s.size = 64) (hh : ∀ s ∈ lh, s.size = 64) (h1 : lw.length ≤ 1000) (h2 : lh.length ≤ 1000) : ∀ (d i k : Nat), i + d = lw.length + lh.length → d + 1 ≤ k →
    sacristylaw16_HelloHeads.l1 k true (endsF (asks lw lh)) (i : Int) lw lh = some true := by
  have hlen : (endsF (asks lw lh)).length = lw.length + lh.length + 2 := by rw [ends_len]; simp only [asks, List.length_append, List.length_map, List.length_cons, List.length_nil]
  have ge : endsF (asks lw lh) = lw.map (fun x => lineOf (wantL ++ x)) ++ (lh.map (fun x => lineOf (haveL ++ x)) ++ ([lineOf doneL] ++ [flushL])) := by
    unfold endsF asks
    simp [Function.comp_def]
  have gw : ∀ i (h : i < lw.length), rd_T49 (endsF (asks lw lh)) (i : Int) = lineOf (wantL ++ lw[i]) := fun i h => rdL_of (by rw [ge, List.getElem?_append_left (by simpa using h)]; simp [h])
  have gh : ∀ i (h : i < lh.length), rd_T49 (endsF (asks lw lh)) ((lw.length + i : Nat) : Int) = lineOf (haveL ++ lh[i]) := fun i h => rdL_of (by
    rw [ge, List.getElem?_append_right (by simp), List.getElem?_append_left (by simpa using h)]; simp [h])
  have gd : rd_T49 (endsF (asks lw lh)) ((lw.length + lh.length : Nat) : Int) = lineOf doneL := rdL_of (by
    rw [ge, List.getElem?_append_right (by simp), List.getElem?_append_right (by simp)]; simp)
  have gf : rd_T49 (endsF (asks lw lh)) ((lw.length + lh.length + 1 : Nat) : Int) = flushL := rdL_of (by
    rw [ge, List.getElem?_append_right (by simp; omega), List.getElem?_append_right (by simp; omega)]; simp [show lw.length + lh.length + 1 - lw.length - lh.length = 1 by omega])
  clear ge
  generalize endsF (asks lw lh) = L at *
  have hw2 : wrap64 ((L.length : Int) - 2) = ((lw.length + lh.length : Nat) : Int) := by rw [hlen, w64 (by omega) (by omega)]; omega
  have hw1 : wrap64 ((L.length : Int) - 1) = ((lw.length + lh.length + 1 : Nat) : Int) := by rw [hlen, w64 (by omega) (by omega)]; omega
  intro d
  induction d with
  | zero =>
    intro i k hi hk
    obtain ⟨k, rfl⟩ : ∃ j, k = j + 1 := ⟨k - 1, by omega⟩
    simp only [sacristylaw16_HelloHeads.l1]
    rw [hw2, hw1, if_neg (by omega), if_pos True.intro, if_pos (by omega), if_pos (by omega), gd, if_pos (by rw [Lib.toList_data]; rfl), if_pos (by omega), if_pos (by omega), gf]
    rfl
  | succ d ih =>
    intro i k hi hk
    obtain ⟨k, rfl⟩ : ∃ j, k = j + 1 := ⟨k - 1, by omega⟩
    have h := ih (i + 1) k (by omega) (by omega)
    simp only [sacristylaw16_HelloHeads.l1]
    rw [hw2, if_pos (by omega)]
    by_cases c : i < lw.length
    · have hz : (lineOf (wantL ++ lw[i])).f1.size = 70 := by
        have := hw lw[i] (List.getElem_mem c)
        show ((wantL ++ lw[i]) ++ (⟨#[10]⟩ : ByteArray)).size = 70
        rw [ByteArray.size_append, ByteArray.size_append, this]; rfl
      have hx : ((lineOf (wantL ++ lw[i])).f1.extract 0 5).toList = ([119, 97, 110, 116, 32] : List UInt8) := by
        rw [show (lineOf (wantL ++ lw[i])).f1 = (wantL ++ lw[i]) ++ (⟨#[10]⟩ : ByteArray) from rfl, word_five _ _ rfl, Lib.toList_data]; rfl
      rw [if_pos (by omega), if_pos (by omega), if_pos (by omega), gw i c, if_pos (by omega), if_pos (by omega), if_pos (by omega), if_pos hx, w64 (by omega) (by omega), show ((i : Int) + 1) = ((i + 1 : Nat) : Int) by omega, h]
    · obtain ⟨j, rfl⟩ : ∃ j, i = lw.length + j := ⟨i - lw.length, by omega⟩
      have c2 : j < lh.length := by omega
      have hz : (lineOf (haveL ++ lh[j])).f1.size = 70 := by
        have := hh lh[j] (List.getElem_mem c2)
        show ((haveL ++ lh[j]) ++ (⟨#[10]⟩ : ByteArray)).size = 70
        rw [ByteArray.size_append, ByteArray.size_append, this]; rfl
      have hx : ((lineOf (haveL ++ lh[j])).f1.extract 0 5).toList = ([104, 97, 118, 101, 32] : List UInt8) := by
        rw [show (lineOf (haveL ++ lh[j])).f1 = (haveL ++ lh[j]) ++ (⟨#[10]⟩ : ByteArray) from rfl, word_five _ _ rfl, Lib.toList_data]; rfl
      rw [if_neg (by omega), if_pos (by omega), if_pos (by omega), gh j c2, if_pos (by omega), if_pos (by omega), if_pos (by omega), if_pos hx, w64 (by omega) (by omega), show (((lw.length + j : Nat) : Int) + 1) = ((lw.length + j + 1 : Nat) : Int) by omega, h]
theorem heads_j2 (lw lh : List ByteArray) (hw : lw.length ≤ 200 ∧ ∀ x ∈ lw, x.size ≤ 9000) (hh : lh.length ≤ 200 ∧ ∀ x ∈ lh, x.size ≤ 9000) {k : Nat} (hk : 5000000 ≤ k) : sacristylaw16_HelloHeads.j2 k true lw lh = some true := by
  obtain ⟨k, rfl⟩ : ∃ j, k = j + 1 := ⟨k - 1, by omega⟩
  have he : hello_Ask.f k lw lh = some (askF lw lh) := ask_eq lw lh (by omega) (fun y hy => by have := hw.2 y hy; omega) (fun y hy => by have := hh.2 y hy; omega) (fun y hy => by have := hw.2 y hy; omega) (fun y hy => by have := hh.2 y hy; omega)
  simp only [sacristylaw16_HelloHeads.j2]
  rw [he]
  simp only [Option.bind_some]
  unfold askF
  split
  · rename_i c
    rw [if_pos True.intro]
    have n1 := names_size c.2.1
    have n2 := names_size c.2.2
    exact asks_loop lw lh (fun s h => n1.2 s h) (fun s h => n2.2 s h) (by omega) (by omega) (lw.length + lh.length) 0 k (by omega) (by omega)
  · rfl
theorem heads_eq (a0 : ByteArray) (l : List Rf) (lw lh : List ByteArray) (h1 : l.length ≤ 9223372036854775807) (h2 : lw.length ≤ 9223372036854775807) (h3 : lh.length ≤ 9223372036854775807) {k : Nat} (hk : 8000000 ≤ k) : sacristylaw16_HelloHeads.f k a0 l lw lh = some true := by
  obtain ⟨k, rfl⟩ : ∃ j, k = j + 1 := ⟨k - 1, by omega⟩
  obtain ⟨g1, hg1, hs1⟩ := greatR_eq l (by omega) (k := k + 1) (by omega)
  obtain ⟨g2, hg2, hs2⟩ := greatT_eq lw (by omega) (k := k + 1) (by omega)
  obtain ⟨g3, hg3, hs3⟩ := greatT_eq lh (by omega) (k := k + 1) (by omega)
  have ht : ∀ b : Bool, b = true → sacristylaw16_HelloHeads.j0 (k + 1) a0 l true b lw lh = some true := by
    intro b hb
    simp only [sacristylaw16_HelloHeads.j0]
    rw [if_pos hb]
  unfold sacristylaw16_HelloHeads.f
  rw [show sacristylaw16_head.f = some true from rfl]
  simp only [Option.bind_some]
  rw [hg1]
  simp only [Option.bind_some]
  by_cases c1 : g1 = true
  · rw [if_pos c1, ht true rfl]
  rw [if_neg c1, hg2]
  simp only [Option.bind_some]
  by_cases c2 : g2 = true
  · rw [if_pos c2, ht true rfl]
  rw [if_neg c2, hg3]
  simp only [Option.bind_some]
  by_cases c3 : g3 = true
  · rw [if_pos c3, ht true rfl]
  rw [if_neg c3]
  by_cases c4 : (a0.size : Int) > 1000
  · exact ht _ (decide_eq_true c4)
  rw [decide_eq_false c4]
  have s1 := hs1 (Bool.eq_false_iff.2 c1)
  have s2 := hs2 (Bool.eq_false_iff.2 c2)
  have s3 := hs3 (Bool.eq_false_iff.2 c3)
  have e1 : hello_Told.f k a0 l = some (toldF a0 l) := told_eq a0 l (by omega) (fun y hy => by have := s1.2 y hy; omega) (by omega)
  simp only [sacristylaw16_HelloHeads.j0]
  rw [if_neg (by simp), e1]
  simp only [Option.bind_some]
  by_cases c : namedF a0 = true ∧ rightF l = true
  · have e2 : toldF a0 l = (endsF (toldT a0 l), true) := if_pos c
    rw [e2, if_pos rfl, rput_eq l c.2 (by omega)]
    simp only [Option.bind_some]
    have hr := rightGo_out l l none c.2
    have h4 := heads_loop (lineOf (titleT ++ a0)) (l.map fun y => lineOf (refT y)) (fun x hx => by
      obtain ⟨y, hy, rfl⟩ := List.mem_map.1 hx
      have h := hr.2 y hy
      have h5 := named_size h.1
      have h6 := id_size h.2
      show (refT y ++ (⟨#[10]⟩ : ByteArray)).size ≤ 3000
      rw [ByteArray.size_append, refT_size]
      show y.f1.size + 1 + y.f0.size + 1 ≤ 3000
      omega) (by rw [List.length_map]; omega) a0 _ (by omega) rfl lw lh l.length 0 k (⟨#[]⟩ : ByteArray) (by simp) (Nat.zero_le _) (by rw [List.drop_zero, empty_app]) (by omega)
    have e3 : endsF (toldT a0 l) = lineOf (titleT ++ a0) :: ((l.map fun y => lineOf (refT y)) ++ [flushL]) := by
      unfold endsF toldT
      simp [Function.comp_def]
    rw [e3]
    exact h4.trans (heads_j2 lw lh s2 s3 (by omega))
  · have e2 : toldF a0 l = ([], false) := if_neg c
    rw [e2, if_neg (by simp)]
    exact heads_j2 lw lh s2 s3 (by omega)
end Go.Proofs.YtmmionafcmnfoaaDoor.Hello
