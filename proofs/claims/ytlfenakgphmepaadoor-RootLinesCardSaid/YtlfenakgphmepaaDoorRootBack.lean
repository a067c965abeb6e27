/- Root's plain law: what a right root's lines are, and that they are read as they were. -/
import Derived.Test.YtlfenakgphmepaaDoorRootDec
import Derived.Test.YtlfenakgphmepaaDoorRootHead
namespace Go.Proofs.YtlfenakgphmepaaDoor.Root
open Go.RowKit Go.Proofs.YtlfenakgphmepaaDoorW.PrintWords Go.Proofs.YtlfenakgphmepaaDoor.Print Go.Proofs.YtlfenakgphmepaaDoor.Build
set_option linter.unusedVariables false
set_option linter.unusedSimpArgs false
theorem bytes_of {s : ByteArray} {Q : Int -> Prop} (h : ∀ j, j < s.size -> Q (bt s (j : Int))) : ∀ b ∈ s.data.toList, Q (b.toNat : Int) := by
 intro b hb
 obtain ⟨j, hj, rfl⟩ := List.mem_iff_getElem.1 hb
 have hz : j < s.size := by rw [Array.length_toList] at hj; exact hj
 have := h j hz
 rw [bt_get s j hz] at this
 exact this
theorem plain_of {c : UInt8} {s : ByteArray} (h : ∀ j, j < s.size -> bt s (j : Int) ≠ (c.toNat : Int)) : plainC c s := fun e => bytes_of (Q := fun z => z ≠ (c.toNat : Int)) h c e rfl
theorem rnFrom_at (s : ByteArray) : ∀ (d i : Nat), rnFrom s d i = true -> ∀ j, i <= j -> j < i + d -> rnB (bt s (j : Int)) = true
 | 0, i, _, j, h1, h2 => by omega
 | d + 1, i, h, j, h1, h2 => by
  unfold rnFrom at h
  rw [Bool.and_eq_true] at h
  by_cases e : j = i
  ·rw [e]; exact h.1
  ·exact rnFrom_at s d (i + 1) h.2 j (by omega) (by omega)
theorem rn_plain {s : ByteArray} (h : rnF s = true) {c : UInt8} (hc : rnB (c.toNat : Int) = false) : plainC c s := by
 unfold rnF at h
 rw [Bool.and_eq_true] at h
 refine plain_of (fun j hj e => ?_)
 have := rnFrom_at s s.size 0 h.1 j (Nat.zero_le _) (by omega)
 rw [e, hc] at this
 cases this
theorem rn_size {s : ByteArray} (h : rnF s = true) : 1 <= s.size /\ s.size <= 20 := by
 unfold rnF rnEnd at h
 rw [Bool.and_eq_true, decide_eq_true_iff] at h
 exact h.2
theorem letFrom_at (s : ByteArray) : ∀ (d i : Nat), Hello.letFrom s d i = true -> ∀ j, i <= j -> j < i + d -> Hello.letB (bt s (j : Int)) = true
 | 0, i, _, j, h1, h2 => by omega
 | d + 1, i, h, j, h1, h2 => by
  unfold Hello.letFrom at h
  rw [Bool.and_eq_true] at h
  by_cases e : j = i
  ·rw [e]; exact h.1
  ·exact letFrom_at s d (i + 1) h.2 j (by omega) (by omega)
theorem part_plain {s : ByteArray} (h : Hello.partF s = true) {c : UInt8} (hc : Hello.letB (c.toNat : Int) = false) : plainC c s := by
 unfold Hello.partF at h
 rw [Bool.and_eq_true] at h
 refine plain_of (fun j hj e => ?_)
 have := letFrom_at s s.size 0 h.1 j (Nat.zero_le _) (by omega)
 rw [e, hc] at this
 cases this
theorem id_plainC {s : ByteArray} (h : Hello.idF s = true) {c : UInt8} (hc : Hello.hexB (c.toNat : Int) = false) : plainC c s := fun e => by
 have h1 := Hello.id_bytes h c e
 have : Hello.hexB (c.toNat : Int) = true := (Hello.hexB_iff _).2 (by omega)
 rw [hc] at this
 cases this
theorem mem_cuts (c : UInt8) : ∀ (n : Nat) (s : ByteArray), s.size <= n -> ∀ b ∈ s.data.toList, b = c ∨ ∃ p ∈ cutsF c s, b ∈ p.data.toList := by
 intro n
 induction n with
 | zero =>
  intro s hs b hb
  have : s.data.toList = [] := List.eq_nil_of_length_eq_zero (by rw [Array.length_toList]; show s.size = 0; omega)
  rw [this] at hb
  cases hb
 | succ n ih =>
  intro s hs b hb
  by_cases h : c ∈ s.data.toList
  ·have hge := Lib.indexByte_ge s.data.toList c
   by_cases hm : Lib.indexByte s.data.toList c = -1
   ·obtain ⟨k, hk, e⟩ := List.mem_iff_getElem.1 h
    exact absurd (by rw [List.getElem?_eq_getElem hk, e]) (Lib.indexByte_none hm k)
   ·obtain ⟨o, ho⟩ : ∃ o : Nat, Lib.indexByte s.data.toList c = o := ⟨(Lib.indexByte s.data.toList c).toNat, by omega⟩
    have h1 := Lib.indexByte_some ho
    have hlt := (List.getElem?_eq_some_iff.1 h1.1).1
    have hz : s.data.toList.length = s.size := by rw [Array.length_toList]; rfl
    have hcut := cuts_at c s o ((indexB_one c s).trans ho)
    have e1 : (s.extract 0 o).data.toList = s.data.toList.take o := by
     rw [ByteArray.data_extract, Array.toList_extract, List.extract_eq_take_drop, List.drop_zero, Nat.sub_zero]
    have e2 : (s.extract (o + 1) s.size).data.toList = s.data.toList.drop (o + 1) := by
     rw [ByteArray.data_extract, Array.toList_extract, List.extract_eq_take_drop, List.take_of_length_le]
     rw [List.length_drop]
     omega
    have hb2 : b ∈ s.data.toList.take o ++ s.data.toList.drop o := by rw [List.take_append_drop]; exact hb
    rw [List.drop_eq_getElem_cons hlt] at hb2
    rcases List.mem_append.1 hb2 with hb2 | hb2
    ·exact Or.inr ⟨_, by rw [hcut]; exact List.mem_cons_self, by rw [e1]; exact hb2⟩
    ·rcases List.mem_cons.1 hb2 with hb2 | hb2
     ·left
      rw [hb2]
      have := h1.1
      rw [List.getElem?_eq_getElem hlt] at this
      exact Option.some.inj this
     ·rcases ih (s.extract (o + 1) s.size) (by rw [ByteArray.size_extract]; omega) b (by rw [e2]; exact hb2) with h3 | ⟨p, hp, h3⟩
      ·exact Or.inl h3
      ·exact Or.inr ⟨p, by rw [hcut]; exact List.mem_cons_of_mem _ hp, h3⟩
  ·exact Or.inr ⟨s, by rw [cuts_miss h]; exact List.mem_singleton.2 rfl, hb⟩
theorem first_plain {p : ByteArray} (h : Hello.firstF p = true) {c : UInt8} (hc : Hello.letB (c.toNat : Int) = false) : plainC c p := by
 unfold Hello.firstF at h
 rw [decide_eq_true_iff, Lib.toList_data] at h
 intro e
 rcases h with h | h <;> rw [h] at e <;> simp only [List.mem_cons, List.not_mem_nil, or_false] at e
 ·rcases e with rfl | rfl | rfl | rfl | rfl <;> exact absurd hc (by decide)
 ·rcases e with rfl | rfl | rfl | rfl <;> exact absurd hc (by decide)
theorem named_plain {s : ByteArray} (h : Hello.namedF s = true) {c : UInt8} (hc : Hello.letB (c.toNat : Int) = false) (hs : c ≠ 47) : plainC c s := by
 unfold Hello.namedF at h
 simp only [Bool.and_eq_true, decide_eq_true_iff] at h
 intro e
 rcases mem_cuts 47 s.size s (Nat.le_refl _) c e with h1 | ⟨p, hp, h1⟩
 ·exact hs h1
 ·have hp' : p ∈ Hello.piecesF s := hp
  obtain ⟨hn, hf, ha⟩ := h
  cases hx : Hello.piecesF s with
  | nil => rw [hx] at hp'; cases hp'
  | cons x t =>
   rw [hx] at hp' hf ha
   rcases List.mem_cons.1 hp' with rfl | hp'
   ·exact first_plain hf hc h1
   ·exact part_plain (List.all_eq_true.1 ha p hp') hc h1
theorem joinA_two (a b : List ByteArray) : ∀ acc : ByteArray, joinA acc (a ++ b) = joinA (joinA acc a) b := by
 induction a with
 | nil => intro acc; rfl
 | cons x t ih => intro acc; exact ih _
def forkLine (f : Fk) : ByteArray := joinS [forkT, f.f0, linkT f.f1, f.f2, itoaB f.f3.length, itoaB f.f4.length]
def forkLs (f : Fk) : List ByteArray := forkLine f :: (f.f3.map Hello.refT ++ f.f4)
def rootLs (n : Int) (pool : List ByteArray) (forks : List Fk) : List ByteArray :=
 joinS [netT, itoaB n] :: joinS [poolT, itoaB pool.length] :: (pool ++ joinS [forksT, itoaB forks.length] :: forks.flatMap forkLs)
theorem textG_lines {P : List Rf -> ByteArray} : ∀ (forks : List Fk) (acc : ByteArray), (∀ f ∈ forks, P f.f3 = joinA ⟨#[]⟩ (f.f3.map Hello.refT)) -> textG P acc forks = joinA acc (forks.flatMap forkLs)
 | [], acc, h => rfl
 | f :: t, acc, h => by
  show textG P (joinA ((acc ++ lineS [forkT, f.f0, linkT f.f1, f.f2, itoaB f.f3.length, itoaB f.f4.length]) ++ P f.f3) f.f4) t = _
  rw [textG_lines t _ (fun g hg => h g (List.mem_cons_of_mem _ hg)), h f List.mem_cons_self, <- joinA_app, List.flatMap_cons, joinA_two]
  congr 1
  show _ = joinA (joinA acc [forkLine f]) (f.f3.map Hello.refT ++ f.f4)
  rw [joinA_two]
  rfl
theorem textP_lines {P : List Rf -> ByteArray} (n : Int) (pool : List ByteArray) (forks : List Fk) (h : ∀ f ∈ forks, P f.f3 = joinA ⟨#[]⟩ (f.f3.map Hello.refT)) : textP P n pool forks = joinA ⟨#[]⟩ (rootLs n pool forks) := by
 unfold textP
 rw [textG_lines forks _ h]
 have e1 : joinA (lineS [netT, itoaB n] ++ lineS [poolT, itoaB pool.length]) pool ++ lineS [forksT, itoaB forks.length] = joinA ⟨#[]⟩ (joinS [netT, itoaB n] :: joinS [poolT, itoaB pool.length] :: (pool ++ [joinS [forksT, itoaB forks.length]])) := by
  show _ = joinA (((⟨#[]⟩ : ByteArray) ++ lineS [netT, itoaB n]) ++ lineS [poolT, itoaB pool.length]) (pool ++ [joinS [forksT, itoaB forks.length]])
  rw [joinA_two, empty_app]
  rfl
 rw [e1, <- joinA_two]
 unfold rootLs
 congr 1
 simp
theorem cuts_joinA {l : List ByteArray} : (∀ s ∈ l, plainC 10 s) -> ∀ t : ByteArray, cutsF 10 (joinA ⟨#[]⟩ l ++ t) = l ++ cutsF 10 t := by
 induction l with
 | nil =>
  intro h t
  show cutsF 10 ((⟨#[]⟩ : ByteArray) ++ t) = _
  rw [empty_app]
  rfl
 | cons x l ih =>
  intro h t
  show cutsF 10 (joinA ((⟨#[]⟩ : ByteArray) ++ (x ++ (⟨#[10]⟩ : ByteArray))) l ++ t) = _
  rw [empty_app, joinA_app, ByteArray.append_assoc, cuts_app (h x List.mem_cons_self), ih (fun s hs => h s (List.mem_cons_of_mem _ hs))]
  rfl
theorem joinG_app (l : List ByteArray) : ∀ a b : ByteArray, joinG (a ++ b) l = a ++ joinG b l := by
 induction l with
 | nil => intro a b; rfl
 | cons y t ih =>
  intro a b
  show joinG (((a ++ b) ++ (⟨#[32]⟩ : ByteArray)) ++ y) t = a ++ joinG ((b ++ (⟨#[32]⟩ : ByteArray)) ++ y) t
  rw [<- ih, ByteArray.append_assoc, ByteArray.append_assoc, ByteArray.append_assoc]
theorem cuts_words : ∀ (x : ByteArray) (l : List ByteArray), (∀ s ∈ x :: l, plainC 32 s) -> cutsF 32 (joinG x l) = x :: l
 | x, [], h => cuts_miss (h x List.mem_cons_self)
 | x, y :: t, h => by
  show cutsF 32 (joinG ((x ++ (⟨#[32]⟩ : ByteArray)) ++ y) t) = _
  rw [joinG_app, cuts_app (h x List.mem_cons_self), cuts_words y t (fun s hs => h s (List.mem_cons_of_mem _ hs))]
theorem plain_joinG {c : UInt8} (hc : c ≠ 32) : ∀ (l : List ByteArray) (x : ByteArray), (∀ s ∈ x :: l, plainC c s) -> plainC c (joinG x l)
 | [], x, h => h x List.mem_cons_self
 | y :: t, x, h => by
  show plainC c (joinG ((x ++ (⟨#[32]⟩ : ByteArray)) ++ y) t)
  refine plain_joinG hc t _ (fun s hs => ?_)
  rcases List.mem_cons.1 hs with rfl | hs
  ·refine plain_app (plain_app (h x List.mem_cons_self) (fun e => ?_)) (h y (List.mem_cons_of_mem _ List.mem_cons_self))
   exact hc (List.mem_singleton.1 e)
  ·exact h s (List.mem_cons_of_mem _ (List.mem_cons_of_mem _ hs))
theorem itoa_plain {n : Int} (h : 0 <= n) {c : UInt8} (hc : c.toNat < 48) : plainC c (itoaB n) := fun e => by
 have := itoa_bytes h c e
 omega
theorem words_line {first : ByteArray} {ws rest : List ByteArray} {many : Nat} (h : ∀ s ∈ first :: ws, plainC 32 s) (hm : ws.length + 1 = many) : wordsF first many (joinS (first :: ws) :: rest) false = (first :: ws, rest, false) := by
 have e : someF 1 (joinS (first :: ws) :: rest) false = ([joinS (first :: ws)], rest, false) := some_ok (by simp)
 have hh : hd0 (joinS (first :: ws) :: rest) = joinG first ws := rfl
 unfold wordsF
 rw [e, hh, cuts_words first ws h, if_neg (show ¬ (false = true) from fun e => Bool.noConfusion e), if_pos ⟨hm, rfl⟩]
end Go.Proofs.YtlfenakgphmepaaDoor.Root
