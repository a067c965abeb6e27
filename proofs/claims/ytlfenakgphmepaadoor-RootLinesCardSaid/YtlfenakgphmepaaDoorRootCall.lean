/- Put and Get, by what they answer: a right root's lines, and the root that lines are. -/
import Derived.Test.YtlfenakgphmepaaDoorRootRead2
namespace Go.Proofs.YtlfenakgphmepaaDoor.Root
open Go.RowKit Go.Proofs.YtlfenakgphmepaaDoorW.PrintWords Go.Proofs.YtlfenakgphmepaaDoor.Print Go.Proofs.YtlfenakgphmepaaDoor.Build
set_option linter.unusedVariables false
set_option linter.unusedSimpArgs false
theorem rget_sm {M : Nat} (hM : M <= 1000000) (x0 : ByteArray) : ∀ (d : Nat) (x4 : List Rf) (x5 : ByteArray) (k : Nat), x5.size <= d -> d <= M -> M + 2 + d <= k -> x4.length + d <= 2000000 -> (∀ y ∈ x4, y.f0.size <= M /\ y.f1.size <= M) -> ∃ r, refs_Get.l0 k x0 x4 x5 = some r /\ ∀ y ∈ r.1, y.f0.size <= M /\ y.f1.size <= M := by
 intro d
 induction d with
 | zero =>
  intro x4 x5 k h0 hd hk hn hl
  obtain ⟨k, rfl⟩ : ∃ m, k = m + 1 := ⟨k - 1, by omega⟩
  obtain ⟨r, hr⟩ := put_total hM (k := k) (by omega) x4 (by omega) hl
  have e : x5.toList = [] := toList_nil.2 (by omega)
  unfold refs_Get.l0
  rw [if_pos e, hr]
  simp only [Option.bind_some]
  repeat' split
  all_goals first | exact ⟨_, rfl, hl⟩ | exact ⟨_, rfl, fun y hy => absurd hy List.not_mem_nil⟩
 | succ d ih =>
  intro x4 x5 k h0 hd hk hn hl
  obtain ⟨k, rfl⟩ : ∃ m, k = m + 1 := ⟨k - 1, by omega⟩
  by_cases e : x5.toList = []
  ·obtain ⟨r, hr⟩ := put_total hM (k := k) (by omega) x4 (by omega) hl
   unfold refs_Get.l0
   rw [if_pos e, hr]
   simp only [Option.bind_some]
   repeat' split
   all_goals first | exact ⟨_, rfl, hl⟩ | exact ⟨_, rfl, fun y hy => absurd hy List.not_mem_nil⟩
  ·have hp : 0 < x5.size := by
    rcases Nat.eq_zero_or_pos x5.size with h | h
    ·exact absurd (toList_nil.2 h) e
    ·exact h
   obtain ⟨b1, h1⟩ := cutC_eq 10 x5 (by omega)
   have z1 := cutC_size 10 x5
   obtain ⟨b2, h2⟩ := cutC_eq 32 (cutC 10 x5).1 (by omega)
   have z2 := cutC_size 32 (cutC 10 x5).1
   unfold refs_Get.l0
   rw [if_neg e, h1]
   simp only [Option.bind_some]
   rw [h2]
   simp only [Option.bind_some]
   rw [if_pos (by omega)]
   refine ih _ _ k (by have := z1.2.2 hp; omega) (by omega) (by omega) (by rw [List.length_append]; show _ + 1 + _ <= _; omega) (fun y hy => ?_)
   rcases List.mem_append.1 hy with hy | hy
   ·exact hl y hy
   ·obtain rfl := List.mem_singleton.1 hy
    exact ⟨by show (cutC 32 (cutC 10 x5).1).2.size <= M; omega, by show (cutC 32 (cutC 10 x5).1).1.size <= M; omega⟩
theorem G0_sm (t : ByteArray) (ht : t.size <= 1000000) : ∀ y ∈ (G0 t).1, y.f0.size <= 1000000 /\ y.f1.size <= 1000000 := by
 obtain ⟨r, hr, hs⟩ := rget_sm (M := 1000000) (Nat.le_refl _) t t.size [] t 3000000 (Nat.le_refl _) ht (by omega) (by show 0 + _ <= _; omega) (fun y hy => absurd hy List.not_mem_nil)
 unfold G0
 rw [show refs_Get.f 3000000 t = some r from hr]
 exact hs
theorem nth_size {l : List ByteArray} {Z i : Nat} (h : ∀ s ∈ l, s.size <= Z) : (nth l i).size <= Z := by
 unfold nth
 by_cases hi : i < l.length
 ·exact h _ (nth_mem hi)
 ·rw [List.getD_eq_getElem?_getD, List.getElem?_eq_none (by omega)]
  exact Nat.zero_le _
theorem forkF_parts (G : ByteArray -> List Rf × Bool) (l : List ByteArray) (e : Bool) : ∃ (w l1 : List ByteArray) (e1 : Bool) (m : Int) (b : Bool) (o : Int) (b2 : Bool) (r1 l2 : List ByteArray) (e2 : Bool) (p l3 : List ByteArray) (e3 : Bool),
  wordsF forkT 6 l e = (w, l1, e1) /\ decF (nth w 4) = (m, b) /\ decF (nth w 5) = (o, b2) /\ someF m.toNat l1 ((e1 || !b) || !b2) = (r1, l2, e2) /\ someF o.toNat l2 (e2 || !(G (joinA ⟨#[]⟩ r1)).2) = (p, l3, e3) /\
   forkF G l e = (⟨nth w 1, (nth w 2).toList == [108, 105, 110, 107, 101, 100], nth w 3, (G (joinA ⟨#[]⟩ r1)).1, p⟩, l3, e3) :=
 ⟨_, _, _, _, _, _, _, _, _, _, _, _, _, rfl, rfl, rfl, rfl, rfl, rfl⟩
theorem forkF_sm (l : List ByteArray) (e : Bool) (hz : sizeT l <= 1000000) : SmF 1000000 (forkF G0 l e).1 := by
 obtain ⟨w, l1, e1, m, b, o, b2, r1, l2, e2, p, l3, e3, h1, h2, h3, h4, h5, h6⟩ := forkF_parts G0 l e
 have a := words_size forkT 6 l e
 have z1 := words_left forkT 6 l e
 have z2 := some_size m.toNat l1 ((e1 || !b) || !b2)
 have z3 := some_size o.toNat l2 (e2 || !(G0 (joinA ⟨#[]⟩ r1)).2)
 rw [h1] at a z1
 rw [h4] at z2
 rw [h5] at z3
 simp only at a z1 z2 z3
 have a' : ∀ s ∈ w, s.size <= 1000000 := fun s hs => Nat.le_trans (a s hs) hz
 rw [h6]
 refine ⟨nth_size a', nth_size a', G0_sm _ ?_, fun s hs => ?_⟩
 ·rw [joinA_size]
  show 0 + _ <= _
  omega
 ·have : s.size + 1 <= sizeT p := sizeT_mem hs
  omega
theorem someF_ok {n : Nat} {l : List ByteArray} {e : Bool} (h : (someF n l e).2.2 = false) : e = false /\ n <= l.length := by
 unfold someF at h
 split at h
 ·cases h
 ·rename_i c
  exact ⟨by cases e <;> simp_all, by omega⟩
theorem words_ok {first : ByteArray} {many : Nat} {l : List ByteArray} {e : Bool} (h : (wordsF first many l e).2.2 = false) : e = false /\ sizeT (wordsF first many l e).2.1 + 1 <= sizeT l := by
 by_cases c : (someF 1 l e).2.2 = true
 ·unfold wordsF at h
  rw [if_pos c] at h
  rw [show (blanks many, (someF 1 l e).2).2.2 = (someF 1 l e).2.2 from rfl, c] at h
  cases h
 ·have c' := Bool.eq_false_iff.2 c
  obtain ⟨rfl, hl⟩ := someF_ok c'
  refine ⟨rfl, ?_⟩
  have e2 : (someF 1 l false).2.1 = l.drop 1 := by rw [some_ok hl]
  have e3 : (wordsF first many l false).2.1 = l.drop 1 := by
   unfold wordsF
   rw [if_neg c]
   split
   ·exact e2
   ·exact e2
  rw [e3]
  cases l with
  | nil => simp at hl
  | cons x t => rw [sizeT_cons]; show sizeT t + 1 <= _; omega
theorem fork_ok {G : ByteArray -> List Rf × Bool} {l : List ByteArray} {e : Bool} (h : (forkF G l e).2.2 = false) : sizeT (forkF G l e).2.1 + 1 <= sizeT l := by
 obtain ⟨w, l1, e1, m, b, o, b2, r1, l2, e2, p, l3, e3, h1, h2, h3, h4, h5, h6⟩ := forkF_parts G l e
 have z2 := some_size m.toNat l1 ((e1 || !b) || !b2)
 have z3 := some_size o.toNat l2 (e2 || !(G (joinA ⟨#[]⟩ r1)).2)
 rw [h4] at z2
 rw [h5] at z3
 rw [h6] at h ⊢
 simp only at z2 z3 h ⊢
 subst h
 have k1 := (someF_ok (n := o.toNat) (l := l2) (by rw [h5])).1
 simp only [Bool.or_eq_false_iff] at k1
 obtain ⟨rfl, _⟩ := k1
 have k2 := (someF_ok (n := m.toNat) (l := l1) (by rw [h4])).1
 simp only [Bool.or_eq_false_iff] at k2
 obtain ⟨⟨rfl, _⟩, _⟩ := k2
 have k3 := (words_ok (first := forkT) (many := 6) (l := l) (e := e) (by rw [h1])).2
 rw [h1] at k3
 simp only at k3
 omega
theorem getL_sm : ∀ (n : Nat) (acc : List Fk) (l : List ByteArray) (e : Bool), sizeT l <= 1000000 -> (∀ f ∈ acc, SmF 1000000 f) -> (∀ f ∈ (getL G0 n acc l e).1, SmF 1000000 f) /\ (getL G0 n acc l e).1.length <= acc.length + sizeT l + 1
 | 0, acc, l, e, hz, h => ⟨h, by show acc.length <= _; omega⟩
 | n + 1, acc, l, e, hz, h => by
  unfold getL
  split
  ·exact ⟨h, by show acc.length <= _; omega⟩
  ·have hl := fork_left G0 l e
   have ih := getL_sm n (acc ++ [(forkF G0 l e).1]) (forkF G0 l e).2.1 (forkF G0 l e).2.2 (by omega) (fun f hf => by
    rcases List.mem_append.1 hf with hf | hf
    ·exact h f hf
    ·rw [List.mem_singleton.1 hf]; exact forkF_sm l e hz)
   refine ⟨ih.1, ?_⟩
   cases hx : (forkF G0 l e).2.2 with
   | false =>
    have h1 := fork_ok hx
    have h2 := ih.2
    rw [hx, List.length_append, List.length_singleton] at h2
    omega
   | true =>
    cases n with
    | zero => show (acc ++ [_]).length <= _; rw [List.length_append, List.length_singleton]; omega
    | succ n =>
     unfold getL
     rw [if_pos rfl]
     show (acc ++ [_]).length <= _
     rw [List.length_append, List.length_singleton]; omega
theorem sizeT_cuts (c : UInt8) : ∀ (n : Nat) (s : ByteArray), s.size <= n -> sizeT (cutsF c s) <= s.size + 1 := by
 intro n
 induction n with
 | zero =>
  intro s hs
  have e : s.data.toList = [] := List.eq_nil_of_length_eq_zero (by rw [Array.length_toList]; show s.size = 0; omega)
  rw [cuts_miss (show plainC c s by unfold plainC; rw [e]; exact List.not_mem_nil), sizeT_cons]
  exact Nat.le_refl _
 | succ n ih =>
  intro s hs
  by_cases h : c ∈ s.data.toList
  ·have hge := Lib.indexByte_ge s.data.toList c
   by_cases hm : Lib.indexByte s.data.toList c = -1
   ·obtain ⟨k, hk, e⟩ := List.mem_iff_getElem.1 h
    exact absurd (by rw [List.getElem?_eq_getElem hk, e]) (Lib.indexByte_none hm k)
   ·obtain ⟨o, ho⟩ : ∃ o : Nat, Lib.indexByte s.data.toList c = o := ⟨(Lib.indexByte s.data.toList c).toNat, by omega⟩
    have hlt := (List.getElem?_eq_some_iff.1 (Lib.indexByte_some ho).1).1
    rw [Array.length_toList] at hlt
    have hlt' : o < s.size := hlt
    rw [cuts_at c s o ((indexB_one c s).trans ho), sizeT_cons, ByteArray.size_extract]
    have := ih (s.extract (o + 1) s.size) (by rw [ByteArray.size_extract]; omega)
    rw [ByteArray.size_extract] at this
    omega
  ·rw [cuts_miss h, sizeT_cons]
   exact Nat.le_refl _
theorem sizeT_ids {l : List ByteArray} (h : ∀ s ∈ l, s.size = 64) : sizeT l = 65 * l.length := by
 induction l with
 | nil => rfl
 | cons x t ih => rw [sizeT_cons, List.length_cons, ih (fun s hs => h s (List.mem_cons_of_mem _ hs)), h x List.mem_cons_self]; omega
theorem sizeT_refs {l : List Rf} (h : ∀ y ∈ l, y.f0.size <= 80 /\ y.f1.size = 64) : sizeT (l.map Hello.refT) <= 146 * l.length := by
 induction l with
 | nil => exact Nat.le_refl _
 | cons x t ih =>
  have a := h x List.mem_cons_self
  have b := ih (fun s hs => h s (List.mem_cons_of_mem _ hs))
  rw [List.map_cons, sizeT_cons, List.length_cons, Hello.refT_size]
  omega
theorem fork_small {f : Fk} (h : forkB f = true) : f.f0.size <= 20 /\ f.f2.size <= 80 /\ (itoaB f.f3.length).size <= 13 /\ (itoaB f.f4.length).size <= 13 /\ (P0 f.f3).size <= 9344 /\ sizeT f.f4 <= 1560 := by
 obtain ⟨a, b, c, d, e⟩ := forkB_out h
 have hl := (rightF_out c).1
 have hp := packs_out b
 refine ⟨(rn_size a).2, Hello.named_size d, (itoa_size (by omega) (by omega)).1, (itoa_size (by omega) (by omega)).1, ?_, ?_⟩
 ·rw [P0_eq c, joinA_size]
  have := sizeT_refs (rf_size c)
  show 0 + _ <= _
  omega
 ·rw [sizeT_ids (fun s hs => Hello.id_size (hp.2.1 s hs))]
  omega
theorem sizeF_small : ∀ (l : List Fk), (∀ f ∈ l, forkB f = true) -> sizeF P0 l <= 12000 * l.length
 | [], _ => Nat.le_refl _
 | f :: t, h => by
  have a := fork_small (h f List.mem_cons_self)
  have b := sizeF_small t (fun g hg => h g (List.mem_cons_of_mem _ hg))
  rw [List.length_cons]
  show 100 + f.f0.size + f.f2.size + (itoaB f.f3.length).size + (itoaB f.f4.length).size + (P0 f.f3).size + sizeT f.f4 + sizeF P0 t <= _
  omega
theorem sizeP_small {n : Int} {pool : List ByteArray} {forks : List Fk} (h : rootF n pool forks = true) : sizeP P0 n pool forks <= 200000 := by
 obtain ⟨hf, hn, hp, hm⟩ := rootF_out h
 have hpo := packs_out hp
 have a := sizeF_small forks hf
 have b := sizeT_ids (fun s hs => Hello.id_size (hpo.2.1 s hs))
 have c := (itoa_size hn.1 hn.2).1
 have d := (itoa_size (n := (pool.length : Int)) (by omega) (by omega)).1
 have e := (itoa_size (n := (forks.length : Int)) (by omega) (by omega)).1
 unfold sizeP
 omega
theorem textG_size (P : List Rf -> ByteArray) : ∀ (l : List Fk) (acc : ByteArray), (textG P acc l).size <= acc.size + sizeF P l
 | [], acc => Nat.le_refl _
 | f :: t, acc => by
  have ih := textG_size P t (joinA ((acc ++ lineS [forkT, f.f0, linkT f.f1, f.f2, itoaB f.f3.length, itoaB f.f4.length]) ++ P f.f3) f.f4)
  have hl := lineS_size [forkT, f.f0, linkT f.f1, f.f2, itoaB f.f3.length, itoaB f.f4.length]
  have hk : (linkT f.f1).size <= 6 := by cases f.f1 <;> decide
  have hfk : forkT.size = 4 := rfl
  rw [sizeT_cons, sizeT_cons, sizeT_cons, sizeT_cons, sizeT_cons, sizeT_cons, hfk] at hl
  have h0 : sizeT [] = 0 := rfl
  rw [joinA_size, ByteArray.size_append, ByteArray.size_append] at ih
  show (textG P _ t).size <= _ + (100 + f.f0.size + f.f2.size + (itoaB f.f3.length).size + (itoaB f.f4.length).size + (P f.f3).size + sizeT f.f4 + sizeF P t)
  omega
theorem textR_size {n : Int} {pool : List ByteArray} {forks : List Fk} (h : rootF n pool forks = true) : (textR n pool forks).size <= 200000 := by
 have hs := sizeP_small h
 unfold textR textP
 have a := textG_size P0 forks (joinA (lineS [netT, itoaB n] ++ lineS [poolT, itoaB pool.length]) pool ++ lineS [forksT, itoaB forks.length])
 have b := lineS_size [netT, itoaB n]
 have c := lineS_size [poolT, itoaB pool.length]
 have d := lineS_size [forksT, itoaB forks.length]
 rw [sizeT_cons, sizeT_cons] at b c d
 have e1 : netT.size = 3 := rfl
 have e2 : poolT.size = 4 := rfl
 have e3 : forksT.size = 5 := rfl
 have h0 : sizeT [] = 0 := rfl
 rw [ByteArray.size_append, joinA_size, ByteArray.size_append] at a
 unfold sizeP at hs
 omega
structure SmR (n : Int) (pool : List ByteArray) (forks : List Fk) : Prop where
 p : ∀ s ∈ pool, s.size <= 1000000
 f : ∀ f ∈ forks, SmF 1000000 f
 l : forks.length <= 900000
theorem SmR.right {n : Int} {pool : List ByteArray} {forks : List Fk} (h : SmR n pool forks) : root_Right.f 3000000 n pool forks = some (rootF n pool forks) := root_eq (Nat.le_refl _) n pool forks h.p h.f h.l (Nat.le_refl _)
theorem put_R_no {n : Int} {pool : List ByteArray} {forks : List Fk} (h : SmR n pool forks) (hb : rootF n pool forks = false) (Ap : Option Addr) (cp : Nat) (Af : Option Addr) (cf : Nat) (W : World) (hrp : Kd.C Kd.string W Ap pool.length pool) (hcp : pool.length <= cp) (hrf : Kd.C k40 W Af forks.length forks) (hcf : forks.length <= cf) :
  Calls Tryd.prog 10 #[.agg #[.int .i64 n, .slice Ap pool.length cp, .slice Af forks.length cf]] W fun e w' => e = .returned (.tuple #[.slice none 0 0, .bool false]) /\ Below W.heap.size W w' :=
 put_no 3000000 n Ap cp pool Af cf forks W hrp hcp hrf hcf (by rw [h.right, hb])
theorem put_R {n : Int} {pool : List ByteArray} {forks : List Fk} (h : SmR n pool forks) (hb : rootF n pool forks = true) (Ap : Option Addr) (cp : Nat) (Af : Option Addr) (cf : Nat) (W : World) (hrp : Kd.C Kd.string W Ap pool.length pool) (hcp : pool.length <= cp) (hrf : Kd.C k40 W Af forks.length forks) (hcf : forks.length <= cf) (hT : Tb W) :
  Calls Tryd.prog 10 #[.agg #[.int .i64 n, .slice Ap pool.length cp, .slice Af forks.length cf]] W fun e w' => ∃ v, e = .returned (.tuple #[v, .bool true]) /\ Kd.V (Kd.int .u8) 5 w' W.heap.size (fun k_ => W.heap.size <= k_) v (bytesOf (textR n pool forks)) /\ Below W.heap.size W w' := by
 have ho := rootF_out hb
 exact put_ok 3000000 n Ap cp pool Af cf forks W hrp hcp hrf hcf (by rw [h.right, hb]) P0 (fun f hf => by
  have := (forkB_out (ho.1 f hf)).2.2.1
  rw [P0_eq this]
  exact ⟨true, put_eq this (by decide)⟩) (by have := sizeP_small hb; omega) ho.2.1.1 (by have := ho.2.1.2; omega) hT
theorem get_R (s : ByteArray) (hs : s.size <= 800000) (A : Option Addr) (n c : Nat) (bs : List Int) (W : World) (hr : Kd.C (Kd.int .u8) W A n bs) (hbs : strOfNums bs = s) (hT : Tb W) :
  Calls Tryd.prog 12 #[.slice A n c] W fun r w' => Below W.heap.size W w' /\
   ((∃ m pl fl, getR s = some (m, pl, fl) /\ ∃ Ap cp Af cf, r = .returned (.tuple #[.agg #[.int .i64 m, .slice Ap pl.length cp, .slice Af fl.length cf], .bool true]) /\ Kd.C Kd.string w' Ap pl.length pl /\ pl.length <= cp /\ Kd.C k40 w' Af fl.length fl /\ fl.length <= cf) ∨
   (getR s = none /\ r = .returned (.tuple #[.agg #[.int .i64 0, .slice none 0 0, .slice none 0 0], .bool false]))) := by
 have hz := sizeT_cuts 10 s.size s (Nat.le_refl _)
 obtain ⟨w1, l1, e1, h1⟩ : ∃ w l e, wordsF netT 2 (cutsF 10 s) false = (w, l, e) := ⟨_, _, _, rfl⟩
 have z1 := words_left netT 2 (cutsF 10 s) false
 rw [h1] at z1
 have d1 : ∃ (m : Nat) (b : Bool), decF (nth w1 1) = ((m : Int), b) := ⟨(decF (nth w1 1)).1.toNat, (decF (nth w1 1)).2, by have := (decF_bd (nth w1 1)).1; rw [Int.toNat_of_nonneg this]⟩
 obtain ⟨m1, b1, d1⟩ := d1
 obtain ⟨w2, l2, e2, h2⟩ : ∃ w l e, wordsF poolT 2 l1 (e1 || !b1) = (w, l, e) := ⟨_, _, _, rfl⟩
 have z2 := words_left poolT 2 l1 (e1 || !b1)
 rw [h2] at z2
 have d2 : ∃ (m : Nat) (b : Bool), decF (nth w2 1) = ((m : Int), b) := ⟨(decF (nth w2 1)).1.toNat, (decF (nth w2 1)).2, by have := (decF_bd (nth w2 1)).1; rw [Int.toNat_of_nonneg this]⟩
 obtain ⟨m2, b2, d2⟩ := d2
 obtain ⟨pl, l3, e3, h3⟩ : ∃ w l e, someF m2 l2 (e2 || !b2) = (w, l, e) := ⟨_, _, _, rfl⟩
 have z3 := some_size m2 l2 (e2 || !b2)
 rw [h3] at z3
 obtain ⟨w3, l4, e4, h4⟩ : ∃ w l e, wordsF forksT 2 l3 e3 = (w, l, e) := ⟨_, _, _, rfl⟩
 have z4 := words_left forksT 2 l3 e3
 rw [h4] at z4
 have d3 : ∃ (m : Nat) (b : Bool), decF (nth w3 1) = ((m : Int), b) := ⟨(decF (nth w3 1)).1.toNat, (decF (nth w3 1)).2, by have := (decF_bd (nth w3 1)).1; rw [Int.toNat_of_nonneg this]⟩
 obtain ⟨m3, b3, d3⟩ := d3
 obtain ⟨fl, e, h5⟩ : ∃ f e, getL G0 m3 [] l4 (e4 || !b3) = (f, e) := ⟨_, _, rfl⟩
 simp only at z1 z2 z3 z4
 have z5 := getL_sm m3 [] l4 (e4 || !b3) (by omega) (fun f hf => absurd hf List.not_mem_nil)
 rw [h5] at z5
 have hF : getF s = (((m1 : Int), pl, fl), e) := by
  unfold getF
  simp only [h1, d1, h2, d2, Int.toNat_natCast, h3, h4, d3, h5]
 have hSm : SmR (m1 : Int) pl fl := ⟨fun x hx => by have := sizeT_mem hx; omega, z5.1, by have := z5.2; simp only [List.length_nil] at this; omega⟩
 refine (get_calls 3000000 s A n c bs W hr hbs (by omega) 1000000 (by decide) (by omega) G0 G0_eq w1 w2 w3 pl l1 l2 l3 l4 e1 e2 e3 e4 b1 b2 b3 e (rootF m1 pl fl) m1 m2 m3 fl h1 d1 h2 d2 h3 h4 d3 h5 hSm.right P0 (fun hb => ?_) hT).mono ?_
 ·have ho := rootF_out hb
  refine ⟨fun f hf => ?_, by have := sizeP_small hb; omega⟩
  have := (forkB_out (ho.1 f hf)).2.2.1
  rw [P0_eq this]
  exact ⟨true, put_eq this (by decide)⟩
 ·rintro r w' ⟨hb, h | h⟩
  ·refine ⟨hb, Or.inl ⟨m1, pl, fl, ?_, h.2⟩⟩
   unfold getR
   rw [hF]
   exact if_pos h.1
  ·refine ⟨hb, Or.inr ⟨?_, h.2⟩⟩
   unfold getR
   rw [hF]
   exact if_neg h.1
end Go.Proofs.YtlfenakgphmepaaDoor.Root
