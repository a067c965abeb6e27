/- Root's plain law: refs' lines, a fork's lines, and all lines are read as they were. -/
import Derived.Test.YtlfenakgphmepaaDoorRootBack
namespace Go.Proofs.YtlfenakgphmepaaDoor.Root
open Go.RowKit Go.Proofs.YtlfenakgphmepaaDoorW.PrintWords Go.Proofs.YtlfenakgphmepaaDoor.Print Go.Proofs.YtlfenakgphmepaaDoor.Build
set_option linter.unusedVariables false
set_option linter.unusedSimpArgs false
theorem rightF_out {l : List Rf} (h : Hello.rightF l = true) : l.length <= 64 /\ ∀ y ∈ l, Hello.namedF y.f0 = true /\ Hello.idF y.f1 = true := Hello.rightGo_out l l none h
theorem rf_size {l : List Rf} (h : Hello.rightF l = true) : ∀ y ∈ l, y.f0.size <= 80 /\ y.f1.size = 64 := fun y hy => ⟨Hello.named_size ((rightF_out h).2 y hy).1, Hello.id_size ((rightF_out h).2 y hy).2⟩
theorem putg_eq : ∀ (l : List Rf) (acc : ByteArray), (∀ y ∈ l, y.f0.size <= 80 /\ y.f1.size = 64) -> acc.size + l.length * 200 <= 140737488355328 -> refs_Put.g acc l = some (joinA acc (l.map Hello.refT), true)
 | [], acc, _, _ => rfl
 | y :: t, acc, h, hz => by
  have hy := h y List.mem_cons_self
  rw [List.length_cons, Nat.succ_mul] at hz
  simp only [refs_Put.g]
  rw [if_pos (by omega)]
  refine putg_eq t _ (fun z hz => h z (List.mem_cons_of_mem _ hz)) ?_
  rw [ByteArray.size_append, ByteArray.size_append, ByteArray.size_append, ByteArray.size_append]
  show acc.size + (y.f1.size + 1 + y.f0.size + 1) + _ <= _
  omega
theorem put_eq {l : List Rf} (h : Hello.rightF l = true) {k : Nat} (hk : 2000000 <= k) : refs_Put.f k l = some (joinA ⟨#[]⟩ (l.map Hello.refT), true) := by
 have hs := rf_size h
 have hl := (rightF_out h).1
 unfold refs_Put.f
 rw [right_eqM l (fun y hy => by have := hs y hy; omega) hk, h]
 simp only [Option.bind_some]
 rw [if_pos trivial]
 exact putg_eq l _ hs (by show 0 + _ <= _; omega)
theorem P0_eq {l : List Rf} (h : Hello.rightF l = true) : P0 l = joinA ⟨#[]⟩ (l.map Hello.refT) := by
 unfold P0
 rw [put_eq h (by decide)]
 rfl
theorem cutC_app (c : UInt8) (a b : ByteArray) (h : plainC c a) : cutC c ((a ++ (⟨#[c]⟩ : ByteArray)) ++ b) = (a, b) := by
 have hd : ((a ++ (⟨#[c]⟩ : ByteArray)) ++ b).data.toList = a.data.toList ++ c :: b.data.toList := by
  simp [ByteArray.data_append]
 have hi : Lib.indexByte ((a ++ (⟨#[c]⟩ : ByteArray)) ++ b).data.toList c = (a.size : Int) := by
  rw [hd, Hello.indexByte_app _ _ _ h, Array.length_toList]; rfl
 unfold cutC
 rw [hi, if_pos (by omega), Int.toNat_natCast]
 have e1 : ((a ++ (⟨#[c]⟩ : ByteArray)) ++ b).extract 0 a.size = a := by
  rw [ByteArray.append_assoc]; exact ByteArray.extract_append_eq_left rfl
 have e2 : ((a ++ (⟨#[c]⟩ : ByteArray)) ++ b).extract (a.size + 1) ((a ++ (⟨#[c]⟩ : ByteArray)) ++ b).size = b := by
  have hz : (a ++ (⟨#[c]⟩ : ByteArray)).size = a.size + 1 := by rw [ByteArray.size_append]; rfl
  rw [<- hz]
  exact ByteArray.extract_append_eq_right rfl ByteArray.size_append
 rw [e1, e2]
theorem refT_plain {y : Rf} (h : Hello.namedF y.f0 = true /\ Hello.idF y.f1 = true) : plainC 10 (Hello.refT y) :=
 plain_app (plain_app (id_plainC h.2 (by decide)) (fun e => absurd (List.mem_singleton.1 e) (by decide))) (named_plain h.1 (by decide) (by decide))
theorem get_loop {l : List Rf} (h : Hello.rightF l = true) : ∀ (t acc : List Rf) (k : Nat), acc ++ t = l -> 2000001 + t.length <= k ->
  refs_Get.l0 k (joinA ⟨#[]⟩ (l.map Hello.refT)) acc (joinA ⟨#[]⟩ (t.map Hello.refT)) = some (l, true)
 | [], acc, k, e, hk => by
  obtain ⟨k, rfl⟩ : ∃ m, k = m + 1 := ⟨k - 1, by omega⟩
  rw [List.append_nil] at e
  subst e
  unfold refs_Get.l0
  rw [if_pos (show (joinA ⟨#[]⟩ (([] : List Rf).map Hello.refT)).toList = [] from toList_nil.2 rfl), put_eq h (by simp only [List.length_nil] at hk; omega)]
  simp only [Option.bind_some]
  rw [if_pos trivial, if_pos trivial]
 | y :: t, acc, k, e, hk => by
  obtain ⟨k, rfl⟩ : ∃ m, k = m + 1 := ⟨k - 1, by omega⟩
  have hy : y ∈ l := by rw [<- e]; exact List.mem_append_right _ List.mem_cons_self
  have ho := (rightF_out h).2 y hy
  have hs := rf_size h y hy
  have hl := (rightF_out h).1
  have hle : acc.length + (t.length + 1) = l.length := by rw [<- e, List.length_append, List.length_cons]
  have ej : joinA ⟨#[]⟩ ((y :: t).map Hello.refT) = (Hello.refT y ++ (⟨#[10]⟩ : ByteArray)) ++ joinA ⟨#[]⟩ (t.map Hello.refT) := by
   show joinA ((⟨#[]⟩ : ByteArray) ++ (Hello.refT y ++ (⟨#[10]⟩ : ByteArray))) (t.map Hello.refT) = _
   rw [empty_app, joinA_app]
  have hts : sizeT (t.map Hello.refT) <= 200 * t.length := by
   clear ej hk
   have : ∀ z ∈ t, (Hello.refT z).size + 1 <= 200 := fun z hz => by
    have := rf_size h z (by rw [<- e]; exact List.mem_append_right _ (List.mem_cons_of_mem _ hz))
    rw [Hello.refT_size]
    omega
   clear e hle
   induction t with
   | nil => exact Nat.le_refl _
   | cons z t ih =>
    rw [List.map_cons, sizeT_cons, List.length_cons]
    have a := this z List.mem_cons_self
    have b := ih (fun w hw => this w (List.mem_cons_of_mem _ hw))
    omega
  have hz : ((Hello.refT y ++ (⟨#[10]⟩ : ByteArray)) ++ joinA ⟨#[]⟩ (t.map Hello.refT)).size <= 1000000 := by
   rw [ByteArray.size_append, ByteArray.size_append, joinA_size, Hello.refT_size]
   show y.f1.size + 1 + y.f0.size + 1 + (0 + _) <= _
   omega
  obtain ⟨b1, h1⟩ := cutC_eq 10 ((Hello.refT y ++ (⟨#[10]⟩ : ByteArray)) ++ joinA ⟨#[]⟩ (t.map Hello.refT)) (by omega)
  rw [cutC_app 10 _ _ (refT_plain ho)] at h1
  obtain ⟨b2, h2⟩ := cutC_eq 32 (Hello.refT y) (by rw [Hello.refT_size]; omega)
  rw [show cutC 32 (Hello.refT y) = (y.f1, y.f0) from cutC_app 32 _ _ (id_plainC ho.2 (by decide))] at h2
  have hne : ¬ (((Hello.refT y ++ (⟨#[10]⟩ : ByteArray)) ++ joinA ⟨#[]⟩ (t.map Hello.refT)).toList = []) := fun e => by
   have := toList_nil.1 e
   rw [ByteArray.size_append, ByteArray.size_append] at this
   have e3 : (⟨#[10]⟩ : ByteArray).size = 1 := rfl
   omega
  rw [ej]
  unfold refs_Get.l0
  rw [if_neg hne, h1]
  simp only [Option.bind_some]
  rw [h2]
  simp only [Option.bind_some]
  rw [if_pos (by omega)]
  exact get_loop h t (acc ++ [y]) k (by rw [List.append_assoc]; exact e) (by rw [List.length_cons] at hk; omega)
theorem G0_right {l : List Rf} (h : Hello.rightF l = true) : G0 (joinA ⟨#[]⟩ (l.map Hello.refT)) = (l, true) := by
 have hl := (rightF_out h).1
 have := get_loop h l [] 3000000 rfl (by omega)
 unfold G0
 rw [show refs_Get.f 3000000 (joinA ⟨#[]⟩ (l.map Hello.refT)) = some (l, true) from this]
 rfl
theorem some_app (a b : List ByteArray) : someF a.length (a ++ b) false = (a, b, false) := by
 rw [some_ok (by rw [List.length_append]; omega), List.take_left, List.drop_left]
theorem link_plain (b : Bool) {c : UInt8} (hc : c.toNat < 97) : plainC c (linkT b) := by
 intro e
 cases b
 ·have e2 : c ∈ ([97, 108, 111, 110, 101] : List UInt8) := e
  simp only [List.mem_cons, List.not_mem_nil, or_false] at e2
  rcases e2 with rfl | rfl | rfl | rfl | rfl <;> exact absurd hc (by decide)
 ·have e2 : c ∈ ([108, 105, 110, 107, 101, 100] : List UInt8) := e
  simp only [List.mem_cons, List.not_mem_nil, or_false] at e2
  rcases e2 with rfl | rfl | rfl | rfl | rfl | rfl <;> exact absurd hc (by decide)
theorem forkT_plain {c : UInt8} (hc : c.toNat < 97) : plainC c forkT := by
 intro e
 have e2 : c ∈ ([102, 111, 114, 107] : List UInt8) := e
 simp only [List.mem_cons, List.not_mem_nil, or_false] at e2
 rcases e2 with rfl | rfl | rfl | rfl <;> exact absurd hc (by decide)
theorem fork_words {f : Fk} (h : forkB f = true) {c : UInt8} (h1 : c.toNat < 45) (h2 : c ≠ 47) : ∀ s ∈ [forkT, f.f0, linkT f.f1, f.f2, itoaB f.f3.length, itoaB f.f4.length], plainC c s := by
 obtain ⟨a, b, c1, d, e⟩ := forkB_out h
 intro s hs
 have r1 : rnB (c.toNat : Int) = false := by
  cases hx : rnB (c.toNat : Int)
  ·rfl
  ·have := (rnB_iff _).1 hx; omega
 have r2 : Hello.letB (c.toNat : Int) = false := by
  unfold Hello.letB
  exact decide_eq_false (by omega)
 simp only [List.mem_cons, List.not_mem_nil, or_false] at hs
 rcases hs with rfl | rfl | rfl | rfl | rfl | rfl
 ·exact forkT_plain (by omega)
 ·exact rn_plain a r1
 ·exact link_plain _ (by omega)
 ·exact named_plain d r2 h2
 ·exact itoa_plain (by omega) (by omega)
 ·exact itoa_plain (by omega) (by omega)
theorem fork_read {f : Fk} (h : forkB f = true) (rest : List ByteArray) : forkF G0 (forkLs f ++ rest) false = (f, rest, false) := by
 obtain ⟨a, b, c, d, e⟩ := forkB_out h
 have hl := (rightF_out c).1
 have hp := (packs_out b).1
 have hw : wordsF forkT 6 (forkLs f ++ rest) false = ([forkT, f.f0, linkT f.f1, f.f2, itoaB f.f3.length, itoaB f.f4.length], f.f3.map Hello.refT ++ (f.f4 ++ rest), false) := by
  have := words_line (first := forkT) (ws := [f.f0, linkT f.f1, f.f2, itoaB f.f3.length, itoaB f.f4.length]) (rest := f.f3.map Hello.refT ++ (f.f4 ++ rest)) (many := 6) (fork_words h (by decide) (by decide)) rfl
  rw [<- this]
  unfold forkLs forkLine
  rw [List.cons_append, List.append_assoc]
 have d1 : decF (nth [forkT, f.f0, linkT f.f1, f.f2, itoaB f.f3.length, itoaB f.f4.length] 4) = ((f.f3.length : Int), true) := dec_itoa (by omega) (by omega)
 have d2 : decF (nth [forkT, f.f0, linkT f.f1, f.f2, itoaB f.f3.length, itoaB f.f4.length] 5) = ((f.f4.length : Int), true) := dec_itoa (by omega) (by omega)
 have s1 : someF f.f3.length (f.f3.map Hello.refT ++ (f.f4 ++ rest)) false = (f.f3.map Hello.refT, f.f4 ++ rest, false) := by
  have := some_app (f.f3.map Hello.refT) (f.f4 ++ rest)
  rw [List.length_map] at this
  exact this
 have hlink : ((linkT f.f1).toList == [108, 105, 110, 107, 101, 100]) = f.f1 := by
  cases f.f1 <;> rw [Lib.toList_data] <;> rfl
 unfold forkF
 simp only [hw, d1, d2, Int.toNat_natCast, s1, Bool.not_true, Bool.or_false, G0_right c, some_app]
 show (((⟨f.f0, (linkT f.f1).toList == [108, 105, 110, 107, 101, 100], f.f2, f.f3, f.f4⟩ : Fk), rest, false) : Fk × List ByteArray × Bool) = _
 rw [hlink]
theorem getL_read : ∀ (t acc : List Fk) (rest : List ByteArray), (∀ f ∈ t, forkB f = true) -> getL G0 t.length acc (t.flatMap forkLs ++ rest) false = (acc ++ t, false)
 | [], acc, rest, h => by rw [List.append_nil]; rfl
 | f :: t, acc, rest, h => by
  rw [List.flatMap_cons, List.append_assoc, List.length_cons]
  unfold getL
  rw [if_neg (fun e => Bool.noConfusion e), fork_read (h f List.mem_cons_self), getL_read t _ rest (fun g hg => h g (List.mem_cons_of_mem _ hg)), List.append_assoc]
  rfl
def getF (s : ByteArray) : (Int × List ByteArray × List Fk) × Bool :=
 let w1 := wordsF netT 2 (cutsF 10 s) false
 let d1 := decF (nth w1.1 1)
 let w2 := wordsF poolT 2 w1.2.1 (w1.2.2 || !d1.2)
 let d2 := decF (nth w2.1 1)
 let s3 := someF d2.1.toNat w2.2.1 (w2.2.2 || !d2.2)
 let w3 := wordsF forksT 2 s3.2.1 s3.2.2
 let d3 := decF (nth w3.1 1)
 let g := getL G0 d3.1.toNat [] w3.2.1 (w3.2.2 || !d3.2)
 ((d1.1, s3.1, g.1), g.2)
theorem two_plain {w : ByteArray} (hw : ∀ b ∈ w.data.toList, 97 <= b.toNat) {n : Int} (hn : 0 <= n) {c : UInt8} (hc : c.toNat < 48) : ∀ s ∈ [w, itoaB n], plainC c s := by
 intro s hs
 rcases List.mem_cons.1 hs with rfl | hs
 ·intro e
  have := hw c e
  omega
 ·obtain rfl := List.mem_singleton.1 hs
  exact itoa_plain hn hc
theorem net_let : ∀ b ∈ netT.data.toList, 97 <= b.toNat := by decide
theorem pool_let : ∀ b ∈ poolT.data.toList, 97 <= b.toNat := by decide
theorem forks_let : ∀ b ∈ forksT.data.toList, 97 <= b.toNat := by decide
theorem root_lines {n : Int} {pool : List ByteArray} {forks : List Fk} (h : rootF n pool forks = true) : ∀ s ∈ rootLs n pool forks, plainC 10 s := by
 obtain ⟨hf, hn, hp, hm⟩ := rootF_out h
 have hpo := packs_out hp
 have J : ∀ (w : ByteArray) (m : Int), (∀ b ∈ w.data.toList, 97 <= b.toNat) -> 0 <= m -> plainC 10 (joinS [w, itoaB m]) := fun w m hw hm => plain_joinG (by decide) _ _ (two_plain hw hm (by decide))
 intro s hs
 unfold rootLs at hs
 simp only [List.mem_cons, List.mem_append, List.mem_flatMap] at hs
 rcases hs with rfl | rfl | hs | rfl | ⟨f, hfm, hs⟩
 ·exact J _ _ net_let hn.1
 ·exact J _ _ pool_let (by omega)
 ·exact id_plainC (hpo.2.1 s hs) (by decide)
 ·exact J _ _ forks_let (by omega)
 ·have hb := hf f hfm
  obtain ⟨a, b, c, d, e⟩ := forkB_out hb
  unfold forkLs at hs
  simp only [List.mem_cons, List.mem_append, List.mem_map] at hs
  rcases hs with rfl | ⟨y, hy, rfl⟩ | hs
  ·exact plain_joinG (by decide) _ _ (fork_words hb (by decide) (by decide))
  ·exact refT_plain ((rightF_out c).2 y hy)
  ·exact id_plainC ((packs_out b).2.1 s hs) (by decide)
def textR (n : Int) (pool : List ByteArray) (forks : List Fk) : ByteArray := textP P0 n pool forks
theorem textR_lines {n : Int} {pool : List ByteArray} {forks : List Fk} (h : rootF n pool forks = true) : textR n pool forks = joinA ⟨#[]⟩ (rootLs n pool forks) :=
 textP_lines n pool forks (fun f hf => P0_eq (forkB_out ((rootF_out h).1 f hf)).2.2.1)
theorem get_read {n : Int} {pool : List ByteArray} {forks : List Fk} (h : rootF n pool forks = true) (t : ByteArray) : getF (textR n pool forks ++ t) = ((n, pool, forks), false) := by
 obtain ⟨hf, hn, hp, hm⟩ := rootF_out h
 have hpo := (packs_out hp).1
 have hc : cutsF 10 (textR n pool forks ++ t) = joinS [netT, itoaB n] :: joinS [poolT, itoaB pool.length] :: (pool ++ joinS [forksT, itoaB forks.length] :: (forks.flatMap forkLs ++ cutsF 10 t)) := by
  rw [textR_lines h, cuts_joinA (root_lines h)]
  unfold rootLs
  simp
 have w1 := words_line (first := netT) (ws := [itoaB n]) (rest := joinS [poolT, itoaB pool.length] :: (pool ++ joinS [forksT, itoaB forks.length] :: (forks.flatMap forkLs ++ cutsF 10 t))) (many := 2) (two_plain net_let hn.1 (by decide)) rfl
 have w2 := words_line (first := poolT) (ws := [itoaB pool.length]) (rest := pool ++ joinS [forksT, itoaB forks.length] :: (forks.flatMap forkLs ++ cutsF 10 t)) (many := 2) (two_plain pool_let (by omega) (by decide)) rfl
 have w3 := words_line (first := forksT) (ws := [itoaB forks.length]) (rest := forks.flatMap forkLs ++ cutsF 10 t) (many := 2) (two_plain forks_let (by omega) (by decide)) rfl
 have d1 : decF (nth [netT, itoaB n] 1) = (n, true) := dec_itoa hn.1 hn.2
 have d2 : decF (nth [poolT, itoaB pool.length] 1) = ((pool.length : Int), true) := dec_itoa (by omega) (by omega)
 have d3 : decF (nth [forksT, itoaB forks.length] 1) = ((forks.length : Int), true) := dec_itoa (by omega) (by omega)
 unfold getF
 simp only [hc, w1, d1, w2, d2, w3, d3, Int.toNat_natCast, Bool.not_true, Bool.or_false, some_app, getL_read forks [] _ hf, List.nil_append]
def getR (s : ByteArray) : Option (Int × List ByteArray × List Fk) :=
 if (getF s).2 = false /\ rootF (getF s).1.1 (getF s).1.2.1 (getF s).1.2.2 = true /\ textR (getF s).1.1 (getF s).1.2.1 (getF s).1.2.2 = s then some (getF s).1 else none
theorem getR_out {s : ByteArray} {n : Int} {pool : List ByteArray} {forks : List Fk} (h : getR s = some (n, pool, forks)) : rootF n pool forks = true /\ textR n pool forks = s := by
 unfold getR at h
 split at h
 ·rename_i c
  obtain ⟨c1, c2, c3⟩ := c
  have e := Option.some.inj h
  rw [e] at c2 c3
  exact ⟨c2, c3⟩
 ·cases h
theorem getR_read {n : Int} {pool : List ByteArray} {forks : List Fk} (h : rootF n pool forks = true) : getR (textR n pool forks) = some (n, pool, forks) := by
 have := get_read h ⟨#[]⟩
 rw [show textR n pool forks ++ (⟨#[]⟩ : ByteArray) = textR n pool forks from ByteArray.append_empty] at this
 unfold getR
 rw [this, if_pos ⟨rfl, h, rfl⟩]
theorem textR_inj {n m : Int} {pool pool2 : List ByteArray} {forks forks2 : List Fk} (h : rootF n pool forks = true) (h2 : rootF m pool2 forks2 = true) (e : textR n pool forks = textR m pool2 forks2) : (n, pool, forks) = (m, pool2, forks2) := by
 have a := getR_read h
 rw [e, getR_read h2] at a
 exact (Option.some.inj a).symm
end Go.Proofs.YtlfenakgphmepaaDoor.Root
