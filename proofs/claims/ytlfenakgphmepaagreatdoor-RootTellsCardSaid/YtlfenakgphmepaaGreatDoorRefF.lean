/- Parts of the proof. -/
import Derived.Test.YtlfenakgphmepaaGreatDoorRootCall
import Derived.Test.YtlfenakgphmepaaGreatDoorHelloQ
import Derived.Test.YtlfenakgphmepaaGreatDoorPrint14
import Derived.Test.YtlfenakgphmepaaGreatDoorPrint15
import Derived.Test.YtlfenakgphmepaaGreatDoorPrint16
import Derived.Test.YtlfenakgphmepaaGreatDoorPrint17
import Derived.Test.YtlfenakgphmepaaGreatDoorPrint18
section
namespace Go.Proofs.YtlfenakgphmepaaGreatDoor.Root
open Go.RowKit YtlfenakgphmepaaGreatDoorW.PrintWords Print Build
set_option linter.unusedVariables false
set_option linter.unusedSimpArgs false
theorem rrn_loop (s : ByteArray) (hl : s.size <= 9223372036854775806) : ∀ (d i k : Nat), i + d = s.size -> d + 1 <= k -> sacristyref10_Named.l0 k s (i : Int) = some (rnFrom s d i && rnEnd s) := by
 intro d
 induction d with
 | zero =>
  intro i k hi hk
  obtain ⟨k, rfl⟩ : ∃ j, k = j + 1 := ⟨k - 1, by omega⟩
  simp only [sacristyref10_Named.l0]
  rw [if_neg (by omega)]
  unfold rnFrom rnEnd
  rw [Bool.true_and]
  by_cases h : s.size = 0
  ·rw [if_neg (by omega), decide_eq_false (by omega)]
  ·rw [if_pos (by omega)]
   congr 1
   rw [decide_eq_decide]
   omega
 | succ d ih =>
  intro i k hi hk
  obtain ⟨k, rfl⟩ : ∃ j, k = j + 1 := ⟨k - 1, by omega⟩
  simp only [sacristyref10_Named.l0]
  rw [if_pos (by omega), if_pos (by omega), rn_step, w64 (by omega) (by omega), show ((i : Int) + 1) = ((i + 1 : Nat) : Int) by omega, ih (i + 1) k (by omega) (by omega)]
  simp only [rnFrom]
  by_cases b : rnB (bt s (i : Int)) = true
  ·rw [if_pos b, b, Bool.true_and]
  ·rw [if_neg b, Bool.eq_false_iff.2 b]; rfl
theorem rrn_eq (s : ByteArray) (hl : s.size <= 9223372036854775806) {k : Nat} (hk : s.size + 1 <= k) : sacristyref10_Named.f k s = some (rnF s) := rrn_loop s hl s.size 0 k (by omega) hk
theorem rd_str (l : List ByteArray) (i : Nat) (h : i < l.length) : rdOf ByteArray.empty l (i : Int) = l[i] := by
 unfold rdOf
 rw [Int.toNat_natCast, List.getD_eq_getElem?_getD, List.getElem?_eq_getElem h]
 rfl
theorem packsG_seen (n : Nat) : ∀ (l s s' : List ByteArray), (∀ x, x ∈ s <-> x ∈ s') -> packsG n s l = packsG n s' l
 | [], s, s', h => rfl
 | x :: t, s, s', h => by
  simp only [packsG]
  rw [packsG_seen n t (x :: s) (x :: s') (fun y => by simp [h y])]
  have e : (s.any fun y => decide (y.data = x.data)) = (s'.any fun y => decide (y.data = x.data)) := by
   rw [Bool.eq_iff_iff]
   simp only [List.any_eq_true]
   constructor
   ·rintro ⟨y, hy, hd⟩
    exact ⟨y, (h y).1 hy, hd⟩
   ·rintro ⟨y, hy, hd⟩
    exact ⟨y, (h y).2 hy, hd⟩
  rw [e]
theorem rpacks_l1 (l : List ByteArray) (i : Nat) (hi : i < l.length) (hl : l.length <= 100000000) : ∀ (d j k : Nat), j + d = i -> d + 1 <= k ->
  sacristyref10_packs.l1 k l (i : Int) (j : Int) = cond (((l.take i).drop j).any fun s => decide (s.data = l[i].data)) (some false) (sacristyref10_packs.l0 (k - d - 1) l ((i : Int) + 1)) := by
 intro d
 induction d with
 | zero =>
  intro j k hj hk
  obtain ⟨k, rfl⟩ : ∃ j, k = j + 1 := ⟨k - 1, by omega⟩
  simp only [sacristyref10_packs.l1]
  rw [if_neg (by omega), List.drop_eq_nil_of_le (by rw [List.length_take]; omega), w64 (by omega) (by omega)]
  rfl
 | succ d ih =>
  intro j k hj hk
  obtain ⟨k, rfl⟩ : ∃ j, k = j + 1 := ⟨k - 1, by omega⟩
  have hlt : j < (l.take i).length := by rw [List.length_take]; omega
  have hlj : j < l.length := by omega
  simp only [sacristyref10_packs.l1]
  rw [if_pos (by omega), if_pos (by omega), if_pos (by omega), if_pos (by omega), if_pos (by omega), rd_str l i hi, rd_str l j hlj, w64 (by omega) (by omega), show ((j : Int) + 1) = ((j + 1 : Nat) : Int) by omega, ih (j + 1) k (by omega) (by omega), List.drop_eq_getElem_cons hlt, List.getElem_take]
  simp only [List.any_cons]
  rw [show k + 1 - (d + 1) - 1 = k - d - 1 by omega]
  by_cases c : l[j].data = l[i].data
  ·rw [decide_eq_true c, if_pos (by rw [ByteArray.ext c]), Bool.true_or, cond_true]
  ·rw [decide_eq_false c, if_neg (fun e => c (by rw [Lib.toList_data, Lib.toList_data] at e; exact Array.toList_inj.1 e)), Bool.false_or]
theorem rpacks_l0 (l : List ByteArray) (hl : l.length <= 100000000) : ∀ (d i k : Nat), i + d = l.length -> 100 + d * (l.length + 4) <= k ->
  sacristyref10_packs.l0 k l (i : Int) = some (packsG l.length (l.take i) (l.drop i)) := by
 intro d
 induction d with
 | zero =>
  intro i k hi hk
  obtain ⟨k, rfl⟩ : ∃ j, k = j + 1 := ⟨k - 1, by omega⟩
  simp only [sacristyref10_packs.l0]
  rw [if_neg (by omega), List.drop_eq_nil_of_le (by omega)]
  rfl
 | succ d ih =>
  intro i k hi hk
  rw [Nat.succ_mul] at hk
  obtain ⟨q, hq⟩ : ∃ q, q = d * (l.length + 4) := ⟨_, rfl⟩
  rw [<- hq] at hk ih
  obtain ⟨k, rfl⟩ : ∃ j, k = j + 1 := ⟨k - 1, by omega⟩
  have hlt : i < l.length := by omega
  simp only [sacristyref10_packs.l0]
  have h1 := rpacks_l1 l i hlt hl i 0 k (by omega) (by omega)
  rw [List.drop_zero] at h1
  rw [if_pos (by omega), if_pos (by omega), rd_str l i hlt, Hello.rnamed_eq _ (by omega), show (0 : Int) = ((0 : Nat) : Int) from rfl, h1, show ((i : Int) + 1) = ((i + 1 : Nat) : Int) by omega, ih (i + 1) (k - i - 1) (by omega) (by omega), List.drop_eq_getElem_cons hlt]
  simp only [Option.bind_some, packsG]
  rw [packsG_seen l.length (l.drop (i + 1)) (l.take (i + 1)) (l[i] :: l.take i) (fun x => by rw [List.take_succ_eq_append_getElem hlt, List.mem_append, List.mem_singleton, List.mem_cons]; exact or_comm)]
  cases ((l.take i).any fun s => decide (s.data = l[i].data)) <;> by_cases b : Hello.idF l[i] = true
  ·rw [if_pos b, b]; rfl
  ·rw [if_neg b, Bool.eq_false_iff.2 b]; rfl
  ·rw [if_pos b]; rfl
  ·rw [if_neg b]; rfl
theorem rpacks_eq (l : List ByteArray) (hl : l.length <= 25000) {k : Nat} (hk : 700000000 <= k) : sacristyref10_packs.f k l = some (packsF l) := by
 have := Nat.mul_le_mul hl (show l.length + 4 <= 25004 by omega)
 have h := rpacks_l0 l (by omega) l.length 0 k (by omega) (by omega)
 exact h
theorem head_eq {s : ByteArray} (h : Hello.namedF s = true) : 0 < s.size /\ decide (bt s 0 = 104) = Hello.prefF s headsP := by
 unfold Hello.namedF at h
 rw [Bool.and_eq_true, Bool.and_eq_true] at h
 obtain ⟨h1, h2, h3⟩ := h
 have h1 := of_decide_eq_true h1
 have hlen : s.data.toList.length = s.size := by simp
 rcases Hello.slash_cases s with ⟨hp, _⟩ | ⟨e, he, hb, hne, hp⟩
 ·rw [hp] at h1
  have := h1.2.1
  simp at this
 ·rw [hp] at h2
  have hx : ∀ t : List ByteArray, rdOf ByteArray.empty (s.extract 0 e :: t) 0 = s.extract 0 e := fun _ => rfl
  unfold Hello.firstF at h2
  have h2 := of_decide_eq_true h2
  rw [hx, Hello.take_list] at h2
  have h47 := (Hello.bt_slash s e he).1 hb
  have hpos : 0 < s.size := by omega
  refine ⟨hpos, ?_⟩
  have b0 : bt s 0 = ((s.data.toList[0]'(by omega)).toNat : Int) := Hello.bt_get s 0 hpos
  have key : ∀ (x : UInt8) (t : List UInt8), s.data.toList.take e = x :: t -> s.data.toList[0]'(by omega) = x := fun x t ht => by
   have h0 : (s.data.toList.take e)[0]? = some x := by rw [ht]; rfl
   have hep : 0 < e := by
    rcases Nat.eq_zero_or_pos e with r | r
    ·rw [r, List.take_zero] at ht; cases ht
    ·exact r
   rw [List.getElem?_take_of_lt hep, List.getElem?_eq_getElem (by omega)] at h0
   exact Option.some.inj h0
  have h6 : headsP.toList = [104, 101, 97, 100, 115, 47] := by rw [Lib.toList_data]; rfl
  unfold Hello.prefF
  rw [show headsP.size = 6 from rfl, h6, Hello.take_list]
  rcases h2 with h2 | h2
  ·have he5 : e = 5 := by
    have := congrArg List.length h2
    rw [List.length_take] at this
    simp at this
    omega
   subst he5
   rw [b0, key _ _ h2, if_pos (by omega), List.take_succ_eq_append_getElem (by omega), h2]
   rw [List.getElem?_eq_getElem (by omega)] at h47
   rw [Option.some.inj h47]
   rfl
  ·have he4 : e = 4 := by
    have := congrArg List.length h2
    rw [List.length_take] at this
    simp at this
    omega
   subst he4
   have hk := key _ _ h2
   rw [b0, hk]
   by_cases c : (s.size : Int) >= ((6 : Nat) : Int)
   ·rw [if_pos c]
    symm
    rw [show decide (((116 : UInt8).toNat : Int) = 104) = false from rfl, beq_eq_false_iff_ne]
    intro hh
    have h0 : (s.data.toList.take 6)[0]? = some 104 := by rw [hh]; rfl
    rw [List.getElem?_take_of_lt (by omega), List.getElem?_eq_getElem (by omega), hk] at h0
    exact absurd (Option.some.inj h0) (by decide)
   ·rw [if_neg c]; rfl
theorem rright_loop (n : Int) (pool : List ByteArray) (forks : List Fk) (hf : ∀ f ∈ forks, f.f0.size <= 1000000 /\ f.f2.size <= 1000000 /\ f.f3.length <= 20000 /\ f.f4.length <= 25000) (hl : forks.length <= 1000000) : ∀ (d i k : Nat), i + d = forks.length -> 800000000 + 2 * d <= k ->
  sacristyref10_Right.l0 k (i : Int) n pool forks = some (forksGo (forks.drop i) (prevOf forks i)) := by
 intro d
 induction d with
 | zero =>
  intro i k h hk
  obtain ⟨k, rfl⟩ : ∃ m, k = m + 1 := ⟨k - 1, by omega⟩
  unfold sacristyref10_Right.l0
  rw [if_neg (by omega), List.drop_eq_nil_of_le (by omega)]
  rfl
 | succ d ih =>
  intro i k h hk
  obtain ⟨k, rfl⟩ : ∃ m, k = m + 2 := ⟨k - 2, by omega⟩
  have hi : i < forks.length := by omega
  have e : wrap64 ((i : Int) + 1) = ((i + 1 : Nat) : Int) := by unfold wrap64; omega
  have ihh := ih (i + 1) k (by omega) (by omega)
  have hp1 : prevOf forks (i + 1) = some (forks[i]).f0 := by
   unfold prevOf
   rw [if_neg (by omega), show i + 1 - 1 = i by omega, List.getElem?_eq_getElem hi]
   rfl
  rw [hp1] at ihh
  obtain ⟨z0, z2, z3, z4⟩ := hf _ (List.getElem_mem hi)
  have hj : ∀ (b : Bool) (x : ByteArray) (y : Bool), sacristyref10_Right.j2 (k + 1) (i : Int) b n pool forks x y forks[i].f2 forks[i].f3 forks[i].f4 = some (!b && (Hello.namedF forks[i].f2 && (Hello.prefF forks[i].f2 headsP && forksGo (forks.drop (i + 1)) (some forks[i].f0)))) := by
   intro b x y
   simp only [sacristyref10_Right.j2]
   by_cases c : b = true
   ·rw [if_pos c, c]; rfl
   ·rw [if_neg c, Bool.eq_false_iff.2 c, Hello.refn_eq _ (by omega)]
    simp only [Option.bind_some]
    by_cases q : Hello.namedF forks[i].f2 = true
    ·obtain ⟨q1, q2⟩ := head_eq q
     rw [if_pos q, q, if_pos (by omega), <- q2, e, ihh]
     by_cases r : bt forks[i].f2 0 = 104
     ·rw [if_pos r, decide_eq_true r]; rfl
     ·rw [if_neg r, decide_eq_false r]; rfl
    ·rw [if_neg q, Bool.eq_false_iff.2 q]; rfl
  rw [List.drop_eq_getElem_cons hi]
  unfold sacristyref10_Right.l0
  rw [if_pos (by omega), if_pos (by omega), rd_fk forks i hi, rrn_eq _ (by omega) (by omega), rpacks_eq _ z4 (by omega), Hello.rright_big _ z3 (by omega)]
  simp only [Option.bind_some, hj, forksGo, forkB]
  have fin : ∀ o : Bool, (if rnF forks[i].f0 = true then (if o = true then (if packsF forks[i].f4 = true then some (!(!Hello.rightF forks[i].f3) && (Hello.namedF forks[i].f2 && (Hello.prefF forks[i].f2 headsP && forksGo (forks.drop (i + 1)) (some forks[i].f0)))) else some (!true && (Hello.namedF forks[i].f2 && (Hello.prefF forks[i].f2 headsP && forksGo (forks.drop (i + 1)) (some forks[i].f0))))) else some (!true && (Hello.namedF forks[i].f2 && (Hello.prefF forks[i].f2 headsP && forksGo (forks.drop (i + 1)) (some forks[i].f0))))) else some (!true && (Hello.namedF forks[i].f2 && (Hello.prefF forks[i].f2 headsP && forksGo (forks.drop (i + 1)) (some forks[i].f0))))) = some ((rnF forks[i].f0 && (packsF forks[i].f4 && (Hello.rightF forks[i].f3 && (Hello.namedF forks[i].f2 && Hello.prefF forks[i].f2 headsP)))) && (o && forksGo (forks.drop (i + 1)) (some forks[i].f0))) := by
   intro o
   cases rnF forks[i].f0 <;> cases o <;> cases packsF forks[i].f4 <;> cases Hello.rightF forks[i].f3 <;> cases Hello.namedF forks[i].f2 <;> cases Hello.prefF forks[i].f2 headsP <;> cases forksGo (forks.drop (i + 1)) (some forks[i].f0) <;> rfl
  by_cases h0 : i = 0
  ·rw [if_neg (show ¬ ((i : Int) > 0) by omega), show prevOf forks i = none from if_pos h0]
   exact fin true
  ·have e2 : wrap64 ((i : Int) - 1) = ((i - 1 : Nat) : Int) := by unfold wrap64; omega
   have e3 : prevOf forks i = some (forks[i - 1]'(by omega)).f0 := by
    unfold prevOf
    rw [if_neg h0, List.getElem?_eq_getElem (by omega)]
    rfl
   rw [if_pos (show (i : Int) > 0 by omega), e2, if_pos (show (0 : Int) <= ((i - 1 : Nat) : Int) by omega), if_pos (show ((i - 1 : Nat) : Int) < (forks.length : Int) by omega), rd_fk forks (i - 1) (by omega), e3]
   exact fin (Op.bytesLess (forks[i - 1]'(by omega)).f0.toList forks[i].f0.toList)
theorem rroot_eq (n : Int) (pool : List ByteArray) (forks : List Fk) (hp : pool.length <= 25000) (hf : ∀ f ∈ forks, f.f0.size <= 1000000 /\ f.f2.size <= 1000000 /\ f.f3.length <= 20000 /\ f.f4.length <= 25000) (hl : forks.length <= 1000000) {k : Nat} (hk : 900000000 <= k) : sacristyref10_Right.f k n pool forks = some (rootF n pool forks) := by
 obtain ⟨k, rfl⟩ : ∃ m, k = m + 1 := ⟨k - 1, by omega⟩
 have hj : ∀ b : Bool, sacristyref10_Right.j0 (k + 1) b n pool forks = some (!b && forksGo forks none) := by
  intro b
  simp only [sacristyref10_Right.j0]
  by_cases c : b = true
  ·rw [if_pos c, c]; rfl
  ·rw [if_neg c, Bool.eq_false_iff.2 c, show (0 : Int) = ((0 : Nat) : Int) from rfl, rright_loop n pool forks hf hl forks.length 0 k (by omega) (by omega)]
   rfl
 unfold sacristyref10_Right.f rootF
 rw [rpacks_eq pool hp (by omega)]
 simp only [Option.bind_some, hj]
 have e : decide ((forks.length : Int) > 16) = !decide (forks.length <= 16) := by
  by_cases c : forks.length <= 16
  ·rw [decide_eq_true c, decide_eq_false (by omega)]; rfl
  ·rw [decide_eq_false c, decide_eq_true (by omega)]; rfl
 rw [e]
 by_cases c1 : n < 0
 ·rw [if_pos c1, decide_eq_false (show ¬ (0 <= n /\ n <= 1099511627776) by omega)]
  simp
 ·rw [if_neg c1]
  by_cases c2 : n > 1099511627776
  ·rw [if_pos c2, decide_eq_false (show ¬ (0 <= n /\ n <= 1099511627776) by omega)]
   simp
  ·rw [if_neg c2, decide_eq_true (show (0 <= n /\ n <= 1099511627776) by omega)]
   cases forksGo forks none <;> cases packsF pool <;> cases decide (forks.length <= 16) <;> rfl
end Go.Proofs.YtlfenakgphmepaaGreatDoor.Root
end
section
namespace Go.Proofs.YtlfenakgphmepaaGreatDoor.Root
open Go.RowKit YtlfenakgphmepaaGreatDoorW.PrintWords Print Build YtlfenakgphmepaaGreatDoor.Conv
set_option linter.unusedVariables false
set_option linter.unusedSimpArgs false
theorem dig_text (u : Nat) (h : u <= 9223372036854775807) : (strOfNums [(wrap64 (48 + Int.tmod (u : Int) 10)) % 256]).data.toList = [UInt8.ofNat (48 + u % 10)] := by
 rw [Int.tmod_eq_emod_of_nonneg (by omega), show wrap64 (48 + (u : Int) % 10) = 48 + (u : Int) % 10 by unfold wrap64; omega, show (48 + (u : Int) % 10) % 256 = ((48 + u % 10 : Nat) : Int) by omega]
 rfl
theorem div_text (u : Nat) (h : u <= 9223372036854775807) : wrap64 (Int.tdiv (u : Int) 10) = ((u / 10 : Nat) : Int) := by
 rw [Int.tdiv_eq_ediv_of_nonneg (by omega)]
 unfold wrap64
 omega
theorem rtext_loop : ∀ (k u : Nat) (acc : ByteArray), u <= 9223372036854775807 -> Lib.nDigits u + 1 <= k -> acc.size + Lib.nDigits u <= 1000 -> ∃ r, sacristyref03_Text.l0 k (u : Int) acc = some r /\ r.data.toList = (if u = 0 then [] else Lib.decDigits u) ++ acc.data.toList
 | 0, u, acc, hu, hk, ha => by omega
 | k + 1, u, acc, hu, hk, ha => by
  simp only [sacristyref03_Text.l0]
  by_cases h0 : u = 0
  ·rw [if_neg (by omega), if_pos h0]
   exact ⟨acc, rfl, rfl⟩
  ·have hz : (strOfNums [(wrap64 (48 + Int.tmod (u : Int) 10)) % 256]).size = 1 := by
    have := congrArg List.length (dig_text u hu)
    rw [Array.length_toList] at this
    exact this
   rw [if_pos (by omega), if_neg h0]
   simp only [Option.bind_some]
   rw [if_pos (by omega), div_text u hu]
   by_cases h9 : u < 10
   ·have hn := Lib.nDigits_small h9
    obtain ⟨k, rfl⟩ : ∃ j, k = j + 1 := ⟨k - 1, by omega⟩
    rw [show u / 10 = 0 by omega]
    simp only [sacristyref03_Text.l0]
    rw [if_neg (by omega)]
    refine ⟨_, rfl, ?_⟩
    rw [ByteArray.data_append, Array.toList_append, dig_text u hu, Lib.decDigits, dif_pos h9, Nat.mod_eq_of_lt h9]
   ·have hn := Lib.nDigits_big h9
    obtain ⟨r, hr, hl⟩ := rtext_loop k (u / 10) (strOfNums [(wrap64 (48 + Int.tmod (u : Int) 10)) % 256] ++ acc) (by omega) (by omega) (by rw [ByteArray.size_append, hz]; omega)
    refine ⟨r, hr, ?_⟩
    rw [hl, if_neg (by omega), ByteArray.data_append, Array.toList_append, dig_text u hu, Lib.decDigits.eq_def u, dif_neg h9, List.append_assoc]
theorem rtext_eq (n : Int) (h0 : 0 <= n) (h1 : n <= 1099511627776) {k : Nat} (hk : 100 <= k) : sacristyref03_Text.f k n = some (itoaB n) := by
 obtain ⟨u, rfl⟩ : ∃ u : Nat, n = u := ⟨n.toNat, by omega⟩
 unfold sacristyref03_Text.f
 rw [if_neg (by omega), div_text u (by omega)]
 have hd := nDigits_le 13 (u / 10) (by decide) (by have := pow13; omega)
 have hz : (strOfNums [(wrap64 (48 + Int.tmod (u : Int) 10)) % 256]).size = 1 := by
  have := congrArg List.length (dig_text u (by omega))
  rw [Array.length_toList] at this
  exact this
 obtain ⟨r, hr, hl⟩ := rtext_loop k (u / 10) (strOfNums [(wrap64 (48 + Int.tmod (u : Int) 10)) % 256]) (by omega) (by omega) (by omega)
 rw [hr]
 congr 1
 refine ba_ext ?_
 rw [hl, itoa_list h0, dig_text u (by omega), Int.toNat_natCast]
 by_cases h9 : u < 10
 ·rw [if_pos (by omega), Lib.decDigits, dif_pos h9, Nat.mod_eq_of_lt h9]
  rfl
 ·rw [if_neg (by omega), Lib.decDigits.eq_def u, dif_neg h9]
theorem rrows_loop (l : List ByteArray) (hl : l.length <= 9000000000000000000) : ∀ (d i k : Nat) (acc : ByteArray), i + d = l.length -> d + 1 <= k -> acc.size + sizeT (l.drop i) <= 9000000000000000000 -> sacristyref10_rows.l0 k l acc (i : Int) = some (joinA acc (l.drop i)) := by
 intro d
 induction d with
 | zero =>
  intro i k acc hi hk ha
  obtain ⟨k, rfl⟩ : ∃ j, k = j + 1 := ⟨k - 1, by omega⟩
  simp only [sacristyref10_rows.l0]
  rw [if_neg (by omega), List.drop_eq_nil_of_le (by omega)]
  rfl
 | succ d ih =>
  intro i k acc hi hk ha
  obtain ⟨k, rfl⟩ : ∃ j, k = j + 1 := ⟨k - 1, by omega⟩
  have hlt : i < l.length := by omega
  rw [List.drop_eq_getElem_cons hlt, qz] at ha
  simp only [sacristyref10_rows.l0]
  rw [if_pos (by omega), if_pos (by omega), rd_str l i hlt, if_pos (by omega), if_pos (by rw [ByteArray.size_append]; omega), w64 (by omega) (by omega), show ((i : Int) + 1) = ((i + 1 : Nat) : Int) by omega, ByteArray.append_assoc, ih (i + 1) k _ (by omega) (by omega) (by rw [ByteArray.size_append, ByteArray.size_append, show (⟨#[10]⟩ : ByteArray).size = 1 from rfl]; omega), List.drop_eq_getElem_cons hlt]
  rfl
theorem rrows_eq (l : List ByteArray) (hz : sizeT l <= 1000000000) {k : Nat} (hk : 1000000001 <= k) : sacristyref10_rows.f k l = some (joinA ⟨#[]⟩ l) := by
 have := sizeT_len l
 have h := rrows_loop l (by omega) l.length 0 k ⟨#[]⟩ (by omega) (by omega) (by rw [List.drop_zero]; show 0 + _ <= _; omega)
 exact h
def sizeR (l : List Rf) : Nat := sizeT (l.map Hello.refT)
theorem rputs_loop (l : List Rf) (hl : l.length <= 9000000000000000000) : ∀ (d i k : Nat) (acc : ByteArray), i + d = l.length -> d + 1 <= k -> acc.size + sizeR (l.drop i) <= 9000000000000000000 -> q9_Put.l0 k l acc (i : Int) = some (joinA acc ((l.drop i).map Hello.refT), true) := by
 intro d
 induction d with
 | zero =>
  intro i k acc hi hk ha
  obtain ⟨k, rfl⟩ : ∃ j, k = j + 1 := ⟨k - 1, by omega⟩
  simp only [q9_Put.l0]
  rw [if_neg (by omega), List.drop_eq_nil_of_le (by omega)]
  rfl
 | succ d ih =>
  intro i k acc hi hk ha
  obtain ⟨k, rfl⟩ : ∃ j, k = j + 1 := ⟨k - 1, by omega⟩
  have hlt : i < l.length := by omega
  have hr : (Hello.refT l[i]).size = l[i].f1.size + 1 + l[i].f0.size := by
   unfold Hello.refT
   rw [ByteArray.size_append, ByteArray.size_append]
   rfl
  unfold sizeR at ha ih
  rw [List.drop_eq_getElem_cons hlt, List.map_cons, qz, hr] at ha
  have e1 : (⟨#[32]⟩ : ByteArray).size = 1 := rfl
  have e2 : (⟨#[10]⟩ : ByteArray).size = 1 := rfl
  simp only [q9_Put.l0]
  rw [if_pos (by omega), if_pos (by omega), Hello.getR l i hlt, if_pos (by omega), if_pos (by rw [ByteArray.size_append]; omega), if_pos (by rw [ByteArray.size_append, ByteArray.size_append]; omega), if_pos (by rw [ByteArray.size_append, ByteArray.size_append, ByteArray.size_append]; omega), w64 (by omega) (by omega), show ((i : Int) + 1) = ((i + 1 : Nat) : Int) by omega]
  rw [show ((((acc ++ l[i].f1) ++ (⟨#[32]⟩ : ByteArray)) ++ l[i].f0) ++ (⟨#[10]⟩ : ByteArray)) = acc ++ (Hello.refT l[i] ++ (⟨#[10]⟩ : ByteArray)) by unfold Hello.refT; simp only [ByteArray.append_assoc]]
  rw [ih (i + 1) k _ (by omega) (by omega) (by rw [ByteArray.size_append, ByteArray.size_append, hr, e2]; omega), List.drop_eq_getElem_cons hlt]
  rfl
theorem rputs_eq (l : List Rf) (hl : l.length <= 20000) (hz : sizeR l <= 1000000000) {k : Nat} (hk : 1000000001 <= k) : q9_Put.f k l = some (if Hello.rightF l = true then (joinA ⟨#[]⟩ (l.map Hello.refT), true) else (⟨#[]⟩, false)) := by
 unfold q9_Put.f
 rw [Hello.rright_big l hl (by omega)]
 simp only [Option.bind_some]
 by_cases b : Hello.rightF l = true
 ·rw [if_pos b, if_pos b]
  have h := rputs_loop l (by omega) l.length 0 k ⟨#[]⟩ (by omega) (by omega) (by rw [List.drop_zero]; show 0 + _ <= _; omega)
  rw [List.drop_zero] at h
  exact h
 ·rw [if_neg b, if_neg b]
end Go.Proofs.YtlfenakgphmepaaGreatDoor.Root
end
section
namespace Go.Proofs.YtlfenakgphmepaaGreatDoor.Root
open Go.RowKit YtlfenakgphmepaaGreatDoorW.PrintWords Print Build YtlfenakgphmepaaGreatDoor.Conv
set_option linter.unusedVariables false
set_option linter.unusedSimpArgs false
def sizeK : List Fk -> Nat
 | [] => 0
 | f :: t => 100 + f.f0.size + f.f2.size + sizeR f.f3 + sizeT f.f4 + sizeK t
theorem sizeK_drop {l : List Fk} {i : Nat} (h : i < l.length) : sizeK (l.drop i) = 100 + l[i].f0.size + l[i].f2.size + sizeR l[i].f3 + sizeT l[i].f4 + sizeK (l.drop (i + 1)) := by
 rw [List.drop_eq_getElem_cons h]
 rfl
def forkA (acc : ByteArray) (f : Fk) : ByteArray := joinA ((acc ++ lineS [forkT, f.f0, linkT f.f1, f.f2, itoaB f.f3.length, itoaB f.f4.length]) ++ P0 f.f3) f.f4
theorem fork_line (acc a b c d e : ByteArray) : acc ++ lineS [forkT, a, b, c, d, e] = ((((((((((acc ++ (⟨#[102, 111, 114, 107, 32]⟩ : ByteArray)) ++ a) ++ (⟨#[32]⟩ : ByteArray)) ++ b) ++ (⟨#[32]⟩ : ByteArray)) ++ c) ++ (⟨#[32]⟩ : ByteArray)) ++ d) ++ (⟨#[32]⟩ : ByteArray)) ++ e) ++ (⟨#[10]⟩ : ByteArray) := by
 show acc ++ ((((((((((forkT ++ (⟨#[32]⟩ : ByteArray)) ++ a) ++ (⟨#[32]⟩ : ByteArray)) ++ b) ++ (⟨#[32]⟩ : ByteArray)) ++ c) ++ (⟨#[32]⟩ : ByteArray)) ++ d) ++ (⟨#[32]⟩ : ByteArray)) ++ e ++ (⟨#[10]⟩ : ByteArray)) = _
 rw [show (⟨#[102, 111, 114, 107, 32]⟩ : ByteArray) = forkT ++ (⟨#[32]⟩ : ByteArray) from rfl]
 simp only [ByteArray.append_assoc]
theorem link_size (b : Bool) : (linkT b).size <= 6 := by cases b <;> decide
theorem rput_j1 {n : Int} {pool : List ByteArray} {forks : List Fk} {k i : Nat} {acc : ByteArray} {f : Fk} {g1 : Bool} (hi : (i : Int) < 1000000) (hb : forkB f = true) (ha : acc.size + (100 + f.f0.size + f.f2.size + sizeR f.f3 + sizeT f.f4) <= 1000000000) (hk : 1000000001 <= k) :
  sacristyref10_Put.j1 (k + 1) acc (i : Int) (linkT f.f1) n pool forks f.f0 g1 f.f2 f.f3 f.f4 = sacristyref10_Put.l0 k (forkA acc f) ((i + 1 : Nat) : Int) n pool forks /\ (forkA acc f).size <= acc.size + (100 + f.f0.size + f.f2.size + sizeR f.f3 + sizeT f.f4) := by
 obtain ⟨b1, b2, b3, b4, b5⟩ := forkB_out hb
 have l3 := (rightF_out b3).1
 have l4 := (packs_out b2).1
 have hP := P0_eq b3
 have zP : (P0 f.f3).size = sizeR f.f3 := by rw [hP, joinA_size]; show 0 + _ = _; rw [Nat.zero_add]; rfl
 have t3 := itoa_size (n := (f.f3.length : Int)) (by omega) (by omega)
 have t4 := itoa_size (n := (f.f4.length : Int)) (by omega) (by omega)
 have zl := link_size f.f1
 have s5 : (⟨#[102, 111, 114, 107, 32]⟩ : ByteArray).size = 5 := rfl
 have s1 : (⟨#[32]⟩ : ByteArray).size = 1 := rfl
 have s0 : (⟨#[10]⟩ : ByteArray).size = 1 := rfl
 refine ⟨?_, ?_⟩
 ·simp only [sacristyref10_Put.j1]
  rw [rputs_eq f.f3 (by omega) (by omega) hk, if_pos b3, rtext_eq (f.f3.length : Int) (by omega) (by omega) (by omega), rtext_eq (f.f4.length : Int) (by omega) (by omega) (by omega), rrows_eq f.f4 (by omega) hk]
  simp only [Option.bind_some]
  rw [<- hP]
  simp only [ByteArray.size_append, s5, s1, s0, zP, joinA_size]
  have e0 : (⟨#[]⟩ : ByteArray).size = 0 := rfl
  rw [if_pos (by omega), if_pos (by omega), if_pos (by omega), if_pos (by omega), if_pos (by omega), if_pos (by omega), if_pos (by omega), if_pos (by omega), if_pos (by omega), if_pos (by omega), if_pos (by omega), if_pos (by omega), if_pos (by omega), w64 (by omega) (by omega), show ((i : Int) + 1) = ((i + 1 : Nat) : Int) by omega]
  congr 1
  unfold forkA
  rw [fork_line, joinA_app f.f4 (_ ++ P0 f.f3)]
 ·unfold forkA
  rw [fork_line, joinA_size]
  simp only [ByteArray.size_append, s5, s1, s0, zP]
  omega
theorem rput_loop (n : Int) (pool : List ByteArray) (forks : List Fk) (hf : ∀ f ∈ forks, forkB f = true) (hl : forks.length <= 16) : ∀ (d i k : Nat) (acc : ByteArray), i + d = forks.length -> 1000000002 + 2 * d <= k -> acc.size + sizeK (forks.drop i) <= 1000000000 ->
  sacristyref10_Put.l0 k acc (i : Int) n pool forks = some (bytesOf (textG P0 acc (forks.drop i)), true) := by
 intro d
 induction d with
 | zero =>
  intro i k acc hi hk ha
  obtain ⟨k, rfl⟩ : ∃ j, k = j + 1 := ⟨k - 1, by omega⟩
  simp only [sacristyref10_Put.l0]
  rw [if_neg (by omega), List.drop_eq_nil_of_le (by omega)]
  unfold conv_bytes.f
  rw [if_pos (by omega)]
  rfl
 | succ d ih =>
  intro i k acc hi hk ha
  obtain ⟨k, rfl⟩ : ∃ j, k = j + 2 := ⟨k - 2, by omega⟩
  have hlt : i < forks.length := by omega
  rw [sizeK_drop hlt] at ha
  have hj := fun g1 => rput_j1 (n := n) (pool := pool) (forks := forks) (k := k) (i := i) (acc := acc) (f := forks[i]) (g1 := g1) (by omega) (hf _ (List.getElem_mem hlt)) (by omega) (by omega)
  have hih := ih (i + 1) k (forkA acc forks[i]) (by omega) (by omega) (by have := (hj true).2; omega)
  have e : textG P0 acc (forks.drop i) = textG P0 (forkA acc forks[i]) (forks.drop (i + 1)) := by
   rw [List.drop_eq_getElem_cons hlt]
   rfl
  rw [e, <- hih]
  simp only [sacristyref10_Put.l0]
  rw [if_pos (by omega), if_pos (by omega), rd_fk forks i hlt]
  cases c : forks[i].f1 with
  | true =>
   have h := (hj true).1
   rw [c] at h
   rw [if_pos rfl]
   exact h
  | false =>
   have h := (hj false).1
   rw [c] at h
   rw [if_neg Bool.false_ne_true]
   exact h
theorem rput_eq (n : Int) (pool : List ByteArray) (forks : List Fk) (hp : pool.length <= 25000) (hf : ∀ f ∈ forks, f.f0.size <= 1000000 /\ f.f2.size <= 1000000 /\ f.f3.length <= 20000 /\ f.f4.length <= 25000) (hl : forks.length <= 1000000) (hz : rootF n pool forks = true -> 200 + sizeT pool + sizeK forks <= 1000000000) {k : Nat} (hk : 1000001000 <= k) :
  sacristyref10_Put.f k n pool forks = some (if rootF n pool forks = true then (bytesOf (textR n pool forks), true) else ([], false)) := by
 unfold sacristyref10_Put.f
 rw [rroot_eq n pool forks hp hf hl (by omega)]
 simp only [Option.bind_some]
 by_cases b : rootF n pool forks = true
 ·rw [if_pos b, if_pos b]
  replace hz := hz b
  obtain ⟨hfb, hn, hpf, hm⟩ := rootF_out b
  have t0 := itoa_size hn.1 hn.2
  have t1 := itoa_size (n := (pool.length : Int)) (by omega) (by omega)
  have t2 := itoa_size (n := (forks.length : Int)) (by omega) (by omega)
  rw [rtext_eq n hn.1 hn.2 (by omega), rtext_eq (pool.length : Int) (by omega) (by omega) (by omega), rtext_eq (forks.length : Int) (by omega) (by omega) (by omega), rrows_eq pool (by omega) (by omega)]
  simp only [Option.bind_some]
  have s4 : (⟨#[110, 101, 116, 32]⟩ : ByteArray).size = 4 := rfl
  have s6 : (⟨#[10, 112, 111, 111, 108, 32]⟩ : ByteArray).size = 6 := rfl
  have s7 : (⟨#[102, 111, 114, 107, 115, 32]⟩ : ByteArray).size = 6 := rfl
  have s0 : (⟨#[10]⟩ : ByteArray).size = 1 := rfl
  have e0 : (⟨#[]⟩ : ByteArray).size = 0 := rfl
  simp only [ByteArray.size_append, s4, s6, s7, s0, e0, joinA_size]
  rw [if_pos (by omega), if_pos (by omega), if_pos (by omega), if_pos (by omega), if_pos (by omega), if_pos (by omega), if_pos (by omega), if_pos (by omega)]
  have h := rput_loop n pool forks hfb hm forks.length 0 k (((((((((⟨#[110, 101, 116, 32]⟩ : ByteArray) ++ itoaB n) ++ (⟨#[10, 112, 111, 111, 108, 32]⟩ : ByteArray)) ++ itoaB pool.length) ++ (⟨#[10]⟩ : ByteArray)) ++ joinA ⟨#[]⟩ pool) ++ (⟨#[102, 111, 114, 107, 115, 32]⟩ : ByteArray)) ++ itoaB forks.length) ++ (⟨#[10]⟩ : ByteArray)) (by omega) (by omega) (by
   simp only [ByteArray.size_append, s4, s6, s7, s0, e0, joinA_size, List.drop_zero]
   omega)
  rw [show (0 : Int) = ((0 : Nat) : Int) from rfl, h]
  congr 3
  unfold textR textP
  rw [List.drop_zero, joinA_app pool (_ ++ _)]
  congr 1
  show _ = ((((netT ++ (⟨#[32]⟩ : ByteArray)) ++ itoaB n) ++ (⟨#[10]⟩ : ByteArray)) ++ (((poolT ++ (⟨#[32]⟩ : ByteArray)) ++ itoaB pool.length) ++ (⟨#[10]⟩ : ByteArray)) ++ joinA ⟨#[]⟩ pool) ++ (((forksT ++ (⟨#[32]⟩ : ByteArray)) ++ itoaB forks.length) ++ (⟨#[10]⟩ : ByteArray))
  rw [show (⟨#[110, 101, 116, 32]⟩ : ByteArray) = netT ++ (⟨#[32]⟩ : ByteArray) from rfl, show (⟨#[10, 112, 111, 111, 108, 32]⟩ : ByteArray) = ((⟨#[10]⟩ : ByteArray) ++ poolT) ++ (⟨#[32]⟩ : ByteArray) from rfl, show (⟨#[102, 111, 114, 107, 115, 32]⟩ : ByteArray) = forksT ++ (⟨#[32]⟩ : ByteArray) from rfl]
  simp only [ByteArray.append_assoc]
 ·rw [if_neg b, if_neg b]
end Go.Proofs.YtlfenakgphmepaaGreatDoor.Root
end
section
namespace Go.Proofs.YtlfenakgphmepaaGreatDoor.Root
open Go.RowKit YtlfenakgphmepaaGreatDoorW.PrintWords Print Build YtlfenakgphmepaaGreatDoor.Conv
set_option linter.unusedVariables false
set_option linter.unusedSimpArgs false
theorem ext_list (s : ByteArray) (a b : Nat) : (s.extract a b).data.toList = (s.data.toList.drop a).take (b - a) := by
 rw [ByteArray.data_extract, Array.toList_extract]
theorem ext_succ (s : ByteArray) {a i : Nat} (ha : a <= i) (hi : i < s.size) : s.extract a (i + 1) = s.extract a i ++ (⟨#[s.data.toList[i]'(by simpa using hi)]⟩ : ByteArray) := by
 have hl : s.data.toList.length = s.size := by simp
 refine ba_ext ?_
 rw [ByteArray.data_append, Array.toList_append, ext_list, ext_list, show i + 1 - a = (i - a) + 1 by omega, List.take_succ_eq_append_getElem (by rw [List.length_drop]; omega), List.getElem_drop]
 congr 2
 simp only [show a + (i - a) = i by omega]
theorem ext_split (s : ByteArray) {a i : Nat} (ha : a <= i) (hi : i < s.size) : s.extract a s.size = (s.extract a i ++ (⟨#[s.data.toList[i]'(by simpa using hi)]⟩ : ByteArray)) ++ s.extract (i + 1) s.size := by
 have hl : s.data.toList.length = s.size := by simp
 rw [<- ext_succ s ha hi]
 refine ba_ext ?_
 rw [ByteArray.data_append, Array.toList_append, ext_list, ext_list, ext_list, List.take_of_length_le (by rw [List.length_drop]; omega), List.take_of_length_le (show (s.data.toList.drop (i + 1)).length <= s.size - (i + 1) by rw [List.length_drop]; omega)]
 conv => lhs; rw [<- List.take_append_drop (i + 1 - a) (s.data.toList.drop a)]
 rw [List.drop_drop, show a + (i + 1 - a) = i + 1 by omega]
theorem ext_self (s : ByteArray) : s.extract 0 s.size = s := by
 refine ba_ext ?_
 have hl : s.data.toList.length = s.size := by simp
 rw [ext_list, List.drop_zero, List.take_of_length_le (by omega)]
theorem rsplit_loop (s : ByteArray) (c : UInt8) (hs : s.size <= 1000000000) : ∀ (d i a k : Nat) (out : List ByteArray), i + d = s.size -> a <= i -> d + 2 <= k -> out.length <= i -> plainC c (s.extract a i) ->
  sacristyref10_split.l0 k s (c.toNat : Int) out (a : Int) (i : Int) = some (out ++ cutsF c (s.extract a s.size)) := by
 intro d
 induction d with
 | zero =>
  intro i a k out hi ha hk ho hp
  obtain ⟨k, rfl⟩ : ∃ j, k = j + 2 := ⟨k - 2, by omega⟩
  obtain rfl : i = s.size := by omega
  simp only [sacristyref10_split.l0]
  rw [if_pos (by omega), if_pos trivial, if_pos (by omega), if_pos (by omega), if_pos (by omega), w64 (by omega) (by omega), if_neg (by omega), Int.toNat_natCast, Int.toNat_natCast, cuts_miss hp]
 | succ d ih =>
  intro i a k out hi ha hk ho hp
  obtain ⟨k, rfl⟩ : ∃ j, k = j + 1 := ⟨k - 1, by omega⟩
  have hlt : i < s.size := by omega
  simp only [sacristyref10_split.l0]
  rw [if_pos (by omega), if_neg (by omega), if_pos (by omega), if_pos (by omega), w64 (by omega) (by omega), show ((i : Int) + 1) = ((i + 1 : Nat) : Int) by omega]
  by_cases e : bt s (i : Int) = (c.toNat : Int)
  ·rw [if_pos e, if_pos (by omega), if_pos (by omega), if_pos (by omega), Int.toNat_natCast, Int.toNat_natCast]
   have hc : s.data.toList[i]'(by simpa using hlt) = c := by
    rw [bt_get s i hlt] at e
    exact UInt8.toNat_inj.1 (by omega)
   rw [ih (i + 1) (i + 1) k _ (by omega) (by omega) (by omega) (by rw [List.length_append]; show out.length + 1 <= _; omega) (fun m => by rw [ext_list, Nat.sub_self, List.take_zero] at m; exact List.not_mem_nil m), ext_split s ha hlt, hc, cuts_app hp, List.append_assoc]
   rfl
  ·rw [if_neg e, ih (i + 1) a k out (by omega) (by omega) (by omega) (by omega)]
   rw [ext_succ s ha hlt]
   refine plain_app hp (fun m => e ?_)
   rw [bt_get s i hlt, List.mem_singleton.1 m]
theorem rsplit_eq (s : ByteArray) (c : UInt8) (hs : s.size <= 1000000000) {k : Nat} (hk : 1000000002 <= k) : sacristyref10_split.f k s (c.toNat : Int) = some (cutsF c s) := by
 have h := rsplit_loop s c hs s.size 0 0 k [] (by omega) (by omega) (by omega) (Nat.zero_le _) (fun m => by rw [ext_list, Nat.sub_self, List.take_zero] at m; exact List.not_mem_nil m)
 rw [ext_self, List.nil_append] at h
 exact h
def decD (s : ByteArray) : Int × Bool :=
 if s.size = 0 ∨ s.size > 13 ∨ (s.size > 1 /\ bt s 0 = 48) then (0, false) else match decR s s.size 0 0 with
  | none => (0, false)
  | some n => if n <= 1099511627776 then (n, true) else (0, false)
theorem rdec_loop (s : ByteArray) (hs : s.size <= 13) : ∀ (d i k : Nat) (n : Int), i + d = s.size -> d + 1 <= k -> 0 <= n -> n < (10 : Int) ^ i ->
  sacristyref03_Decimal.l0 k s n (i : Int) = some (match decR s d i n with
   | none => (0, false)
   | some n => if n <= 1099511627776 then (n, true) else (0, false)) := by
 intro d
 induction d with
 | zero =>
  intro i k n hi hk h0 hn
  obtain ⟨k, rfl⟩ : ∃ j, k = j + 1 := ⟨k - 1, by omega⟩
  simp only [sacristyref03_Decimal.l0, sacristyref03_most.f, decR, Option.bind_some]
  rw [if_neg (by omega)]
  by_cases c : n <= 1099511627776
  ·rw [if_neg (by omega), if_pos c]
  ·rw [if_pos (by omega), if_neg c]
 | succ d ih =>
  intro i k n hi hk h0 hn
  obtain ⟨k, rfl⟩ : ∃ j, k = j + 1 := ⟨k - 1, by omega⟩
  have h13 := pow10_le (i := i) (by omega)
  simp only [sacristyref03_Decimal.l0, decR]
  rw [if_pos (by omega), if_pos (by omega)]
  by_cases c1 : bt s (i : Int) < 48
  ·rw [if_pos c1, if_neg (by omega)]
  ·rw [if_neg c1]
   by_cases c2 : bt s (i : Int) > 57
   ·rw [if_pos c2, if_neg (by omega)]
   ·have e : wrap64 ((wrap64 (10 * n)) + ((bt s (i : Int) - 48) % 256)) = 10 * n + (bt s (i : Int) - 48) := by
     rw [show wrap64 (10 * n) = 10 * n by unfold wrap64; omega, show (bt s (i : Int) - 48) % 256 = bt s (i : Int) - 48 by omega]
     unfold wrap64
     omega
    rw [if_neg c2, if_pos (by omega), e, w64 (by omega) (by omega), show ((i : Int) + 1) = ((i + 1 : Nat) : Int) by omega]
    refine ih (i + 1) k _ (by omega) (by omega) (by omega) ?_
    rw [Int.pow_succ]
    omega
theorem rdec_eq (s : ByteArray) {k : Nat} (hk : 100 <= k) : sacristyref03_Decimal.f k s = some (decD s) := by
 obtain ⟨k, rfl⟩ : ∃ j, k = j + 1 := ⟨k - 1, by omega⟩
 have ht : sacristyref03_Decimal.j0 (k + 1) s 0 true = some (0, false) := rfl
 have hf : s.size <= 13 -> sacristyref03_Decimal.j0 (k + 1) s 0 false = some (match decR s s.size 0 0 with
   | none => (0, false)
   | some n => if n <= 1099511627776 then (n, true) else (0, false)) := fun h => by
  have := rdec_loop s h s.size 0 k 0 (by omega) (by omega) (by omega) (by decide)
  simp only [sacristyref03_Decimal.j0]
  rw [if_neg Bool.false_ne_true]
  exact this
 unfold sacristyref03_Decimal.f decD
 by_cases h0 : s.size = 0
 ·rw [if_pos (by omega), ht, if_pos (Or.inl h0)]
 ·rw [if_neg (by omega)]
  by_cases h1 : s.size > 13
  ·rw [if_pos (by omega), ht, if_pos (Or.inr (Or.inl h1))]
  ·rw [if_neg (by omega)]
   by_cases h2 : s.size > 1
   ·rw [if_pos (by omega), if_pos (by omega)]
    by_cases h3 : bt s 0 = 48
    ·rw [show (bt s 0 == 48) = true from beq_iff_eq.2 h3, ht, if_pos (Or.inr (Or.inr ⟨h2, h3⟩))]
    ·rw [show (bt s 0 == 48) = false from beq_eq_false_iff_ne.2 h3, hf (by omega), if_neg (by omega)]
   ·rw [if_neg (by omega), hf (by omega), if_neg (by omega)]
theorem decR_pos (s : ByteArray) : ∀ (d i : Nat) (n m : Int), 0 <= n -> decR s d i n = some m -> 0 <= m
 | 0, i, n, m, h, e => by
  have := Option.some.inj e
  omega
 | d + 1, i, n, m, h, e => by
  simp only [decR] at e
  by_cases c : 48 <= bt s (i : Int) /\ bt s (i : Int) <= 57 /\ i ≠ 13
  ·rw [if_pos c] at e
   exact decR_pos s d (i + 1) _ m (by omega) e
  ·rw [if_neg c] at e
   cases e
theorem decD_bd (s : ByteArray) : 0 <= (decD s).1 /\ (decD s).1 <= 1099511627776 := by
 unfold decD
 split
 ·exact ⟨Int.le_refl _, by decide⟩
 ·split
  ·exact ⟨Int.le_refl _, by decide⟩
  ·rename_i n hn
   split
   ·rename_i c
    exact ⟨decR_pos s _ _ _ _ (Int.le_refl _) hn, c⟩
   ·exact ⟨Int.le_refl _, by decide⟩
theorem digits_head : ∀ (u : Nat), 0 < u -> ∀ (x : UInt8) (t : List UInt8), Lib.decDigits u = x :: t -> x.toNat ≠ 48 := by
 intro u
 induction u using Nat.strongRecOn with
 | _ u ih =>
  intro hu x t e
  by_cases h : u < 10
  ·rw [Lib.decDigits, dif_pos h] at e
   injection e with e1 e2
   rw [<- e1]
   have := dig_nat h
   omega
  ·rw [Lib.decDigits, dif_neg h] at e
   cases hd : Lib.decDigits (u / 10) with
   | nil =>
    have := Lib.decDigits_length (u / 10)
    rw [hd] at this
    have h2 := Lib.nDigits_pos (u / 10)
    rw [<- this] at h2
    exact absurd h2 (Nat.lt_irrefl 0)
   | cons y z =>
    rw [hd] at e
    injection e with e1 e2
    rw [<- e1]
    exact ih (u / 10) (by omega) (by omega) y z hd
theorem decD_itoa {n : Int} (h0 : 0 <= n) (h1 : n <= 1099511627776) : decD (itoaB n) = (n, true) := by
 have hz := itoa_size h0 h1
 have hd : decR (itoaB n) (itoaB n).size 0 0 = some n := by
  rw [decR_list _ _ 0 0 (by omega), List.drop_zero, itoa_list h0]
  have := decL_digits n.toNat [] (nDigits_le 13 _ (by decide) (by have := pow13; omega))
  rw [List.append_nil] at this
  rw [this]
  show some _ = some n
  congr 1
  omega
 have hc : ¬ ((itoaB n).size = 0 ∨ (itoaB n).size > 13 ∨ ((itoaB n).size > 1 /\ bt (itoaB n) 0 = 48)) := by
  rintro (c | c | ⟨c, d⟩)
  ·omega
  ·omega
  ·have hl : (itoaB n).data.toList.length = (itoaB n).size := by simp
   have hb : bt (itoaB n) 0 = (((itoaB n).data.toList[0]'(by omega)).toNat : Int) := bt_get (itoaB n) 0 (by omega)
   cases hq : Lib.decDigits n.toNat with
   | nil =>
    have e := itoa_list h0
    rw [hq] at e
    rw [e] at hl
    have : (0 : Nat) = _ := hl
    omega
   | cons x t =>
    have hx : (itoaB n).data.toList[0]? = some x := by rw [itoa_list h0, hq]; rfl
    rw [List.getElem?_eq_getElem (by omega)] at hx
    rw [Option.some.inj hx] at hb
    have hn : 0 < n.toNat := by
     rcases Nat.eq_zero_or_pos n.toNat with r | r
     ·have hs := itoa_list h0
      rw [r] at hs
      rw [hs, Lib.decDigits, dif_pos (by decide)] at hl
      have : (1 : Nat) = _ := hl
      omega
     ·exact r
    have := digits_head n.toNat hn x t hq
    omega
 unfold decD
 rw [if_neg hc, hd]
 show (if _ then _ else _) = _
 rw [if_pos h1]
def cntD (l : List ByteArray) (at_ : Nat) (word : ByteArray) : Int × Bool :=
 if at_ < l.length /\ word.size + 1 <= (nth l at_).size /\ ((nth l at_).extract 0 word.size).toList = word.toList /\ bt (nth l at_) (word.size : Int) = 32 then decD ((nth l at_).extract (word.size + 1) (nth l at_).size) else (0, false)
theorem rd_nth (l : List ByteArray) (i : Nat) : rdOf ByteArray.empty l (i : Int) = nth l i := by
 unfold rdOf nth
 rw [Int.toNat_natCast]
theorem rcnt_eq (l : List ByteArray) (a : Nat) (word : ByteArray) (hw : word.size <= 1000) {k : Nat} (hk : 100 <= k) : sacristyref10_counted.f k l (a : Int) word = some (cntD l a word) := by
 unfold sacristyref10_counted.f cntD
 rw [rd_nth, w64 (by omega) (by omega)]
 by_cases h0 : a < l.length
 ·rw [if_neg (by omega), if_pos (by omega), if_pos (by omega)]
  by_cases h1 : word.size + 1 <= (nth l a).size
  ·rw [if_neg (by omega), if_pos (by omega), if_pos (by omega), Int.toNat_natCast]
   by_cases h2 : ((nth l a).extract 0 word.size).toList = word.toList
   ·rw [if_pos h2, if_pos (by omega)]
    by_cases h3 : bt (nth l a) (word.size : Int) = 32
    ·rw [if_pos h3, if_pos (by omega), if_pos (by omega), show ((word.size : Int) + 1).toNat = word.size + 1 by omega, rdec_eq _ hk, if_pos ⟨h0, h1, h2, h3⟩]
     rfl
    ·rw [if_neg h3, if_neg (fun e => h3 e.2.2.2)]
   ·rw [if_neg h2, if_neg (fun e => h2 e.2.2.1)]
  ·rw [if_pos (by omega), if_neg (fun e => h1 e.2.1)]
 ·rw [if_pos (by omega), if_neg (fun e => h0 e.1)]
theorem cntD_bd (l : List ByteArray) (a : Nat) (word : ByteArray) : 0 <= (cntD l a word).1 /\ (cntD l a word).1 <= 1099511627776 := by
 unfold cntD
 split
 ·exact decD_bd _
 ·exact ⟨Int.le_refl _, by decide⟩
theorem cntD_line {l : List ByteArray} {a : Nat} {word : ByteArray} {n : Int} (ha : a < l.length) (e : nth l a = joinS [word, itoaB n]) (h0 : 0 <= n) (h1 : n <= 1099511627776) : cntD l a word = (n, true) := by
 have e2 : nth l a = (word ++ (⟨#[32]⟩ : ByteArray)) ++ itoaB n := e
 have hz : (nth l a).size = word.size + 1 + (itoaB n).size := by
  rw [e2, ByteArray.size_append, ByteArray.size_append]
  rfl
 have hw : (word ++ (⟨#[32]⟩ : ByteArray)).size = word.size + 1 := by
  rw [ByteArray.size_append]
  rfl
 have ht : (nth l a).extract (word.size + 1) (nth l a).size = itoaB n := by
  rw [e2, <- hw]
  exact ext_from _ _
 have hb : bt (nth l a) (word.size : Int) = 32 := by
  rw [bt_get _ word.size (by omega)]
  have hd : (nth l a).data.toList = word.data.toList ++ 32 :: (itoaB n).data.toList := by
   rw [e2, ByteArray.data_append, Array.toList_append, ByteArray.data_append, Array.toList_append, List.append_assoc]
   rfl
  have hwl : word.data.toList.length = word.size := by simp
  have hx : (nth l a).data.toList[word.size]? = some 32 := by
   rw [hd, List.getElem?_append_right (by omega), hwl, Nat.sub_self]
   rfl
  have hlen : (nth l a).data.toList.length = (nth l a).size := by simp
  rw [List.getElem?_eq_getElem (by omega)] at hx
  rw [Option.some.inj hx]
  rfl
 have hx : ((nth l a).extract 0 word.size).toList = word.toList := by rw [e2, ByteArray.append_assoc, ext_to]
 unfold cntD
 rw [if_pos ⟨ha, by omega, hx, hb⟩, ht, decD_itoa h0 h1]
end Go.Proofs.YtlfenakgphmepaaGreatDoor.Root
end
section
namespace Go.Proofs.YtlfenakgphmepaaGreatDoor.Root
open Go.RowKit YtlfenakgphmepaaGreatDoorW.PrintWords Print Build YtlfenakgphmepaaGreatDoor.Conv
set_option linter.unusedVariables false
set_option linter.unusedSimpArgs false
theorem rg_scan (s : ByteArray) (hs : s.size <= 1000000000) (acc : List Rf) (a e : Nat) (he : e <= s.size) : ∀ (d j k : Nat), j + d = e -> (∀ x, j <= x -> x < e -> bt s (x : Int) ≠ 10) -> q9_Get.l1 (k + d) s acc (a : Int) (j : Int) = q9_Get.l1 k s acc (a : Int) (e : Int)
 | 0, j, k, hj, hx => by
  obtain rfl : j = e := by omega
  rfl
 | d + 1, j, k, hj, hx => by
  have ih := rg_scan s hs acc a e he d (j + 1) k (by omega) (fun x h1 h2 => hx x (by omega) h2)
  rw [<- ih, show k + (d + 1) = (k + d) + 1 by omega]
  conv => lhs; unfold q9_Get.l1
  rw [if_pos (by omega), if_pos (by omega), if_neg (hx j (Nat.le_refl _) (by omega)), w64 (by omega) (by omega), show ((j : Int) + 1) = ((j + 1 : Nat) : Int) by omega]
theorem rg_at (s : ByteArray) (hs : s.size <= 1000000000) (acc : List Rf) (ha : acc.length <= 1000000000) (a e : Nat) (hae : a <= e) (he : e <= s.size) (hx : e < s.size -> bt s (e : Int) = 10) (k : Nat) :
  q9_Get.l1 (k + 1) s acc (a : Int) (e : Int) = if e = s.size ∨ e < a + 65 then some ([], false) else q9_Get.l0 k s (acc ++ [(⟨s.extract (a + 65) e, s.extract a (a + 64)⟩ : Rf)]) ((e + 1 : Nat) : Int) := by
 unfold q9_Get.l1
 by_cases c : e < s.size
 ·rw [if_pos (by omega), if_pos (by omega), if_pos (hx c), if_neg (by omega), show wrap64 ((e : Int) - (a : Int)) = (e : Int) - (a : Int) by unfold wrap64; omega]
  by_cases d : e < a + 65
  ·rw [if_pos (by omega), if_pos (Or.inr d)]
  ·rw [if_neg (by omega), if_neg (show ¬ (e = s.size ∨ e < a + 65) by omega), show wrap64 ((a : Int) + 64) = ((a + 64 : Nat) : Int) by unfold wrap64; omega, show wrap64 ((a : Int) + 65) = ((a + 65 : Nat) : Int) by unfold wrap64; omega, if_pos (by omega), if_pos (by omega), if_pos (by omega), if_pos (by omega), if_pos (by omega), if_pos (by omega), if_pos (by omega), w64 (by omega) (by omega), show ((e : Int) + 1) = ((e + 1 : Nat) : Int) by omega]
   simp only [Int.toNat_natCast]
 ·rw [if_neg (by omega), if_pos (by omega), if_pos (Or.inl (by omega))]
theorem rg_stop (s : ByteArray) : ∀ (d a : Nat), a + d = s.size -> ∃ e, a <= e /\ e <= s.size /\ (e < s.size -> bt s (e : Int) = 10) /\ ∀ x, a <= x -> x < e -> bt s (x : Int) ≠ 10
 | 0, a, h => ⟨a, Nat.le_refl _, by omega, fun c => by omega, fun x h1 h2 => by omega⟩
 | d + 1, a, h => by
  by_cases c : bt s (a : Int) = 10
  ·exact ⟨a, Nat.le_refl _, by omega, fun _ => c, fun x h1 h2 => by omega⟩
  ·obtain ⟨e, h1, h2, h3, h4⟩ := rg_stop s d (a + 1) (by omega)
   refine ⟨e, by omega, h2, h3, fun x hx hy => ?_⟩
   by_cases q : x = a
   ·rw [q]; exact c
   ·exact h4 x (by omega) hy
theorem sizeR_snoc (l : List Rf) (y : Rf) : sizeR (l ++ [y]) = sizeR l + (y.f1.size + 1 + y.f0.size + 1) := by
 unfold sizeR sizeT Hello.refT
 simp only [List.map_append, List.map_cons, List.map_nil, List.sum_append, List.sum_cons, List.sum_nil, ByteArray.size_append, show (⟨#[32]⟩ : ByteArray).size = 1 from rfl]
 omega
theorem rg_some (s : ByteArray) (hs : s.size <= 1000000) : ∀ (d a k : Nat) (acc : List Rf), s.size - a <= d -> a <= s.size -> 1000000010 + 3 * d <= k -> 66 * acc.length <= a -> sizeR acc <= a -> ∃ r, q9_Get.l0 k s acc (a : Int) = some r /\ 66 * r.1.length <= s.size /\ sizeR r.1 <= s.size := by
 intro d
 induction d using Nat.strongRecOn with
 | _ d ih =>
  intro a k acc hd ha hk hl hz
  obtain ⟨k, rfl⟩ : ∃ j, k = j + 1 := ⟨k - 1, by omega⟩
  unfold q9_Get.l0
  by_cases c : a < s.size
  ·obtain ⟨e, h1, h2, h3, h4⟩ := rg_stop s (s.size - a) a (by omega)
   obtain ⟨m, hm⟩ : ∃ m, k = (m + 1) + (e - a) := ⟨k - 1 - (e - a), by omega⟩
   rw [if_pos (by omega), hm, rg_scan s (by omega) acc a e h2 (e - a) a (m + 1) (by omega) h4, rg_at s (by omega) acc (by omega) a e h1 h2 h3 m]
   by_cases q : e = s.size ∨ e < a + 65
   ·rw [if_pos q]
    exact ⟨_, rfl, Nat.zero_le _, Nat.zero_le _⟩
   ·rw [if_neg q]
    refine ih (s.size - (e + 1)) (by omega) (e + 1) m _ (Nat.le_refl _) (by omega) (by omega) ?_ ?_
    ·rw [List.length_append]
     show 66 * (acc.length + 1) <= _
     omega
    ·rw [sizeR_snoc, ByteArray.size_extract, ByteArray.size_extract]
     omega
  ·rw [if_neg (by omega), rputs_eq acc (by omega) (by omega) (by omega)]
   simp only [Option.bind_some]
   by_cases b : Hello.rightF acc = true
   ·rw [if_pos b, if_pos rfl]
    split
    ·exact ⟨_, rfl, by show 66 * acc.length <= _; omega, by show sizeR acc <= _; omega⟩
    ·exact ⟨_, rfl, Nat.zero_le _, Nat.zero_le _⟩
   ·rw [if_neg b, if_neg Bool.false_ne_true]
    exact ⟨_, rfl, Nat.zero_le _, Nat.zero_le _⟩
def RG (t : ByteArray) : List Rf × Bool := (q9_Get.f 2000000000 t).getD ([], false)
theorem RG_eq (t : ByteArray) (ht : t.size <= 1000000) : q9_Get.f 2000000000 t = some (RG t) /\ 66 * (RG t).1.length <= t.size /\ sizeR (RG t).1 <= t.size := by
 obtain ⟨r, h1, h2, h3⟩ := rg_some t ht t.size 0 2000000000 [] (by omega) (by omega) (by omega) (Nat.zero_le _) (Nat.zero_le _)
 have h : q9_Get.f 2000000000 t = some r := h1
 unfold RG
 rw [h]
 exact ⟨rfl, h2, h3⟩
theorem ext_mid (p x q : ByteArray) : ((p ++ x) ++ q).extract p.size (p.size + x.size) = x := by
 refine ba_ext ?_
 have h1 : p.data.toList.length = p.size := by simp
 have h2 : x.data.toList.length = x.size := by simp
 rw [ext_list, ByteArray.data_append, Array.toList_append, ByteArray.data_append, Array.toList_append, List.append_assoc, <- h1, List.drop_left, Nat.add_sub_cancel_left, <- h2, List.take_left]
theorem bt_mid (p x q : ByteArray) (j : Nat) (h : j < x.size) : bt ((p ++ x) ++ q) ((p.size + j : Nat) : Int) = bt x (j : Int) := by
 have hz : p.size + j < ((p ++ x) ++ q).size := by rw [ByteArray.size_append, ByteArray.size_append]; omega
 rw [bt_get _ _ hz, bt_get x j h]
 have h1 : p.data.toList.length = p.size := by simp
 have h2 : x.data.toList.length = x.size := by simp
 have h3 : ((p ++ x) ++ q).data.toList.length = ((p ++ x) ++ q).size := by rw [Array.length_toList]; rfl
 have e : ((p ++ x) ++ q).data.toList[p.size + j]? = x.data.toList[j]? := by
  rw [ByteArray.data_append, Array.toList_append, ByteArray.data_append, Array.toList_append, List.append_assoc, List.getElem?_append_right (by omega), h1, Nat.add_sub_cancel_left, List.getElem?_append_left (by omega)]
 rw [List.getElem?_eq_getElem (by omega), List.getElem?_eq_getElem (by omega)] at e
 rw [Option.some.inj e]
theorem rg_right {l : List Rf} (h : Hello.rightF l = true) : ∀ (t acc : List Rf) (k : Nat), acc ++ t = l -> 1000000010 + 3 * (joinA ⟨#[]⟩ (t.map Hello.refT)).size <= k ->
  q9_Get.l0 k (joinA ⟨#[]⟩ (l.map Hello.refT)) acc (((joinA ⟨#[]⟩ (acc.map Hello.refT)).size : Nat) : Int) = some (l, true)
 | [], acc, k, e, hk => by
  obtain ⟨k, rfl⟩ : ∃ m, k = m + 1 := ⟨k - 1, by omega⟩
  rw [List.append_nil] at e
  subst e
  have hl := (rightF_out h).1
  have hz : sizeR acc <= 1000000 := by
   have hs := rf_size h
   have : ∀ l : List Rf, (∀ y ∈ l, y.f0.size <= 80 /\ y.f1.size = 64) -> sizeR l <= 200 * l.length := by
    intro l
    induction l with
    | nil => intro _; exact Nat.zero_le _
    | cons y t ih =>
     intro hy
     have a := hy y List.mem_cons_self
     have b := ih (fun z hz => hy z (List.mem_cons_of_mem _ hz))
     unfold sizeR at b ⊢
     rw [List.map_cons, qz, List.length_cons]
     have : (Hello.refT y).size = y.f1.size + 1 + y.f0.size := by
      unfold Hello.refT
      rw [ByteArray.size_append, ByteArray.size_append]
      rfl
     omega
   have := this acc hs
   omega
  unfold q9_Get.l0
  rw [if_neg (by omega), rputs_eq acc (by omega) (by omega) (by omega), if_pos h]
  simp only [Option.bind_some]
  rw [if_pos trivial, if_pos trivial]
 | y :: t, acc, k, e, hk => by
  obtain ⟨k, rfl⟩ : ∃ m, k = m + 1 := ⟨k - 1, by omega⟩
  have hy : y ∈ l := by rw [<- e]; simp
  have hs := rf_size h y hy
  have hpl := refT_plain ((rightF_out h).2 y hy)
  have hlen := (rightF_out h).1
  have hal : acc.length <= 1000000000 := by
   have := congrArg List.length e
   rw [List.length_append] at this
   omega
  have hr : (Hello.refT y).size = y.f1.size + 1 + y.f0.size := by
   unfold Hello.refT
   rw [ByteArray.size_append, ByteArray.size_append]
   rfl
  have ht : joinA ⟨#[]⟩ (l.map Hello.refT) = (joinA ⟨#[]⟩ (acc.map Hello.refT) ++ (Hello.refT y ++ (⟨#[10]⟩ : ByteArray))) ++ joinA ⟨#[]⟩ (t.map Hello.refT) := by
   rw [<- e, List.map_append, List.map_cons, joinA_two]
   show joinA (joinA ⟨#[]⟩ (acc.map Hello.refT) ++ (Hello.refT y ++ (⟨#[10]⟩ : ByteArray))) (t.map Hello.refT) = _
   rw [joinA_app]
  have hacc : joinA ⟨#[]⟩ ((acc ++ [y]).map Hello.refT) = joinA ⟨#[]⟩ (acc.map Hello.refT) ++ (Hello.refT y ++ (⟨#[10]⟩ : ByteArray)) := by
   rw [List.map_append, joinA_two]
   rfl
  have hty : (joinA ⟨#[]⟩ ((y :: t).map Hello.refT)).size = (Hello.refT y).size + 1 + (joinA ⟨#[]⟩ (t.map Hello.refT)).size := by
   rw [joinA_size, joinA_size, List.map_cons, qz]
   omega
  rw [hty] at hk
  have ih := fun k hk => rg_right h t (acc ++ [y]) k (by rw [List.append_assoc]; exact e) hk
  have hZ : (joinA ⟨#[]⟩ (l.map Hello.refT)).size <= 1000000000 := by
   have : ∀ l : List Rf, (∀ y ∈ l, y.f0.size <= 80 /\ y.f1.size = 64) -> sizeR l <= 200 * l.length := by
    intro l
    induction l with
    | nil => intro _; exact Nat.zero_le _
    | cons y t ih =>
     intro hy
     have a := hy y List.mem_cons_self
     have b := ih (fun z hz => hy z (List.mem_cons_of_mem _ hz))
     unfold sizeR at b ⊢
     rw [List.map_cons, qz, List.length_cons]
     have : (Hello.refT y).size = y.f1.size + 1 + y.f0.size := by
      unfold Hello.refT
      rw [ByteArray.size_append, ByteArray.size_append]
      rfl
     omega
   have := this l (rf_size h)
   rw [joinA_size]
   show 0 + sizeR l <= _
   omega
  rw [hacc] at ih
  generalize hT : joinA ⟨#[]⟩ (l.map Hello.refT) = T at ht ih hZ ⊢
  generalize joinA ⟨#[]⟩ (acc.map Hello.refT) = p at ht ih ⊢
  generalize joinA ⟨#[]⟩ (t.map Hello.refT) = q at ht ih hk
  have e10 : (⟨#[10]⟩ : ByteArray).size = 1 := rfl
  have e32 : (⟨#[32]⟩ : ByteArray).size = 1 := rfl
  have hTs : T.size = p.size + ((Hello.refT y).size + 1) + q.size := by
   rw [ht, ByteArray.size_append, ByteArray.size_append, ByteArray.size_append, e10]
  have b10 : bt T ((p.size + (Hello.refT y).size : Nat) : Int) = 10 := by
   have := bt_mid (p ++ Hello.refT y) (⟨#[10]⟩ : ByteArray) q 0 (by decide)
   rw [ByteArray.size_append, Nat.add_zero] at this
   rw [ht, <- ByteArray.append_assoc, this]
   rfl
  have bno : ∀ x, p.size <= x -> x < p.size + (Hello.refT y).size -> bt T (x : Int) ≠ 10 := by
   intro x h1 h2 hx
   have := bt_mid p (Hello.refT y) ((⟨#[10]⟩ : ByteArray) ++ q) (x - p.size) (by omega)
   rw [show p.size + (x - p.size) = x by omega] at this
   have hT2 : T = (p ++ Hello.refT y) ++ ((⟨#[10]⟩ : ByteArray) ++ q) := by rw [ht]; simp only [ByteArray.append_assoc]
   rw [hT2, this, bt_get _ _ (by omega)] at hx
   refine hpl ?_
   rw [<- UInt8.toNat_inj.1 (show ((Hello.refT y).data.toList[x - p.size]'(by have : (Hello.refT y).data.toList.length = (Hello.refT y).size := (by simp); omega)).toNat = (10 : UInt8).toNat by show _ = 10; omega)]
   exact List.getElem_mem _
  have x1 : T.extract p.size (p.size + 64) = y.f1 := by
   have hT2 : T = (p ++ y.f1) ++ ((⟨#[32]⟩ : ByteArray) ++ (y.f0 ++ ((⟨#[10]⟩ : ByteArray) ++ q))) := by rw [ht]; unfold Hello.refT; simp only [ByteArray.append_assoc]
   rw [hT2, <- hs.2]
   exact ext_mid _ _ _
  have x0 : T.extract (p.size + 65) (p.size + (Hello.refT y).size) = y.f0 := by
   have hT2 : T = (((p ++ y.f1) ++ (⟨#[32]⟩ : ByteArray)) ++ y.f0) ++ ((⟨#[10]⟩ : ByteArray) ++ q) := by rw [ht]; unfold Hello.refT; simp only [ByteArray.append_assoc]
   have hp : ((p ++ y.f1) ++ (⟨#[32]⟩ : ByteArray)).size = p.size + 65 := by rw [ByteArray.size_append, ByteArray.size_append, e32]; omega
   have := ext_mid ((p ++ y.f1) ++ (⟨#[32]⟩ : ByteArray)) y.f0 ((⟨#[10]⟩ : ByteArray) ++ q)
   rw [hp] at this
   rw [hT2, show p.size + (Hello.refT y).size = p.size + 65 + y.f0.size by omega]
   exact this
  unfold q9_Get.l0
  obtain ⟨m, hm⟩ : ∃ m, k = (m + 1) + (Hello.refT y).size := ⟨k - 1 - (Hello.refT y).size, by omega⟩
  rw [if_pos (by omega), hm, rg_scan T (by omega) acc p.size (p.size + (Hello.refT y).size) (by omega) (Hello.refT y).size p.size (m + 1) (by omega) bno, rg_at T (by omega) acc hal p.size (p.size + (Hello.refT y).size) (by omega) (by omega) (fun _ => b10) m, if_neg (by omega), x0, x1]
  have := ih m (by omega)
  rw [ByteArray.size_append, ByteArray.size_append, e10] at this
  exact this
theorem RG_right {l : List Rf} (h : Hello.rightF l = true) : RG (joinA ⟨#[]⟩ (l.map Hello.refT)) = (l, true) := by
 have hz : (joinA ⟨#[]⟩ (l.map Hello.refT)).size <= 100000000 := by
  have : ∀ l : List Rf, (∀ y ∈ l, y.f0.size <= 80 /\ y.f1.size = 64) -> sizeR l <= 200 * l.length := by
   intro l
   induction l with
   | nil => intro _; exact Nat.zero_le _
   | cons y t ih =>
    intro hy
    have a := hy y List.mem_cons_self
    have b := ih (fun z hz => hy z (List.mem_cons_of_mem _ hz))
    unfold sizeR at b ⊢
    rw [List.map_cons, qz, List.length_cons]
    have : (Hello.refT y).size = y.f1.size + 1 + y.f0.size := by
     unfold Hello.refT
     rw [ByteArray.size_append, ByteArray.size_append]
     rfl
    omega
  have a := this l (rf_size h)
  have b := (rightF_out h).1
  rw [joinA_size]
  show 0 + sizeR l <= _
  omega
 have := rg_right h l [] 2000000000 rfl (by omega)
 have e : q9_Get.f 2000000000 (joinA ⟨#[]⟩ (l.map Hello.refT)) = some (l, true) := this
 unfold RG
 rw [e]
 rfl
end Go.Proofs.YtlfenakgphmepaaGreatDoor.Root
end
section
namespace Go.Proofs.YtlfenakgphmepaaGreatDoor.Root
open Go.RowKit YtlfenakgphmepaaGreatDoorW.PrintWords Print Build YtlfenakgphmepaaGreatDoor.Conv
set_option linter.unusedVariables false
set_option linter.unusedSimpArgs false
def cutL (L : List ByteArray) (a n : Nat) : List ByteArray := (L.drop a).take n
def wordsD (L : List ByteArray) (a : Nat) : List ByteArray := cutsF 32 (nth L a)
def refsN (L : List ByteArray) (a : Nat) : Nat := (decD (nth (wordsD L a) 4)).1.toNat
def packsN (L : List ByteArray) (a : Nat) : Nat := (decD (nth (wordsD L a) 5)).1.toNat
def forkOk (L : List ByteArray) (a : Nat) : Prop :=
 a < L.length /\ (wordsD L a).length = 6 /\ (decD (nth (wordsD L a) 4)).2 = true /\ (decD (nth (wordsD L a) 5)).2 = true /\ a + 1 + refsN L a + packsN L a <= L.length /\ (RG (joinA ⟨#[]⟩ (cutL L (a + 1) (refsN L a)))).2 = true
instance (L : List ByteArray) (a : Nat) : Decidable (forkOk L a) := by unfold forkOk; exact inferInstance
def forkD (L : List ByteArray) (a : Nat) : Fk :=
 ⟨nth (wordsD L a) 1, decide ((nth (wordsD L a) 2).toList = linkedT.toList), nth (wordsD L a) 3, (RG (joinA ⟨#[]⟩ (cutL L (a + 1) (refsN L a)))).1, cutL L (a + 1 + refsN L a) (packsN L a)⟩
def forksD (L : List ByteArray) : Nat -> List Fk -> Nat -> Option (List Fk)
 | 0, acc, _ => some acc
 | n + 1, acc, a => if forkOk L a then forksD L n (acc ++ [forkD L a]) (a + 1 + refsN L a + packsN L a) else none
def rgetF (s : ByteArray) : Option (Int × List ByteArray × List Fk) :=
 if (cntD (cutsF 10 s) 0 netT).2 = true /\ (cntD (cutsF 10 s) 1 poolT).2 = true /\ 2 + (cntD (cutsF 10 s) 1 poolT).1.toNat <= (cutsF 10 s).length /\ (cntD (cutsF 10 s) (2 + (cntD (cutsF 10 s) 1 poolT).1.toNat) forksT).2 = true /\ (cntD (cutsF 10 s) (2 + (cntD (cutsF 10 s) 1 poolT).1.toNat) forksT).1 <= 16 then
  match forksD (cutsF 10 s) (cntD (cutsF 10 s) (2 + (cntD (cutsF 10 s) 1 poolT).1.toNat) forksT).1.toNat [] (2 + (cntD (cutsF 10 s) 1 poolT).1.toNat + 1) with
  | none => none
  | some fl => if rootF (cntD (cutsF 10 s) 0 netT).1 (cutL (cutsF 10 s) 2 (cntD (cutsF 10 s) 1 poolT).1.toNat) fl = true /\ textR (cntD (cutsF 10 s) 0 netT).1 (cutL (cutsF 10 s) 2 (cntD (cutsF 10 s) 1 poolT).1.toNat) fl = s then some ((cntD (cutsF 10 s) 0 netT).1, cutL (cutsF 10 s) 2 (cntD (cutsF 10 s) 1 poolT).1.toNat, fl) else none
 else none
theorem nth_app (p : List ByteArray) (x : ByteArray) (q : List ByteArray) : nth (p ++ x :: q) p.length = x := by
 unfold nth
 rw [List.getD_eq_getElem?_getD, List.getElem?_append_right (Nat.le_refl _), Nat.sub_self]
 rfl
theorem cutL_app (p x q : List ByteArray) {a n : Nat} (ha : a = p.length) (hn : n = x.length) : cutL (p ++ (x ++ q)) a n = x := by
 subst ha hn
 unfold cutL
 rw [List.drop_left, List.take_left]
theorem forkD_read (p : List ByteArray) {f : Fk} (h : forkB f = true) (q : List ByteArray) : forkOk (p ++ (forkLs f ++ q)) p.length /\ forkD (p ++ (forkLs f ++ q)) p.length = f /\ p.length + 1 + refsN (p ++ (forkLs f ++ q)) p.length + packsN (p ++ (forkLs f ++ q)) p.length = p.length + (forkLs f).length := by
 obtain ⟨b1, b2, b3, b4, b5⟩ := forkB_out h
 have l3 := (rightF_out b3).1
 have l4 := (packs_out b2).1
 have hL : p ++ (forkLs f ++ q) = p ++ forkLine f :: (f.f3.map Hello.refT ++ (f.f4 ++ q)) := by
  unfold forkLs
  simp
 have hn : nth (p ++ (forkLs f ++ q)) p.length = forkLine f := by rw [hL, nth_app]
 have hw : wordsD (p ++ (forkLs f ++ q)) p.length = [forkT, f.f0, linkT f.f1, f.f2, itoaB f.f3.length, itoaB f.f4.length] := by
  unfold wordsD
  rw [hn]
  exact cuts_words _ _ (fork_words h (by decide) (by decide))
 have d4 : decD (nth (wordsD (p ++ (forkLs f ++ q)) p.length) 4) = ((f.f3.length : Int), true) := by
  rw [hw]
  exact decD_itoa (by omega) (by omega)
 have d5 : decD (nth (wordsD (p ++ (forkLs f ++ q)) p.length) 5) = ((f.f4.length : Int), true) := by
  rw [hw]
  exact decD_itoa (by omega) (by omega)
 have r4 : refsN (p ++ (forkLs f ++ q)) p.length = f.f3.length := by unfold refsN; rw [d4]; rfl
 have r5 : packsN (p ++ (forkLs f ++ q)) p.length = f.f4.length := by unfold packsN; rw [d5]; rfl
 have c1 : cutL (p ++ (forkLs f ++ q)) (p.length + 1) (refsN (p ++ (forkLs f ++ q)) p.length) = f.f3.map Hello.refT := by
  rw [r4, show p ++ (forkLs f ++ q) = (p ++ [forkLine f]) ++ (f.f3.map Hello.refT ++ (f.f4 ++ q)) by rw [hL]; simp]
  exact cutL_app _ _ _ (by simp) (by simp)
 have c2 : cutL (p ++ (forkLs f ++ q)) (p.length + 1 + refsN (p ++ (forkLs f ++ q)) p.length) (packsN (p ++ (forkLs f ++ q)) p.length) = f.f4 := by
  rw [r4, r5, show p ++ (forkLs f ++ q) = (p ++ forkLine f :: f.f3.map Hello.refT) ++ (f.f4 ++ q) by rw [hL]; simp]
  exact cutL_app _ _ _ (by simp; omega) rfl
 have hg := RG_right b3
 have hll : (p ++ (forkLs f ++ q)).length = p.length + (1 + f.f3.length + f.f4.length) + q.length := by
  unfold forkLs
  simp
  omega
 refine ⟨⟨by omega, by rw [hw]; rfl, by rw [d4], by rw [d5], by omega, by rw [c1, hg]⟩, ?_, by rw [r4, r5]; unfold forkLs; simp; omega⟩
 unfold forkD
 rw [c1, c2, hg, hw]
 show (⟨f.f0, decide ((linkT f.f1).toList = linkedT.toList), f.f2, f.f3, f.f4⟩ : Fk) = f
 have e : decide ((linkT f.f1).toList = linkedT.toList) = f.f1 := by
  cases f.f1 with
  | true => exact decide_eq_true rfl
  | false => exact decide_eq_false (fun e => by
    have := congrArg List.length e
    rw [Lib.toList_data, Lib.toList_data] at this
    exact absurd this (by decide))
 rw [e]
theorem forksD_read : ∀ (t acc : List Fk) (p q : List ByteArray), (∀ f ∈ t, forkB f = true) -> forksD (p ++ (t.flatMap forkLs ++ q)) t.length acc p.length = some (acc ++ t)
 | [], acc, p, q, h => by rw [List.append_nil]; rfl
 | f :: t, acc, p, q, h => by
  have hf := h f List.mem_cons_self
  have e : p ++ ((f :: t).flatMap forkLs ++ q) = p ++ (forkLs f ++ (t.flatMap forkLs ++ q)) := by simp
  obtain ⟨h1, h2, h3⟩ := forkD_read p hf (t.flatMap forkLs ++ q)
  have ih := forksD_read t (acc ++ [f]) (p ++ forkLs f) q (fun g hg => h g (List.mem_cons_of_mem _ hg))
  rw [e, List.length_cons]
  unfold forksD
  rw [if_pos h1, h2, h3]
  rw [List.length_append, List.append_assoc p] at ih
  rw [ih]
  simp
theorem rgetF_read {n : Int} {pool : List ByteArray} {forks : List Fk} (h : rootF n pool forks = true) : rgetF (textR n pool forks) = some (n, pool, forks) := by
 obtain ⟨hf, hn, hp, hm⟩ := rootF_out h
 have hpo := (packs_out hp).1
 have hc : cutsF 10 (textR n pool forks) = joinS [netT, itoaB n] :: joinS [poolT, itoaB pool.length] :: (pool ++ joinS [forksT, itoaB forks.length] :: (forks.flatMap forkLs ++ cutsF 10 ⟨#[]⟩)) := by
  have := cuts_joinA (root_lines h) ⟨#[]⟩
  rw [show joinA ⟨#[]⟩ (rootLs n pool forks) ++ (⟨#[]⟩ : ByteArray) = joinA ⟨#[]⟩ (rootLs n pool forks) from ByteArray.append_empty] at this
  rw [textR_lines h, this]
  unfold rootLs
  simp
 have k0 : cntD (cutsF 10 (textR n pool forks)) 0 netT = (n, true) := cntD_line (by rw [hc]; simp) (by rw [hc]; rfl) hn.1 hn.2
 have k1 : cntD (cutsF 10 (textR n pool forks)) 1 poolT = ((pool.length : Int), true) := cntD_line (by rw [hc]; simp) (by rw [hc]; rfl) (by omega) (by omega)
 have k2 : cntD (cutsF 10 (textR n pool forks)) (2 + pool.length) forksT = ((forks.length : Int), true) := by
  refine cntD_line (by rw [hc]; simp; omega) ?_ (by omega) (by omega)
  have := nth_app (joinS [netT, itoaB n] :: joinS [poolT, itoaB pool.length] :: pool) (joinS [forksT, itoaB forks.length]) (forks.flatMap forkLs ++ cutsF 10 ⟨#[]⟩)
  rw [hc]
  rw [show (joinS [netT, itoaB n] :: joinS [poolT, itoaB pool.length] :: pool).length = 2 + pool.length by simp; omega] at this
  exact this
 have c1 : cutL (cutsF 10 (textR n pool forks)) 2 pool.length = pool := by
  rw [hc]
  exact cutL_app [joinS [netT, itoaB n], joinS [poolT, itoaB pool.length]] pool _ rfl rfl
 have c2 : forksD (cutsF 10 (textR n pool forks)) forks.length [] (2 + pool.length + 1) = some forks := by
  have := forksD_read forks [] ((joinS [netT, itoaB n] :: joinS [poolT, itoaB pool.length] :: pool) ++ [joinS [forksT, itoaB forks.length]]) (cutsF 10 ⟨#[]⟩) hf
  rw [List.nil_append] at this
  rw [hc]
  rw [show ((joinS [netT, itoaB n] :: joinS [poolT, itoaB pool.length] :: pool) ++ [joinS [forksT, itoaB forks.length]]).length = 2 + pool.length + 1 by simp; omega] at this
  rw [<- this]
  congr 1
  simp
 have hlen : 2 + pool.length <= (cutsF 10 (textR n pool forks)).length := by rw [hc]; simp; omega
 unfold rgetF
 rw [k0, k1]
 simp only [Int.toNat_natCast, k2, c1]
 rw [if_pos ⟨trivial, trivial, hlen, trivial, by omega⟩, c2]
 simp only []
 rw [if_pos ⟨h, trivial⟩]
theorem rgetF_out {s : ByteArray} {n : Int} {pool : List ByteArray} {forks : List Fk} (h : rgetF s = some (n, pool, forks)) : rootF n pool forks = true /\ textR n pool forks = s := by
 unfold rgetF at h
 split at h
 ·split at h
  ·cases h
  ·split at h
   ·rename_i c
    have e := Option.some.inj h
    obtain ⟨rfl, e2⟩ := Prod.mk.inj e
    obtain ⟨rfl, rfl⟩ := Prod.mk.inj e2
    exact c
   ·cases h
 ·cases h
theorem rgetF_eq (s : ByteArray) : rgetF s = getR s := by
 cases h : rgetF s with
 | some u =>
  obtain ⟨n, pool, forks⟩ := u
  obtain ⟨a, rfl⟩ := rgetF_out h
  exact (getR_read a).symm
 | none =>
  cases g : getR s with
  | none => rfl
  | some u =>
   obtain ⟨n, pool, forks⟩ := u
   obtain ⟨a, rfl⟩ := getR_out g
   rw [rgetF_read a] at h
   cases h
end Go.Proofs.YtlfenakgphmepaaGreatDoor.Root
end
