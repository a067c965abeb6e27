/- The calls of RootNames answer true, whatever they are handed. -/
import Derived.Test.YtlfenakgphmepaaDoorRootHeadW
import Derived.Test.YtlfenakgphmepaaDoorRootRead2
namespace Go.Proofs.YtlfenakgphmepaaDoor.Root
open Go.RowKit Go.Proofs.YtlfenakgphmepaaDoorW.PrintWords Go.Proofs.YtlfenakgphmepaaDoorW.PrintLast Go.Proofs.YtlfenakgphmepaaDoorW.PrintMore Go.Proofs.YtlfenakgphmepaaDoor.Conv Go.Proofs.YtlfenakgphmepaaDoor.Print Go.Proofs.YtlfenakgphmepaaDoor.Build
set_option linter.unusedVariables false
set_option linter.unusedSimpArgs false
theorem rnFrom_all (s : ByteArray) : ∀ (d i : Nat), rnFrom s d i = true <-> ∀ j, i <= j -> j < i + d -> rnB (bt s (j : Int)) = true
 | 0, i => ⟨fun _ j h1 h2 => by omega, fun _ => rfl⟩
 | d + 1, i => by
  simp only [rnFrom, Bool.and_eq_true]
  rw [rnFrom_all s d (i + 1)]
  constructor
  ·rintro ⟨h1, h2⟩ j h3 h4
   by_cases e : j = i
   ·rw [e]; exact h1
   ·exact h2 j (by omega) (by omega)
  ·intro h
   exact ⟨h i (Nat.le_refl _) (by omega), fun j h3 h4 => h j (by omega) (by omega)⟩
theorem rnF_iff (s : ByteArray) : rnF s = true <-> (∀ b ∈ s.data.toList, rnB (b.toNat : Int) = true) /\ 1 <= s.size /\ s.size <= 20 := by
 unfold rnF rnEnd
 rw [Bool.and_eq_true, decide_eq_true_iff, rnFrom_all]
 constructor
 ·rintro ⟨h1, h2⟩
  exact ⟨bytes_of (Q := fun z => rnB z = true) (fun j hj => h1 j (Nat.zero_le _) (by omega)), h2⟩
 ·rintro ⟨h1, h2⟩
  refine ⟨fun j _ hj => ?_, h2⟩
  rw [bt_get s j (by omega)]
  exact h1 _ (List.getElem_mem _)
def oneB (c : Int) : ByteArray := strOfNums [c]
theorem oneB_list {c : Int} (h0 : 0 <= c) (h1 : c < 256) : (oneB c).data.toList.map (fun b => (b.toNat : Int)) = [c] /\ (oneB c).size = 1 := by
 unfold oneB
 have e : (strOfNums [c]).data.toList = [c.toNat.toUInt8] := rfl
 refine ⟨?_, rfl⟩
 rw [e, List.map_cons, List.map_nil]
 congr 1
 have : c.toNat.toUInt8.toNat = c.toNat % 256 := rfl
 omega
theorem more_eq {s : ByteArray} {c : Int} (h0 : 0 <= c) (h1 : c < 256) (hs : s.size ≠ 0) : rnF (s ++ oneB c) = (rnF s && rnB c && decide (s.size < 20)) := by
 have ho := oneB_list h0 h1
 rw [Bool.eq_iff_iff, rnF_iff, Bool.and_eq_true, Bool.and_eq_true, decide_eq_true_iff, rnF_iff, ByteArray.size_append, ho.2, ByteArray.data_append, Array.toList_append]
 have hc : (∀ b ∈ (oneB c).data.toList, rnB (b.toNat : Int) = true) <-> rnB c = true := by
  constructor
  ·intro h
   have : c ∈ (oneB c).data.toList.map (fun b => (b.toNat : Int)) := by rw [ho.1]; exact List.mem_singleton.2 rfl
   obtain ⟨b, hb, e⟩ := List.mem_map.1 this
   rw [<- e]
   exact h b hb
  ·intro h b hb
   have : (b.toNat : Int) ∈ (oneB c).data.toList.map (fun b => (b.toNat : Int)) := List.mem_map.2 ⟨b, hb, rfl⟩
   rw [ho.1] at this
   rw [List.mem_singleton.1 this]
   exact h
 constructor
 ·rintro ⟨a, b, d⟩
  exact ⟨⟨⟨fun x hx => a x (List.mem_append_left _ hx), by omega, by omega⟩, hc.1 (fun x hx => a x (List.mem_append_right _ hx))⟩, by omega⟩
 ·rintro ⟨⟨⟨a, b, d⟩, e⟩, f⟩
  refine ⟨fun x hx => ?_, by omega, by omega⟩
  rcases List.mem_append.1 hx with hx | hx
  ·exact a x hx
  ·exact hc.2 e x hx
abbrev fkNm (s : ByteArray) : Fk := ⟨s, false, ⟨#[104, 101, 97, 100, 115, 47, 97]⟩, [], []⟩
theorem right_nm (s : ByteArray) : rootF 0 [] [fkNm s] = rnF s := by
 have e : Hello.namedF ⟨#[104, 101, 97, 100, 115, 47, 97]⟩ = true := by kernel_rfl
 have e2 : Hello.prefF ⟨#[104, 101, 97, 100, 115, 47, 97]⟩ headsP = true := by kernel_rfl
 have e3 : packsF [] = true := by kernel_rfl
 have e4 : Hello.rightF [] = true := by kernel_rfl
 unfold rootF
 simp only [forksGo, prevOk, forkB, e, e2, e3, e4, Bool.and_true, Bool.true_and]
 show (rnF s && _) = _
 rw [decide_eq_true (by decide), decide_eq_true (show [fkNm s].length <= 16 by simp)]
 simp
theorem C_lit1 (W : World) (c : Int) (t : TypeId) : Kd.C (Kd.int .u8) (W.alloc (.cells #[.int .u8 c] t)) (some ⟨W.heap.size, 0, none⟩) 1 [c] :=
 Kd.C_of_reads (enc := Value.int .u8) (d := (0 : Int)) (h1 := fun _ => rfl) ⟨rfl, by decide, fun _ => ⟨_, rfl, fun j hj => by
  rw [add_plain, cell_of_row _ _ j _ t _ (heap_alloc_new W _)]
  have : j = 0 := by have := hj; simp at this; omega
  subst this
  rfl⟩⟩
set_option maxRecDepth 100000 in
set_option maxHeartbeats 16000000 in
theorem RootNames_core {w : World} (htab : Lib.TabIs Tryd.prog w "internal/strconv.uint64pow10" .u64 Lib.pow10Tab) (a0 : ByteArray) (y0 : a0.size <= maxLen) (a1 : Int) (w1 : (Lit.int .u8 a1).wf = true) :
  Calls Tryd.prog 7 #[.string a0, .int .u8 a1] w fun e w' => e = .returned (.bool true) /\ Below w.heap.size w w' := by
 have hz1 : 0 <= a1 /\ a1 < 256 := by
  simp [Lit.wf, IntKind.min, IntKind.max, IntKind.signed, IntKind.bits] at w1
  exact ⟨by omega, by omega⟩
 have HTB := Asd.mk (show Tb w from Lib.tabBelow_of_tabIs htab)
 clear htab w1
 go_enter Tryd.func7, Tryd.ntmps7
 go_upto_region 2 with (go_at_call 8; with_reducible refine (head_calls HTB.out).mono ?_; rintro e W1 ⟨rfl, hb⟩; have HB := Asd.mk hb; clear hb)
 by_cases g1 : (1000 : Int) < (a0.size : Int)
 ·have d1 : decide ((1000 : Int) < (a0.size : Int)) = true := decide_eq_true g1
  go_wp2
  go_ret
  exact ⟨rfl, HB.out⟩
 have d1 : decide ((1000 : Int) < (a0.size : Int)) = false := decide_eq_false g1
 have HNL : Asd (a0.size <= 1000) := ⟨by omega⟩
 obtain ⟨is, his⟩ : ∃ is, rnF a0 = is := ⟨_, rfl⟩
 obtain ⟨mo, hmo⟩ : ∃ mo, rnF (a0 ++ oneB a1) = mo := ⟨_, rfl⟩
 have hoz : (a0 ++ oneB a1).size <= 1001 := by rw [ByteArray.size_append]; have : (oneB a1).size = 1 := rfl; omega
 have HN0 := Asd.mk (show root_Named.f 1000000 a0 = some is by rw [rn_eq _ (by omega) (by omega), his])
 have HN1 := Asd.mk (show root_Named.f 1000000 (a0 ++ oneB a1) = some mo by rw [rn_eq _ (by omega) (by omega), hmo])
 have HRF := Asd.mk (show root_Right.f 3000000 0 [] [fkNm a0] = some is by
  rw [root_eq (M := 1000000) (Nat.le_refl _) 0 [] [fkNm a0] (fun s hs => absurd hs List.not_mem_nil) (fun f hf => by
   rw [List.mem_singleton.1 hf]
   exact ⟨by show a0.size <= _; omega, by show 7 <= _; omega, fun y hy => absurd hy List.not_mem_nil, fun y hy => absurd hy List.not_mem_nil⟩) (by simp) (by omega), right_nm, his])
 have kc := fun (W : World) => Kd.C_string (P := Tryd.prog) (src := 26) (dst := 9) (c := 1) Tryd.underlying26 Tryd.underlying5 Tryd.underlying9 (C_lit1 W a1 5)
 have hap : a0.size + (oneB a1).size <= 9223372036854775807 := by have : (oneB a1).size = 1 := rfl; omega
 change ∀ W : World, _ = Result.ok (Value.string (oneB a1)) _ at kc
 have HOB : Asd ((oneB a1).size = 1) := ⟨rfl⟩
 clear g1 hoz
 have HMO := Asd.mk hmo
 have HIS := Asd.mk his
 clear hmo his
 generalize hob : oneB a1 = ob at kc HN1 hap HOB HMO
 have HEQ := Asd.mk hob
 clear hob
 go_upto_region 6 with (first
  | (go_at_call 15; with_reducible refine (root_Named.calls 1000000 a0 is _ HN0.out).mono ?_; rintro e W2 ⟨rfl, hb⟩; replace HB := Asd.mk (below_step HB.out hb.below); clear hb)
  | (go_at_call 15; with_reducible refine (root_Named.calls 1000000 (a0 ++ ob) mo _ HN1.out).mono ?_; rintro e W3 ⟨rfl, hb⟩; replace HB := Asd.mk (below_step (below_step HB.out (bal (Below.refl _ _) _)) hb.below); clear hb))
 go_cut [8] (fun v8 wc => v8 = .bool (rnB a1) /\ Asd (Below w.heap.size w wc))
 case first =>
  clear kc HN0 HN1 HRF hap HOB HMO HIS HEQ
  by_cases c1 : a1 = 45
  ·have p0 : (a1 = 45) = True := eq_true (by omega)
   have b0 : (a1 == 45) = true := beq_iff_eq.2 (by omega)
   have hv : rnB a1 = true := (rnB_iff a1).2 (by omega)
   have HV := Asd.mk hv
   clear hv
   try clear c1
   try clear c2
   try clear c3
   try clear c4
   try clear c5
   try clear hz1
   go_wp2
   go_meet
   exact ⟨by rw [HV.out], HB⟩
  by_cases c2 : 97 <= a1
  ·by_cases c3 : a1 <= 122
   ·have p0 : (a1 = 45) = False := eq_false (by omega)
    have b0 : (a1 == 45) = false := beq_eq_false_iff_ne.2 (by omega)
    have p1 : (97 <= a1) = True := eq_true (by omega)
    have b1 : decide (97 <= a1) = true := decide_eq_true (by omega)
    have p2 : (a1 <= 122) = True := eq_true (by omega)
    have b2 : decide (a1 <= 122) = true := decide_eq_true (by omega)
    have hv : rnB a1 = true := (rnB_iff a1).2 (by omega)
    have HV := Asd.mk hv
    clear hv
    try clear c1
    try clear c2
    try clear c3
    try clear c4
    try clear c5
    try clear hz1
    go_wp2
    go_meet
    exact ⟨by rw [HV.out], HB⟩
   ·have p0 : (a1 = 45) = False := eq_false (by omega)
    have b0 : (a1 == 45) = false := beq_eq_false_iff_ne.2 (by omega)
    have p1 : (97 <= a1) = True := eq_true (by omega)
    have b1 : decide (97 <= a1) = true := decide_eq_true (by omega)
    have p2 : (a1 <= 122) = False := eq_false (by omega)
    have b2 : decide (a1 <= 122) = false := decide_eq_false (by omega)
    have p3 : (48 <= a1) = True := eq_true (by omega)
    have b3 : decide (48 <= a1) = true := decide_eq_true (by omega)
    have p4 : (a1 <= 57) = False := eq_false (by omega)
    have b4 : decide (a1 <= 57) = false := decide_eq_false (by omega)
    have hv : rnB a1 = false := Bool.eq_false_iff.2 (fun e => by have := (rnB_iff a1).1 e; omega)
    have HV := Asd.mk hv
    clear hv
    try clear c1
    try clear c2
    try clear c3
    try clear c4
    try clear c5
    try clear hz1
    go_wp2
    go_meet
    exact ⟨by rw [HV.out], HB⟩
  by_cases c4 : 48 <= a1
  ·by_cases c5 : a1 <= 57
   ·have p0 : (a1 = 45) = False := eq_false (by omega)
    have b0 : (a1 == 45) = false := beq_eq_false_iff_ne.2 (by omega)
    have p1 : (97 <= a1) = False := eq_false (by omega)
    have b1 : decide (97 <= a1) = false := decide_eq_false (by omega)
    have p2 : (48 <= a1) = True := eq_true (by omega)
    have b2 : decide (48 <= a1) = true := decide_eq_true (by omega)
    have p3 : (a1 <= 57) = True := eq_true (by omega)
    have b3 : decide (a1 <= 57) = true := decide_eq_true (by omega)
    have hv : rnB a1 = true := (rnB_iff a1).2 (by omega)
    have HV := Asd.mk hv
    clear hv
    try clear c1
    try clear c2
    try clear c3
    try clear c4
    try clear c5
    try clear hz1
    go_wp2
    go_meet
    exact ⟨by rw [HV.out], HB⟩
   ·have p0 : (a1 = 45) = False := eq_false (by omega)
    have b0 : (a1 == 45) = false := beq_eq_false_iff_ne.2 (by omega)
    have p1 : (97 <= a1) = False := eq_false (by omega)
    have b1 : decide (97 <= a1) = false := decide_eq_false (by omega)
    have p2 : (48 <= a1) = True := eq_true (by omega)
    have b2 : decide (48 <= a1) = true := decide_eq_true (by omega)
    have p3 : (a1 <= 57) = False := eq_false (by omega)
    have b3 : decide (a1 <= 57) = false := decide_eq_false (by omega)
    have hv : rnB a1 = false := Bool.eq_false_iff.2 (fun e => by have := (rnB_iff a1).1 e; omega)
    have HV := Asd.mk hv
    clear hv
    try clear c1
    try clear c2
    try clear c3
    try clear c4
    try clear c5
    try clear hz1
    go_wp2
    go_meet
    exact ⟨by rw [HV.out], HB⟩
  have p0 : (a1 = 45) = False := eq_false (by omega)
  have b0 : (a1 == 45) = false := beq_eq_false_iff_ne.2 (by omega)
  have p1 : (97 <= a1) = False := eq_false (by omega)
  have b1 : decide (97 <= a1) = false := decide_eq_false (by omega)
  have p2 : (48 <= a1) = False := eq_false (by omega)
  have b2 : decide (48 <= a1) = false := decide_eq_false (by omega)
  have hv : rnB a1 = false := Bool.eq_false_iff.2 (fun e => by have := (rnB_iff a1).1 e; omega)
  have HV := Asd.mk hv
  clear hv
  try clear c1
  try clear c2
  try clear c3
  try clear c4
  try clear c5
  try clear hz1
  go_wp2
  go_meet
  exact ⟨by rw [HV.out], HB⟩
 case rest =>
 obtain ⟨rfl, HB⟩ := hcut
 go_upto_region 8 with (go_at_call 11; refine (root_Right.calls 3000000 0 none 0 [] (some ⟨wc.heap.size, 0, none⟩) 1 [fkNm a0] is _ (Kd.C_nil _ _) (Nat.le_refl _) (C_fork1 (fkNm a0) (heap_alloc_new wc _) (Nat.le_refl _) (Kd.C_nil _ _) (Nat.le_refl _) (Kd.C_nil _ _)) (Nat.le_refl _) HRF.out).mono ?_; rintro e W4 ⟨rfl, hb⟩; replace HB := Asd.mk (below_step (below_step HB.out (bal (Below.refl _ _) _)) hb); clear hb)
 clear kc HN0 HN1 HRF hap
 by_cases hne : a0.size = 0
 ·have e0 : (a0.toList == ([] : List UInt8)) = true := beq_iff_eq.2 (toList_nil.2 hne)
  have e1 : is = false := by
   rw [<- HIS.out]
   exact Bool.eq_false_iff.2 (fun e => by have := (rn_size e).1; omega)
  subst e1
  clear hne
  go_wp2
  go_ret
  exact ⟨rfl, HB.out⟩
 have e0 : (a0.toList == ([] : List UInt8)) = false := beq_eq_false_iff_ne.2 (fun e => hne (toList_nil.1 e))
 have hmo : mo = (is && rnB a1 && decide (a0.size < 20)) := by rw [<- HMO.out, <- HIS.out, <- HEQ.out]; exact more_eq hz1.1 hz1.2 hne
 have hsz : is = true -> a0.size <= 20 := fun e => by rw [<- HIS.out] at e; exact (rn_size e).2
 clear hne hz1
 obtain ⟨lt, hlt⟩ : ∃ lt, lt = rnB a1 := ⟨_, rfl⟩
 rw [<- hlt] at hmo ⊢
 clear hlt HMO HIS HEQ HOB
 cases is with
 | false =>
  have e1 : mo = false := by rw [hmo]; rfl
  subst e1
  clear hmo hsz
  go_wp2
  go_ret
  exact ⟨rfl, HB.out⟩
 | true =>
  have hsz' := hsz rfl
  clear hsz
  have f20 : decide ((a0.size : Int) <= 20) = true := decide_eq_true (by omega)
  have g20 : ((a0.size : Int) <= 20) = True := eq_true (by omega)
  cases lt with
  | false =>
   have e1 : mo = false := by rw [hmo]; rfl
   subst e1
   clear hmo hsz'
   go_wp2
   go_ret
   exact ⟨rfl, HB.out⟩
  | true =>
   by_cases h20 : a0.size < 20
   ·have e1 : mo = true := by rw [hmo, decide_eq_true h20]; rfl
    subst e1
    have f1 : decide ((a0.size : Int) < 20) = true := decide_eq_true (by omega)
    have g1 : ((a0.size : Int) < 20) = True := eq_true (by omega)
    clear hmo h20 hsz'
    go_wp2
    go_ret
    exact ⟨rfl, HB.out⟩
   ·have e1 : mo = false := by rw [hmo, decide_eq_false h20]; rfl
    subst e1
    have f1 : decide ((a0.size : Int) < 20) = false := decide_eq_false (by omega)
    have g1 : ((a0.size : Int) < 20) = False := eq_false (by omega)
    clear hmo h20 hsz'
    go_wp2
    go_ret
    exact ⟨rfl, HB.out⟩
end Go.Proofs.YtlfenakgphmepaaDoor.Root
