/- The live question of layer 16 answers true. -/
import Derived.Test.YtmmionafcmnfoaaDoorHelloF
import Derived.Test.YtmmionafcmnfoaaDoorName
namespace Go.Proofs.YtmmionafcmnfoaaDoor.Hello
open Go.RowKit Go.Proofs.YtmmionafcmnfoaaDoorW.PrintWords Go.Proofs.YtmmionafcmnfoaaDoorW.PrintLast Go.Proofs.YtmmionafcmnfoaaDoorW.PrintMore Go.Proofs.YtmmionafcmnfoaaDoor.Conv Go.Proofs.YtmmionafcmnfoaaDoor.Print
set_option linter.unusedVariables false
set_option linter.unusedSimpArgs false
theorem bt_strOf (xs : List Int) (i : Nat) (h : i < xs.length) (h0 : 0 <= xs[i]) (h1 : xs[i] <= 255) : bt (strOfNums xs) (i : Int) = xs[i] := by
 have hz : (strOfNums xs).size = xs.length := by
  show (strOfNums xs).data.size = _
  simp [strOfNums]
 rw [<- bt_at _ _ (by rw [Int.toNat_natCast]; omega)]
 simp only [Int.toNat_natCast]
 show (((strOfNums xs).data[i]'(by rw [<- hz] at h; exact h)).toNat : Int) = xs[i]
 simp [strOfNums]
 omega
theorem id_of_hexy {xs : List Int} (hl : xs.length = 64) (h : ∀ x ∈ xs, NameOf.hexy x) : idF (strOfNums xs) = true := by
 have hz : (strOfNums xs).size = xs.length := by
  show (strOfNums xs).data.size = _
  simp [strOfNums]
 have key : ∀ d i, i + d = 64 -> hexFrom (strOfNums xs) d i = true := by
  intro d
  induction d with
  | zero => intro i _; rfl
  | succ d ih =>
   intro i hi
   unfold hexFrom
   have hx := h xs[i] (List.getElem_mem (by omega))
   unfold NameOf.hexy at hx
   rw [ih (i + 1) (by omega), Bool.and_true, bt_strOf xs i (by omega) (by omega) (by omega), hexB_iff]
   exact hx
 unfold idF
 rw [hz, hl, key 64 0 rfl]
 rfl
theorem name_nil (w : World) : Calls Tryd.prog 32 #[.slice none 0 0] w fun e w' => Below w.heap.size w w' /\ ∃ s : ByteArray, e = .returned (.string s) /\ idF s = true := by
 refine (NameOf.Name_calls none 0 [] w (Kd.C_nil _ _) (Nat.le_refl _) (by simp)).mono ?_
 rintro e w' ⟨hb, xs, rfl, hl, hx⟩
 exact ⟨hb, _, rfl, id_of_hexy hl hx⟩
theorem C_ref1 (W : World) (x : Rf) : Kd.C k63 (W.alloc (.cells #[.string x.f0, .string x.f1] 63)) (some ⟨W.heap.size, 0, none⟩) [x].length [x] := by
 have h1 := World.ownsRow_lit (base := 0) (e := 63) (size := 2) W #[.string x.f0, .string x.f1] 1 (Nat.zero_le _) (by decide) rfl
 have h2 : Kd.R k63 63 (W.alloc (.cells #[.string x.f0, .string x.f1] 63)) 0 (fun _ => True) (.slice (some ⟨W.heap.size, 0, none⟩) 1 1) [x] := ⟨fun _ _ => trivial, _, h1, Reps.c2 (k63_mkM _ _ _ x) (Reps.none _ _)⟩
 exact (Kd.R_reads' h2).2.2
theorem C_up1 (W : World) (x : Up) : Kd.C k65 (W.alloc (.cells #[.string x.f0, .string x.f1, .string x.f2] 65)) (some ⟨W.heap.size, 0, none⟩) [x].length [x] := by
 have h1 := World.ownsRow_lit (base := 0) (e := 65) (size := 3) W #[.string x.f0, .string x.f1, .string x.f2] 1 (Nat.zero_le _) (by decide) rfl
 have h2 : Kd.R k65 65 (W.alloc (.cells #[.string x.f0, .string x.f1, .string x.f2] 65)) 0 (fun _ => True) (.slice (some ⟨W.heap.size, 0, none⟩) 1 1) [x] := ⟨fun _ _ => trivial, _, h1, Reps.c3 (k65_mkM _ _ _ x) (Reps.none _ _)⟩
 exact (Kd.R_reads' h2).2.2
theorem C_str1 (W : World) (x : ByteArray) : Kd.C Kd.string (W.alloc (.cells #[.string x] 9)) (some ⟨W.heap.size, 0, none⟩) [x].length [x] := by
 have h1 := World.ownsRow_lit (base := 0) (e := 9) (size := 1) W #[.string x] 1 (Nat.zero_le _) (by decide) rfl
 have h2 : Kd.R Kd.string 9 (W.alloc (.cells #[.string x] 9)) 0 (fun _ => True) (.slice (some ⟨W.heap.size, 0, none⟩) 1 1) [x] := ⟨fun _ _ => trivial, _, h1, Reps.one rfl (Reps.none _ _)⟩
 exact (Kd.R_reads' h2).2.2
theorem add0_block (a : Addr) : (a.add 0).block = a.block := by unfold Addr.add; split <;> rfl
theorem add0_off (a : Addr) : (a.add 0).off = a.off := by unfold Addr.add; split <;> simp_all
def mainT : ByteArray := ⟨#[104, 101, 97, 100, 115, 47, 109, 97, 105, 110]⟩
def tagT : ByteArray := ⟨#[116, 97, 103, 115, 47, 118, 49]⟩
def branchT : ByteArray := ⟨#[104, 101, 97, 100, 115, 47, 97]⟩
theorem named_main : namedF mainT = true := by kernel_rfl
theorem named_tag : namedF tagT = true := by kernel_rfl
theorem named_branch : namedF branchT = true := by kernel_rfl
theorem head_right {s : ByteArray} (h : idF s = true) : rightF [⟨tagT, s⟩] = true := by
 show rightGo [⟨tagT, s⟩] [⟨tagT, s⟩] none = true
 simp only [rightGo, List.any_cons, List.any_nil]
 rw [named_tag, h, show prefF tagT (tagT ++ slashT) = false from by kernel_rfl]
 rfl
theorem head_told {s : ByteArray} (h : idF s = true) : toldF mainT [⟨tagT, s⟩] = (endsF (toldT mainT [⟨tagT, s⟩]), true) := if_pos ⟨named_main, head_right h⟩
theorem head_ask {s : ByteArray} (h : idF s = true) : askF [s] [] = (endsF (asks [s] []), true) := if_pos ⟨by simp, by unfold namesF; simp [h], by rfl⟩
theorem head_push {s : ByteArray} (h : idF s = true) : pushF [⟨branchT, ⟨#[]⟩, s⟩] = (endsF ([⟨branchT, ⟨#[]⟩, s⟩].map upT), true) := by
 refine if_pos ⟨?_, by simp, by simp⟩
 have hs := id_size h
 have hne : ¬ (s.toList = ([] : List UInt8)) := fun e => by
  have := congrArg List.length e
  rw [Lib.toList_data, Array.length_toList] at this
  have e2 : s.data.size = s.size := rfl
  rw [e2, hs] at this
  exact absurd this (by simp)
 have e0 : (⟨#[]⟩ : ByteArray) ++ s = s := by apply ByteArray.ext; simp [ByteArray.data_append]
 have m0 : mayF (⟨#[]⟩ : ByteArray) = true := by unfold mayF; rw [decide_eq_true (by rw [Lib.toList_data])]; rfl
 have m1 : mayF s = true := by unfold mayF; rw [h]; simp
 simp only [List.all_cons, List.all_nil, okU, named_branch, m0, m1, e0, Bool.true_and, Bool.and_true]
 simpa using hne
theorem head_data {s : ByteArray} (h : idF s = true) : (lineOf (upT ⟨branchT, ⟨#[]⟩, s⟩)).f1 = ((⟨#[45, 32]⟩ : ByteArray) ++ s) ++ (⟨#[32, 104, 101, 97, 100, 115, 47, 97, 10]⟩ : ByteArray) := by
 have hs := id_size h
 have hne : ¬ (s.toList = ([] : List UInt8)) := fun e => by
  have := congrArg List.length e
  rw [Lib.toList_data, Array.length_toList] at this
  have e2 : s.data.size = s.size := rfl
  rw [e2, hs] at this
  exact absurd this (by simp)
 have d0 : dashF (⟨#[]⟩ : ByteArray) = ⟨#[45]⟩ := if_pos (by rw [Lib.toList_data])
 have d1 : dashF s = s := if_neg hne
 show upT ⟨branchT, ⟨#[]⟩, s⟩ ++ (⟨#[10]⟩ : ByteArray) = _
 unfold upT
 simp only [d0, d1]
 apply ByteArray.ext
 simp [ByteArray.data_append, branchT]
set_option maxRecDepth 100000 in
set_option maxHeartbeats 4000000 in
theorem head_calls (w : World) : Calls Tryd.prog 8 #[] w fun e w' => e = .returned (.bool true) /\ Below w.heap.size w w' := by
 go_enter Tryd.func8, Tryd.ntmps8
 go_upto_region 2 with (go_at_call 32; refine (name_nil _).mono ?_; rintro e W1 ⟨hb1, s, rfl, hid⟩; have HB1 := Asd.mk hb1; have HID := Asd.mk hid; clear hb1 hid)
 have hsz := id_size HID.out
 obtain ⟨la, hla⟩ : ∃ la, la = endsF (toldT mainT [⟨tagT, s⟩]) := ⟨_, rfl⟩
 obtain ⟨lb, hlb⟩ : ∃ lb, lb = endsF (asks [s] []) := ⟨_, rfl⟩
 obtain ⟨ld, hld⟩ : ∃ ld, ld = endsF ([(⟨branchT, ⟨#[]⟩, s⟩ : Up)].map upT) := ⟨_, rfl⟩
 have h1 : toldF mainT [⟨tagT, s⟩] = (la, true) := by rw [hla]; exact head_told HID.out
 have h2 : askF [s] [] = (lb, true) := by rw [hlb]; exact head_ask HID.out
 have h3 : pushF [⟨branchT, ⟨#[]⟩, s⟩] = (ld, true) := by rw [hld]; exact head_push HID.out
 have HT := Asd.mk (fun W : World => hello_Told.calls 4000000 mainT (some ⟨W.heap.size, 0, none⟩) 1 [⟨tagT, s⟩] _ _ _ (C_ref1 W ⟨tagT, s⟩) (Nat.le_refl _) ((told_eq mainT [⟨tagT, s⟩] (by decide) (fun y hy => by rw [List.mem_singleton] at hy; rw [hy]; exact ⟨by show tagT.size <= _; decide, by show s.size <= _; omega⟩) (by omega)).trans (congrArg some h1)))
 have HD := Asd.mk (fun (W : World) (A : Option Addr) (c : Nat) (hC : Kd.C k49 W A la.length la) (hc : la.length <= c) => hello_Heard.calls 4000000 A c la _ _ _ W hC hc (heard_back h1 (by omega)))
 have HK := Asd.mk (fun W : World => hello_Ask.calls 4000000 (some ⟨W.heap.size, 0, none⟩) 1 [s] none 0 [] _ _ _ (C_str1 W s) (Nat.le_refl _) (Kd.C_nil _ _) (Nat.le_refl _) ((ask_eq [s] [] (by omega) (fun y hy => by rw [List.mem_singleton] at hy; rw [hy]; omega) (by simp) (fun y hy => by rw [List.mem_singleton] at hy; rw [hy]; omega) (by simp)).trans (congrArg some h2)))
 have HE := Asd.mk (fun (W : World) (A : Option Addr) (c : Nat) (hC : Kd.C k49 W A lb.length lb) (hc : lb.length <= c) => hello_Asked.calls 4000000 A c lb _ _ _ W hC hc (asked_back h2 (by omega)))
 have HP := Asd.mk (fun W : World => hello_Push.calls 4000000 (some ⟨W.heap.size, 0, none⟩) 1 [⟨branchT, ⟨#[]⟩, s⟩] _ _ _ (C_up1 W ⟨branchT, ⟨#[]⟩, s⟩) (Nat.le_refl _) ((push_eq [⟨branchT, ⟨#[]⟩, s⟩] (by simp) (fun y hy => by rw [List.mem_singleton] at hy; rw [hy]; exact ⟨by show branchT.size <= _; decide, by show (⟨#[]⟩ : ByteArray).size <= _; decide, by show s.size <= _; omega⟩) (by omega)).trans (congrArg some h3)))
 have HQ := Asd.mk (fun (W : World) (A : Option Addr) (c : Nat) (hC : Kd.C k49 W A ld.length ld) (hc : ld.length <= c) => hello_Pushed.calls 6000000 A c ld _ _ W hC hc (pushed_back h3 (by omega)))
 have HR := Asd.mk (fun (W : World) (A : Option Addr) (c : Nat) (hC : Kd.C k49 W A lb.length lb) (hc : lb.length <= c) => hello_Pushed.calls 6000000 A c lb _ _ W hC hc (pushed_ask h2 (by omega)))
 have HLA := Asd.mk hla
 have HLB := Asd.mk hlb
 have HLD := Asd.mk hld
 clear hla hlb hld h1 h2 h3 hsz
 go_upto_region 3 with (go_at_call 13; refine (HT.out _).mono ?_; rintro e W2 ⟨va, rfl, ho, hb⟩; obtain ⟨Aa, ca, rfl⟩ := Kd.R_slice ho; have HA := Asd.mk (Kd.R_reads' ho).2.2; have HAc := Asd.mk (Kd.R_reads' ho).2.1; have HB2 := Asd.mk (below_step (bal HB1.out _) hb); clear ho hb HT HB1)
 go_upto_region 4 with (go_at_call 20; refine (HD.out _ _ _ HA.out HAc.out).mono ?_; rintro e W3 ⟨vl, rfl, ho, hb⟩; obtain ⟨Al, cl, rfl⟩ := Kd.R_slice ho; clear ho; replace HA := Asd.mk (Kd.C_below HA.out hb); have HB3 := Asd.mk (below_step HB2.out hb); clear hb HD HB2)
 go_upto_region 5 with (go_at_call 15; refine (HK.out _).mono ?_; rintro e W4 ⟨vb, rfl, ho, hb⟩; obtain ⟨Ab, cb, rfl⟩ := Kd.R_slice ho; have HBb := Asd.mk (Kd.R_reads' ho).2.2; have HBc := Asd.mk (Kd.R_reads' ho).2.1; replace HA := Asd.mk (Kd.C_below (Kd.C_alloc HA.out _) hb); have HB4 := Asd.mk (below_step (bal HB3.out _) hb); clear ho hb HK HB3)
 go_upto_region 6 with (go_at_call 22; refine (HE.out _ _ _ HBb.out HBc.out).mono ?_; rintro e W5 ⟨vw, vh, rfl, ho, ho', hb⟩; obtain ⟨Aw, cw, rfl⟩ := Kd.R_slice ho; obtain ⟨Ah, ch, rfl⟩ := Kd.R_slice ho'; clear ho ho'; replace HA := Asd.mk (Kd.C_below HA.out hb); replace HBb := Asd.mk (Kd.C_below HBb.out hb); have HB5 := Asd.mk (below_step HB4.out hb); clear hb HE HB4)
 generalize hW : World.alloc _ _ = W6
 have H9 := Asd.mk (show W6.heap[W5.heap.size]? = some (.cells #[.slice Aw 1 cw, .slice Ah 0 ch] 25 (0, 0)) from by rw [<- hW]; exact Go.heap_alloc_new _ _)
 have H9l := Asd.mk (show W5.heap.size < W6.heap.size from by rw [<- hW, NameOf.sz_alloc]; exact Nat.lt_succ_self _)
 replace HA := Asd.mk (show Kd.C k49 W6 Aa la.length la from by rw [<- hW]; exact Kd.C_alloc HA.out _)
 replace HBb := Asd.mk (show Kd.C k49 W6 Ab lb.length lb from by rw [<- hW]; exact Kd.C_alloc HBb.out _)
 have HB6 := Asd.mk (show Below w.heap.size w W6 from by rw [<- hW]; exact bal HB5.out _)
 clear hW HB5
 generalize W5.heap.size = b9 at *
 go_upto_region 7 with (go_at_call 17; refine (HP.out _).mono ?_; rintro e W7 ⟨vd, rfl, ho, hb⟩; obtain ⟨Ad, cd, rfl⟩ := Kd.R_slice ho; have HDd := Asd.mk (Kd.R_reads' ho).2.2; have HDc := Asd.mk (Kd.R_reads' ho).2.1; replace HA := Asd.mk (Kd.C_below (Kd.C_alloc HA.out _) hb); replace HBb := Asd.mk (Kd.C_below (Kd.C_alloc HBb.out _) hb); replace H9 := Asd.mk ((hb.block b9 (by rw [NameOf.sz_alloc]; have := H9l.out; omega)).trans ((Below.heap_alloc _ _ _ H9l.out).trans H9.out)); have HB7 := Asd.mk (below_step (bal HB6.out _) hb); replace H9l := Asd.mk (Nat.lt_of_lt_of_le H9l.out (Nat.le_trans (by rw [NameOf.sz_alloc]; exact Nat.le_succ _) hb.size)); clear ho hb HP HB6)
 go_upto_region 8 with (go_at_call 24; refine (HQ.out _ _ _ HDd.out HDc.out).mono ?_; rintro e W8 ⟨ve, rfl, ho, hb⟩; obtain ⟨Ae, ce, rfl⟩ := Kd.R_slice ho; have HEe := Asd.mk (Kd.R_reads' ho).2.2; replace HA := Asd.mk (Kd.C_below HA.out hb); replace HBb := Asd.mk (Kd.C_below HBb.out hb); replace HDd := Asd.mk (Kd.C_below HDd.out hb); replace H9 := Asd.mk ((hb.block b9 H9l.out).trans H9.out); replace H9l := Asd.mk (Nat.lt_of_lt_of_le H9l.out hb.size); have HB8 := Asd.mk (below_step HB7.out hb); clear ho hb HQ HB7)
 have HRR := Asd.mk (HR.out W8 Ab cb HBb.out HBc.out)
 go_upto_region 9 with (go_at_call 24; refine HRR.out.mono ?_; rintro e W9 ⟨vn, rfl, ho, hb⟩; obtain ⟨An, cn, rfl⟩ := Kd.R_slice ho; have HBx := Asd.mk hb; clear ho hb)
 have hea : la.length = 3 := by rw [HLA.out, ends_len]; rfl
 have heb : lb.length = 3 := by rw [HLB.out, ends_len]; rfl
 have hed : ld.length = 2 := by rw [HLD.out, ends_len]; rfl
 obtain ⟨aa, haa, _, hda⟩ := at_T49 HA.out 0 (by omega) (by omega)
 obtain ⟨ad, had, _, hdd⟩ := at_T49 HDd.out 0 (by omega) (by omega)
 obtain ⟨ae, hae, _, _, hde⟩ := at_T65 HEe.out 0 (by omega) (by simp)
 subst haa had hae
 have ea : (rd_T49 la 0).f1 = ⟨#[115, 97, 99, 114, 105, 115, 116, 121, 32, 104, 101, 97, 100, 32, 104, 101, 97, 100, 115, 47, 109, 97, 105, 110, 10]⟩ := by rw [HLA.out]; rfl
 have ed : (rd_T49 ld 0).f1 = ((⟨#[45, 32]⟩ : ByteArray) ++ s) ++ (⟨#[32, 104, 101, 97, 100, 115, 47, 97, 10]⟩ : ByteArray) := by rw [HLD.out]; exact head_data HID.out
 have ee : (rd_T65 [(⟨branchT, ⟨#[]⟩, s⟩ : Up)] 0).f2 = s := rfl
 rw [ea] at hda
 rw [ed] at hdd
 rw [ee] at hde
 have s1 : ((⟨#[45, 32]⟩ : ByteArray) ++ s).size = 66 := by rw [ByteArray.size_append, id_size HID.out]; rfl
 have s2 : (((⟨#[45, 32]⟩ : ByteArray) ++ s) ++ (⟨#[32, 104, 101, 97, 100, 115, 47, 97, 10]⟩ : ByteArray)).size = 75 := by rw [ByteArray.size_append, s1]; rfl
 have s0 := id_size HID.out
 have cda := (HBx.out.cell (World.block_lt_of_cell? _ _ hda)).trans hda
 have cdd := (HBx.out.cell (World.block_lt_of_cell? _ _ hdd)).trans hdd
 have cde := (HBx.out.cell (World.block_lt_of_cell? _ _ hde)).trans hde
 have c9 : W9.cell? ⟨b9, 0, none⟩ = some (.slice Aw 1 cw) := by rw [cell_of_row _ b9 0 _ _ (0, 0) ((HBx.out.block b9 H9l.out).trans H9.out)]; rfl
 have HB9 := Asd.mk (below_step HB8.out HBx.out)
 simp only [Int.toNat_zero, Nat.zero_mul, add0_block, add0_off] at cda cdd cde
 rw [hea, heb, hed]
 have q1 := eq_true (show 2 + s.size <= 9223372036854775807 by omega)
 have q2 : decide (2 + s.size <= 9223372036854775807) = true := decide_eq_true (by omega)
 have q3 : (9223372036854775807 < 2 + s.size) = False := eq_false (by omega)
 have q4 := eq_true (show ((⟨#[45, 32]⟩ : ByteArray) ++ s).size + 9 <= 9223372036854775807 by omega)
 have q5 : decide (((⟨#[45, 32]⟩ : ByteArray) ++ s).size + 9 <= 9223372036854775807) = true := decide_eq_true (by omega)
 have q6 : (9223372036854775807 < ((⟨#[45, 32]⟩ : ByteArray) ++ s).size + 9) = False := eq_false (by omega)
 have q8 := eq_true (show 2 + s.size + 9 <= 9223372036854775807 by omega)
 have q9 : decide (2 + s.size + 9 <= 9223372036854775807) = true := decide_eq_true (by omega)
 have q10 : (9223372036854775807 < 2 + s.size + 9) = False := eq_false (by omega)
 have q7 : mainT = ⟨#[104, 101, 97, 100, 115, 47, 109, 97, 105, 110]⟩ := rfl
 rw [q7]
 clear q7
 clear hda hdd hde HBx HRR HR ea ed ee hea heb hed HA HBb HDd HEe H9 H9l HB8 HLA HLB HLD s0 s1 s2 HAc HBc HDc
 go_wp2
 go_ret
 exact ⟨rfl, HB9.out⟩
end Go.Proofs.YtmmionafcmnfoaaDoor.Hello
