/- The live question of layer 18 answers true. -/
import Derived.Test.YtemkgdpfkbpnpaaGreatDoorTakePlain
namespace Go.Proofs.YtemkgdpfkbpnpaaGreatDoor.Take
open Go.RowKit Go.Proofs.YtemkgdpfkbpnpaaGreatDoorW.PrintWords Go.Proofs.YtemkgdpfkbpnpaaGreatDoorW.PrintLast Go.Proofs.YtemkgdpfkbpnpaaGreatDoorW.PrintMore Go.Proofs.YtemkgdpfkbpnpaaGreatDoor.Conv Go.Proofs.YtemkgdpfkbpnpaaGreatDoor.Print
set_option linter.unusedVariables false
set_option linter.unusedSimpArgs false
theorem told_bytes : strOfNums (Line.putF (Hello.toldF mainT []).1).1 = ⟨#[48, 48, 49, 100, 115, 97, 99, 114, 105, 115, 116, 121, 32, 104, 101, 97, 100, 32, 104, 101, 97, 100, 115, 47, 109, 97, 105, 110, 10, 48, 48, 48, 48]⟩ := by
 have hn : Hello.namedF mainT = true := by kernel_rfl
 have h : Hello.toldF mainT [] = (Hello.endsF (Hello.toldT mainT []), true) := if_pos ⟨hn, rfl⟩
 rw [h]
 show strOfNums (Line.putF (Hello.endsF (Hello.toldT mainT []))).1 = _
 kernel_rfl
abbrev headsA : ByteArray := ⟨#[104, 101, 97, 100, 115, 47, 97]⟩
abbrev u0 (s : ByteArray) : List S42 := [⟨headsA, ⟨#[]⟩, s⟩]
theorem named_a : Hello.namedF headsA = true := by kernel_rfl
theorem push_u0 {s : ByteArray} (h : Hello.idF s = true) : Hello.pushF (u0 s) = (Hello.endsF ((u0 s).map Hello.upT), true) := by
 have hz := Hello.id_size h
 have h1 : Hello.mayF (⟨#[]⟩ : ByteArray) = true := by kernel_rfl
 have h2 : Hello.mayF s = true := by unfold Hello.mayF; rw [h]; simp
 have h3 : (((⟨#[]⟩ : ByteArray) ++ s).toList == ([] : List UInt8)) = false := by
  refine beq_eq_false_iff_ne.2 (fun e => ?_)
  have e2 := congrArg List.length e
  rw [Lib.toList_data] at e2
  have e3 : ((⟨#[]⟩ : ByteArray) ++ s).data.size = ((⟨#[]⟩ : ByteArray) ++ s).size := rfl
  rw [Array.length_toList, e3, ByteArray.size_append] at e2
  have e4 : (⟨#[]⟩ : ByteArray).size = 0 := rfl
  simp only [List.length_nil] at e2
  omega
 refine if_pos ⟨?_, by simp [u0], by simp [u0]⟩
 show ((Hello.namedF headsA && (Hello.mayF (⟨#[]⟩ : ByteArray) && (Hello.mayF s && !(((⟨#[]⟩ : ByteArray) ++ s).toList == ([] : List UInt8))))) && true) = true
 rw [named_a, h1, h2, h3]
 rfl
theorem small_u0 {s : ByteArray} (h : Hello.idF s = true) : ∀ y ∈ u0 s, Hello.smallU y := by
 intro y hy
 have hz := Hello.id_size h
 rw [show y = ⟨headsA, ⟨#[]⟩, s⟩ from List.mem_singleton.1 hy]
 exact ⟨show headsA.size <= 100000 by decide, show (⟨#[]⟩ : ByteArray).size <= 100000 by decide, by show s.size <= _; omega⟩
theorem bytes_p : Line.Bytes [112] := by
 intro x hx
 rw [List.mem_singleton] at hx
 rw [hx]
 exact ⟨by decide, by decide⟩
theorem bytes_nil : Line.Bytes [] := fun x hx => by cases hx
theorem bytes_take {l : List Int} (h : Line.Bytes l) (n : Nat) : Line.Bytes (l.take n) := fun x hx => h x (List.mem_of_mem_take hx)
theorem bytes_drop {l : List Int} (h : Line.Bytes l) (n : Nat) : Line.Bytes (l.drop n) := fun x hx => h x (List.mem_of_mem_drop hx)
theorem st_eq {s : St} {a p : List Int} {u : List S42} (h1 : s.waits = true) (h2 : s.send = a) (h3 : s.ups = u) (h4 : s.pack = p) (h5 : s.nx = -2) : s = ⟨s.came, a, u, p, -2, true⟩ := by
 cases s
 simp only at h1 h2 h3 h4 h5
 subst h1 h2 h3 h4 h5
 rfl
theorem text92 : num_Text.f 92 = some ⟨#[57, 50]⟩ := by kernel_rfl
theorem refused92 : take_refused.f 100 (errL ⟨#[57, 50]⟩ ⟨#[48]⟩).f1 = some (92, 0, true) := by kernel_rfl
theorem refused_a : take_refused.f 100 (okLn headsA).f1 = some (0, 0, false) := by kernel_rfl
theorem add0 (a : Addr) : a.add 0 = a := by
 cases a
 unfold Addr.add
 split <;> simp_all
theorem said_state {u : List S42} {x : List Line.Ln} (e : Hello.pushF u = (x, true)) (p : List Int) (hB : Line.Bytes p) (td : List Int) (a b : List Int) (hab : a ++ b = saidF u p) :
  ∃ cm, takeS pushR errT (takeS pushR errT ⟨[], td, [], [], -1, false⟩ a) b = ⟨cm, td, u, p, -2, true⟩ := by
 have h := takeS_two pushR errT td [] [] a b
 rw [hab, said_take e p hB td] at h
 have h2 := said_two e p hB td a b hab
 exact ⟨_, st_eq h2.1 h2.2.1 h2.2.2.1 h2.2.2.2.1 h.2.1⟩
theorem said_row {W : World} {u : List S42} {x : List Line.Ln} (e : Hello.pushF u = (x, true)) (hsm : ∀ y ∈ u, Hello.smallU y) (A : Option Addr) (m c : Nat) (hm : m = u.length) (hr : Kd.C k42 W A u.length u) (hc : u.length <= c) (A1 : Option Addr) (n c1 : Nat) (p : List Int) (hn : n = p.length) (hr1 : Kd.C (Kd.int .u8) W A1 p.length p) (hc1 : p.length <= c1) (hp : p.length <= 100000) :
  Calls Tryz.prog 15 #[.slice A m c, .slice A1 n c1] W fun e w' => ∃ A2 c2, e = .returned (.slice A2 (saidF u p).length c2) /\ (saidF u p).length <= c2 /\ Kd.R (Kd.int .u8) 5 w' W.heap.size (fun _ => True) (.slice A2 (saidF u p).length c2) (saidF u p) /\ Below W.heap.size W w' := by
 subst hm hn
 have h1 := push_ok e
 refine (sacristylaw18_said.calls 100000000 A c u A1 c1 p _ W hr hc hr1 hc1 (said_eq u p (by omega) hsm (by omega))).mono ?_
 rintro e w' ⟨v, rfl, ho, hb⟩
 obtain ⟨A2, c2, rfl⟩ := Kd.R_slice ho
 exact ⟨A2, c2, rfl, (Kd.R_reads' ho).2.1, ho, hb⟩
theorem row1_some {W : World} {own : Nat -> Prop} {A : Option Addr} {x : ByteArray} (h : Rw Kd.string W own A [x].length [x]) : ∃ ad, A = some ad := by
 obtain ⟨ad, h1, _⟩ := (Kd.reads_of_C (enc := Value.string) (d := ByteArray.empty) (h1 := fun _ => rfl) h.now).2.2 (by simp)
 exact ⟨ad, h1⟩
theorem row1_cell {W : World} {own : Nat -> Prop} {ad : Addr} {x : ByteArray} (h : Rw Kd.string W own (some ad) [x].length [x]) : W.cell? ad = some (.string x) := by
 obtain ⟨ad2, h1, h2⟩ := (Kd.reads_of_C (enc := Value.string) (d := ByteArray.empty) (h1 := fun _ => rfl) h.now).2.2 (by simp)
 obtain rfl := Option.some.inj h1
 have h3 := h2 0 (by simp)
 rw [add0] at h3
 exact h3
set_option maxRecDepth 100000 in
set_option maxHeartbeats 8000000 in
theorem head_calls (w : World) : Calls Tryz.prog 7 #[] w fun e w' => e = .returned (.bool true) /\ Below w.heap.size w w' := by
 go_enter Tryz.func7, Tryz.ntmps7
 go_upto_region 2 with (go_at_call 8; with_reducible refine (new_main w _ (Below.refl _ _)).mono ?_; rintro e W1 ⟨g, own, rfl, ht, _, _⟩; have HT := Asd.mk ht; clear ht)
 go_upto_region 4 with (go_at_call 8; with_reducible refine (new_none _).mono ?_; rintro e W2 ⟨hb, rfl⟩; replace HT := Asd.mk (HT.out.below hb); clear hb)
 go_upto_region 5 with (first
  | (go_at_call 22; with_reducible refine (Hello.name_nil _).mono ?_; rintro e W4 ⟨hb, s, rfl, hid⟩; replace HT := Asd.mk (HT.out.below hb); have HPU := Asd.mk (push_u0 hid); have HSM := Asd.mk (small_u0 hid); clear hb hid)
  | ((with_reducible refine gate_dst (N := 30) rfl ?_); go_loud (refine Kd.R_lit k42 (w0 := W4) W4.heap.size 42 ?hg (N := 30) ?hd (xs := u0 s) (inner := [.string headsA, .string ⟨#[]⟩, .string s]) (ok := fun _ => True) (okp := fun _ => True) ?hr ?hp (fun _ hk => hk) trivial (Below.refl _ _) (Nat.le_refl _) (by simp) ?_; (case hd => rfl); (case hg => rfl); (case hr => first | (go_simp; done) | (go_simp; rfl)); (case hp => exact Reps.c3 (k42_mkM _ _ _ (⟨headsA, ⟨#[]⟩, s⟩ : S42)) (Reps.none _ _)); intro v30 W5 ho hb hg_ hnew_; obtain ⟨Au, cu, rfl⟩ := Kd.R_slice ho; have HU := Asd.mk (HT.out.row hb ho); have HUc := Asd.mk (Kd.R_reads' ho).2.1; replace HT := Asd.mk (HT.out.below hb); clear ho hb hg_ hnew_)))
 go_upto_region 6 with (go_at_call 12; with_reducible refine (out_T HT.out).mono ?_; rintro e W6 ⟨Aa, ca, own3, rfl, hca, ha, ht, hg⟩; replace HT := Asd.mk ht; have HA := Asd.mk ha; have HAc := Asd.mk hca; replace HU := Asd.mk (HU.out.go hg); clear ha hca ht hg)
 have kc := fun (w : World) (C : Array Value) (n c : Nat) => Lib.run_convert_bytes_const (P := Tryz.prog) w 22 5 C n c Tryz.underlying22 Tryz.underlying5
 have HAl := Asd.mk (bal (Below.refl W6.heap.size W6) (.cells #[.int .u8 112] 5 (1, 2)))
 have HRl := Asd.mk (show Rw (Kd.int .u8) (W6.alloc (.cells #[.int .u8 112] 5 (1, 2))) own3 (some ⟨W6.heap.size, 0, none⟩) [(112 : Int)].length [112] from lit_row W6 [112] (1, 2) own3 HT.out.lt (by decide))
 obtain ⟨lx, hlx⟩ : ∃ lx, Hello.endsF ((u0 s).map Hello.upT) = lx := ⟨_, rfl⟩
 rw [hlx] at HPU
 obtain ⟨u, hu⟩ : ∃ u, u = u0 s := ⟨_, rfl⟩
 have HUL := Asd.mk (show 1 = u.length by rw [hu]; rfl)
 have HUB := Asd.mk (show okB u = okB (u0 s) by rw [hu])
 have HU0 := Asd.mk hu
 rw [<- hu] at HPU HU HSM
 have HUc' := Asd.mk (show u.length <= cu by rw [hu]; exact HUc.out)
 have HSL := Asd.mk (said_len HPU.out [112])
 have HSB := Asd.mk (said_bytes u [112])
 have HST := Asd.mk (fun a b hab => said_state HPU.out [112] bytes_p [] a b hab)
 clear hlx hu HUc
 go_upto_region 7 with (go_at_call 15; with_reducible refine (said_row HPU.out HSM.out Au 1 cu HUL.out (HU.out.below HAl.out).now HUc'.out (some ⟨W6.heap.size, 0, none⟩) 1 1 [112] rfl HRl.out.now (Nat.le_refl _) (by simp)).mono ?_; rintro e W7 ⟨Aq, cq, rfl, hqc, ho, hb⟩; have HQc := Asd.mk hqc; have HQ := Asd.mk ((HT.out.below HAl.out).row hb ho); replace HT := Asd.mk ((HT.out.below HAl.out).below hb); replace HA := Asd.mk ((HA.out.below HAl.out).below hb); replace HU := Asd.mk ((HU.out.below HAl.out).below hb); clear ho hb hqc)
 obtain ⟨bs, hbs⟩ : ∃ bs, saidF u [112] = bs := ⟨_, rfl⟩
 rw [hbs] at HSL HSB HST HQc HQ ⊢
 clear hbs HAl HRl
 have hb7 : 7 <= bs.length := by have := HSL.out; omega
 have HZB := Asd.mk (show bs.length <= 100000 by have h := HSL.out.1; simp only [List.length_singleton] at h; omega)
 have hq7 : (7 : Int) <= (cq : Int) := by have := HQc.out; omega
 have HL7 := Asd.mk (show (bs.take 7).length = 7 by rw [List.length_take]; omega)
 have HLD := Asd.mk (show (bs.drop 7).length = bs.length - 7 from List.length_drop)
 obtain ⟨cm, hcm⟩ := HST.out (bs.take 7) (bs.drop 7) (List.take_append_drop 7 bs)
 have HE := Asd.mk hcm
 have HSD := Asd.mk (takeS_sendlen (good_new []) (bytes_take HSB.out 7) (by rw [HL7.out]; simp))
 have HCL := Asd.mk (takeS_good (good_new []) (bytes_take HSB.out 7) (by rw [HL7.out]; simp)).2.1
 clear hcm HST
 go_upto_region 8 with (go_at_call 9; with_reducible refine (take_T HT.out Aq 7 cq (bs.take 7) HL7.out.symm (HQ.out.take hb7).now (by rw [HL7.out]; have := HQc.out; omega) (bytes_take HSB.out 7) (by rw [HL7.out]; simp) (by simp)).mono ?_; rintro e W8 ⟨rfl, own8, ht, hg⟩; replace HT := Asd.mk ht; replace HA := Asd.mk (HA.out.go hg); replace HQ := Asd.mk (HQ.out.go hg); replace HU := Asd.mk (HU.out.go hg); clear ht hg)
 generalize takeS pushR errT ⟨[], [], [], [], -1, false⟩ (bs.take 7) = s1 at HT HE HSD HCL
 obtain ⟨Ar, cr, hcut, hR, hRc⟩ := drop_cut HQ.out HQc.out 7 (by decide) (by omega)
 have HR := Asd.mk hR
 have HRc := Asd.mk hRc
 clear hR hRc HQ HQc
 have hi7 : Int.toNat 7 = 7 := rfl
 rw [hi7] at hcut HR HRc
 go_upto_region 9 with (go_at_call 9; with_reducible refine (take_T HT.out Ar (bs.length - 7) cr (bs.drop 7) HLD.out.symm HR.out.now HRc.out (bytes_drop HSB.out 7) (by rw [HLD.out]; have h := HCL.out; rw [HL7.out] at h; simp only [List.length_nil] at h; have := HZB.out; omega) (by have h := HSD.out; simp only [List.length_nil] at h; omega)).mono ?_; rintro e W9 ⟨rfl, own9, ht, hg⟩; rw [HE.out] at ht; replace HT := Asd.mk ht; replace HA := Asd.mk (HA.out.go hg); replace HU := Asd.mk (HU.out.go hg); clear ht hg hcut HR HRc)
 clear HE HSD HCL HL7 HLD hb7 hq7
 go_upto_region 10 with (go_at_call 10; with_reducible refine (ready_is HT.out rfl (by simp) 1 1 HUL.out.symm rfl).mono ?_; rintro e W10 ⟨Ax, cx, Ay, cy, rfl, _, hy, _, _, hb⟩; replace HT := Asd.mk (HT.out.below hb); replace HA := Asd.mk (HA.out.below hb); replace HU := Asd.mk (HU.out.below hb); have HP := Asd.mk hy; clear hy hb)
 go_upto_region 11 with (go_at_call 16; with_reducible refine (give_ok_T HT.out rfl 0 (by simp)).mono ?_; rintro e W11 ⟨rfl, own11, ht, hg⟩; rw [List.nil_append] at ht; replace HA := Asd.mk (HA.out.go hg); replace HU := Asd.mk (HU.out.go hg); replace HP := Asd.mk (HP.out.go hg); replace HT := Asd.mk ht; clear ht hg)
 have HGOT := Asd.mk (fun (W' : World) (A : Option Addr) (c : Nat) (hr : Kd.C (Kd.int .u8) W' A (okB u).length (okB u)) (hc : (okB u).length <= c) => got_ok (W := W') u (by rw [HU0.out]; simp) (by rw [HU0.out]; simp) (by rw [HU0.out]; intro y hy; rw [List.mem_singleton.1 hy]; exact named_a) 100 0 0 (by rw [HU0.out]; intro _; exact refused_a) A c hr hc)
 go_upto_region 12 with (first
  | (go_at_call 12; with_reducible refine (out_T HT.out).mono ?_; rintro e W12 ⟨Ao, co, own12, rfl, hco, ho, ht, hg⟩; replace HT := Asd.mk ht; replace HA := Asd.mk (HA.out.go hg); replace HU := Asd.mk (HU.out.go hg); replace HP := Asd.mk (HP.out.go hg); have HO := Asd.mk ho; have HOc := Asd.mk hco; clear ho hco ht hg)
  | (go_at_call 17; with_reducible refine (HGOT.out _ Ao co HO.out.now HOc.out).mono ?_; rintro e W13 ⟨vn, rfl, ho, hb⟩; obtain ⟨An, cn, rfl⟩ := Kd.R_slice ho; have HN := Asd.mk (HT.out.row hb ho); replace HT := Asd.mk (HT.out.below hb); replace HA := Asd.mk (HA.out.below hb); replace HU := Asd.mk (HU.out.below hb); replace HP := Asd.mk (HP.out.below hb); clear ho hb HO HOc HGOT))
 have hnu : namesL u = [headsA] := by rw [HU0.out]; rfl
 rw [hnu] at HN ⊢
 clear hnu HSL HSB HZB
 go_upto_region 13 with (go_at_call 8; with_reducible refine (new_main w _ HT.out.bel).mono ?_; rintro e W14 ⟨g2, ow2, rfl, ht, hb, hn⟩; have HT2 := Asd.mk ht; have HD := Asd.mk (HT.out.fresh hn); have hg := Goes.newer (own := own12) hb hn; replace HT := Asd.mk (HT.out.below hb); replace HA := Asd.mk (HA.out.go hg); replace HU := Asd.mk (HU.out.go hg); replace HP := Asd.mk (HP.out.go hg); replace HN := Asd.mk (HN.out.go hg); clear ht hb hn hg)
 go_upto_region 16 with (go_at_call 12; with_reducible refine (out_T HT2.out).mono ?_; rintro e W15 ⟨Az, cz, ow3, rfl, _, _, ht, hg⟩; have hlt := HT.out.lt; replace HT := Asd.mk (HT.out.other hg ht.bel HD.out); replace HD := Asd.mk (hg.apart hlt HD.out); replace HT2 := Asd.mk ht; replace HA := Asd.mk (HA.out.go (hg.right own12)); replace HU := Asd.mk (HU.out.go (hg.right own12)); replace HP := Asd.mk (HP.out.go (hg.right own12)); replace HN := Asd.mk (HN.out.go (hg.right own12)); clear ht hg hlt)
 have HSL := Asd.mk (said_len HPU.out [])
 have HSB := Asd.mk (said_bytes u [])
 have HST := Asd.mk (said_take HPU.out [] bytes_nil [])
 have HZB := Asd.mk (show (saidF u []).length <= 100000 by have h := HSL.out.1; simp only [List.length_nil] at h; omega)
 go_upto_region 17 with (first
  | (go_at_call 15; with_reducible refine (said_row HPU.out HSM.out Au 1 cu HUL.out HU.out.now HUc'.out none 0 0 [] rfl (Kd.C_nil _ _) (Nat.le_refl _) (by simp)).mono ?_; rintro e W16 ⟨Aq, cq, rfl, hqc, ho, hb⟩; have HQc := Asd.mk hqc; have HQ := Asd.mk (HT2.out.row hb ho); replace HT := Asd.mk (HT.out.below hb); replace HT2 := Asd.mk (HT2.out.below hb); replace HA := Asd.mk (HA.out.below hb); replace HU := Asd.mk (HU.out.below hb); replace HP := Asd.mk (HP.out.below hb); replace HN := Asd.mk (HN.out.below hb); clear ho hb hqc)
  | (go_at_call 9; with_reducible refine (take_T HT2.out Aq _ cq (saidF u []) rfl HQ.out.now HQc.out HSB.out (by simp only [List.length_nil]; have := HZB.out; omega) (by simp)).mono ?_; rintro e W17 ⟨rfl, ow4, ht, hg⟩; rw [HST.out] at ht; have hlt := HT.out.lt; replace HT := Asd.mk (HT.out.other hg ht.bel HD.out); replace HD := Asd.mk (hg.apart hlt HD.out); replace HT2 := Asd.mk ht; replace HA := Asd.mk (HA.out.go (hg.right own12)); replace HU := Asd.mk (HU.out.go (hg.right own12)); replace HP := Asd.mk (HP.out.go (hg.right own12)); replace HN := Asd.mk (HN.out.go (hg.right own12)); clear ht hg hlt HQ HQc))
 go_upto_region 18 with (go_at_call 10; with_reducible refine (ready_is HT2.out rfl (by simp) 1 0 HUL.out.symm rfl).mono ?_; rintro e W18 ⟨Bx, ex, By, ey, rfl, _, _, _, _, hb⟩; replace HT := Asd.mk (HT.out.below hb); replace HT2 := Asd.mk (HT2.out.below hb); replace HA := Asd.mk (HA.out.below hb); replace HU := Asd.mk (HU.out.below hb); replace HP := Asd.mk (HP.out.below hb); replace HN := Asd.mk (HN.out.below hb); clear hb)
 go_upto_region 19 with (go_at_call 16; with_reducible refine (give_err_T HT2.out rfl 92 0 (by decide) _ _ ((num_Text.calls 92 _ _ text92).mono (fun e w' h => ⟨h.1, h.2.below⟩)) (fun W' _ => (num_Text.calls 0 _ W' text0).mono (fun e w' h => ⟨h.1, h.2.below⟩)) (by decide) (by decide) (by simp)).mono ?_; rintro e W19 ⟨rfl, ow5, ht, hg⟩; rw [List.nil_append] at ht; have hlt := HT.out.lt; replace HT := Asd.mk (HT.out.other hg ht.bel HD.out); replace HD := Asd.mk (hg.apart hlt HD.out); replace HT2 := Asd.mk ht; replace HA := Asd.mk (HA.out.go (hg.right own12)); replace HU := Asd.mk (HU.out.go (hg.right own12)); replace HP := Asd.mk (HP.out.go (hg.right own12)); replace HN := Asd.mk (HN.out.go (hg.right own12)); clear ht hg hlt)
 obtain ⟨ad, rfl⟩ := row1_some HN.out
 have HS1 := Asd.mk (show strOfNums [112] = ⟨#[112]⟩ from rfl)
 have HS2 := Asd.mk (show ([112] : List Int).length = 1 from rfl)
 have HD1 := Asd.mk (show doneS ⟨cm, [], u, [112], -2, false⟩ = true from rfl)
 have HD2 := Asd.mk (show doneS ⟨saidF u [], [], u, [], -2, false⟩ = true from rfl)
 have HGE := Asd.mk (fun (W' : World) (A : Option Addr) (c : Nat) (hr : Kd.C (Kd.int .u8) W' A (errB ⟨#[57, 50]⟩ ⟨#[48]⟩).length (errB ⟨#[57, 50]⟩ ⟨#[48]⟩)) (hc : (errB ⟨#[57, 50]⟩ ⟨#[48]⟩).length <= c) => got_err (W := W') ⟨#[57, 50]⟩ ⟨#[48]⟩ 92 0 100 (by decide) (by decide) refused92 A c hr hc)
 clear HSL HSB HST HZB kc
 generalize errB ⟨#[57, 50]⟩ ⟨#[48]⟩ = eb at HT2 HGE
 go_wp2_with (first
  | (go_at_call 12; with_reducible refine (out_T HT2.out).mono ?_; rintro e W20 ⟨Ao, co, ow6, rfl, hco, ho, ht, hg⟩; have hlt := HT.out.lt; replace HT := Asd.mk (HT.out.other hg ht.bel HD.out); replace HD := Asd.mk (hg.apart hlt HD.out); replace HT2 := Asd.mk ht; replace HA := Asd.mk (HA.out.go (hg.right own12)); replace HU := Asd.mk (HU.out.go (hg.right own12)); replace HP := Asd.mk (HP.out.go (hg.right own12)); replace HN := Asd.mk (HN.out.go (hg.right own12)); have HO := Asd.mk ho; have HOc := Asd.mk hco; clear ho hco ht hg hlt)
  | (go_at_call 17; with_reducible refine (HGE.out _ Ao co HO.out.now HOc.out).mono ?_; rintro e W21 ⟨rfl, hb⟩; replace HT := Asd.mk (HT.out.below hb); replace HT2 := Asd.mk (HT2.out.below hb); replace HA := Asd.mk (HA.out.below hb); replace HU := Asd.mk (HU.out.below hb); replace HP := Asd.mk (HP.out.below hb); replace HN := Asd.mk (HN.out.below hb); clear hb HO HOc HGE; have hca := Kd.C_string (P := Tryz.prog) (src := 22) (dst := 9) (c := ca) Tryz.underlying22 Tryz.underlying5 Tryz.underlying9 HA.out.now; rw [told_bytes] at hca; have hcp := Kd.C_string (P := Tryz.prog) (src := 22) (dst := 9) (c := cy) Tryz.underlying22 Tryz.underlying5 Tryz.underlying9 HP.out.now; rw [HS1.out, HS2.out] at hcp; have kn := row1_cell HN.out)
  | (go_at_call 11; with_reducible refine (done_T HT.out true HD1.out).mono ?_; rintro e w1 ⟨rfl, rfl⟩)
  | (go_at_call 11; with_reducible refine (done_T HT2.out true HD2.out).mono ?_; rintro e w1 ⟨rfl, rfl⟩))
 go_ret
 exact ⟨rfl, HT.out.bel⟩
end Go.Proofs.YtemkgdpfkbpnpaaGreatDoor.Take
