/- The live question of layer 17 answers true. -/
import Derived.Test.YtaadhjpcdnbbeaaGreatDoorServeLaw
import Derived.Test.YtaadhjpcdnbbeaaGreatDoorNameNil
namespace Go.Proofs.YtaadhjpcdnbbeaaGreatDoor.Serve
open Go.RowKit Go.Proofs.YtaadhjpcdnbbeaaGreatDoorW.PrintWords Go.Proofs.YtaadhjpcdnbbeaaGreatDoorW.PrintLast Go.Proofs.YtaadhjpcdnbbeaaGreatDoorW.PrintMore Go.Proofs.YtaadhjpcdnbbeaaGreatDoor.Conv Go.Proofs.YtaadhjpcdnbbeaaGreatDoor.Print
set_option linter.unusedVariables false
set_option linter.unusedSimpArgs false
theorem enc_least (l : List Line.Ln) : 4 * l.length <= (l.flatMap Line.encL).length := by
 induction l with
 | nil => simp
 | cons x t ih => rw [List.flatMap_cons, List.length_append, Line.encL_length, List.length_cons]; omega
theorem asks_bytes {a b : List ByteArray} {x : List Line.Ln} (e : Hello.askF a b = (x, true)) : Line.putF x = (x.flatMap Line.encL, 0) /\ Line.Bytes (x.flatMap Line.encL) /\ (x.flatMap Line.encL).length <= 300 * x.length /\ x.all Line.okL = true := by
 have e1 := Hello.ask_first e
 have hsm : ∀ t ∈ Hello.asks a b, t.size + 1 <= 200 := fun t ht => Hello.asks_small e1.2.2.1 e1.2.2.2 t ht
 have hok : x.all Line.okL = true := by
  rw [e1.1]
  exact ends_ok fun t ht => by have := hsm t ht; omega
 refine ⟨by unfold Line.putF; rw [if_pos hok], Line.enc_bytes hok, ?_, hok⟩
 rw [e1.1]
 unfold Hello.endsF
 rw [List.flatMap_append, List.length_append, List.length_append, List.length_map]
 have h1 : (([Hello.flushL] : List Line.Ln).flatMap Line.encL).length = 4 := by rfl
 rw [h1]
 have h2 : ∀ l : List ByteArray, (∀ t ∈ l, t.size + 1 <= 200) -> ((l.map Hello.lineOf).flatMap Line.encL).length <= 300 * l.length := by
  intro l
  induction l with
  | nil => intro _; simp
  | cons u r ih =>
   intro h
   have h3 := ih (fun t ht => h t (List.mem_cons_of_mem _ ht))
   have h4 := h u List.mem_cons_self
   rw [List.map_cons, List.flatMap_cons, List.length_append, Line.encL_length, List.length_cons]
   have h5 : (Hello.lineOf u).f1.size = u.size + 1 := by show (u ++ (⟨#[10]⟩ : ByteArray)).size = _; rw [ByteArray.size_append]; rfl
   omega
 have := h2 _ hsm
 simp only [List.length_cons, List.length_nil]
 omega
theorem asks_one {s : ByteArray} (h : Hello.idF s = true) : ∃ (lb : List Line.Ln) (bb : List Int), Hello.askF [s] [] = (lb, true) /\ lb.length = 3 /\ Line.putF lb = (bb, 0) /\ 9 < bb.length /\ bb.length <= 900 /\ Line.Bytes bb := by
 have h2 := Hello.ask_one h
 obtain ⟨e1, e2, e3, _⟩ := asks_bytes h2
 have hn : (Hello.endsF (Hello.asks [s] [])).length = 3 := by rw [Hello.ends_len]; rfl
 have h4 := enc_least (Hello.endsF (Hello.asks [s] []))
 exact ⟨_, _, h2, hn, e1, by omega, by omega, e2⟩
theorem asks_len {a b : List ByteArray} {x : List Line.Ln} (e : Hello.askF a b = (x, true)) : (x.flatMap Line.encL).length <= 74 * (a.length + b.length) + 13 := by
 have e1 := Hello.ask_first e
 rw [e1.1]
 unfold Hello.endsF Hello.asks
 have h1 : ∀ (p : ByteArray) (l : List ByteArray), p.size = 5 -> (∀ s ∈ l, s.size = 64) -> (((l.map (fun x => p ++ x)).map Hello.lineOf).flatMap Line.encL).length <= 74 * l.length := by
  intro p l hp
  induction l with
  | nil => intro _; simp
  | cons u r ih =>
   intro h
   have h3 := ih (fun s hs => h s (List.mem_cons_of_mem _ hs))
   have h4 := h u List.mem_cons_self
   rw [List.map_cons, List.map_cons, List.flatMap_cons, List.length_append, Line.encL_length, List.length_cons]
   have h5 : (Hello.lineOf (p ++ u)).f1.size = p.size + u.size + 1 := by show ((p ++ u) ++ (⟨#[10]⟩ : ByteArray)).size = _; rw [ByteArray.size_append, ByteArray.size_append]; rfl
   omega
 have ha := h1 Hello.wantL a (by rfl) (fun s hs => (Hello.names_size e1.2.2.1).2 s hs)
 have hb := h1 Hello.haveL b (by rfl) (fun s hs => (Hello.names_size e1.2.2.2).2 s hs)
 have hd : ((([Hello.doneL] : List ByteArray).map Hello.lineOf).flatMap Line.encL).length = 9 := by rfl
 have hf : (([Hello.flushL] : List Line.Ln).flatMap Line.encL).length = 4 := by rfl
 rw [List.map_append, List.map_append, List.flatMap_append, List.flatMap_append, List.flatMap_append, List.length_append, List.length_append, List.length_append, hd, hf]
 omega
theorem bytes_take {l : List Int} (h : Line.Bytes l) (n : Nat) : Line.Bytes (l.take n) := fun x hx => h x (List.mem_of_mem_take hx)
theorem bytes_drop {l : List Int} (h : Line.Bytes l) (n : Nat) : Line.Bytes (l.drop n) := fun x hx => h x (List.mem_of_mem_drop hx)
theorem bytes_z : Line.Bytes [122, 122, 122, 122] := by
 intro x hx
 simp at hx
 rw [hx]
 exact ⟨by decide, by decide⟩
set_option maxRecDepth 100000 in
set_option maxHeartbeats 8000000 in
theorem head_calls (w : World) : Calls Tryz.prog 6 #[] w fun e w' => e = .returned (.bool true) /\ Below w.heap.size w w' := by
 go_enter Tryz.func6, Tryz.ntmps6
 go_upto_region 2 with (go_at_call 7; with_reducible refine (new_main w _ (Below.refl _ _)).mono ?_; rintro e W1 ⟨g, own, rfl, ht, _, _⟩; have HT := Asd.mk ht; clear ht)
 go_upto_region 4 with (go_at_call 7; with_reducible refine (new_none _).mono ?_; rintro e W2 ⟨hb, rfl⟩; replace HT := Asd.mk (HT.out.below hb); clear hb)
 go_upto_region 5 with (go_at_call 11; with_reducible refine (out_T HT.out).mono ?_; rintro e W3 ⟨Aa, ca, own3, rfl, hca, ha, ht, _⟩; replace HT := Asd.mk ht; have HA := Asd.mk ha; have HAc := Asd.mk hca; clear ha hca ht)
 go_upto_region 6 with (first
  | (go_at_call 20; with_reducible refine (Hello.name_nil _).mono ?_; rintro e W4 ⟨hb, s, rfl, hid⟩; replace HT := Asd.mk (HT.out.below hb); replace HA := Asd.mk (HA.out.below hb); obtain ⟨lb, bb, hask, h3, hput, hb9, hbz, hbB⟩ := asks_one hid; have HK := Asd.mk (fun W : World => hello_Ask.calls 4000000 (some ⟨W.heap.size, 0, none⟩) 1 [s] none 0 [] _ _ _ (Hello.C_str1 W s) (Nat.le_refl _) (Kd.C_nil _ _) (Nat.le_refl _) ((Hello.ask_eq [s] [] (by omega) (fun y hy => by rw [List.mem_singleton] at hy; rw [hy, Hello.id_size hid]; omega) (by simp) (fun y hy => by rw [List.mem_singleton] at hy; rw [hy, Hello.id_size hid]; omega) (by simp)).trans (congrArg some hask))); have HASK := Asd.mk hask; have HPUT := Asd.mk ((Line.put_eq lb (by omega) (k := 100000) (by omega)).trans (congrArg some hput)); have HP1 := Asd.mk (show (Line.putF lb).1 = bb by rw [hput]); have H9 := Asd.mk (And.intro hb9 (And.intro hbz hbB)); clear hb hid hask h3 hput hb9 hbz hbB)
  | (go_at_call 14; refine (HK.out _).mono ?_; rintro e W5 ⟨vb, rfl, ho, hb⟩; obtain ⟨Ab, cb, rfl⟩ := Kd.R_slice ho; have HL := Asd.mk (Kd.R_reads' ho).2.2; have HLc := Asd.mk (Kd.R_reads' ho).2.1; have hbb := below_step (bal (Below.refl _ _) _) hb; replace HT := Asd.mk (HT.out.below hbb); replace HA := Asd.mk (HA.out.below hbb); clear ho hb hbb HK))
 go_upto_region 7 with (go_at_call 15; with_reducible refine (line_Put.calls 100000 Ab cb lb bb 0 _ HL.out HLc.out HPUT.out).mono ?_; rintro e W6 ⟨vq, rfl, ho, hb⟩; obtain ⟨Aq, cq, rfl⟩ := Kd.R_slice ho; have HQc := Asd.mk (Kd.R_reads' ho).2.1; have HQ := Asd.mk (HT.out.row hb ho); replace HT := Asd.mk (HT.out.below hb); replace HA := Asd.mk (HA.out.below hb); clear ho hb HL HLc HPUT)
 have hearly := asks_early HASK.out ⟨[], [], [], [], 0⟩ rfl rfl (bb.take 9) (bb.drop 9) (by rw [List.take_append_drop]; exact HP1.out.symm) (fun e => by have h := congrArg List.length e; rw [List.length_drop] at h; have := H9.out.1; simp at h; omega)
 rw [HP1.out] at hearly
 have hcm := (takeS_good (good_new []) (bytes_take H9.out.2.2 9) (by rw [List.length_take]; have := H9.out.2.1; simp; omega)).2.1
 have hl9 : (bb.take 9).length = 9 := by rw [List.length_take]; have := H9.out.1; omega
 have hld : (bb.drop 9).length = bb.length - 9 := List.length_drop
 have HL9 := Asd.mk hl9
 have HLD := Asd.mk hld
 have HE := Asd.mk hearly
 have HCM := Asd.mk hcm
 have HSD := Asd.mk (takeS_sendlen (good_new []) (bytes_take H9.out.2.2 9) (by rw [List.length_take]; have := H9.out.2.1; simp; omega))
 have hb9 := H9.out.1
 have hq9 : (9 : Int) <= (cq : Int) := by have := HQc.out; omega
 clear hearly hcm hl9 hld HP1 HASK
 go_upto_region 8 with (go_at_call 8; with_reducible refine (take_T HT.out Aq 9 cq (bb.take 9) HL9.out.symm (HQ.out.take (by omega)).now (by rw [HL9.out]; have := HQc.out; omega) (bytes_take H9.out.2.2 9) (by rw [HL9.out]; simp) (by simp)).mono ?_; rintro e W7 ⟨rfl, own7, ht, hg⟩; replace HT := Asd.mk ht; replace HA := Asd.mk (HA.out.go hg); replace HQ := Asd.mk (HQ.out.go hg); clear ht hg)
 generalize takeS askR errT ⟨[], [], [], [], 0⟩ (bb.take 9) = s1 at HT HE HCM HSD
 go_upto_region 9 with (go_at_call 9; with_reducible refine (ready_no HT.out HE.out.1).mono ?_; rintro e W8 ⟨rfl, hb⟩; replace HT := Asd.mk (HT.out.below hb); replace HA := Asd.mk (HA.out.below hb); replace HQ := Asd.mk (HQ.out.below hb); clear hb)
 generalize hW8 : World.alloc _ _ = W8b
 have hb8 : Below W8.heap.size W8 W8b := by rw [<- hW8]; exact bal (Below.refl _ _) _
 replace HT := Asd.mk (HT.out.below hb8)
 replace HA := Asd.mk (HA.out.below hb8)
 replace HQ := Asd.mk (HQ.out.below hb8)
 clear hW8 hb8
 obtain ⟨Ar, cr, hcut, hR, hRc⟩ := drop_cut HQ.out HQc.out 9 (by decide) (by have := H9.out.1; omega)
 have HR := Asd.mk hR
 have HRc := Asd.mk hRc
 have H1 := Asd.mk (HE.out.2.eq (HE.out.2.2.2.1.trans rfl))
 have HCL := Asd.mk (show s1.came.length = 9 by rw [HCM.out, List.nil_append]; exact HL9.out)
 have HSL := Asd.mk (show s1.send.length <= 100000000 by have h := HSD.out; simp at h; omega)
 clear hR hRc HE HQ HQc
 have hi9 : Int.toNat 9 = 9 := rfl
 rw [hi9] at hcut HR HRc
 go_upto_region 10 with (go_at_call 8; with_reducible refine (take_T HT.out Ar (bb.length - 9) cr (bb.drop 9) HLD.out.symm HR.out.now HRc.out (bytes_drop H9.out.2.2 9) (by rw [HLD.out, HCL.out]; have := H9.out.2.1; omega) HSL.out).mono ?_; rintro e W9 ⟨rfl, own9, ht, hg⟩; rw [H1.out] at ht; replace HT := Asd.mk ht; replace HA := Asd.mk (HA.out.go hg); clear ht hg hcut HR HRc HCL HSL H1 HLD HL9)
 go_upto_region 11 with (go_at_call 9; with_reducible refine (ready_is HT.out rfl 1 0 rfl rfl).mono ?_; rintro e W10 ⟨Ax, cx, Ay, cy, rfl, _, _, _, _, hb⟩; replace HT := Asd.mk (HT.out.below hb); replace HA := Asd.mk (HA.out.below hb); clear hb)
 generalize hW10 : World.alloc _ _ = W10b
 have HX := Asd.mk (show W10b.heap[W10.heap.size]? = some (.cells #[.slice Ax 1 cx, .slice Ay 0 cy] 29 (0, 0)) from by rw [<- hW10]; exact heap_alloc_new _ _)
 have hb10 : Below W10.heap.size W10 W10b := by rw [<- hW10]; exact bal (Below.refl _ _) _
 have HBX := Asd.mk (show Bx W10b own9 W10.heap.size #[.slice Ax 1 cx, .slice Ay 0 cy] 29 from ⟨HX.out, fun e => Nat.lt_irrefl _ (HT.out.lt _ e)⟩)
 replace HT := Asd.mk (HT.out.below hb10)
 replace HA := Asd.mk (HA.out.below hb10)
 clear hW10 hb10 HX
 generalize W10.heap.size = bx at HBX ⊢
 have kc := fun (w : World) (C : Array Value) (n c : Nat) => Lib.run_convert_bytes_const (P := Tryz.prog) w 22 5 C n c Tryz.underlying22 Tryz.underlying5
 have HAl := Asd.mk (bal (Below.refl W10b.heap.size W10b) (.cells #[.int .u8 112] 5 (1, 2)))
 have HRl := Asd.mk (show Rw (Kd.int .u8) (W10b.alloc (.cells #[.int .u8 112] 5 (1, 2))) own9 (some ⟨W10b.heap.size, 0, none⟩) [(112 : Int)].length [112] from lit_row W10b [112] (1, 2) own9 HT.out.lt (by decide))
 go_upto_region 12 with (go_at_call 16; with_reducible refine (give_ok_T (HT.out.below HAl.out) rfl (some ⟨W10b.heap.size, 0, none⟩) 1 1 [112] rfl HRl.out (Nat.le_refl _) (by simp) (by simp)).mono ?_; rintro e W11 ⟨rfl, own11, ht, hg⟩; rw [List.nil_append] at ht; replace HA := Asd.mk ((HA.out.below HAl.out).go hg); replace HBX := Asd.mk ((HBX.out.go (Goes.below HAl.out)).go hg); replace HT := Asd.mk ht; clear ht hg HAl HRl)
 obtain ⟨kp, hkp⟩ := got_pack [112] (by intro x hx; rw [List.mem_singleton] at hx; rw [hx]; exact ⟨by decide, by decide⟩) (by decide)
 have HKP := Asd.mk hkp
 clear hkp
 go_upto_region 13 with (first
  | (go_at_call 11; with_reducible refine (out_T HT.out).mono ?_; rintro e W12 ⟨Ao, co, own12, rfl, hco, ho, ht, hg⟩; replace HT := Asd.mk ht; replace HA := Asd.mk (HA.out.go hg); replace HBX := Asd.mk (HBX.out.go hg); have HO := Asd.mk ho; have HOc := Asd.mk hco; clear ho hco ht hg)
  | (go_at_call 17; with_reducible refine (serve_Got.calls kp Ao co (packB [112]) _ _ _ _ HO.out.now HOc.out HKP.out).mono ?_; rintro e W13 ⟨vp, rfl, ho, hb⟩; obtain ⟨Ap, cp, rfl⟩ := Kd.R_slice ho; have HP := Asd.mk (HT.out.row hb ho); replace HT := Asd.mk (HT.out.below hb); replace HA := Asd.mk (HA.out.below hb); replace HBX := Asd.mk (HBX.out.go (Goes.below hb)); clear ho hb HO HOc HKP))
 go_upto_region 14 with (go_at_call 7; with_reducible refine (new_main w _ HT.out.bel).mono ?_; rintro e W14 ⟨g2, ow2, rfl, ht, hb, hn⟩; have HT2 := Asd.mk ht; have HD := Asd.mk (HT.out.fresh hn); have hg := Goes.newer (own := own12) hb hn; replace HT := Asd.mk (HT.out.below hb); replace HA := Asd.mk (HA.out.go hg); replace HP := Asd.mk (HP.out.go hg); replace HBX := Asd.mk (HBX.out.go hg); clear ht hb hn hg)
 go_upto_region 17 with (go_at_call 11; with_reducible refine (out_T HT2.out).mono ?_; rintro e W15 ⟨Az, cz, ow3, rfl, _, _, ht, hg⟩; have hlt := HT.out.lt; replace HT := Asd.mk (HT.out.other hg ht.bel HD.out); replace HD := Asd.mk (hg.apart hlt HD.out); replace HT2 := Asd.mk ht; replace HA := Asd.mk (HA.out.go (hg.right own12)); replace HP := Asd.mk (HP.out.go (hg.right own12)); replace HBX := Asd.mk (HBX.out.go (hg.right own12)); clear ht hg)
 have HAl := Asd.mk (bal (Below.refl W15.heap.size W15) (.cells #[.int .u8 122, .int .u8 122, .int .u8 122, .int .u8 122] 5 (4, 5)))
 have HRl := Asd.mk (show Rw (Kd.int .u8) (W15.alloc (.cells #[.int .u8 122, .int .u8 122, .int .u8 122, .int .u8 122] 5 (4, 5))) ow3 (some ⟨W15.heap.size, 0, none⟩) [(122 : Int), 122, 122, 122].length [122, 122, 122, 122] from lit_row W15 [122, 122, 122, 122] (4, 5) ow3 HT2.out.lt (by decide))
 have HZ := Asd.mk (take_z ⟨[], [], [], [], 0⟩ rfl rfl)
 go_upto_region 18 with (go_at_call 8; with_reducible refine (take_T (HT2.out.below HAl.out) (some ⟨W15.heap.size, 0, none⟩) 4 4 [122, 122, 122, 122] rfl HRl.out.now (Nat.le_refl _) bytes_z (by simp) (by simp)).mono ?_; rintro e W16 ⟨rfl, ow4, ht, hg⟩; rw [HZ.out, List.nil_append] at ht; have hlt := (HT.out.below HAl.out).lt; replace HT := Asd.mk ((HT.out.below HAl.out).other hg ht.bel HD.out); replace HD := Asd.mk (hg.apart hlt HD.out); replace HT2 := Asd.mk ht; replace HA := Asd.mk ((HA.out.below HAl.out).go (hg.right own12)); replace HP := Asd.mk ((HP.out.below HAl.out).go (hg.right own12)); replace HBX := Asd.mk ((HBX.out.go (Goes.below HAl.out)).go (hg.right own12)); clear ht hg HAl HRl HZ hlt)
 obtain ⟨ke, hke⟩ := got_err3
 have HKE := Asd.mk hke
 clear hke
 go_upto_region 19 with (first
  | (go_at_call 11; with_reducible refine (out_T HT2.out).mono ?_; rintro e W17 ⟨Ao, co, ow5, rfl, hco, ho, ht, hg⟩; have hlt := HT.out.lt; replace HT := Asd.mk (HT.out.other hg ht.bel HD.out); replace HD := Asd.mk (hg.apart hlt HD.out); replace HT2 := Asd.mk ht; replace HA := Asd.mk (HA.out.go (hg.right own12)); replace HP := Asd.mk (HP.out.go (hg.right own12)); replace HBX := Asd.mk (HBX.out.go (hg.right own12)); have HO := Asd.mk ho; have HOc := Asd.mk hco; clear ho hco ht hg hlt)
  | (go_at_call 17; with_reducible refine (serve_Got.calls ke Ao co (errB ⟨#[51]⟩) _ _ _ _ HO.out.now HOc.out HKE.out).mono ?_; rintro e W18 ⟨vp, rfl, ho, hb⟩; obtain ⟨Aw, cw, rfl⟩ := Kd.R_slice ho; replace HT := Asd.mk (HT.out.below hb); replace HT2 := Asd.mk (HT2.out.below hb); replace HA := Asd.mk (HA.out.below hb); replace HP := Asd.mk (HP.out.below hb); replace HBX := Asd.mk (HBX.out.go (Goes.below hb)); clear ho hb HO HOc HKE))
 have kx : W18.cell? ⟨bx, 0, none⟩ = some (.slice Ax 1 cx) := (box_cell HBX.out.1 0 rfl).1
 have hca := Kd.C_string (P := Tryz.prog) (src := 22) (dst := 9) (c := ca) Tryz.underlying22 Tryz.underlying5 Tryz.underlying9 HA.out.now
 rw [told_bytes] at hca
 have hcp := Kd.C_string (P := Tryz.prog) (src := 22) (dst := 9) (c := cp) Tryz.underlying22 Tryz.underlying5 Tryz.underlying9 HP.out.now
 rw [show strOfNums [112] = ⟨#[112]⟩ from rfl, show ([112] : List Int).length = 1 from rfl] at hcp
 clear HA HP HBX
 go_wp2_with (first
  | (go_at_call 10; with_reducible refine (done_T HT.out true rfl).mono ?_; rintro e w1 ⟨rfl, rfl⟩)
  | (go_at_call 10; with_reducible refine (done_T HT2.out true rfl).mono ?_; rintro e w1 ⟨rfl, rfl⟩)
  | (go_at_call 11; with_reducible refine (out_T HT.out).mono ?_; rintro e W19 ⟨Ao, co, own20, rfl, _, _, ht, _⟩; replace HT := Asd.mk ht; clear ht))
 go_ret
 exact ⟨rfl, HT.out.bel⟩
end Go.Proofs.YtaadhjpcdnbbeaaGreatDoor.Serve
