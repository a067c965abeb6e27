/- A talk with one who fetches: say, end, Out, Done. -/
import Derived.Test.YtaadhjpcdnbbeaaGreatDoorServeW
namespace Go.Proofs.YtaadhjpcdnbbeaaGreatDoor.Serve
open Go.RowKit Go.Proofs.YtaadhjpcdnbbeaaGreatDoorW.PrintWords Go.Proofs.YtaadhjpcdnbbeaaGreatDoorW.PrintLast Go.Proofs.YtaadhjpcdnbbeaaGreatDoorW.PrintMore Go.Proofs.YtaadhjpcdnbbeaaGreatDoor.Conv Go.Proofs.YtaadhjpcdnbbeaaGreatDoor.Print Go.Proofs.YtaadhjpcdnbbeaaGreatDoor.Line
set_option linter.unusedVariables false
set_option linter.unusedSimpArgs false
theorem putF_len (ls : List Ln) : (putF ls).1.length <= 4004 * ls.length := by
 unfold putF
 split
 ·rename_i h
  induction ls with
  | nil => simp
  | cons x t ih =>
   rw [List.all_cons, Bool.and_eq_true] at h
   have h1 := okL_size h.1
   have h2 := ih h.2
   show ((x :: t).flatMap encL).length <= _
   rw [List.flatMap_cons, List.length_append, encL_length, List.length_cons]
   have h3 : (t.flatMap encL).length <= 4004 * t.length := h2
   omega
 ·simp
set_option maxRecDepth 100000 in
set_option maxHeartbeats 4000000 in
theorem say_calls {W : World} {own : Nat -> Prop} {g : Nat} {s : St} (hs : IsS W own g s) (A : Option Addr) (c : Nat) (ls : List Ln) (hr : Kd.C k60 W A ls.length ls) (hc : ls.length <= c) (hl : ls.length <= 1000000) (hz : s.send.length <= 100000000000) :
  Calls Tryz.prog 21 #[.pointer (some ⟨g, 0, none⟩), .slice A ls.length c] W fun e w' => e = .returned (.tuple #[]) /\ IsS w' (more own W w') g { s with send := s.send ++ (putF ls).1 } /\ Keeps W w' own := by
 obtain ⟨vc, vs, aw, cw, ah, ch, hb, ⟨hvc, hvs⟩, ⟨h1, h2, h3, h4⟩, h5, ⟨h6, h7⟩⟩ := hs
 obtain ⟨bs, be, hbs⟩ : ∃ bs be, putF ls = (bs, be) := ⟨_, _, rfl⟩
 have hlen := putF_len ls
 have hput := (put_eq ls (by omega) (k := 100000000) (by omega)).trans (congrArg some hbs)
 rw [hbs] at hlen
 rw [show (putF ls).1 = bs by rw [hbs]]
 have HCP := Asd.mk (line_Put.calls 100000000 A c ls bs be W hr hc hput)
 have HB := Asd.mk hb
 have HVC := Asd.mk hvc
 have HVS := Asd.mk hvs
 have H1 := Asd.mk h1
 have H2 := Asd.mk h2
 have H4 := Asd.mk h4
 have H6 := Asd.mk h6
 have H7 := Asd.mk h7
 have H3 := Asd.mk h3
 have H5 := Asd.mk h5
 have HZ := Asd.mk (show (s.send.length + bs.length) * 1 <= 140737488355328 by have h : bs.length <= 4004 * ls.length := hlen; omega)
 clear hb hvc hvs h1 h2 h3 h4 h5 h6 h7 hr hput hbs hlen
 go_enter Tryz.func21, Tryz.ntmps21
 go_upto_region 1 with (go_at_call 15; with_reducible refine HCP.out.mono ?_; rintro e W1 ⟨v1, rfl, ho, hbel⟩; obtain ⟨Ab, cb, rfl⟩ := Kd.R_slice ho; have HAb := Asd.mk (Kd.R_reads' ho).2.2; have HBel := Asd.mk hbel; clear ho hbel HCP)
 obtain ⟨k1, f1⟩ := box_cell (below_box HBel.out HB.out) 1 rfl
 have HVS1 := Asd.mk (Kd.R_below HVS.out HBel.out)
 go_wp2_with ((with_reducible refine gate_builtin (b := .append) (xs := #[.tmp 15, .tmp 16]) rfl ?_); at_builtin; refine Kd.R_append_rows (Kd.int .u8) (w0 := W1) 0 rfl (.tmp 15) (.tmp 16) 22 5 (.int .u8 0) 1 rfl Tryz.underlying22 info5 rfl (by decide) (by omega) vs s.send bs Ab bs.length cb (fun _ => True) (fun _ => False) rfl rfl HVS1.out HAb.out (fun _ _ h => h) (fun _ h => h.elim) (fun _ _ => trivial) (Below.refl _ _) (Nat.zero_le _) HZ.out ?_; intro v2 W2 ho2 hb2 hg hat; obtain ⟨A2, c2, rfl⟩ := Kd.R_slice ho2; have HO2 := Asd.mk ho2; have HG := Asd.mk hg; have HAT := Asd.mk hat; clear ho2 hb2 hat k1 f1; obtain ⟨k1, f1⟩ := box_cell (grown_box HG.out (below_box HBel.out HB.out) (fun e => (H2.out g e.symm).1 rfl)) 1 rfl; clear hg)
 go_end0
 have ho3 := HO2.out
 have hat3 := HAT.out
 rw [List.length_append] at ho3 hat3
 exact ⟨rfl, sent HB.out HVC.out H1.out H2.out H3.out H4.out H5.out H6.out H7.out HBel.out HG.out ho3 hat3⟩
theorem say_calls_n {W : World} {own : Nat -> Prop} {g : Nat} {s : St} (hs : IsS W own g s) (A : Option Addr) (c : Nat) (ls : List Ln) (hr : Kd.C k60 W A ls.length ls) (hc : ls.length <= c) (hl : ls.length <= 1000000) (hz : s.send.length <= 100000000000) (n : Nat) (hn : ls.length = n) :
  Calls Tryz.prog 21 #[.pointer (some ⟨g, 0, none⟩), .slice A n c] W fun e w' => e = .returned (.tuple #[]) /\ IsS w' (more own W w') g { s with send := s.send ++ (putF ls).1 } /\ Keeps W w' own := by
 subst hn
 exact say_calls hs A c ls hr hc hl hz
def errL (t : ByteArray) : Ln := ⟨false, ((⟨#[101, 114, 114, 111, 114, 32]⟩ : ByteArray) ++ t) ++ (⟨#[10]⟩ : ByteArray)⟩
def errB (t : ByteArray) : List Int := (putF [errL t, ⟨true, ⟨#[]⟩⟩]).1
set_option maxRecDepth 100000 in
set_option maxHeartbeats 4000000 in
theorem end_calls_of {W : World} {own : Nat -> Prop} {g : Nat} {s : St} (hs : IsS W own g s) (n : Int) (t : ByteArray) (ht : Calls Tryz.prog 39 #[.int .i64 n] W fun e w' => e = .returned (.string t) /\ Below W.heap.size W w') (htz : t.size <= 1000) (hz : s.send.length <= 100000000000) :
  Calls Tryz.prog 22 #[.pointer (some ⟨g, 0, none⟩), .int .i64 n] W fun e w' => e = .returned (.tuple #[]) /\ IsS w' (more own W w') g { s with send := s.send ++ errB t, st := 2 } /\ Keeps W w' own := by
 have HS := Asd.mk hs
 have HT := Asd.mk ht
 have HZ := Asd.mk hz
 have c1 : (6 : Nat) + t.size <= 9223372036854775807 := by omega
 have c2 : ((⟨#[101, 114, 114, 111, 114, 32]⟩ : ByteArray) ++ t).size + 1 <= 9223372036854775807 := by
  rw [ByteArray.size_append]
  show 6 + t.size + 1 <= _
  omega
 clear hs ht hz
 go_enter Tryz.func22, Tryz.ntmps22
 go_wp2_with (first
  | (go_at_call 39; with_reducible refine HT.out.mono ?_; rintro e W1 ⟨rfl, hb1⟩; have HB1 := Asd.mk hb1; clear hb1)
  | ((with_reducible refine gate_dst (N := 11) rfl ?_); refine Kd.R_lit k60 (w0 := W1) W1.heap.size 60 ?hg (N := 11) ?hd (xs := [errL t, ⟨true, ⟨#[]⟩⟩]) (inner := [.bool false, .string (errL t).f1, .bool true, .string ⟨#[]⟩]) (ok := fun _ => True) (okp := fun _ => True) ?hr ?hp (fun _ hk => hk) trivial (Below.refl _ _) (Nat.le_refl _) (by simp) ?_; (case hd => rfl); (case hg => rfl); (case hr => first | (go_simp; done) | (go_simp; rfl)); (case hp => exact Reps.c2 (k60_mkM _ _ _ (errL t)) (Reps.c2 (k60_mkM _ _ _ ⟨true, ⟨#[]⟩⟩) (Reps.none _ _))); intro v11 W2 ho hb hg_ hnew_; obtain ⟨A2, c2_, rfl⟩ := Kd.R_slice ho; have HA := Asd.mk (Kd.R_reads' ho).2.2; have HAc := Asd.mk (Kd.R_reads' ho).2.1; have HB := Asd.mk hb; clear ho hb hg_ hnew_)
  | (go_at_call 21; with_reducible refine (say_calls_n (HS.out.below (below_step HB1.out HB.out)) A2 c2_ _ HA.out HAc.out (by simp) HZ.out 2 rfl).mono ?_; rintro e W3 ⟨rfl, hs3, hk3⟩; have HS3 := Asd.mk hs3; have HK3 := Asd.mk hk3; obtain ⟨k4, f4⟩ := hs3.cells; clear hs3 hk3))
 go_end0
 have hb2 : Below W.heap.size W W2 := below_step HB1.out HB.out
 have hsz : (W3.setCell ⟨g, 4, none⟩ (.int .i64 2)).heap.size = W3.heap.size := by simp [World.setCell]
 have z1 := hb2.size
 have z2 := HK3.out.size
 refine ⟨rfl, (HS3.out.stored 2).mono ?_ ?_, ?_⟩
 ·rintro k (h | h)
  ·exact Or.inl h
  ·exact Or.inr ⟨by omega, by rw [hsz]; exact h.2⟩
 ·rintro k (h | h)
  ·have := HS.out.own_lt k h
   rw [hsz]
   omega
  ·exact h.2
 ·exact ((Keeps.of_below (own := own) hb2).trans (HK3.out.mono (fun k h => Or.inl h))).trans ((Keeps.set HS.out.own_g).mono (fun k h => Or.inl h))
theorem end_calls {W : World} {own : Nat -> Prop} {g : Nat} {s : St} (hs : IsS W own g s) (n : Int) (t : ByteArray) (ht : num_Text.f n = some t) (htz : t.size <= 1000) (hz : s.send.length <= 100000000000) :
  Calls Tryz.prog 22 #[.pointer (some ⟨g, 0, none⟩), .int .i64 n] W fun e w' => e = .returned (.tuple #[]) /\ IsS w' (more own W w') g { s with send := s.send ++ errB t, st := 2 } /\ Keeps W w' own := by
 refine end_calls_of hs n t ((num_Text.calls n t W ht).mono ?_) htz hz
 rintro e w' ⟨rfl, ⟨nd, rfl⟩⟩
 exact ⟨rfl, pbN (Below.refl _ _) nd⟩
end Go.Proofs.YtaadhjpcdnbbeaaGreatDoor.Serve
