/- A talk with one who pushes: say, end. -/
import Derived.Test.YtemkgdpfkbpnpaaGreatDoorTakeM
namespace Go.Proofs.YtemkgdpfkbpnpaaGreatDoor.Take
open Go.RowKit Go.Proofs.YtemkgdpfkbpnpaaGreatDoorW.PrintWords Go.Proofs.YtemkgdpfkbpnpaaGreatDoorW.PrintLast Go.Proofs.YtemkgdpfkbpnpaaGreatDoorW.PrintMore Go.Proofs.YtemkgdpfkbpnpaaGreatDoor.Conv Go.Proofs.YtemkgdpfkbpnpaaGreatDoor.Print Go.Proofs.YtemkgdpfkbpnpaaGreatDoor.Line
set_option linter.unusedVariables false
set_option linter.unusedSimpArgs false
attribute [local go_sem] run_store_nilFunc run_store_func
theorem putF_len (ls : List Ln) : (putF ls).1.length <= 4004 * ls.length := by
 unfold putF
 split
 ·rename_i h
  induction ls with
  | nil => simp
  | cons x t ih =>
   rw [List.all_cons, Bool.and_eq_true] at h
   have h1 := okL_size h.1
   have h2 := ih h.2
   show ((x :: t).flatMap encL).length <= _
   rw [List.flatMap_cons, List.length_append, encL_length, List.length_cons]
   have h3 : (t.flatMap encL).length <= 4004 * t.length := h2
   omega
 ·simp
set_option maxRecDepth 100000 in
set_option maxHeartbeats 4000000 in
theorem say_row {W : World} {own : Nat -> Prop} {g : Nat} {s : St} (hs : IsT W own g s) (A : Option Addr) (n c : Nat) (ls : List Ln) (hn : n = ls.length) (hr : Kd.C k65 W A ls.length ls) (hc : ls.length <= c) (hl : ls.length <= 1000000) (hz : s.send.length <= 100000000000) :
  Calls Tryz.prog 24 #[.pointer (some ⟨g, 0, none⟩), .slice A n c] W fun e w' => e = .returned (.tuple #[]) /\ ∃ own', IsT w' own' g { s with send := s.send ++ (putF ls).1 } /\ Goes W w' own own' /\ w'.cell? ⟨g, 2, none⟩ = W.cell? ⟨g, 2, none⟩ := by
 subst hn
 obtain ⟨vc, vs, au, cu, ap, cp, vn, hb, ⟨hvc, hvs⟩, ⟨h1, h2, h3, h4⟩, h5⟩ := hs
 obtain ⟨bs, be, hbs⟩ : ∃ bs be, putF ls = (bs, be) := ⟨_, _, rfl⟩
 have hlen := putF_len ls
 have hput := (put_eq ls (by omega) (k := 100000000) (by omega)).trans (congrArg some hbs)
 rw [hbs] at hlen
 rw [show (putF ls).1 = bs by rw [hbs]]
 have HCP := Asd.mk (line_Put.calls 100000000 A c ls bs be W hr hc hput)
 have HB := Asd.mk hb
 have HVC := Asd.mk hvc
 have HVS := Asd.mk hvs
 have H1 := Asd.mk h1
 have H2 := Asd.mk h2
 have H4 := Asd.mk h4
 have H3 := Asd.mk h3
 have H5 := Asd.mk h5
 have HZ := Asd.mk (show (s.send.length + bs.length) * 1 <= 140737488355328 by have h : bs.length <= 4004 * ls.length := hlen; omega)
 clear hb hvc hvs h1 h2 h3 h4 h5 hr hput hbs hlen
 go_enter Tryz.func24, Tryz.ntmps24
 go_upto_region 1 with (go_at_call 20; with_reducible refine HCP.out.mono ?_; rintro e W1 ⟨v1, rfl, ho, hbel⟩; obtain ⟨Ab, cb, rfl⟩ := Kd.R_slice ho; have HAb := Asd.mk (Kd.R_reads' ho).2.2; have HBel := Asd.mk hbel; clear ho hbel HCP)
 obtain ⟨k1, f1⟩ := box_cell (below_box HBel.out HB.out) 1 rfl
 have HVS1 := Asd.mk (Kd.R_below HVS.out HBel.out)
 go_wp2_with ((with_reducible refine gate_builtin (b := .append) (xs := #[.tmp 15, .tmp 16]) rfl ?_); at_builtin; refine Kd.R_append_rows (Kd.int .u8) (w0 := W1) 0 rfl (.tmp 15) (.tmp 16) 22 5 (.int .u8 0) 1 rfl Tryz.underlying22 info5 rfl (by decide) (by omega) vs s.send bs Ab bs.length cb (fun _ => True) (fun _ => False) rfl rfl HVS1.out HAb.out (fun _ _ h => h) (fun _ h => h.elim) (fun _ _ => trivial) (Below.refl _ _) (Nat.zero_le _) HZ.out ?_; intro v2 W2 ho2 hb2 hg hat; obtain ⟨A2, c2, rfl⟩ := Kd.R_slice ho2; have HO2 := Asd.mk ho2; have HG := Asd.mk hg; have HAT := Asd.mk hat; clear ho2 hb2 hat k1 f1; obtain ⟨k1, f1⟩ := box_cell (grown_box HG.out (below_box HBel.out HB.out) (fun e => (H2.out g e.symm).1 rfl)) 1 rfl; clear hg)
 go_end0
 have ho3 := HO2.out
 have hat3 := HAT.out
 rw [List.length_append] at ho3 hat3
 have h := sent HB.out HVC.out H1.out H2.out H3.out H4.out H5.out HBel.out HG.out ho3 hat3
 exact ⟨rfl, _, h.1, Goes.more h.2, ((box_cell (heap_setCell_same W2 g 1 _ _ _ (grown_box HG.out (below_box HBel.out HB.out) (fun e => (H2.out g e.symm).1 rfl))) 2 rfl).1).trans (box_cell HB.out 2 rfl).1.symm⟩
theorem say_calls {W : World} {own : Nat -> Prop} {g : Nat} {s : St} (hs : IsT W own g s) (A : Option Addr) (n c : Nat) (ls : List Ln) (hn : n = ls.length) (hr : Kd.C k65 W A ls.length ls) (hc : ls.length <= c) (hl : ls.length <= 1000000) (hz : s.send.length <= 100000000000) :
  Calls Tryz.prog 24 #[.pointer (some ⟨g, 0, none⟩), .slice A n c] W fun e w' => e = .returned (.tuple #[]) /\ ∃ own', IsT w' own' g { s with send := s.send ++ (putF ls).1 } /\ Goes W w' own own' :=
 (say_row hs A n c ls hn hr hc hl hz).mono (fun e w' h => ⟨h.1, h.2.choose, h.2.choose_spec.1, h.2.choose_spec.2.1⟩)
def errL (t u : ByteArray) : Ln := ⟨false, ((((⟨#[101, 114, 114, 111, 114, 32]⟩ : ByteArray) ++ t) ++ (⟨#[32]⟩ : ByteArray)) ++ u) ++ (⟨#[10]⟩ : ByteArray)⟩
def errB (t u : ByteArray) : List Int := (putF [errL t u, ⟨true, ⟨#[]⟩⟩]).1
set_option maxRecDepth 100000 in
set_option maxHeartbeats 4000000 in
theorem end_calls {W : World} {own : Nat -> Prop} {g : Nat} {s : St} (hs : IsT W own g s) (n m : Int) (t u : ByteArray) (ht : Calls Tryz.prog 44 #[.int .i64 n] W fun e w' => e = .returned (.string t) /\ Below W.heap.size W w') (hu : ∀ W', Below W.heap.size W W' -> Calls Tryz.prog 44 #[.int .i64 m] W' fun e w' => e = .returned (.string u) /\ Below W'.heap.size W' w') (htz : t.size <= 1000) (huz : u.size <= 1000) (hz : s.send.length <= 100000000000) :
  Calls Tryz.prog 25 #[.pointer (some ⟨g, 0, none⟩), .int .i64 n, .int .i64 m] W fun e w' => e = .returned (.tuple #[]) /\ ∃ own', IsT w' own' g { s with send := s.send ++ errB t u, nx := -2, waits := false } /\ Goes W w' own own' := by
 have HS := Asd.mk hs
 have HT := Asd.mk ht
 have HU := Asd.mk hu
 have HZ := Asd.mk hz
 have c1 : (6 : Nat) + t.size <= 9223372036854775807 := by omega
 have z2 : ((⟨#[101, 114, 114, 111, 114, 32]⟩ : ByteArray) ++ t).size = 6 + t.size := by rw [ByteArray.size_append]; rfl
 have z3 : (((⟨#[101, 114, 114, 111, 114, 32]⟩ : ByteArray) ++ t) ++ (⟨#[32]⟩ : ByteArray)).size = 7 + t.size := by rw [ByteArray.size_append, z2]; show 6 + t.size + 1 = _; omega
 have z4 : ((((⟨#[101, 114, 114, 111, 114, 32]⟩ : ByteArray) ++ t) ++ (⟨#[32]⟩ : ByteArray)) ++ u).size = 7 + t.size + u.size := by rw [ByteArray.size_append, z3]
 have c2 : ((⟨#[101, 114, 114, 111, 114, 32]⟩ : ByteArray) ++ t).size + 1 <= 9223372036854775807 := by omega
 have c3 : (((⟨#[101, 114, 114, 111, 114, 32]⟩ : ByteArray) ++ t) ++ (⟨#[32]⟩ : ByteArray)).size + u.size <= 9223372036854775807 := by omega
 have c4 : ((((⟨#[101, 114, 114, 111, 114, 32]⟩ : ByteArray) ++ t) ++ (⟨#[32]⟩ : ByteArray)) ++ u).size + 1 <= 9223372036854775807 := by omega
 clear hs ht hu hz z2 z3 z4
 go_enter Tryz.func25, Tryz.ntmps25
 go_upto_region 1 with (first
  | (go_at_call 44; with_reducible refine HT.out.mono ?_; rintro e W1 ⟨rfl, hb⟩; have HB1 := Asd.mk hb; clear hb)
  | (go_at_call 44; with_reducible refine (HU.out _ HB1.out).mono ?_; rintro e W2 ⟨rfl, hb⟩; have HB2 := Asd.mk (below_step HB1.out hb); clear hb)
  | ((with_reducible refine gate_dst (N := 17) rfl ?_); refine Kd.R_lit k65 (w0 := W2) W2.heap.size 65 ?hg (N := 17) ?hd (xs := [errL t u, ⟨true, ⟨#[]⟩⟩]) (inner := [.bool false, .string (errL t u).f1, .bool true, .string ⟨#[]⟩]) (ok := fun _ => True) (okp := fun _ => True) ?hr ?hp (fun _ hk => hk) trivial (Below.refl _ _) (Nat.le_refl _) (by simp) ?_; (case hd => rfl); (case hg => rfl); (case hr => first | (go_simp; done) | (go_simp; rfl)); (case hp => exact Reps.c2 (k65_mkM _ _ _ (errL t u)) (Reps.c2 (k65_mkM _ _ _ ⟨true, ⟨#[]⟩⟩) (Reps.none _ _))); intro v17 W3 ho hb hg_ hnew_; obtain ⟨A3, c3_, rfl⟩ := Kd.R_slice ho; have HA := Asd.mk (Kd.R_reads' ho).2.2; have HAc := Asd.mk (Kd.R_reads' ho).2.1; have HB3 := Asd.mk (below_step HB2.out hb); clear ho hb hg_ hnew_)
  | (go_at_call 24; with_reducible refine (say_calls (HS.out.below HB3.out) A3 2 c3_ _ rfl HA.out HAc.out (by simp) HZ.out).mono ?_; rintro e W4 ⟨rfl, own4, hs4, hg4⟩; have HS4 := Asd.mk hs4; have HG4 := Asd.mk ((Goes.below (own := own) HB3.out).trans hg4); clear hs4 hg4))
 obtain ⟨⟨k5, f5⟩, vn, k4, f4, _⟩ := HS4.out.cells
 go_wp2
 go_end0
 have h1 := HS4.out.set_nil
 have h2 := h1.1.set_waits false
 exact ⟨rfl, _, h2.1, HG4.out.trans (h1.2.trans h2.2)⟩
end Go.Proofs.YtemkgdpfkbpnpaaGreatDoor.Take
