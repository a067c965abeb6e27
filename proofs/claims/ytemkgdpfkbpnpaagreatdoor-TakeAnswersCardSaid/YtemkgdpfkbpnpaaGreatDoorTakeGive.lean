/- A talk with one who pushes: Give. -/
import Derived.Test.YtemkgdpfkbpnpaaGreatDoorTakeReady
namespace Go.Proofs.YtemkgdpfkbpnpaaGreatDoor.Take
open Go.RowKit Go.Proofs.YtemkgdpfkbpnpaaGreatDoorW.PrintWords Go.Proofs.YtemkgdpfkbpnpaaGreatDoorW.PrintLast Go.Proofs.YtemkgdpfkbpnpaaGreatDoorW.PrintMore Go.Proofs.YtemkgdpfkbpnpaaGreatDoor.Conv Go.Proofs.YtemkgdpfkbpnpaaGreatDoor.Print Go.Proofs.YtemkgdpfkbpnpaaGreatDoor.Line
open Go.Proofs.YtemkgdpfkbpnpaaGreatDoor.Hello hiding Ln cutF
set_option linter.unusedVariables false
set_option linter.unusedSimpArgs false
attribute [local go_sem] run_store_nilFunc run_store_func
set_option maxRecDepth 100000 in
theorem give_no {W : World} {own : Nat -> Prop} {g : Nat} {s : St} (hs : IsT W own g s) (h1 : s.waits = false) (e at_ : Int) :
  Calls Tryz.prog 16 #[.pointer (some ⟨g, 0, none⟩), .int .i64 e, .int .i64 at_] W fun x w' => x = .returned (.bool false) /\ w' = W := by
 obtain ⟨⟨k5, f5⟩, _⟩ := hs.cells
 rw [h1] at k5
 clear hs h1
 go_enter Tryz.func16, Tryz.ntmps16
 go_wp2
 go_ret
 exact ⟨rfl, rfl⟩
set_option maxRecDepth 100000 in
set_option maxHeartbeats 4000000 in
theorem give_err {W : World} {own : Nat -> Prop} {g : Nat} {s : St} (hs : IsT W own g s) (h1 : s.waits = true) (e m : Int) (he : e ≠ 0) (t u : ByteArray) (ht : Calls Tryz.prog 44 #[.int .i64 e] W fun x w' => x = .returned (.string t) /\ Below W.heap.size W w') (hu : ∀ W', Below W.heap.size W W' -> Calls Tryz.prog 44 #[.int .i64 m] W' fun e w' => e = .returned (.string u) /\ Below W'.heap.size W' w') (htz : t.size <= 1000) (huz : u.size <= 1000) (hz : s.send.length <= 100000000) :
  Calls Tryz.prog 16 #[.pointer (some ⟨g, 0, none⟩), .int .i64 e, .int .i64 m] W fun x w' => x = .returned (.bool true) /\ ∃ own', IsT w' own' g { s with send := s.send ++ errB t u, nx := -2, waits := false } /\ Goes W w' own own' := by
 obtain ⟨⟨k5, f5⟩, _⟩ := hs.cells
 rw [h1] at k5
 have HE := Asd.mk (end_calls hs e m t u ht hu htz huz (by omega))
 have hn : ¬ e = 0 := he
 clear hs ht h1 hu
 go_enter Tryz.func16, Tryz.ntmps16
 go_wp2_with (go_at_call 25; with_reducible refine HE.out.mono ?_; rintro x W1 ⟨rfl, own1, h1, h2⟩; have H1 := Asd.mk (And.intro h1 h2); clear h1 h2 k5)
 go_ret
 exact ⟨rfl, own1, H1.out.1, H1.out.2⟩
def okLn (s : ByteArray) : Ln := ⟨false, ((⟨#[111, 107, 32]⟩ : ByteArray) ++ s) ++ (⟨#[10]⟩ : ByteArray)⟩
def flushLn : Ln := ⟨true, ⟨#[]⟩⟩
def oksB (u : List S42) : List Int := u.flatMap fun y => (putF [okLn y.f0]).1
def okB (u : List S42) : List Int := oksB u ++ (putF [flushLn]).1
theorem oksB_len (u : List S42) : (oksB u).length <= 4004 * u.length := by
 induction u with
 | nil => simp [oksB]
 | cons y t ih =>
  have h := putF_len [okLn y.f0]
  have e : oksB (y :: t) = (putF [okLn y.f0]).1 ++ oksB t := rfl
  rw [e, List.length_append, List.length_cons]
  simp only [List.length_singleton] at h
  omega
theorem oksB_next (u : List S42) (k : Nat) (h : k < u.length) : oksB (u.take (k + 1)) = oksB (u.take k) ++ (putF [okLn u[k].f0]).1 := by
 unfold oksB
 rw [List.take_succ_eq_append_getElem h, List.flatMap_append]
 simp
set_option maxRecDepth 100000 in
set_option maxHeartbeats 4000000 in
theorem give_ok {W : World} {own : Nat -> Prop} {g : Nat} {s : St} (hs : IsT W own g s) (h1 : s.waits = true) (m : Int) (hu : s.ups.length <= 1000) (hsz : ∀ y ∈ s.ups, y.f0.size <= 1000) (hz : s.send.length <= 100000000) :
  Calls Tryz.prog 16 #[.pointer (some ⟨g, 0, none⟩), .int .i64 0, .int .i64 m] W fun x w' => x = .returned (.bool true) /\ ∃ own', IsT w' own' g { s with send := s.send ++ okB s.ups, waits := false } /\ Goes W w' own own' := by
 obtain ⟨⟨k5, f5⟩, _⟩ := hs.cells
 rw [h1] at k5
 obtain ⟨au, cu, _, _, ⟨k2, _⟩, _, l2, _⟩ := hs.rows
 have f2 := hs.frozen 2
 have HS := Asd.mk hs
 have HK2 := Asd.mk k2
 have HZ := Asd.mk (And.intro hu (And.intro hsz hz))
 clear hs h1 hu hsz hz l2
 go_enter Tryz.func16, Tryz.ntmps16
 go_wp2
 go_loopg [8, 25] s.ups.length (fun gg _ s25 wr => ∃ (kk : Nat) (ow : Nat -> Prop), kk <= s.ups.length /\ s.ups.length - kk <= gg /\ s25 = .int .i64 kk /\ Asd (IsT wr ow g { s with send := s.send ++ oksB (s.ups.take kk) }) /\ Asd (Goes W wr own ow) /\ Asd (wr.cell? ⟨g, 2, none⟩ = W.cell? ⟨g, 2, none⟩))
 case atStart => exact ⟨0, own, Nat.zero_le _, by omega, rfl, ⟨by rw [show oksB (s.ups.take 0) = [] from rfl, List.append_nil]; exact HS.out⟩, ⟨Goes.refl W own⟩, ⟨rfl⟩⟩
 case round =>
  obtain ⟨kk, ow, hkk, hg, rfl, HI, HG, HC2⟩ := hrel
  have hrow : Kd.C k42 wr au s.ups.length s.ups := by
   obtain ⟨au', cu', _, _, ⟨e2, _⟩, ⟨hF, _⟩, _⟩ := HI.out.rows
   have e3 := e2.symm.trans (HC2.out.trans HK2.out)
   have e4 : au' = au := by injection e3 with e3; injection e3
   rw [<- e4]
   exact Kd.F_now hF
  have hz1 : (s.send ++ oksB (s.ups.take kk)).length <= 200000000 := by
   have h := oksB_len (s.ups.take kk)
   have h2 := HZ.out
   rw [List.length_take] at h
   rw [List.length_append]
   omega
  have HZ1 := Asd.mk hz1
  clear k2 f2 k5 f5
  by_cases hlt : kk < s.ups.length
  ·have hltz : (kk : Int) < (s.ups.length : Int) := by omega
   obtain ⟨ad, rfl, k0, k1, k2⟩ := at_T42 hrow (kk : Int) (by omega) hltz
   have hx : rd_T42 s.ups (kk : Int) = s.ups[kk] := by
    unfold rd_T42
    rw [Int.toNat_natCast, List.getD_eq_getElem?_getD, List.getElem?_eq_getElem hlt]; rfl
   rw [hx, Int.toNat_natCast] at k0 k1 k2
   have HNX := Asd.mk (oksB_next s.ups kk hlt)
   have hyz := HZ.out.2.1 _ (List.getElem_mem hlt)
   generalize s.ups[kk] = y at k0 k1 k2 HNX hyz
   have z1 : (3 : Nat) + y.f0.size <= 9223372036854775807 := by omega
   have z2 : ((⟨#[111, 107, 32]⟩ : ByteArray) ++ y.f0).size + 1 <= 9223372036854775807 := by rw [ByteArray.size_append, show (⟨#[111, 107, 32]⟩ : ByteArray).size = 3 from rfl]; omega
   go_upto_region 9 with (fail)
   generalize hWa : World.alloc _ _ = Wa
   have hBa : Below wr.heap.size wr Wa := by rw [<- hWa]; exact bal (Below.refl _ _) _
   have hxa := show Wa.heap[wr.heap.size]? = some (.cells #[.string y.f0, .string y.f1, .string y.f2] 42 (0, 0)) by rw [<- hWa]; exact heap_alloc_new _ _
   obtain ⟨m0, _⟩ := box_cell hxa 0 rfl
   have HBa := Asd.mk hBa
   clear hWa hBa hxa k0 k1 k2
   go_wp2_with (first
    | ((with_reducible refine gate_dst (N := 35) rfl ?_); refine Kd.R_lit k65 (w0 := Wa) Wa.heap.size 65 ?hg (N := 35) ?hd (xs := [okLn y.f0]) (inner := [.bool false, .string (okLn y.f0).f1]) (ok := fun _ => True) (okp := fun _ => True) ?hr ?hp (fun _ hk => hk) trivial (Below.refl _ _) (Nat.le_refl _) (by simp) ?_; (case hd => rfl); (case hg => rfl); (case hr => first | (go_simp; done) | (go_simp; rfl)); (case hp => exact Reps.c2 (k65_mkM _ _ _ (okLn y.f0)) (Reps.none _ _)); intro v19 W1 ho hb hg_ hnew_; obtain ⟨A1, c1_, rfl⟩ := Kd.R_slice ho; have HA1 := Asd.mk (Kd.R_reads' ho).2.2; have HA1c := Asd.mk (Kd.R_reads' ho).2.1; have HB1 := Asd.mk hb; clear ho hb hg_ hnew_)
    | (go_at_call 24; with_reducible refine (say_row ((HI.out.below HBa.out).below HB1.out) A1 1 c1_ [okLn y.f0] rfl HA1.out HA1c.out (by simp) (Nat.le_trans HZ1.out (by decide))).mono ?_; rintro e W2 ⟨rfl, own2, hs2, hk2, hc2⟩; have HS2 := Asd.mk hs2; have HG2 := Asd.mk hk2; have HC3 := Asd.mk hc2; clear hs2 hk2 hc2))
   have hul := HZ.out.1
   go_roundg (s.ups.length - (kk + 1))
   case measure => omega
   case rel =>
    refine ⟨kk + 1, own2, by omega, by omega, (by rw [Line.w64 (by omega) (by omega)]; rfl), ⟨?_⟩, ⟨(HG.out.trans (Goes.below HBa.out)).trans ((Goes.below HB1.out).trans HG2.out)⟩, ⟨?_⟩⟩
    ·rw [HNX.out, <- List.append_assoc]
     exact HS2.out
    ·obtain ⟨_, _, _, _, ⟨e2, _⟩, _⟩ := HI.out.rows
     have e3 : wr.cell? ⟨g, 2, none⟩ = Wa.cell? ⟨g, 2, none⟩ := e2.trans (HBa.out.cell (World.block_lt_of_cell? _ _ e2) |>.trans e2).symm
     have e4 : Wa.cell? ⟨g, 2, none⟩ = W1.cell? ⟨g, 2, none⟩ := (e3.symm.trans e2).trans (HB1.out.cell (World.block_lt_of_cell? _ _ (e3.symm.trans e2)) |>.trans (e3.symm.trans e2)).symm
     exact HC3.out.trans (e4.symm.trans (e3.symm.trans HC2.out))
  ·obtain rfl : kk = s.ups.length := by omega
   rw [List.take_length] at HI HZ1
   go_wp2_with (first
    | ((with_reducible refine gate_dst (N := 40) rfl ?_); refine Kd.R_lit k65 (w0 := wr) wr.heap.size 65 ?hg (N := 40) ?hd (xs := [flushLn]) (inner := [.bool true, .string flushLn.f1]) (ok := fun _ => True) (okp := fun _ => True) ?hr ?hp (fun _ hk => hk) trivial (Below.refl _ _) (Nat.le_refl _) (by simp) ?_; (case hd => rfl); (case hg => rfl); (case hr => first | (go_simp; done) | (go_simp; rfl)); (case hp => exact Reps.c2 (k65_mkM _ _ _ flushLn) (Reps.none _ _)); intro v19 W1 ho hb hg_ hnew_; obtain ⟨A1, c1_, rfl⟩ := Kd.R_slice ho; have HA1 := Asd.mk (Kd.R_reads' ho).2.2; have HA1c := Asd.mk (Kd.R_reads' ho).2.1; have HB1 := Asd.mk hb; clear ho hb hg_ hnew_)
    | (go_at_call 24; with_reducible refine (say_calls (HI.out.below HB1.out) A1 1 c1_ [flushLn] rfl HA1.out HA1c.out (by simp) (Nat.le_trans HZ1.out (by decide))).mono ?_; rintro e W2 ⟨rfl, own2, hs2, hk2⟩; have HS2 := Asd.mk hs2; have HG2 := Asd.mk hk2; obtain ⟨⟨k5, f5⟩, _⟩ := hs2.cells; clear hs2 hk2))
   go_ret
   have h3 := HS2.out.set_waits false
   refine ⟨rfl, own2, ?_, HG.out.trans ((Goes.below HB1.out).trans (HG2.out.trans h3.2))⟩
   rw [show s.send ++ okB s.ups = (s.send ++ oksB s.ups) ++ (putF [flushLn]).1 by unfold okB; rw [List.append_assoc]]
   exact h3.1
end Go.Proofs.YtemkgdpfkbpnpaaGreatDoor.Take
