/- A talk with one who fetches: Give. -/
import Derived.Test.YtaadhjpcdnbbeaaGreatDoorServeReady
namespace Go.Proofs.YtaadhjpcdnbbeaaGreatDoor.Serve
open Go.RowKit Go.Proofs.YtaadhjpcdnbbeaaGreatDoorW.PrintWords Go.Proofs.YtaadhjpcdnbbeaaGreatDoorW.PrintLast Go.Proofs.YtaadhjpcdnbbeaaGreatDoorW.PrintMore Go.Proofs.YtaadhjpcdnbbeaaGreatDoor.Conv Go.Proofs.YtaadhjpcdnbbeaaGreatDoor.Print Go.Proofs.YtaadhjpcdnbbeaaGreatDoor.Line
set_option linter.unusedVariables false
set_option linter.unusedSimpArgs false
set_option maxRecDepth 100000 in
theorem give_no {W : World} {own : Nat -> Prop} {g : Nat} {s : St} (hs : IsS W own g s) (h1 : s.st ≠ 1) (A : Option Addr) (n c : Nat) (e : Int) :
  Calls Tryz.prog 16 #[.pointer (some ⟨g, 0, none⟩), .slice A n c, .int .i64 e] W fun x w' => x = .returned (.bool false) /\ w' = W := by
 obtain ⟨k4, f4⟩ := hs.cells
 have hn : ¬ s.st = 1 := h1
 clear hs h1
 go_enter Tryz.func16, Tryz.ntmps16
 go_wp2
 go_ret
 exact ⟨rfl, rfl⟩
set_option maxRecDepth 100000 in
set_option maxHeartbeats 4000000 in
theorem give_err {W : World} {own : Nat -> Prop} {g : Nat} {s : St} (hs : IsS W own g s) (h1 : s.st = 1) (A : Option Addr) (n c : Nat) (e : Int) (he : e ≠ 0) (t : ByteArray) (ht : Calls Tryz.prog 39 #[.int .i64 e] W fun x w' => x = .returned (.string t) /\ Below W.heap.size W w') (htz : t.size <= 1000) (hz : s.send.length <= 100000000) :
  Calls Tryz.prog 16 #[.pointer (some ⟨g, 0, none⟩), .slice A n c, .int .i64 e] W fun x w' => x = .returned (.bool true) /\ IsS w' (more own W w') g { s with send := s.send ++ errB t, st := 2 } /\ Keeps W w' own := by
 obtain ⟨k4, f4⟩ := hs.cells
 rw [h1] at k4
 have HE := Asd.mk (end_calls_of hs e t ht htz (by omega))
 have hn : ¬ e = 0 := he
 clear hs ht h1
 go_enter Tryz.func16, Tryz.ntmps16
 go_wp2_with (go_at_call 22; with_reducible refine HE.out.mono ?_; rintro x W1 ⟨rfl, h1, h2⟩; have H1 := Asd.mk (And.intro h1 h2); clear h1 h2 k4)
 go_ret
 exact ⟨rfl, H1.out.1, H1.out.2⟩
theorem keeps_after {W W1 W2 : World} {own : Nat -> Prop} (h : Below W.heap.size W W1) (k : Keeps W1 W2 own) : Keeps W W2 own := (Keeps.of_below (own := own) h).trans (k.mono (fun _ e => Or.inl e))
def packL : Ln := ⟨false, ⟨#[112, 97, 99, 107, 10]⟩⟩
def packB (p : List Int) : List Int := (putF [packL]).1 ++ (putF (partsF p)).1
set_option maxRecDepth 100000 in
set_option maxHeartbeats 4000000 in
theorem give_ok {W : World} {own : Nat -> Prop} {g : Nat} {s : St} (hs : IsS W own g s) (h1 : s.st = 1) (A : Option Addr) (c : Nat) (p : List Int) (hr : ∀ W', Keeps W W' own -> Kd.C (Kd.int .u8) W' A p.length p) (hc : p.length <= c) (hp : p.length <= 1000000) (hz : s.send.length <= 100000000) :
  Calls Tryz.prog 16 #[.pointer (some ⟨g, 0, none⟩), .slice A p.length c, .int .i64 0] W fun x w' => x = .returned (.bool true) /\ IsS w' (more own W w') g { s with send := s.send ++ packB p, st := 2 } /\ Keeps W w' own := by
 obtain ⟨k4, f4⟩ := hs.cells
 rw [h1] at k4
 have HS := Asd.mk hs
 have HR := Asd.mk hr
 have HC := Asd.mk hc
 have HZ := Asd.mk hz
 have HP := Asd.mk hp
 have hl1 := putF_len [packL]
 have HL1 := Asd.mk (show (putF [packL]).1.length <= 4004 by simpa using hl1)
 clear hs h1 hr hc hz hp hl1
 go_enter Tryz.func16, Tryz.ntmps16
 go_upto_region 8 with (first
  | ((with_reducible refine gate_dst (N := 19) rfl ?_); refine Kd.R_lit k60 (w0 := W) W.heap.size 60 ?hg (N := 19) ?hd (xs := [packL]) (inner := [.bool false, .string packL.f1]) (ok := fun _ => True) (okp := fun _ => True) ?hr ?hp (fun _ hk => hk) trivial (Below.refl _ _) (Nat.le_refl _) (by simp) ?_; (case hd => rfl); (case hg => rfl); (case hr => first | (go_simp; done) | (go_simp; rfl)); (case hp => exact Reps.c2 (k60_mkM _ _ _ packL) (Reps.none _ _)); intro v19 W1 ho hb hg_ hnew_; obtain ⟨A1, c1, rfl⟩ := Kd.R_slice ho; have HA1 := Asd.mk (Kd.R_reads' ho).2.2; have HA1c := Asd.mk (Kd.R_reads' ho).2.1; have HB1 := Asd.mk hb; clear ho hb hg_ hnew_ k4)
  | (go_at_call 21; with_reducible refine (say_calls_n (HS.out.below HB1.out) A1 c1 [packL] HA1.out HA1c.out (by simp) (by have := HZ.out; omega) 1 rfl).mono ?_; rintro e W2 ⟨rfl, hs2, hk2⟩; have HS2 := Asd.mk hs2; have HK2 := Asd.mk hk2; clear hs2 hk2)
  | (go_at_call 31; with_reducible refine (line_Parts.calls A c p (partsF p) _ (HR.out _ (keeps_after HB1.out HK2.out)) HC.out (parts_eq p (by have := HP.out; omega))).mono ?_; rintro e W3 ⟨v3, rfl, ho, hb⟩; obtain ⟨A3, c3, rfl⟩ := Kd.R_slice ho; have HA3 := Asd.mk (Kd.R_reads' ho).2.2; have HA3c := Asd.mk (Kd.R_reads' ho).2.1; have HB3 := Asd.mk hb; clear ho hb)
  | (go_at_call 21; with_reducible refine (say_calls (HS2.out.below HB3.out) A3 c3 (partsF p) HA3.out HA3c.out (by rw [partsF_length]; have := HP.out; omega) (by show (s.send ++ (putF [packL]).1).length <= _; rw [List.length_append]; have := HZ.out; have := HL1.out; omega)).mono ?_; rintro e W4 ⟨rfl, hs4, hk4⟩; have HS4 := Asd.mk hs4; have HK4 := Asd.mk hk4; obtain ⟨k4, f4⟩ := hs4.cells; clear hs4 hk4))
 go_wp2
 go_ret
 have hsz : (W4.setCell ⟨g, 4, none⟩ (.int .i64 2)).heap.size = W4.heap.size := by simp [World.setCell]
 have z1 := HB1.out.size
 have z2 := HK2.out.size
 have z3 := HB3.out.size
 have z4 := HK4.out.size
 have hk2 := keeps_after HB1.out HK2.out
 refine ⟨rfl, ?_, ?_⟩
 ·have h := (HS4.out.stored 2).mono (own' := more own W (W4.setCell ⟨g, 4, none⟩ (.int .i64 2))) (by
   rintro k ((e | e) | e)
   ·exact Or.inl e
   ·exact Or.inr ⟨by omega, by rw [hsz]; omega⟩
   ·exact Or.inr ⟨by omega, by rw [hsz]; exact e.2⟩) (by
   rintro k (e | e)
   ·have := HS.out.own_lt k e
    rw [hsz]
    omega
   ·exact e.2)
  rw [show s.send ++ packB p = (s.send ++ (putF [packL]).1) ++ (putF (partsF p)).1 by unfold packB; rw [List.append_assoc]]
  exact h
 ·have h4 : Keeps W W4 own := (hk2.trans (Keeps.of_below (own := more own W W2) HB3.out)).trans (HK4.out.mono (by
   rintro k (e | e)
   ·exact Or.inl e
   ·exact Or.inr ⟨by omega, by omega⟩))
  exact h4.trans ((Keeps.set HS.out.own_g).mono (fun k e => Or.inl e))
end Go.Proofs.YtaadhjpcdnbbeaaGreatDoor.Serve
