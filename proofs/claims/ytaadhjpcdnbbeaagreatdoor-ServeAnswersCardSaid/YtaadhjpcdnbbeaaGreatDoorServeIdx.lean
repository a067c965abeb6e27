/- Where the first flush of lines stands: slices.IndexFunc, handed serve.flush. -/
import Derived.Test.YtaadhjpcdnbbeaaGreatDoorServeNew
namespace Go.Proofs.YtaadhjpcdnbbeaaGreatDoor.Serve
open Go.RowKit Go.Proofs.YtaadhjpcdnbbeaaGreatDoorW.PrintWords Go.Proofs.YtaadhjpcdnbbeaaGreatDoorW.PrintLast Go.Proofs.YtaadhjpcdnbbeaaGreatDoorW.PrintMore Go.Proofs.YtaadhjpcdnbbeaaGreatDoor.Conv Go.Proofs.YtaadhjpcdnbbeaaGreatDoor.Print Go.Proofs.YtaadhjpcdnbbeaaGreatDoor.Line
set_option linter.unusedVariables false
set_option linter.unusedSimpArgs false
def flushI (l : List Ln) : Int := match flushF l with | none => -1 | some i => (i : Int)
set_option maxRecDepth 100000 in
set_option maxHeartbeats 4000000 in
theorem index_calls {w : World} (A0 : Option Addr) (c0 : Nat) (l : List Ln) (hr0 : Kd.C k60 w A0 l.length l) (hc0 : l.length <= c0) :
  Calls Tryz.prog 24 #[.slice A0 l.length c0, .func (.func 25) #[] #[]] w fun e w' => e = .returned (.int .i64 (flushI l)) /\ Below w.heap.size w w' := by
 have HR := Asd.mk hr0
 have hmax : l.length <= 9223372036854775807 := hr0.2.1
 have HF : Asd (flushF l = (flushF (l.drop 0)).map (· + 0)) := ⟨by simp⟩
 clear hr0
 go_enter Tryz.func24, Tryz.ntmps24
 go_wp2
 go_loopg [5, 8] l.length (fun gg _ s8 wr => ∃ kk : Nat, kk <= l.length /\ l.length - kk <= gg /\ s8 = .int .i64 kk /\ Asd (Below w.heap.size w wr) /\ Asd (flushF l = (flushF (l.drop kk)).map (· + kk)))
 case atStart => exact ⟨0, Nat.zero_le _, by omega, rfl, ⟨Below.refl _ _⟩, HF⟩
 case round =>
  obtain ⟨kk, hkk, hg, rfl, ⟨BW⟩, ⟨A⟩⟩ := hrel
  by_cases hlt : kk < l.length
  ·have hltz : (kk : Int) < (l.length : Int) := by omega
   have hBW := Asd.mk BW
   obtain ⟨ad, rfl, k0, k1⟩ := at_T60 (Kd.C_below HR.out BW) (kk : Int) (by omega) hltz
   have hx : rd_T60 l (kk : Int) = l[kk] := by
    unfold rd_T60
    rw [Int.toNat_natCast, List.getD_eq_getElem?_getD, List.getElem?_eq_getElem hlt]; rfl
   rw [hx, Int.toNat_natCast] at k0 k1
   rw [List.drop_eq_getElem_cons hlt] at A
   generalize l[kk] = x at k0 k1 A
   obtain ⟨b, s⟩ := x
   have HA := Asd.mk A
   clear A BW hx
   cases b with
   | true =>
    go_wp2_with (go_at_call 25; refine (serve_flush.calls true s true _ rfl).mono ?_; rintro e w' ⟨rfl, hb⟩; have hB2 := Asd.mk hb; clear hb)
    go_ret
    refine ⟨?_, below_step hBW.out hB2.out⟩
    have e : flushI l = (kk : Int) := by
     unfold flushI
     rw [HA.out]
     simp [flushF]
    rw [e]
    rfl
   | false =>
    go_wp2_with (go_at_call 25; refine (serve_flush.calls false s false _ rfl).mono ?_; rintro e w' ⟨rfl, hb⟩; have hB2 := Asd.mk hb; clear hb)
    go_roundg (l.length - (kk + 1))
    case measure => omega
    case rel =>
     refine ⟨kk + 1, by omega, by omega, by go_num, ⟨below_step hBW.out hB2.out⟩, ⟨?_⟩⟩
     rw [HA.out]
     simp only [flushF]
     rw [if_neg (by simp)]
     cases flushF (l.drop (kk + 1)) with
     | none => rfl
     | some j =>
      show some (j + 1 + kk) = some (j + (kk + 1))
      congr 1
      omega
  ·have hltz : ¬ (kk : Int) < (l.length : Int) := by omega
   obtain rfl : kk = l.length := by omega
   rw [List.drop_length] at A
   have HA := Asd.mk A
   have hBW := Asd.mk BW
   clear A BW
   go_wp2
   go_ret
   refine ⟨?_, hBW.out⟩
   have e : flushI l = -1 := by
    unfold flushI
    rw [HA.out]
    rfl
   rw [e]
   rfl
end Go.Proofs.YtaadhjpcdnbbeaaGreatDoor.Serve
