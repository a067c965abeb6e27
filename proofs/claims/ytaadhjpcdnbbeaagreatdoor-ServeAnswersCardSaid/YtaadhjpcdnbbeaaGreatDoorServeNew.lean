/- A talk with one who fetches: New. -/
import Derived.Test.YtaadhjpcdnbbeaaGreatDoorServeOut
import Derived.Test.YtaadhjpcdnbbeaaGreatDoorHelloF
namespace Go.Proofs.YtaadhjpcdnbbeaaGreatDoor.Serve
open Go.RowKit Go.Proofs.YtaadhjpcdnbbeaaGreatDoorW.PrintWords Go.Proofs.YtaadhjpcdnbbeaaGreatDoorW.PrintLast Go.Proofs.YtaadhjpcdnbbeaaGreatDoorW.PrintMore Go.Proofs.YtaadhjpcdnbbeaaGreatDoor.Conv Go.Proofs.YtaadhjpcdnbbeaaGreatDoor.Print Go.Proofs.YtaadhjpcdnbbeaaGreatDoor.Line Go.Proofs.YtaadhjpcdnbbeaaGreatDoor.Hello
set_option linter.unusedVariables false
set_option linter.unusedSimpArgs false
theorem IsS.init {W : World} {g : Nat} (hb : W.heap[g]? = some (.cells #[.slice none 0 0, .slice none 0 0, .slice none 0 0, .slice none 0 0, .int .i64 0] 53 (0, 0))) : IsS W (fun k => k = g) g ⟨[], [], [], [], 0⟩ :=
 ⟨.slice none 0 0, .slice none 0 0, none, 0, none, 0, hb, ⟨Kd.R_nil _ _ _ _ _, Kd.R_nil _ _ _ _ _⟩, ⟨fun k e => by simp [Value.ownBlock] at e, fun k e => by simp [Value.ownBlock] at e, rfl, fun k e => by rw [e]; exact lt_box hb⟩, ⟨Nat.le_refl _, Nat.le_refl _⟩, ⟨Kd.F_nil _ _ _, Kd.F_nil _ _ _⟩⟩
set_option maxRecDepth 100000 in
set_option maxHeartbeats 4000000 in
theorem new_calls {W : World} (a0 : ByteArray) (A1 : Option Addr) (c1 : Nat) (l1 : List Rf) (hr1 : Kd.C k72 W A1 l1.length l1) (hc1 : l1.length <= c1) (h0 : a0.size <= 100000) (hs : ∀ y ∈ l1, y.f0.size <= 100000 /\ y.f1.size <= 100000) :
  Calls Tryz.prog 7 #[.string a0, .slice A1 l1.length c1] W fun e w' => Below W.heap.size W w' /\ (((toldF a0 l1).2 = false /\ e = .returned (.pointer none)) ∨ ((toldF a0 l1).2 = true /\ ∃ g, e = .returned (.pointer (some ⟨g, 0, none⟩)) /\ IsS w' (fun k => W.heap.size <= k /\ k < w'.heap.size) g ⟨[], (putF (toldF a0 l1).1).1, [], [], 0⟩)) := by
 obtain ⟨tb, is, hT⟩ : ∃ tb is, toldF a0 l1 = (tb, is) := ⟨_, _, rfl⟩
 have hlen : tb.length <= 66 := by have h := told_len a0 l1; rw [hT] at h; exact h
 rw [hT]
 have HCT := Asd.mk (hello_Told.calls 4000000 a0 A1 c1 l1 tb is W hr1 hc1 ((told_eq a0 l1 h0 hs (by omega)).trans (congrArg some hT)))
 have HN := Asd.mk (show tb.length <= 1000000 by omega)
 clear hr1 hc1 h0 hs hT hlen
 go_enter Tryz.func7, Tryz.ntmps7
 go_upto_if 15 with (go_at_call 19; with_reducible refine HCT.out.mono ?_; rintro e W1 ⟨v1, rfl, ho, hb⟩; obtain ⟨At, ct, rfl⟩ := Kd.R_slice ho; have HAt := Asd.mk (Kd.R_reads' ho).2.2; have HAtc := Asd.mk (Kd.R_reads' ho).2.1; have HB := Asd.mk hb; clear ho hb HCT)
 cases is with
 | false =>
  go_wp2
  go_ret
  exact ⟨HB.out, rfl⟩
 | true =>
  go_upto_region 5 with (fail)
  generalize hW2 : World.alloc _ _ = W2
  have hb2 : W2.heap[W1.heap.size]? = some (.cells #[.slice none 0 0, .slice none 0 0, .slice none 0 0, .slice none 0 0, .int .i64 0] 53 (0, 0)) := by rw [<- hW2]; exact heap_alloc_new _ _
  have hB2 : Below W1.heap.size W1 W2 := by rw [<- hW2]; exact bal (Below.refl _ _) _
  have HI := Asd.mk (IsS.init hb2)
  have HB1 := HB.out.size
  have hsz := lt_box hb2
  have HA2 := Asd.mk (Kd.C_below HAt.out hB2)
  have HB2 := Asd.mk (below_step HB.out hB2)
  clear hW2 hb2 hB2
  have HG := Asd.mk (And.intro HB1 hsz)
  clear HB1 hsz
  generalize W1.heap.size = g at HI HG ⊢
  go_wp2_with (go_at_call 21; with_reducible refine (say_calls HI.out At ct tb HA2.out HAtc.out HN.out (by simp)).mono ?_; rintro e W3 ⟨rfl, hs3, hk3⟩; have HS3 := Asd.mk hs3; have HK3 := Asd.mk hk3; clear hs3 hk3)
  go_ret
  have hk := HK3.out
  have hz := HB2.out.size
  have hg := HG.out
  have hz3 := hk.size
  refine ⟨⟨hk.os.trans HB2.out.os, hk.tape.trans HB2.out.tape, hk.output.trans HB2.out.output, by omega, fun k h => ?_⟩, g, rfl, HS3.out.mono ?_ (fun k h => h.2)⟩
  ·exact (hk.block k (by omega) (fun e => by omega)).trans (HB2.out.block k h)
  ·rintro k (h | h)
   ·exact ⟨by omega, by omega⟩
   ·exact ⟨by omega, h.2⟩
end Go.Proofs.YtaadhjpcdnbbeaaGreatDoor.Serve
