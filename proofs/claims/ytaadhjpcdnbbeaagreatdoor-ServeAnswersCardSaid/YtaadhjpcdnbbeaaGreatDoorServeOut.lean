/- A talk with one who fetches: Done, Out, New. -/
import Derived.Test.YtaadhjpcdnbbeaaGreatDoorServeSay
import Derived.Test.YtaadhjpcdnbbeaaGreatDoorHelloC
namespace Go.Proofs.YtaadhjpcdnbbeaaGreatDoor.Serve
open Go.RowKit Go.Proofs.YtaadhjpcdnbbeaaGreatDoorW.PrintWords Go.Proofs.YtaadhjpcdnbbeaaGreatDoorW.PrintLast Go.Proofs.YtaadhjpcdnbbeaaGreatDoorW.PrintMore Go.Proofs.YtaadhjpcdnbbeaaGreatDoor.Conv Go.Proofs.YtaadhjpcdnbbeaaGreatDoor.Print Go.Proofs.YtaadhjpcdnbbeaaGreatDoor.Line
set_option linter.unusedVariables false
set_option linter.unusedSimpArgs false
set_option maxRecDepth 100000 in
theorem done_calls {W : World} {own : Nat -> Prop} {g : Nat} {s : St} (hs : IsS W own g s) :
  Calls Tryz.prog 10 #[.pointer (some ⟨g, 0, none⟩)] W fun e w' => e = .returned (.bool (decide (s.st = 2))) /\ w' = W := by
 obtain ⟨k4, f4⟩ := hs.cells
 clear hs
 go_enter Tryz.func10, Tryz.ntmps10
 go_wp2
 go_ret
 exact ⟨by first | rfl | (congr 2; simp), rfl⟩
theorem IsS.outed {W : World} {own : Nat -> Prop} {g : Nat} {s : St} (h : IsS W own g s) : ∃ A c, W.cell? ⟨g, 1, none⟩ = some (.slice A s.send.length c) /\ W.frozen? ⟨g, 1, none⟩ = false /\
  Kd.R (Kd.int .u8) 5 (W.setCell ⟨g, 1, none⟩ (.slice none 0 0)) 0 (fun _ => True) (.slice A s.send.length c) s.send /\
  IsS (W.setCell ⟨g, 1, none⟩ (.slice none 0 0)) (fun k => own k /\ (Value.slice A s.send.length c).ownBlock ≠ some k) g { s with send := [] } /\ (∀ k, (Value.slice A s.send.length c).ownBlock = some k -> own k) := by
 obtain ⟨vc, vs, aw, cw, ah, ch, hb, ⟨hc, hs⟩, ⟨h1, h2, h3, h4⟩, h5, ⟨h6, h7⟩⟩ := h
 obtain ⟨A, c, rfl⟩ := Kd.R_slice hs
 have hfar : ∀ k, k ≠ g -> (W.setCell ⟨g, 1, none⟩ (.slice none 0 0)).heap[k]? = W.heap[k]? := fun k hk => Below.heap_setCell W ⟨g, 1, none⟩ _ k hk
 have hszs : (W.setCell ⟨g, 1, none⟩ (.slice none 0 0)).heap.size = W.heap.size := by simp [World.setCell]
 obtain ⟨e1, e2⟩ := box_cell hb 1 rfl
 refine ⟨A, c, e1, e2, R_keep hs (fun k e => hfar k (h2 k e).1), ⟨vc, .slice none 0 0, aw, cw, ah, ch, (heap_setCell_same W g 1 _ _ _ hb).trans rfl, ⟨R_keep hc (fun k e => hfar k (h1 k e).1), Kd.R_nil _ _ _ _ _⟩, ⟨fun k e => ⟨(h1 k e).1, ⟨(h1 k e).2.1, (h1 k e).2.2⟩, by simp [Value.ownBlock]⟩, fun k e => by simp [Value.ownBlock] at e, ⟨h3, fun e => (h2 g e).1 rfl⟩, fun k e => by rw [hszs]; exact h4 k e.1⟩, h5, ⟨?_, ?_⟩⟩, fun k e => (h2 k e).2.1⟩
 ·exact Kd.F_mono (Kd.F_step h6 (fun k e _ => hfar k e.2.1)) (fun k e => ⟨⟨e.1, e.2.2.2⟩, e.2.1, e.2.2.1, by simp [Value.ownBlock]⟩)
 ·exact Kd.F_mono (Kd.F_step h7 (fun k e _ => hfar k e.2.1)) (fun k e => ⟨⟨e.1, e.2.2.2⟩, e.2.1, e.2.2.1, by simp [Value.ownBlock]⟩)
set_option maxRecDepth 100000 in
theorem out_calls {W : World} {own : Nat -> Prop} {g : Nat} {s : St} (hs : IsS W own g s) :
  Calls Tryz.prog 11 #[.pointer (some ⟨g, 0, none⟩)] W fun e w' => ∃ A c, e = .returned (.slice A s.send.length c) /\ Kd.R (Kd.int .u8) 5 w' 0 (fun _ => True) (.slice A s.send.length c) s.send /\
   IsS w' (fun k => own k /\ (Value.slice A s.send.length c).ownBlock ≠ some k) g { s with send := [] } /\ Keeps W w' own /\ (∀ k, (Value.slice A s.send.length c).ownBlock = some k -> own k) := by
 obtain ⟨A, c, k1, f1, h1, h2, h3⟩ := hs.outed
 have H3 := Asd.mk h3
 have H1 := Asd.mk h1
 have H2 := Asd.mk h2
 have HG := Asd.mk hs.own_g
 clear hs h1 h2 h3
 go_enter Tryz.func11, Tryz.ntmps11
 go_wp2
 go_ret
 exact ⟨A, c, rfl, H1.out, H2.out, Keeps.set HG.out, H3.out⟩
end Go.Proofs.YtaadhjpcdnbbeaaGreatDoor.Serve
