/- A talk with one who pushes: its cells, read and stored. -/
import Derived.Test.YtemkgdpfkbpnpaaGreatDoorTakeW
namespace Go.Proofs.YtemkgdpfkbpnpaaGreatDoor.Take
open Go.RowKit Go.Proofs.YtemkgdpfkbpnpaaGreatDoorW.PrintWords Go.Proofs.YtemkgdpfkbpnpaaGreatDoorW.PrintLast Go.Proofs.YtemkgdpfkbpnpaaGreatDoorW.PrintMore Go.Proofs.YtemkgdpfkbpnpaaGreatDoor.Conv Go.Proofs.YtemkgdpfkbpnpaaGreatDoor.Print Go.Proofs.YtemkgdpfkbpnpaaGreatDoor.Line
set_option linter.unusedVariables false
set_option linter.unusedSimpArgs false
theorem run_store_nilFunc {P : Program} {w : World} {a : Addr} {m : Mode} : (store a .nilFunc m).run P w = stored P w a .nilFunc m := run_store P w a _ m rfl
theorem run_store_func {P : Program} {w : World} {a : Addr} {m : Mode} (f : Fn) (x y : Array Value) : (store a (.func f x y) m).run P w = stored P w a (.func f x y) m := run_store P w a _ m rfl
theorem set_size (W : World) (a : Addr) (v : Value) : (W.setCell a v).heap.size = W.heap.size := by simp [World.setCell]
theorem IsT.set {W : World} {own fr : Nat -> Prop} {g : Nat} {s s' : St} {au au' ap ap' : Option Addr} {cu cu' cp cp' : Nat} {vc vs vn vn' : Value} (j : Nat) (v : Value)
  (hb : W.heap[g]? = some (.cells #[vc, vs, .slice au s.ups.length cu, .slice ap s.pack.length cp, vn, .bool s.waits] 56 (0, 0)))
  (hr : Kd.R (Kd.int .u8) 5 W 0 (fun _ => True) vc s.came /\ Kd.R (Kd.int .u8) 5 W 0 (fun _ => True) vs s.send)
  (ho : (∀ k, vc.ownBlock = some k -> k ≠ g /\ own k /\ vs.ownBlock ≠ some k) /\ (∀ k, vs.ownBlock = some k -> k ≠ g /\ own k /\ vc.ownBlock ≠ some k) /\ own g /\ (∀ k, own k -> k < W.heap.size))
  (hc : (#[vc, vs, .slice au s.ups.length cu, .slice ap s.pack.length cp, vn, .bool s.waits] : Array Value).setIfInBounds j v = #[vc, vs, .slice au' s'.ups.length cu', .slice ap' s'.pack.length cp', vn', .bool s'.waits])
  (hsc : s'.came = s.came) (hss : s'.send = s.send) (hfr : ∀ k, fr k -> ¬ own k /\ k < W.heap.size)
  (h5 : Rest W (fun k => (own k ∨ fr k) /\ k ≠ g /\ vc.ownBlock ≠ some k /\ vs.ownBlock ≠ some k) g s' au' cu' ap' cp' vn') :
  IsT (W.setCell ⟨g, j, none⟩ v) (fun k => own k ∨ fr k) g s' /\ Keeps W (W.setCell ⟨g, j, none⟩ v) own :=
 IsT.restored hb hr ho.1 ho.2.1 ho.2.2.1 ho.2.2.2 ((heap_setCell_same W g j _ _ v hb).trans (by rw [hc])) (fun k hk => Below.heap_setCell W ⟨g, j, none⟩ v k hk) (set_size W _ v) rfl rfl rfl hsc hss hfr h5
theorem IsT.widen {W : World} {own own' : Nat -> Prop} {g : Nat} {s : St} (h : IsT W own g s) (ho : ∀ k, own k -> own' k) (hl : ∀ k, own' k -> k < W.heap.size) : IsT W own' g s := by
 obtain ⟨vc, vs, au, cu, ap, cp, vn, hb, hr, ⟨h1, h2, h3, h4⟩, h5⟩ := h
 exact ⟨vc, vs, au, cu, ap, cp, vn, hb, hr, ⟨fun k e => ⟨(h1 k e).1, ho k (h1 k e).2.1, (h1 k e).2.2⟩, fun k e => ⟨(h2 k e).1, ho k (h2 k e).2.1, (h2 k e).2.2⟩, ho g h3, hl⟩, h5.step (fun k _ _ => rfl) (fun k e _ => ⟨ho k e.1, e.2⟩)⟩
theorem IsT.set_waits {W : World} {own : Nat -> Prop} {g : Nat} {s : St} (h : IsT W own g s) (b : Bool) : IsT (W.setCell ⟨g, 5, none⟩ (.bool b)) own g { s with waits := b } /\ Goes W (W.setCell ⟨g, 5, none⟩ (.bool b)) own own := by
 obtain ⟨vc, vs, au, cu, ap, cp, vn, hb, hr, ho, h5⟩ := h
 have hrest : Rest W (fun k => (own k ∨ (fun _ => False) k) /\ k ≠ g /\ vc.ownBlock ≠ some k /\ vs.ownBlock ≠ some k) g { s with waits := b } au cu ap cp vn :=
  ⟨Kd.F_mono h5.ups (fun k e => ⟨Or.inl e.1, e.2⟩), h5.cu, Kd.F_mono h5.pack (fun k e => ⟨Or.inl e.1, e.2⟩), h5.cp, h5.nx.step (fun k _ _ => rfl) (fun k e _ => ⟨Or.inl e.1, e.2⟩)⟩
 have h := IsT.set (s' := { s with waits := b }) (fr := fun _ => False) (own := own) 5 (.bool b) hb hr ho rfl rfl rfl (fun k e => e.elim) hrest
 refine ⟨h.1.widen (fun k e => e.elim id (fun e => e.elim)) (fun k e => by rw [set_size]; exact ho.2.2.2 k e), h.2, fun k e => Or.inl e⟩
theorem IsT.set_nx {W : World} {own fr : Nat -> Prop} {g : Nat} {s : St} (h : IsT W own g s) (v : Value) (nx : Int) (hfr : ∀ k, fr k -> ¬ own k /\ k < W.heap.size) (hv : IsNx W fr g v nx) : IsT (W.setCell ⟨g, 4, none⟩ v) (fun k => own k ∨ fr k) g { s with nx := nx } /\ Keeps W (W.setCell ⟨g, 4, none⟩ v) own := by
 obtain ⟨vc, vs, au, cu, ap, cp, vn, hb, hr, ho, h5⟩ := h
 have hrest : Rest W (fun k => (own k ∨ fr k) /\ k ≠ g /\ vc.ownBlock ≠ some k /\ vs.ownBlock ≠ some k) g { s with nx := nx } au cu ap cp v :=
  ⟨Kd.F_mono h5.ups (fun k e => ⟨Or.inl e.1, e.2⟩), h5.cu, Kd.F_mono h5.pack (fun k e => ⟨Or.inl e.1, e.2⟩), h5.cp, hv.step (fun k _ _ => rfl) (fun k e _ => ⟨Or.inr e, fun e2 => (hfr k e).1 (by rw [e2]; exact ho.2.2.1), fun e2 => (hfr k e).1 (ho.1 k e2).2.1, fun e2 => (hfr k e).1 (ho.2.1 k e2).2.1⟩)⟩
 exact IsT.set (s' := { s with nx := nx }) 4 v hb hr ho rfl rfl rfl hfr hrest
theorem IsT.set_nil {W : World} {own : Nat -> Prop} {g : Nat} {s : St} (h : IsT W own g s) : IsT (W.setCell ⟨g, 4, none⟩ .nilFunc) own g { s with nx := -2 } /\ Goes W (W.setCell ⟨g, 4, none⟩ .nilFunc) own own := by
 have h2 := h.set_nx (fr := fun _ => False) .nilFunc (-2) (fun k e => e.elim) (Or.inl ⟨rfl, rfl⟩)
 exact ⟨h2.1.widen (fun k e => e.elim id (fun e => e.elim)) (fun k e => by rw [set_size]; exact h.own_lt k e), h2.2, fun k e => Or.inl e⟩
theorem IsT.set_ups {W : World} {own fr : Nat -> Prop} {g : Nat} {s : St} (h : IsT W own g s) (A : Option Addr) (c : Nat) (u : List S42) (hfr : ∀ k, fr k -> ¬ own k /\ k < W.heap.size) (hv : Kd.F k42 W fr A u.length u) (hc : u.length <= c) :
  IsT (W.setCell ⟨g, 2, none⟩ (.slice A u.length c)) (fun k => own k ∨ fr k) g { s with ups := u } /\ Keeps W (W.setCell ⟨g, 2, none⟩ (.slice A u.length c)) own := by
 obtain ⟨vc, vs, au, cu, ap, cp, vn, hb, hr, ho, h5⟩ := h
 have hrest : Rest W (fun k => (own k ∨ fr k) /\ k ≠ g /\ vc.ownBlock ≠ some k /\ vs.ownBlock ≠ some k) g { s with ups := u } A c ap cp vn :=
  ⟨Kd.F_mono hv (fun k e => ⟨Or.inr e, fun e2 => (hfr k e).1 (by rw [e2]; exact ho.2.2.1), fun e2 => (hfr k e).1 (ho.1 k e2).2.1, fun e2 => (hfr k e).1 (ho.2.1 k e2).2.1⟩), hc, Kd.F_mono h5.pack (fun k e => ⟨Or.inl e.1, e.2⟩), h5.cp, h5.nx.step (fun k _ _ => rfl) (fun k e _ => ⟨Or.inl e.1, e.2⟩)⟩
 exact IsT.set (s' := { s with ups := u }) 2 _ hb hr ho rfl rfl rfl hfr hrest
theorem IsT.set_pack {W : World} {own fr : Nat -> Prop} {g : Nat} {s : St} (h : IsT W own g s) (A : Option Addr) (c : Nat) (u : List Int) (hfr : ∀ k, fr k -> ¬ own k /\ k < W.heap.size) (hv : Kd.F (Kd.int .u8) W fr A u.length u) (hc : u.length <= c) :
  IsT (W.setCell ⟨g, 3, none⟩ (.slice A u.length c)) (fun k => own k ∨ fr k) g { s with pack := u } /\ Keeps W (W.setCell ⟨g, 3, none⟩ (.slice A u.length c)) own := by
 obtain ⟨vc, vs, au, cu, ap, cp, vn, hb, hr, ho, h5⟩ := h
 have hrest : Rest W (fun k => (own k ∨ fr k) /\ k ≠ g /\ vc.ownBlock ≠ some k /\ vs.ownBlock ≠ some k) g { s with pack := u } au cu A c vn :=
  ⟨Kd.F_mono h5.ups (fun k e => ⟨Or.inl e.1, e.2⟩), h5.cu, Kd.F_mono hv (fun k e => ⟨Or.inr e, fun e2 => (hfr k e).1 (by rw [e2]; exact ho.2.2.1), fun e2 => (hfr k e).1 (ho.1 k e2).2.1, fun e2 => (hfr k e).1 (ho.2.1 k e2).2.1⟩), hc, h5.nx.step (fun k _ _ => rfl) (fun k e _ => ⟨Or.inl e.1, e.2⟩)⟩
 exact IsT.set (s' := { s with pack := u }) 3 _ hb hr ho rfl rfl rfl hfr hrest
theorem IsT.cells {W : World} {own : Nat -> Prop} {g : Nat} {s : St} (h : IsT W own g s) : (W.cell? ⟨g, 5, none⟩ = some (.bool s.waits) /\ W.frozen? ⟨g, 5, none⟩ = false) /\ ∃ vn, W.cell? ⟨g, 4, none⟩ = some vn /\ W.frozen? ⟨g, 4, none⟩ = false /\ IsNx W (fun k => own k /\ k ≠ g) g vn s.nx := by
 obtain ⟨vc, vs, au, cu, ap, cp, vn, hb, _, _, h5⟩ := h
 exact ⟨box_cell hb 5 rfl, vn, (box_cell hb 4 rfl).1, (box_cell hb 4 rfl).2, h5.nx.step (fun k _ _ => rfl) (fun k e _ => ⟨e.1, e.2.1⟩)⟩
theorem IsT.frozen {W : World} {own : Nat -> Prop} {g : Nat} {s : St} (h : IsT W own g s) (j : Nat) : W.frozen? ⟨g, j, none⟩ = false := by
 obtain ⟨vc, vs, au, cu, ap, cp, vn, hb, _⟩ := h
 exact frozen_of_row W g _ _ _ hb
theorem IsT.rows {W : World} {own : Nat -> Prop} {g : Nat} {s : St} (h : IsT W own g s) : ∃ au cu ap cp, (W.cell? ⟨g, 2, none⟩ = some (.slice au s.ups.length cu) /\ W.cell? ⟨g, 3, none⟩ = some (.slice ap s.pack.length cp)) /\ (Kd.F k42 W own au s.ups.length s.ups /\ Kd.F (Kd.int .u8) W own ap s.pack.length s.pack) /\ s.ups.length <= cu /\ s.pack.length <= cp := by
 obtain ⟨vc, vs, au, cu, ap, cp, vn, hb, _, _, h5⟩ := h
 exact ⟨au, cu, ap, cp, ⟨(box_cell hb 2 rfl).1, (box_cell hb 3 rfl).1⟩, ⟨Kd.F_mono h5.ups (fun k e => e.1), Kd.F_mono h5.pack (fun k e => e.1)⟩, h5.cu, h5.cp⟩
theorem IsT.came_cell {W : World} {own : Nat -> Prop} {g : Nat} {s : St} (h : IsT W own g s) : ∃ A c, W.cell? ⟨g, 0, none⟩ = some (.slice A s.came.length c) /\ Kd.F (Kd.int .u8) W own A s.came.length s.came /\ s.came.length <= c := by
 obtain ⟨vc, vs, au, cu, ap, cp, vn, hb, ⟨hc, _⟩, ⟨h1, _, _, _⟩, _⟩ := h
 obtain ⟨A, c, rfl⟩ := Kd.R_slice hc
 exact ⟨A, c, (box_cell hb 0 rfl).1, Kd.F_mono (Kd.R_F (Kd.R_bound (Kd.R_tight rfl hc))) (fun k e => (h1 k e.1.symm).2.1), (Kd.R_reads' hc).2.1⟩
end Go.Proofs.YtemkgdpfkbpnpaaGreatDoor.Take
