/- A talk with one who pushes: the function that listens for the pack. -/
import Derived.Test.YtemkgdpfkbpnpaaGreatDoorTakePack
namespace Go.Proofs.YtemkgdpfkbpnpaaGreatDoor.Take
open Go.RowKit Go.Proofs.YtemkgdpfkbpnpaaGreatDoorW.PrintWords Go.Proofs.YtemkgdpfkbpnpaaGreatDoorW.PrintLast Go.Proofs.YtemkgdpfkbpnpaaGreatDoorW.PrintMore Go.Proofs.YtemkgdpfkbpnpaaGreatDoor.Conv Go.Proofs.YtemkgdpfkbpnpaaGreatDoor.Print Go.Proofs.YtemkgdpfkbpnpaaGreatDoor.Line
open Go.Proofs.YtemkgdpfkbpnpaaGreatDoor.Hello hiding Ln
set_option linter.unusedVariables false
set_option linter.unusedSimpArgs false
set_option maxRecDepth 100000 in
theorem drop_cutL {W : World} {A : Option Addr} {c : Nat} {xs : List Ln} (h : Kd.C k65 W A xs.length xs) (hc : xs.length <= c) (j : Nat) (hj : j <= xs.length) :
  ∃ A2 c2, (∀ W : World, (Instr.slice 46 (.slice A xs.length c) (some (.int .i64 (j : Int))) none none).run Tryz.prog W = .ok (.slice A2 (xs.length - j) c2) W) /\ (∀ W', Kd.C k65 W' A xs.length xs -> Kd.C k65 W' A2 (xs.drop j).length (xs.drop j)) /\ (xs.drop j).length <= c2 := by
 have hinf := info65
 obtain ⟨i, hi, hi2⟩ := Option.map_eq_some_iff.1 hinf
 have hsz : i.size = 2 := congrArg (fun x => x.2.1) hi2
 refine ⟨_, _, cut_from (P := Tryz.prog) 46 65 .i64 Tryz.underlying46 hi 2 hsz A xs.length c (j : Int) (by omega) (by omega), fun W' h' => by have := Kd.C_drop h' hj hc; rw [Int.toNat_natCast]; exact this, ?_⟩
 rw [List.length_drop]
 omega
def close.T0 : Bool × List (List Nat × List Nat) := (true, [([], []), ([], []), ([], []), ([2], [2]), ([1, 3], [1, 3]), ([], []), ([0, 4, 5], [0, 4, 5])])
def close.B0 : List Nat := [0, 0, 0, 4, 14, 0, 63]
theorem close.tab0 : rtab .any (opsOf Tryz.f42 0) = close.T0 := by kernel_rfl
theorem close.bits0 : waitsOk close.T0.2 close.B0 = true := by kernel_rfl
set_option maxHeartbeats 4000000 in
set_option maxRecDepth 100000 in
theorem close_calls {W : World} {own : Nat -> Prop} {g : Nat} {s : St} (hs : IsT W own g s) (i b1 b2 : Nat) (h1 : W.heap[b1]? = some (.cells #[.pointer (some ⟨g, 0, none⟩)] 24 (0, 0))) (h2 : W.heap[b2]? = some (.cells #[.int .i64 i] 3 (0, 0))) (A : Option Addr) (c : Nat) (us : List Ln) (hr : Kd.C k65 W A us.length us) (hc : us.length <= c) (hi : i < us.length) (Ap : Option Addr) (cp : Nat) (ps : List Int) (hcp : ps.length <= cp) (hpl : ps.length <= 1000000000) (hl : us.length <= 1000000) (hsz : ∀ y ∈ us, y.f1.size <= 4000) (hz : s.send.length <= 100000000) :
  Calls Tryz.prog 42 #[.slice A us.length c, .slice Ap ps.length cp, .pointer (some ⟨b1, 0, none⟩), .pointer (some ⟨b2, 0, none⟩)] W fun e w' => e = .returned (.tuple #[]) /\ ∃ own', IsT w' own' g (packS errT s (us.drop (i + 1)) ps) /\ Goes W w' own own' := by
 obtain ⟨A2, c2, hcut, hr2, hc2⟩ := drop_cutL hr hc (i + 1) (by omega)
 have HR2 := Asd.mk hr2
 have HR := Asd.mk hr
 have hl2 : (us.drop (i + 1)).length = us.length - (i + 1) := List.length_drop ..
 have HP := Asd.mk (fun W' (h : Below W.heap.size W W') => packed_calls (hs.below h) A2 (us.length - (i + 1)) c2 (us.drop (i + 1)) hl2.symm (hr2 _ (Kd.C_below hr h)) hc2 Ap ps.length cp ps rfl hcp hpl (by omega) (fun y hy => hsz y (List.mem_of_mem_drop hy)) hz)
 have k1 := (box_cell h1 0 rfl).1
 have k2 := (box_cell h2 0 rfl).1
 have H12 := Asd.mk (And.intro k1 k2)
 have hw : IntKind.i64.wrap ((i : Int) + 1) = (i : Int) + 1 := by rw [i64_w, Line.w64 (by omega) (by omega)]
 simp only [show (((i + 1 : Nat)) : Int) = (i : Int) + 1 by omega] at hcut
 clear hs h1 h2 hr hc hcp hpl hl hsz hz hl2 hc2 hr2 k1 k2
 go_enter Tryz.func42, Tryz.ntmps42
 refine start_ (n := 7) (S := fun w' => Below W.heap.size W w') (ds := [6]) (bA 7 0) (by kernel_rfl) rfl rfl (bd1 (Below.refl _ _)) (fun hHeld => ?_)
 refine with_tabW close.tab0 close.bits0 (fun HT_ HW_ => ?_)
 generalize W.drew = W1 at hHeld ⊢
 refine take_ (i := 0) (N := some 6) (v := .pointer (some ⟨g, 0, none⟩)) (a' := ?_) (bA 7 1) rfl rfl (take_ofW HT_.out HW_.out (by kernel_rfl)) (fun _ _ _ h => h) (Or.inl ⟨by rfl, fun w' hS' => ?_⟩) hHeld ?_ ?_
 ·have kk := (hS'.cell (World.block_lt_of_cell? _ _ H12.out.1)).trans H12.out.1
  go_simp
 rotate_left
 ·simp only [Act.put, zA, zB, zC, i64_w, i32_w]
  rfl
 refine pure_ (i := 1) (N := some 7) (v := ?_) (a' := ?_) (bA 7 3) rfl rfl (any_of HT_.out (by kernel_rfl)) (fun _ _ _ h => h) (Or.inl ⟨by rfl, ?_⟩) ?_ ?_
 rotate_left
 ·intro w'
  go_simp
  with_reducible rfl
 rotate_left
 ·simp only [Act.put, zA, zB, zC, i64_w, i32_w]
  rfl
 refine take_ (i := 2) (N := some 8) (v := .int .i64 i) (a' := ?_) (bA 7 7) rfl rfl (take_ofW HT_.out HW_.out (by kernel_rfl)) (fun _ _ _ h => h) (Or.inl ⟨by rfl, fun w' hS' => ?_⟩) hHeld ?_ ?_
 ·have kk := (hS'.cell (World.block_lt_of_cell? _ _ H12.out.2)).trans H12.out.2
  go_simp
 rotate_left
 ·simp only [Act.put, zA, zB, zC, i64_w, i32_w]
  rfl
 refine pure_ (i := 3) (N := some 9) (v := .int .i64 ((i : Int) + 1)) (a' := ?_) (bA 7 15) rfl rfl (any_of HT_.out (by kernel_rfl)) (fun _ _ _ h => h) (Or.inl ⟨by rfl, ?_⟩) ?_ ?_
 ·intro w'
  first | (go_simp; done) | (go_simp; simp [hw])
 rotate_left
 ·simp only [Act.put, zA, zB, zC, i64_w, i32_w]
  rfl
 refine pure_ (i := 4) (N := some 10) (v := .slice A2 (us.length - (i + 1)) c2) (a' := ?_) (bA 7 31) rfl rfl (any_of HT_.out (by kernel_rfl)) (fun _ _ _ h => h) (Or.inl ⟨by rfl, ?_⟩) ?_ ?_
 ·intro w'
  have hcut' := hcut w'
  first | (go_simp; done) | (go_simp; trace_state; simp [hcut'])
 rotate_left
 ·simp only [Act.put, zA, zB, zC, i64_w, i32_w]
  rfl
 refine pure_ (i := 5) (N := some 11) (v := ?_) (a' := ?_) (bA 7 63) rfl rfl (any_of HT_.out (by kernel_rfl)) (fun _ _ _ h => h) (Or.inl ⟨by rfl, ?_⟩) ?_ ?_
 rotate_left
 ·intro w'
  go_simp
  with_reducible rfl
 rotate_left
 ·simp only [Act.put, zA, zB, zC, i64_w, i32_w]
  rfl
 refine last_ (i := 6) (N := some 12) (bA 7 127) rfl rfl (one_of HT_.out (by kernel_rfl)) (by decide) (fun K hK => ?_)
 refine goes_ Tryz.func43 (by kernel_rfl) rfl #[.pointer (some ⟨g, 0, none⟩), .slice A2 (us.length - (i + 1)) c2, .slice Ap ps.length cp] (by rfl) rfl rfl (by (try simp only [List.map_toArray, List.map_cons, List.map_nil]); first | done | rfl) ?_
 refine (HP.out _ hHeld).mono ?_
 rintro e W2 ⟨rfl, own2, hs2, hg2⟩
 refine ⟨_, rfl, ?_⟩
 refine hK.out _ _ ?_
 clear hK K
 refine norm_ (a' := ?_) ?_ ?_
 rotate_left
 ·show Act.put _ (some 12) _ = _
  simp only [Act.put, zA, zB, zC, i64_w, i32_w]
  rfl
 refine done_ (done_of HT_.out (by kernel_rfl)) ?_
 go_end0
 exact ⟨rfl, own2, hs2, (Goes.below hHeld).trans hg2⟩
end Go.Proofs.YtemkgdpfkbpnpaaGreatDoor.Take
