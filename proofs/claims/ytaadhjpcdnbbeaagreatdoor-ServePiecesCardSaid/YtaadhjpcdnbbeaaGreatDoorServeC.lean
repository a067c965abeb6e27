/- What a talk does from each of its states; numbers among the arguments. -/
import Derived.Test.YtaadhjpcdnbbeaaGreatDoorServeHead
namespace Go.Proofs.YtaadhjpcdnbbeaaGreatDoor.Serve
open Go.RowKit Go.Proofs.YtaadhjpcdnbbeaaGreatDoorW.PrintWords Go.Proofs.YtaadhjpcdnbbeaaGreatDoorW.PrintLast Go.Proofs.YtaadhjpcdnbbeaaGreatDoorW.PrintMore Go.Proofs.YtaadhjpcdnbbeaaGreatDoor.Conv Go.Proofs.YtaadhjpcdnbbeaaGreatDoor.Print
set_option linter.unusedVariables false
theorem bytes_of_wf {l : List Int} (h : ∀ x ∈ l, (Lit.int .u8 x).wf = true) : Line.Bytes l := by
 intro x hx
 have := h x hx
 simp [Lit.wf, IntKind.min, IntKind.max, IntKind.signed, IntKind.bits] at this
 exact ⟨by omega, by omega⟩
section
variable (ask : List Line.Ln -> List ByteArray × List ByteArray × Bool) (err : Int -> List Int) (cm sd : List Int) (wa ha : List ByteArray)
end
structure T2 (B W : World) (V : Nat -> Prop) (o1 : Nat -> Prop) (g1 : Nat) (s1 : St) (o2 : Nat -> Prop) (g2 : Nat) (s2 : St) : Prop where
 one : T B W o1 g1 s1
 two : T B W o2 g2 s2
 apart : ∀ k, o1 k -> ¬ o2 k
 v1 : ∀ k, o1 k -> ¬ V k
 v2 : ∀ k, o2 k -> ¬ V k
 lt : ∀ k, V k -> k < W.heap.size
theorem T2.flip {B W : World} {V o1 o2 : Nat -> Prop} {g1 g2 : Nat} {s1 s2 : St} (h : T2 B W V o1 g1 s1 o2 g2 s2) : T2 B W V o2 g2 s2 o1 g1 s1 := ⟨h.two, h.one, fun k e e2 => h.apart k e2 e, h.v2, h.v1, h.lt⟩
theorem T2.below {B W W' : World} {V o1 o2 : Nat -> Prop} {g1 g2 : Nat} {s1 s2 : St} (h : T2 B W V o1 g1 s1 o2 g2 s2) (hb : Below W.heap.size W W') : T2 B W' V o1 g1 s1 o2 g2 s2 := ⟨h.one.below hb, h.two.below hb, h.apart, h.v1, h.v2, fun k e => Nat.lt_of_lt_of_le (h.lt k e) hb.size⟩
structure Same (B W1 : World) (V : Nat -> Prop) (W : World) : Prop where
 below : Below B.heap.size B W
 v : ∀ k, V k -> W.heap[k]? = W1.heap[k]?
theorem Same.goes {B W1 W W' : World} {V : Nat -> Prop} (h : Same B W1 V W) (hb : Below B.heap.size B W') (hv : ∀ k, V k -> W'.heap[k]? = W.heap[k]?) : Same B W1 V W' := ⟨hb, fun k e => (hv k e).trans (h.v k e)⟩
theorem Same.step {B W1 W W' : World} {V : Nat -> Prop} (h : Same B W1 V W) (hb : Below W.heap.size W W') (hl : ∀ k, V k -> k < W.heap.size) : Same B W1 V W' := ⟨below_step h.below hb, fun k e => (hb.block k (hl k e)).trans (h.v k e)⟩
theorem Same.row {α : Type} {d : Kd α} {B W1 W : World} {V : Nat -> Prop} {A : Option Addr} {n : Nat} {xs : List α} (h : Same B W1 V W) (hr : Kd.F d W1 V A n xs) : d.C W A n xs := hr W (fun k e _ => h.v k e)
theorem Same.box {B W1 W : World} {V : Nat -> Prop} {b : Nat} {o : Obj} (h : Same B W1 V W) (hb : W1.heap[b]? = some o) (hv : V b) : W.heap[b]? = some o := (h.v b hv).trans hb
theorem out_two {B W : World} {V o1 o2 : Nat -> Prop} {g1 g2 : Nat} {s1 s2 : St} (h : T2 B W V o1 g1 s1 o2 g2 s2) (sd : List Int) (hsd : s1.send = sd) :
  Calls Tryz.prog 11 #[.pointer (some ⟨g1, 0, none⟩)] W fun e w' => ∃ A c o1', e = .returned (.slice A sd.length c) /\ T2 B w' V o1' g1 { s1 with send := [] } o2 g2 s2 /\
   Kd.F (Kd.int .u8) w' (fun k => ¬ o1' k /\ ¬ o2 k /\ k < w'.heap.size) A sd.length sd /\ Keeps W w' o1 /\ (∀ k, V k -> w'.heap[k]? = W.heap[k]?) := by
 subst hsd
 refine (out_calls h.one.1).mono ?_
 rintro e w' ⟨A, c, rfl, hr, hs, hk, hown⟩
 have hg : Goes W w' o1 (fun k => o1 k /\ (Value.slice A s1.send.length c).ownBlock ≠ some k) := ⟨hk, fun k e => Or.inl e.1⟩
 refine ⟨A, c, _, rfl, ⟨h.one.next hg hs (good_out h.one.good), h.two.other hg (below_keeps h.one.bel hk h.one.lo) h.apart, fun k e => h.apart k e.1, fun k e => h.v1 k e.1, h.v2, fun k e => Nat.lt_of_lt_of_le (h.lt k e) hk.size⟩, ?_, hk, fun k e => hk.block k (h.lt k e) (fun e2 => h.v1 k e2 e)⟩
 exact Kd.F_mono (Kd.R_F (Kd.R_bound (Kd.R_tight rfl hr))) (fun k e => ⟨fun e2 => e2.2 e.1.symm, h.apart k (hown k e.1.symm), e.2.2.1⟩)
theorem row_keeps {α : Type} {d : Kd α} {W W' : World} {o1 o2 : Nat -> Prop} {A : Option Addr} {n : Nat} {xs : List α} (h : Kd.F d W (fun k => ¬ o1 k /\ ¬ o2 k /\ k < W.heap.size) A n xs) (hk : Keeps W W' o2) : d.C W' A n xs := h W' (fun k e hlt => hk.block k hlt e.2.1)
def rdyW (s : St) : List ByteArray := if s.st = 1 then s.wants else []
def rdyH (s : St) : List ByteArray := if s.st = 1 then s.haves else []
theorem Alike.rdy {s t : St} (h : Alike s t) : rdyW s = rdyW t /\ rdyH s = rdyH t := by
 unfold rdyW rdyH
 by_cases c : s.st = 1
 ·rw [if_pos c, if_pos (h.2.2.1.symm.trans c), if_pos c, if_pos (h.2.2.1.symm.trans c)]
  exact h.2.2.2 c
 ·rw [if_neg c, if_neg (fun e => c (h.2.2.1.trans e)), if_neg c, if_neg (fun e => c (h.2.2.1.trans e))]
  exact ⟨rfl, rfl⟩
theorem rdy_len {s : St} (h : Good s) : (rdyW s).length <= 64 /\ (rdyH s).length <= 256 := by
 unfold rdyW rdyH
 by_cases c : s.st = 1
 ·rw [if_pos c, if_pos c]
  exact ⟨names_len (n := 64) h.wants, names_len (n := 256) h.haves⟩
 ·rw [if_neg c, if_neg c]
  exact ⟨Nat.zero_le _, Nat.zero_le _⟩
theorem ready_any {B W : World} {own : Nat -> Prop} {g : Nat} {s : St} (h : T B W own g s) (xs ys : List ByteArray) (b : Bool) (hx : rdyW s = xs) (hy : rdyH s = ys) (hb : decide (s.st = 1) = b) :
  Calls Tryz.prog 9 #[.pointer (some ⟨g, 0, none⟩)] W fun e w' => ∃ Ax cx Ay cy, e = .returned (.tuple #[.agg #[.slice Ax xs.length cx, .slice Ay ys.length cy], .bool b]) /\ Kd.R Kd.string 9 w' W.heap.size (fun _ => True) (.slice Ax xs.length cx) xs /\ Kd.R Kd.string 9 w' W.heap.size (fun _ => True) (.slice Ay ys.length cy) ys /\ xs.length <= cx /\ ys.length <= cy /\ Below W.heap.size W w' := by
 subst hx hy hb
 refine (ready_calls h.1 h.2.2.2.st (Nat.le_trans (names_len (n := 64) h.2.2.2.wants) (by decide)) (Nat.le_trans (names_len (n := 256) h.2.2.2.haves) (by decide))).mono ?_
 rintro e w' ⟨hb, h1, h2⟩
 by_cases c : s.st = 1
 ·have e1 : rdyW s = s.wants := if_pos c
  have e2 : rdyH s = s.haves := if_pos c
  rw [e1, e2, decide_eq_true c]
  obtain ⟨vx, vy, rfl, hx, hy⟩ := h2 c
  obtain ⟨Ax, cx, rfl⟩ := Kd.R_slice hx
  obtain ⟨Ay, cy, rfl⟩ := Kd.R_slice hy
  exact ⟨Ax, cx, Ay, cy, rfl, hx, hy, (Kd.R_reads' hx).2.1, (Kd.R_reads' hy).2.1, hb⟩
 ·have e1 : rdyW s = [] := if_neg c
  have e2 : rdyH s = [] := if_neg c
  rw [e1, e2, decide_eq_false c]
  exact ⟨none, 0, none, 0, h1 c, Kd.R_nil _ _ _ _ _, Kd.R_nil _ _ _ _ _, Nat.le_refl _, Nat.le_refl _, hb⟩
theorem two_row {α : Type} {d : Kd α} {e c n : Nat} {ok : Nat -> Prop} {A : Option Addr} {xs : List α} {B W W' : World} {o1 o2 : Nat -> Prop} {g1 g2 : Nat} {s1 s2 : St} (h1 : T B W o1 g1 s1) (h2 : T B W o2 g2 s2) (hr : d.R e W' W.heap.size ok (.slice A n c) xs) : Rw d W' (fun k => o1 k ∨ o2 k) A n xs :=
 Rw.of_R hr (fun k e => e.elim (h1.lt k) (h2.lt k))
theorem two_fresh {B W : World} {o1 o2 : Nat -> Prop} {g1 g2 : Nat} {s1 s2 : St} (h1 : T B W o1 g1 s1) (h2 : T B W o2 g2 s2) {k : Nat} (hk : W.heap.size <= k) : ¬ (o1 k ∨ o2 k) := fun e => by
 rcases e with e | e
 ·have := h1.lt k e; omega
 ·have := h2.lt k e; omega
end Go.Proofs.YtaadhjpcdnbbeaaGreatDoor.Serve
