/- Two talks side by side; what a talk does from each of its states. -/
import Derived.Test.YtemkgdpfkbpnpaaGreatDoorTakeWrong
namespace Go.Proofs.YtemkgdpfkbpnpaaGreatDoor.Take
open Go.RowKit Go.Proofs.YtemkgdpfkbpnpaaGreatDoorW.PrintWords Go.Proofs.YtemkgdpfkbpnpaaGreatDoorW.PrintLast Go.Proofs.YtemkgdpfkbpnpaaGreatDoorW.PrintMore Go.Proofs.YtemkgdpfkbpnpaaGreatDoor.Conv Go.Proofs.YtemkgdpfkbpnpaaGreatDoor.Print
set_option linter.unusedVariables false
structure T2 (B W : World) (V : Nat -> Prop) (o1 : Nat -> Prop) (g1 : Nat) (s1 : St) (o2 : Nat -> Prop) (g2 : Nat) (s2 : St) : Prop where
 one : T B W o1 g1 s1
 two : T B W o2 g2 s2
 apart : ∀ k, o1 k -> ¬ o2 k
 v1 : ∀ k, o1 k -> ¬ V k
 v2 : ∀ k, o2 k -> ¬ V k
 lt : ∀ k, V k -> k < W.heap.size
theorem T2.flip {B W : World} {V o1 o2 : Nat -> Prop} {g1 g2 : Nat} {s1 s2 : St} (h : T2 B W V o1 g1 s1 o2 g2 s2) : T2 B W V o2 g2 s2 o1 g1 s1 := ⟨h.two, h.one, fun k e e2 => h.apart k e2 e, h.v2, h.v1, h.lt⟩
theorem T2.below {B W W' : World} {V o1 o2 : Nat -> Prop} {g1 g2 : Nat} {s1 s2 : St} (h : T2 B W V o1 g1 s1 o2 g2 s2) (hb : Below W.heap.size W W') : T2 B W' V o1 g1 s1 o2 g2 s2 := ⟨h.one.below hb, h.two.below hb, h.apart, h.v1, h.v2, fun k e => Nat.lt_of_lt_of_le (h.lt k e) hb.size⟩
structure Same (B W1 : World) (V : Nat -> Prop) (W : World) : Prop where
 below : Below B.heap.size B W
 v : ∀ k, V k -> W.heap[k]? = W1.heap[k]?
theorem Same.goes {B W1 W W' : World} {V : Nat -> Prop} (h : Same B W1 V W) (hb : Below B.heap.size B W') (hv : ∀ k, V k -> W'.heap[k]? = W.heap[k]?) : Same B W1 V W' := ⟨hb, fun k e => (hv k e).trans (h.v k e)⟩
theorem Same.step {B W1 W W' : World} {V : Nat -> Prop} (h : Same B W1 V W) (hb : Below W.heap.size W W') (hl : ∀ k, V k -> k < W.heap.size) : Same B W1 V W' := ⟨below_step h.below hb, fun k e => (hb.block k (hl k e)).trans (h.v k e)⟩
theorem Same.row {α : Type} {d : Kd α} {B W1 W : World} {V : Nat -> Prop} {A : Option Addr} {n : Nat} {xs : List α} (h : Same B W1 V W) (hr : Kd.F d W1 V A n xs) : d.C W A n xs := hr W (fun k e _ => h.v k e)
theorem two_row {α : Type} {d : Kd α} {e c n : Nat} {ok : Nat -> Prop} {A : Option Addr} {xs : List α} {B W W' : World} {o1 o2 : Nat -> Prop} {g1 g2 : Nat} {s1 s2 : St} (h1 : T B W o1 g1 s1) (h2 : T B W o2 g2 s2) (hr : d.R e W' W.heap.size ok (.slice A n c) xs) : Rw d W' (fun k => o1 k ∨ o2 k) A n xs :=
 Rw.of_R hr (fun k e => e.elim (h1.lt k) (h2.lt k))
theorem out_two {B W : World} {V o1 o2 : Nat -> Prop} {g1 g2 : Nat} {s1 s2 : St} (h : T2 B W V o1 g1 s1 o2 g2 s2) (sd : List Int) (hsd : s1.send = sd) :
  Calls Tryz.prog 12 #[.pointer (some ⟨g1, 0, none⟩)] W fun e w' => ∃ A c o1', e = .returned (.slice A sd.length c) /\ T2 B w' V o1' g1 { s1 with send := [] } o2 g2 s2 /\
   Kd.F (Kd.int .u8) w' (fun k => ¬ o1' k /\ ¬ o2 k /\ k < w'.heap.size) A sd.length sd /\ Keeps W w' o1 /\ (∀ k, V k -> w'.heap[k]? = W.heap[k]?) := by
 subst hsd
 refine (out_calls h.one.1).mono ?_
 rintro e w' ⟨A, c, o1', rfl, hc, hs, hg, hsub, hF⟩
 refine ⟨A, c, o1', rfl, ⟨h.one.next hg hs (good_out h.one.good), h.two.other hg (below_goes h.one.bel hg h.one.lo) h.apart, fun k e => h.apart k (hsub k e), fun k e => h.v1 k (hsub k e), h.v2, fun k e => Nat.lt_of_lt_of_le (h.lt k e) hg.keeps.size⟩, ?_, hg.keeps, fun k e => hg.keeps.block k (h.lt k e) (fun e2 => h.v1 k e2 e)⟩
 exact Kd.F_mono hF (fun k e => ⟨e.1, h.apart k e.2.1, e.2.2⟩)
theorem row_keeps {α : Type} {d : Kd α} {W W' : World} {o1 o2 : Nat -> Prop} {A : Option Addr} {n : Nat} {xs : List α} (h : Kd.F d W (fun k => ¬ o1 k /\ ¬ o2 k /\ k < W.heap.size) A n xs) (hk : Keeps W W' o2) : d.C W' A n xs := h W' (fun k e hlt => hk.block k hlt e.2.1)
theorem packS_pack {s : St} (hp : s.pack.length <= 800000000) (us : List Line.Ln) (ps : List Int) (hl : us.length <= 200000) (hs : ∀ y ∈ us, y.f1.size <= 4000) : (packS errT s us ps).pack.length <= 800000000 := by
 unfold packS
 cases f : flushF us with
 | none => exact hp
 | some j =>
  by_cases c : fine us ps j
  ·simp only [if_pos c]
   have h1 := sizes_le us hs
   have h2 := Line.joinF_length us
   show (Line.joinF us).length <= _
   omega
  ·simp only [if_neg c]
   exact hp
theorem hearS_pack {s : St} (hB : Line.Bytes s.came) (hz : s.came.length <= 200000) (hp : s.pack.length <= 800000000) : (hearS pushR errT s).pack.length <= 800000000 := by
 obtain ⟨us, ps, ge, he⟩ : ∃ us ps ge, Line.cutF s.came = (us, ps, ge) := ⟨_, _, _, rfl⟩
 have hf := cut_facts s.came hB us ps ge he
 rcases hf.1 with rfl | ⟨rfl, rfl, rfl⟩
 ·by_cases c : s.nx = -1
  ·rw [hear_changes he c]
   unfold changesS
   cases f : flushF us with
   | none => exact hp
   | some i =>
    by_cases d : (pushR (us.take (i + 1))).2 = true
    ·simp only [if_pos d]
     exact packS_pack (s := { s with ups := (pushR (us.take (i + 1))).1, nx := (i : Int) }) hp _ _ (by rw [List.length_drop]; omega) (fun y hy => hf.2.2.1 y (List.mem_of_mem_drop hy))
    ·simp only [if_neg d]
     exact hp
  ·have e : hearS pushR errT s = packS errT s (us.drop (s.nx.toNat + 1)) ps := by
    unfold hearS
    rw [he]
    simp only [if_neg c]
    rfl
   rw [e]
   exact packS_pack hp _ _ (by rw [List.length_drop]; omega) (fun y hy => hf.2.2.1 y (List.mem_of_mem_drop hy))
 ·rw [hear_bad he]
  exact hp
theorem takeS_pack {s : St} (h : Good s) {b : List Int} (hb : Line.Bytes b) (hz : s.came.length + b.length <= 200000) (hp : s.pack.length <= 800000000) : (takeS pushR errT s b).pack.length <= 800000000 := by
 unfold takeS
 by_cases c : s.waits = true
 ·rw [if_pos c]
  by_cases d : b = []
  ·rw [if_pos d]; exact hp
  ·rw [if_neg d]; exact hp
 ·rw [if_neg c]
  by_cases d : s.nx = -2
  ·rw [if_pos d]; exact hp
  ·rw [if_neg d]
   exact hearS_pack (s := { s with came := s.came ++ b }) (h.came.append hb) (by rw [List.length_append]; exact hz) hp
def rdyU (s : St) : List S42 := if s.waits = true then s.ups else []
def rdyP (s : St) : List Int := if s.waits = true then s.pack else []
theorem Alike.rdy {s t : St} (h : Alike s t) : rdyU s = rdyU t /\ rdyP s = rdyP t := by
 unfold rdyU rdyP
 rw [<- h.2.2.1]
 by_cases c : s.waits = true
 ·have h2 := h.2.2.2.2 c
  rw [if_pos c, if_pos c, if_pos c, if_pos c]
  exact h2
 ·rw [if_neg c, if_neg c, if_neg c, if_neg c]
  exact ⟨rfl, rfl⟩
theorem Alike.done {s t : St} (h : Alike s t) : doneS s = doneS t := by
 unfold doneS
 rw [h.2.2.1, h.2.1]
theorem ready_any {B W : World} {own : Nat -> Prop} {g : Nat} {s : St} (h : T B W own g s) (hp : s.pack.length <= 800000000) (xs : List S42) (ys : List Int) (b : Bool) (hx : rdyU s = xs) (hy : rdyP s = ys) (hb : s.waits = b) :
  Calls Tryz.prog 10 #[.pointer (some ⟨g, 0, none⟩)] W fun e w' => ∃ Ax cx Ay cy, e = .returned (.tuple #[.slice Ax xs.length cx, .slice Ay ys.length cy, .bool b]) /\ Kd.R k42 42 w' W.heap.size (fun _ => True) (.slice Ax xs.length cx) xs /\ Kd.R (Kd.int .u8) 5 w' W.heap.size (fun _ => True) (.slice Ay ys.length cy) ys /\ xs.length <= cx /\ ys.length <= cy /\ Below W.heap.size W w' := by
 subst hx hy hb
 refine (ready_calls h.1 (Nat.le_trans h.2.2.2.ups (by decide)) (by omega)).mono ?_
 rintro e w' ⟨hb, h1, h2⟩
 by_cases c : s.waits = true
 ·have e1 : rdyU s = s.ups := if_pos c
  have e2 : rdyP s = s.pack := if_pos c
  rw [e1, e2, c]
  obtain ⟨vx, vy, rfl, hx, hy⟩ := h2 c
  obtain ⟨Ax, cx, rfl⟩ := Kd.R_slice hx
  obtain ⟨Ay, cy, rfl⟩ := Kd.R_slice hy
  exact ⟨Ax, cx, Ay, cy, rfl, hx, hy, (Kd.R_reads' hx).2.1, (Kd.R_reads' hy).2.1, hb⟩
 ·have c2 : s.waits = false := by simpa using c
  have e1 : rdyU s = [] := if_neg c
  have e2 : rdyP s = [] := if_neg c
  rw [e1, e2, c2]
  exact ⟨none, 0, none, 0, h1 c2, Kd.R_nil _ _ _ _ _, Kd.R_nil _ _ _ _ _, Nat.le_refl _, Nat.le_refl _, hb⟩
end Go.Proofs.YtemkgdpfkbpnpaaGreatDoor.Take
