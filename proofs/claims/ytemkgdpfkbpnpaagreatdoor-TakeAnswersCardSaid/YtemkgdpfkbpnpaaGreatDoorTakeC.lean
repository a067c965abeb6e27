/- Two talks side by side; what a talk does from each of its states. -/
import Derived.Test.YtemkgdpfkbpnpaaGreatDoorTakeWrong
namespace Go.Proofs.YtemkgdpfkbpnpaaGreatDoor.Take
open Go.RowKit Go.Proofs.YtemkgdpfkbpnpaaGreatDoorW.PrintWords Go.Proofs.YtemkgdpfkbpnpaaGreatDoorW.PrintLast Go.Proofs.YtemkgdpfkbpnpaaGreatDoorW.PrintMore Go.Proofs.YtemkgdpfkbpnpaaGreatDoor.Conv Go.Proofs.YtemkgdpfkbpnpaaGreatDoor.Print
set_option linter.unusedVariables false
theorem u16_of_wf {x : Int} (h : (Lit.int .u16 x).wf = true) : 0 <= x /\ x <= 65535 := by
 simp [Lit.wf, IntKind.min, IntKind.max, IntKind.signed, IntKind.bits] at h
 exact ⟨by omega, by omega⟩
theorem u8_of_wf {x : Int} (h : (Lit.int .u8 x).wf = true) : 0 <= x /\ x <= 255 := by
 simp [Lit.wf, IntKind.min, IntKind.max, IntKind.signed, IntKind.bits] at h
 exact ⟨by omega, by omega⟩
structure T2 (B W : World) (V : Nat -> Prop) (o1 : Nat -> Prop) (g1 : Nat) (s1 : St) (o2 : Nat -> Prop) (g2 : Nat) (s2 : St) : Prop where
 one : T B W o1 g1 s1
 two : T B W o2 g2 s2
 apart : ∀ k, o1 k -> ¬ o2 k
 v1 : ∀ k, o1 k -> ¬ V k
 v2 : ∀ k, o2 k -> ¬ V k
 lt : ∀ k, V k -> k < W.heap.size
theorem T2.below {B W W' : World} {V o1 o2 : Nat -> Prop} {g1 g2 : Nat} {s1 s2 : St} (h : T2 B W V o1 g1 s1 o2 g2 s2) (hb : Below W.heap.size W W') : T2 B W' V o1 g1 s1 o2 g2 s2 := ⟨h.one.below hb, h.two.below hb, h.apart, h.v1, h.v2, fun k e => Nat.lt_of_lt_of_le (h.lt k e) hb.size⟩
structure Same (B W1 : World) (V : Nat -> Prop) (W : World) : Prop where
 below : Below B.heap.size B W
 v : ∀ k, V k -> W.heap[k]? = W1.heap[k]?
theorem Same.step {B W1 W W' : World} {V : Nat -> Prop} (h : Same B W1 V W) (hb : Below W.heap.size W W') (hl : ∀ k, V k -> k < W.heap.size) : Same B W1 V W' := ⟨below_step h.below hb, fun k e => (hb.block k (hl k e)).trans (h.v k e)⟩
theorem Same.row {α : Type} {d : Kd α} {B W1 W : World} {V : Nat -> Prop} {A : Option Addr} {n : Nat} {xs : List α} (h : Same B W1 V W) (hr : Kd.F d W1 V A n xs) : d.C W A n xs := hr W (fun k e _ => h.v k e)
theorem packS_pack {s : St} (hp : s.pack.length <= 800000000) (us : List Line.Ln) (ps : List Int) (hl : us.length <= 200000) (hs : ∀ y ∈ us, y.f1.size <= 4000) : (packS errT s us ps).pack.length <= 800000000 := by
 unfold packS
 cases f : flushF us with
 | none => exact hp
 | some j =>
  by_cases c : fine us ps j
  ·simp only [if_pos c]
   have h1 := sizes_le us hs
   have h2 := Line.joinF_length us
   show (Line.joinF us).length <= _
   omega
  ·simp only [if_neg c]
   exact hp
theorem hearS_pack {s : St} (hB : Line.Bytes s.came) (hz : s.came.length <= 200000) (hp : s.pack.length <= 800000000) : (hearS pushR errT s).pack.length <= 800000000 := by
 obtain ⟨us, ps, ge, he⟩ : ∃ us ps ge, Line.cutF s.came = (us, ps, ge) := ⟨_, _, _, rfl⟩
 have hf := cut_facts s.came hB us ps ge he
 rcases hf.1 with rfl | ⟨rfl, rfl, rfl⟩
 ·by_cases c : s.nx = -1
  ·rw [hear_changes he c]
   unfold changesS
   cases f : flushF us with
   | none => exact hp
   | some i =>
    by_cases d : (pushR (us.take (i + 1))).2 = true
    ·simp only [if_pos d]
     exact packS_pack (s := { s with ups := (pushR (us.take (i + 1))).1, nx := (i : Int) }) hp _ _ (by rw [List.length_drop]; omega) (fun y hy => hf.2.2.1 y (List.mem_of_mem_drop hy))
    ·simp only [if_neg d]
     exact hp
  ·have e : hearS pushR errT s = packS errT s (us.drop (s.nx.toNat + 1)) ps := by
    unfold hearS
    rw [he]
    simp only [if_neg c]
    rfl
   rw [e]
   exact packS_pack hp _ _ (by rw [List.length_drop]; omega) (fun y hy => hf.2.2.1 y (List.mem_of_mem_drop hy))
 ·rw [hear_bad he]
  exact hp
theorem takeS_pack {s : St} (h : Good s) {b : List Int} (hb : Line.Bytes b) (hz : s.came.length + b.length <= 200000) (hp : s.pack.length <= 800000000) : (takeS pushR errT s b).pack.length <= 800000000 := by
 unfold takeS
 by_cases c : s.waits = true
 ·rw [if_pos c]
  by_cases d : b = []
  ·rw [if_pos d]; exact hp
  ·rw [if_neg d]; exact hp
 ·rw [if_neg c]
  by_cases d : s.nx = -2
  ·rw [if_pos d]; exact hp
  ·rw [if_neg d]
   exact hearS_pack (s := { s with came := s.came ++ b }) (h.came.append hb) (by rw [List.length_append]; exact hz) hp
theorem Alike.done {s t : St} (h : Alike s t) : doneS s = doneS t := by
 unfold doneS
 rw [h.2.2.1, h.2.1]
end Go.Proofs.YtemkgdpfkbpnpaaGreatDoor.Take
