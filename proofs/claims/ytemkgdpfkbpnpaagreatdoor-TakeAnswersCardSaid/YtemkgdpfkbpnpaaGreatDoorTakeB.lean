/- The state of a talk with one who pushes stays good, whatever it takes. -/
import Derived.Test.YtemkgdpfkbpnpaaGreatDoorTakeTake
namespace Go.Proofs.YtemkgdpfkbpnpaaGreatDoor.Take
open Go.RowKit Go.Proofs.YtemkgdpfkbpnpaaGreatDoorW.PrintWords Go.Proofs.YtemkgdpfkbpnpaaGreatDoorW.PrintLast Go.Proofs.YtemkgdpfkbpnpaaGreatDoorW.PrintMore Go.Proofs.YtemkgdpfkbpnpaaGreatDoor.Conv Go.Proofs.YtemkgdpfkbpnpaaGreatDoor.Print Go.Proofs.YtemkgdpfkbpnpaaGreatDoor.Line
open Go.Proofs.YtemkgdpfkbpnpaaGreatDoor.Hello hiding Ln cutF
set_option linter.unusedVariables false
theorem pushR_good (x : List Ln) (hl : x.length <= 1000000) (hs : ∀ y ∈ x, y.f1.size <= 100000) : (pushR x).1.length <= 16 /\ (pushR x).1.all okU = true := by
 obtain ⟨r, hr, h⟩ := Hello.pushed_eq x hl hs (k := 6000000) (by omega)
 have e : pushR x = r := by unfold pushR; rw [hr]; rfl
 rw [e]
 rcases h with ⟨h, rfl⟩ | ⟨_, rfl⟩
 ·have := Hello.push_first h
  exact ⟨this.2.2.2, this.2.1⟩
 ·exact ⟨by simp, rfl⟩
structure Good (s : St) : Prop where
 nx : -2 <= s.nx
 waits : s.waits = true -> s.nx = -2
 inn : 0 <= s.nx -> (cutB s.came).2.2 = 0 /\ s.nx < (cutB s.came).1.length
 ups : s.ups.length <= 16
 ok : s.ups.all okU = true
 came : Bytes s.came
theorem good_in {s : St} (h : Good s) (b : List Int) : ∀ us ps, cutF (s.came ++ b) = (us, ps, 0) -> s.nx < us.length := by
 intro us ps e
 by_cases c : 0 <= s.nx
 ·obtain ⟨h1, h2⟩ := h.inn c
  have h3 := (cutB_two s.came b).1 h1
  unfold Line.cutF at e
  rw [h3] at e
  split at e
  ·have e2 : (cutB s.came).1 ++ (cutB ((cutB s.came).2.1 ++ b)).1 = us := congrArg (fun x => x.1) e
   rw [<- e2, List.length_append]
   omega
  ·have e2 := congrArg (fun x => x.2.2) e
   exact absurd e2 (by show ¬ ((3 : Int) = 0); decide)
 ·omega
theorem good_end0 {s : St} (h1 : s.ups.length <= 16) (h2 : s.ups.all okU = true) (h3 : Bytes s.came) : Good (endS errT s) := ⟨(by decide : (-2 : Int) <= -2), fun _ => rfl, fun e => absurd e (by decide : ¬ (0 : Int) <= -2), h1, h2, h3⟩
theorem good_end {s : St} (h : Good s) : Good (endS errT s) := good_end0 h.ups h.ok h.came
theorem good_packed {s : St} (h : Good s) (us : List Ln) (ps : List Int) : Good (packS errT s us ps) /\ (packS errT s us ps).came = s.came /\ ((packS errT s us ps).send = s.send ∨ (packS errT s us ps).send = s.send ++ errT) := by
 unfold packS
 cases f : flushF us with
 | none => exact ⟨h, rfl, Or.inl rfl⟩
 | some j =>
  by_cases c : fine us ps j
  ·simp only [if_pos c]
   exact ⟨⟨(by decide : (-2 : Int) <= -2), fun _ => rfl, fun e => absurd e (by decide : ¬ (0 : Int) <= -2), h.ups, h.ok, h.came⟩, by trivial, Or.inl (by trivial)⟩
  ·simp only [if_neg c]
   exact ⟨good_end h, by trivial, Or.inr (by trivial)⟩
theorem hearS_good {s : St} (g1 : -2 <= s.nx) (g2 : s.waits = true -> s.nx = -2) (g3 : s.ups.length <= 16) (g4 : s.ups.all okU = true) (g5 : Bytes s.came) (hin : ∀ us ps, cutF s.came = (us, ps, 0) -> s.nx < us.length) (hz : s.came.length <= 200000) : Good (hearS pushR errT s) /\ (hearS pushR errT s).came = s.came /\ ((hearS pushR errT s).send = s.send ∨ (hearS pushR errT s).send = s.send ++ errT) := by
 obtain ⟨us, ps, ge, he⟩ : ∃ us ps ge, cutF s.came = (us, ps, ge) := ⟨_, _, _, rfl⟩
 have hf := cut_facts s.came g5 us ps ge he
 rcases hf.1 with rfl | ⟨rfl, rfl, rfl⟩
 ·have hcb : (cutB s.came).2.2 = 0 /\ (cutB s.came).1 = us := by
   unfold Line.cutF at he
   split at he
   ·rename_i c
    exact ⟨c, congrArg (fun x => x.1) he⟩
   ·exact absurd (congrArg (fun x => x.2.2) he) (by show ¬ ((3 : Int) = 0); decide)
  have h : Good s := ⟨g1, g2, fun _ => ⟨hcb.1, by rw [hcb.2]; exact hin us ps he⟩, g3, g4, g5⟩
  by_cases c : s.nx = -1
  ·rw [hear_changes he c]
   unfold changesS
   cases f : flushF us with
   | none => exact ⟨h, rfl, Or.inl rfl⟩
   | some i =>
    have ha := pushR_good (us.take (i + 1)) (by rw [List.length_take]; omega) (fun y hy => by have := hf.2.2.1 y (List.mem_of_mem_take hy); omega)
    by_cases d : (pushR (us.take (i + 1))).2 = true
    ·simp only [if_pos d]
     have hlt := flushF_lt us f
     exact good_packed (s := { s with ups := (pushR (us.take (i + 1))).1, nx := (i : Int) }) ⟨by show (-2 : Int) <= (i : Int); omega, fun e => absurd (h.waits e) (by omega), fun _ => ⟨hcb.1, by show (i : Int) < _; rw [hcb.2]; omega⟩, ha.1, ha.2, h.came⟩ _ _
    ·simp only [if_neg d]
     exact ⟨good_end h, by trivial, Or.inr (by trivial)⟩
  ·have e : hearS pushR errT s = packS errT s (us.drop (s.nx.toNat + 1)) ps := by
    unfold hearS
    rw [he]
    simp only [if_neg c]
    rfl
   rw [e]
   exact good_packed h _ _
 ·rw [hear_bad he]
  exact ⟨good_end0 g3 g4 g5, rfl, Or.inr rfl⟩
theorem takeS_good {s : St} (h : Good s) {b : List Int} (hb : Bytes b) (hz : s.came.length + b.length <= 200000) : Good (takeS pushR errT s b) /\ (takeS pushR errT s b).came.length <= s.came.length + b.length /\ ((takeS pushR errT s b).send = s.send ∨ (takeS pushR errT s b).send = s.send ++ errT) := by
 unfold takeS
 by_cases c : s.waits = true
 ·rw [if_pos c]
  by_cases d : b = []
  ·rw [if_pos d]
   exact ⟨h, by omega, Or.inl rfl⟩
  ·rw [if_neg d]
   exact ⟨good_end h, by show s.came.length <= _; omega, Or.inr rfl⟩
 ·rw [if_neg c]
  by_cases d : s.nx = -2
  ·rw [if_pos d]
   exact ⟨h, by omega, Or.inl rfl⟩
  ·rw [if_neg d]
   have h3 := hearS_good (s := { s with came := s.came ++ b }) h.nx h.waits h.ups h.ok (h.came.append hb) (good_in h b) (by rw [List.length_append]; exact hz)
   exact ⟨h3.1, by rw [h3.2.1, List.length_append]; exact Nat.le_refl _, h3.2.2⟩
theorem good_new (t : List Int) : Good ⟨[], t, [], [], -1, false⟩ := ⟨(by decide : (-2 : Int) <= -1), (fun e => absurd e (by decide : ¬ false = true)), (fun e => absurd e (by decide : ¬ (0 : Int) <= -1)), (by decide : (0 : Nat) <= 16), rfl, fun x hx => by cases hx⟩
theorem good_out {s : St} (h : Good s) : Good { s with send := [] } := ⟨h.nx, h.waits, h.inn, h.ups, h.ok, h.came⟩
theorem good_over {s : St} (h : Good s) (t : List Int) (hw : s.waits = true) : Good { s with send := t, waits := false } := ⟨h.nx, (fun e => absurd e (by decide : ¬ false = true)), h.inn, h.ups, h.ok, h.came⟩
theorem takeS_sendlen {s : St} (h : Good s) {b : List Int} (hb : Bytes b) (hz : s.came.length + b.length <= 200000) : (takeS pushR errT s b).send.length <= s.send.length + 8008 := by
 have h3 := errT_len
 rcases (takeS_good h hb hz).2.2 with e | e
 ·rw [e]; omega
 ·rw [e, List.length_append]; omega
end Go.Proofs.YtemkgdpfkbpnpaaGreatDoor.Take
