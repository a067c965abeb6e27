/- A talk's state stays good, whatever it takes. -/
import Derived.Test.YtaadhjpcdnbbeaaGreatDoorServeHeadP
namespace Go.Proofs.YtaadhjpcdnbbeaaGreatDoor.Serve
open Go.RowKit Go.Proofs.YtaadhjpcdnbbeaaGreatDoorW.PrintWords Go.Proofs.YtaadhjpcdnbbeaaGreatDoorW.PrintLast Go.Proofs.YtaadhjpcdnbbeaaGreatDoorW.PrintMore Go.Proofs.YtaadhjpcdnbbeaaGreatDoor.Conv Go.Proofs.YtaadhjpcdnbbeaaGreatDoor.Print Go.Proofs.YtaadhjpcdnbbeaaGreatDoor.Line
set_option linter.unusedVariables false
theorem askR_small (x : List Ln) (hl : x.length <= 1000000) (hs : ∀ y ∈ x, y.f1.size <= 100000) : Hello.namesF (askR x).1 64 = true /\ Hello.namesF (askR x).2.1 256 = true := by
 obtain ⟨r, hr, h⟩ := Hello.asked_eq x hl hs (k := 6000000) (by omega)
 have e : askR x = r := by unfold askR; rw [hr]; rfl
 rw [e]
 rcases h with ⟨h, rfl⟩ | ⟨_, rfl⟩
 ·have := Hello.ask_first h
  exact ⟨this.2.2.1, this.2.2.2⟩
 ·exact ⟨rfl, rfl⟩
theorem names_len {l : List ByteArray} {n : Nat} (h : Hello.namesF l n = true) : l.length <= n := by
 unfold Hello.namesF at h
 rw [Bool.and_eq_true] at h
 have := of_decide_eq_true h.1
 omega
structure Good (s : St) : Prop where
 st : s.st = 0 ∨ s.st = 1 ∨ s.st = 2
 wants : Hello.namesF s.wants 64 = true
 haves : Hello.namesF s.haves 256 = true
 came : Bytes s.came
theorem errT3_len : (errT 3).length <= 8008 := by
 rw [errT3]
 exact putF_len [errL ⟨#[51]⟩, ⟨true, ⟨#[]⟩⟩]
theorem hearS_good {s : St} (h : Good s) (hz : s.came.length <= 20000) : Good (hearS askR errT s) /\ (hearS askR errT s).came = s.came /\ ((hearS askR errT s).send = s.send ∨ (hearS askR errT s).send = s.send ++ errT 3) := by
 obtain ⟨us, ps, ge, he⟩ : ∃ us ps ge, cutF s.came = (us, ps, ge) := ⟨_, _, _, rfl⟩
 have hf := cut_facts s.came h.came us ps ge he
 unfold hearS
 rw [he]
 cases f : flushF us with
 | none =>
  by_cases c : ge = 0
  ·simp only [if_pos c]
   exact ⟨h, by trivial, Or.inl (by trivial)⟩
  ·simp only [if_neg c]
   exact ⟨⟨Or.inr (Or.inr rfl), h.wants, h.haves, h.came⟩, rfl, Or.inr rfl⟩
 | some i =>
  have ha := askR_small (us.take (i + 1)) (by rw [List.length_take]; omega) (fun y hy => by have := hf.2.2.1 y (List.mem_of_mem_take hy); omega)
  by_cases c : ge = 0 /\ (askR (us.take (i + 1))).2.2 = true /\ i + 1 = us.length /\ ps = []
  ·simp only [if_pos c]
   exact ⟨⟨Or.inr (Or.inl rfl), ha.1, ha.2, h.came⟩, by trivial, Or.inl (by trivial)⟩
  ·simp only [if_neg c]
   exact ⟨⟨Or.inr (Or.inr rfl), h.wants, h.haves, h.came⟩, rfl, Or.inr rfl⟩
theorem bytes_app {a b : List Int} (ha : Bytes a) (hb : Bytes b) : Bytes (a ++ b) := fun x hx => (List.mem_append.1 hx).elim (ha x) (hb x)
theorem takeS_good {s : St} (h : Good s) {b : List Int} (hb : Bytes b) (hz : s.came.length + b.length <= 20000) : Good (takeS askR errT s b) /\ (takeS askR errT s b).came = s.came ++ b /\ ((takeS askR errT s b).send = s.send ∨ (takeS askR errT s b).send = s.send ++ errT 3) := by
 have h2 : Good { s with came := s.came ++ b } := ⟨h.st, h.wants, h.haves, bytes_app h.came hb⟩
 unfold takeS
 by_cases c : s.st = 1
 ·rw [if_pos c]
  by_cases d : b = []
  ·rw [if_pos d, d, List.append_nil]
   exact ⟨h, rfl, Or.inl rfl⟩
  ·rw [if_neg d]
   exact ⟨⟨Or.inr (Or.inr rfl), h.wants, h.haves, bytes_app h.came hb⟩, rfl, Or.inr rfl⟩
 ·rw [if_neg c]
  by_cases d : s.st = 0
  ·rw [if_pos d]
   exact hearS_good h2 (by rw [List.length_append]; exact hz)
  ·rw [if_neg d]
   exact ⟨h2, rfl, Or.inl rfl⟩
theorem good_new (t : List Int) : Good ⟨[], t, [], [], 0⟩ := ⟨Or.inl rfl, rfl, rfl, fun x hx => by cases hx⟩
theorem good_out {s : St} (h : Good s) : Good { s with send := [] } := ⟨h.st, h.wants, h.haves, h.came⟩
theorem good_over {s : St} (h : Good s) (t : List Int) : Good { s with send := t, st := 2 } := ⟨Or.inr (Or.inr rfl), h.wants, h.haves, h.came⟩
theorem takeS_sendlen {s : St} (h : Good s) {b : List Int} (hb : Bytes b) (hz : s.came.length + b.length <= 20000) : (takeS askR errT s b).send.length <= s.send.length + 8008 := by
 have h3 := errT3_len
 rcases (takeS_good h hb hz).2.2 with e | e
 ·rw [e]; omega
 ·rw [e, List.length_append]; omega
end Go.Proofs.YtaadhjpcdnbbeaaGreatDoor.Serve
