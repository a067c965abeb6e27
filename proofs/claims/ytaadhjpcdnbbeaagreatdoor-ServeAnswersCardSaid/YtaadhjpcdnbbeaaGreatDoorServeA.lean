/- A talk with one who fetches, as plain functions: bytes that come in pieces come to the same as at once. -/
import Derived.Test.YtaadhjpcdnbbeaaGreatDoorLinePure
namespace Go.Proofs.YtaadhjpcdnbbeaaGreatDoor.Serve
open Go.RowKit Go.Proofs.YtaadhjpcdnbbeaaGreatDoorW.PrintWords Go.Proofs.YtaadhjpcdnbbeaaGreatDoor.Line
structure St where
 came : List Int
 send : List Int
 wants : List ByteArray
 haves : List ByteArray
 st : Int
def flushF : List Ln -> Option Nat
 | [] => none
 | x :: t => if x.f0 = true then some 0 else (flushF t).map (· + 1)
theorem flushF_app (l m : List Ln) : ∀ {i : Nat}, flushF l = some i -> flushF (l ++ m) = some i := by
 induction l with
 | nil => intro i h; cases h
 | cons x t ih =>
  intro i h
  simp only [flushF, List.cons_append] at h ⊢
  by_cases c : x.f0 = true
  ·rw [if_pos c] at h ⊢; exact h
  ·rw [if_neg c] at h ⊢
   cases e : flushF t with
   | none => rw [e] at h; cases h
   | some j => rw [e] at h; rw [ih e]; exact h
theorem flushF_lt (l : List Ln) : ∀ {i : Nat}, flushF l = some i -> i < l.length := by
 induction l with
 | nil => intro i h; cases h
 | cons x t ih =>
  intro i h
  simp only [flushF] at h
  by_cases c : x.f0 = true
  ·rw [if_pos c] at h
   have := Option.some.inj h
   rw [List.length_cons]; omega
  ·rw [if_neg c] at h
   cases e : flushF t with
   | none => rw [e] at h; cases h
   | some j =>
    rw [e] at h
    have := ih e
    have h2 : j + 1 = i := Option.some.inj h
    rw [List.length_cons]; omega
section
variable (ask : List Ln -> List ByteArray × List ByteArray × Bool) (err : Int -> List Int)
def endS (s : St) (e : Int) : St := { s with send := s.send ++ err e, st := 2 }
def hearS (s : St) : St :=
 match flushF (cutF s.came).1 with
 | none => if (cutF s.came).2.2 = 0 then s else endS err s 3
 | some i => if (cutF s.came).2.2 = 0 /\ (ask ((cutF s.came).1.take (i + 1))).2.2 = true /\ i + 1 = (cutF s.came).1.length /\ (cutF s.came).2.1 = [] then
   { s with wants := (ask ((cutF s.came).1.take (i + 1))).1, haves := (ask ((cutF s.came).1.take (i + 1))).2.1, st := 1 } else endS err s 3
def takeS (s : St) (b : List Int) : St :=
 if s.st = 1 then (if b = [] then s else endS err { s with came := s.came ++ b } 3)
 else if s.st = 0 then hearS ask err { s with came := s.came ++ b } else { s with came := s.came ++ b }
def Alike (s t : St) : Prop := s.came = t.came /\ s.send = t.send /\ s.st = t.st /\ (s.st = 1 -> s.wants = t.wants /\ s.haves = t.haves)
theorem Alike.refl (s : St) : Alike s s := ⟨rfl, rfl, rfl, fun _ => ⟨rfl, rfl⟩⟩
theorem Alike.trans {s t u : St} (h : Alike s t) (k : Alike t u) : Alike s u := ⟨h.1.trans k.1, h.2.1.trans k.2.1, h.2.2.1.trans k.2.2.1, fun e => ⟨(h.2.2.2 e).1.trans (k.2.2.2 (h.2.2.1 ▸ e)).1, (h.2.2.2 e).2.trans (k.2.2.2 (h.2.2.1 ▸ e)).2⟩⟩
theorem cut_none (n : Nat) (b : List Int) (h : (cutR n b).1 = []) : (cutR n b).2.1 = b := by
 cases n with
 | zero => rfl
 | succ n =>
  by_cases c : b.length < 4
  ·rw [cutR_short _ _ c]
  ·obtain ⟨a, x, y, d, t, rfl⟩ := four b c
   by_cases h1 : len4 a x y d < 0 ∨ (0 < len4 a x y d /\ len4 a x y d <= 4) ∨ 4004 < len4 a x y d
   ·rw [cutR_bad h1]
   ·by_cases h2 : ((a :: x :: y :: d :: t).length : Int) < len4 a x y d
    ·rw [cutR_lack h1 h2]
    ·by_cases h3 : len4 a x y d = 0
     ·rw [cutR_flush h3] at h; cases h
     ·rw [cutR_line h1 h2 h3] at h; cases h
theorem takeS_two (s : St) (a b : List Int) (h : s.st = 0 ∨ s.st = 1 ∨ s.st = 2) : Alike (takeS ask err (takeS ask err s a) b) (takeS ask err s (a ++ b)) := by
 rcases h with h | h | h
 ·have e1 : takeS ask err s a = hearS ask err { s with came := s.came ++ a } := by unfold takeS; rw [if_neg (by rw [h]; decide), if_pos h]
  have e2 : takeS ask err s (a ++ b) = hearS ask err { s with came := s.came ++ a ++ b } := by unfold takeS; rw [if_neg (by rw [h]; decide), if_pos h, <- List.append_assoc]
  rw [e1, e2]
  obtain ⟨t1, t2⟩ := cutB_two (s.came ++ a) b
  by_cases c : (cutB (s.came ++ a)).2.2 = 0
  ·have t1 := t1 c
   have c1 : cutF (s.came ++ a) = ((cutB (s.came ++ a)).1, (cutB (s.came ++ a)).2.1, 0) := if_pos c
   cases f : flushF (cutB (s.came ++ a)).1 with
   | none =>
    have e3 : hearS ask err { s with came := s.came ++ a } = { s with came := s.came ++ a } := by
     unfold hearS
     simp only [c1, f]
     rw [if_pos True.intro]
    rw [e3]
    have e4 : takeS ask err { s with came := s.came ++ a } b = hearS ask err { s with came := s.came ++ a ++ b } := by unfold takeS; rw [if_neg (by show ¬ s.st = 1; rw [h]; decide), if_pos (show s.st = 0 from h)]
    rw [e4]
    exact Alike.refl _
   | some i =>
    have hi := flushF_lt _ f
    by_cases g : (ask ((cutB (s.came ++ a)).1.take (i + 1))).2.2 = true /\ i + 1 = (cutB (s.came ++ a)).1.length /\ (cutB (s.came ++ a)).2.1 = []
    ·have e3 : hearS ask err { s with came := s.came ++ a } = { s with came := s.came ++ a, wants := (ask ((cutB (s.came ++ a)).1.take (i + 1))).1, haves := (ask ((cutB (s.came ++ a)).1.take (i + 1))).2.1, st := 1 } := by
      unfold hearS
      simp only [c1, f]
      rw [if_pos ⟨True.intro, g⟩]
     rw [e3]
     by_cases hb : b = []
     ·subst hb
      have e4 : ∀ u : St, u.st = 1 -> takeS ask err u [] = u := fun u hu => by unfold takeS; rw [if_pos hu, if_pos rfl]
      rw [e4 _ rfl, List.append_nil, e3]
      exact Alike.refl _
     ·have e4 : ∀ u : St, u.st = 1 -> takeS ask err u b = endS err { u with came := u.came ++ b } 3 := fun u hu => by unfold takeS; rw [if_pos hu, if_neg hb]
      rw [e4 _ rfl]
      have e5 : hearS ask err { s with came := s.came ++ a ++ b } = endS err { s with came := s.came ++ a ++ b } 3 := by
       unfold hearS
       by_cases k : (cutB (s.came ++ a ++ b)).2.2 = 0
       ·have c2 : cutF (s.came ++ a ++ b) = ((cutB (s.came ++ a ++ b)).1, (cutB (s.came ++ a ++ b)).2.1, 0) := if_pos k
        have f2 : flushF (cutB (s.came ++ a ++ b)).1 = some i := by rw [t1]; exact flushF_app _ _ f
        simp only [c2, f2]
        rw [if_neg]
        rintro ⟨_, _, q1, q2⟩
        rw [t1] at q1 q2
        simp only [List.length_append] at q1
        have q3 : (cutB ((cutB (s.came ++ a)).2.1 ++ b)).1 = [] := List.eq_nil_of_length_eq_zero (by omega)
        have q4 := cut_none _ _ q3
        have q5 : (cutB ((cutB (s.came ++ a)).2.1 ++ b)).2.1 = (cutB (s.came ++ a)).2.1 ++ b := q4
        rw [q5, g.2.2] at q2
        exact hb q2
       ·have c2 : cutF (s.came ++ a ++ b) = ([], [], 3) := if_neg k
        simp only [c2, flushF]
        rw [if_neg (by decide)]
      rw [e5]
      exact ⟨rfl, rfl, rfl, fun e => by cases (show (2 : Int) = 1 from e)⟩
    ·have e3 : hearS ask err { s with came := s.came ++ a } = endS err { s with came := s.came ++ a } 3 := by
      unfold hearS
      simp only [c1, f]
      rw [if_neg (fun e => g e.2)]
     have e4 : ∀ u : St, u.st = 2 -> takeS ask err u b = { u with came := u.came ++ b } := fun u hu => by unfold takeS; rw [if_neg (by rw [hu]; decide), if_neg (by rw [hu]; decide)]
     rw [e3, e4 _ rfl]
     have e5 : hearS ask err { s with came := s.came ++ a ++ b } = endS err { s with came := s.came ++ a ++ b } 3 := by
      unfold hearS
      by_cases k : (cutB (s.came ++ a ++ b)).2.2 = 0
      ·have c2 : cutF (s.came ++ a ++ b) = ((cutB (s.came ++ a ++ b)).1, (cutB (s.came ++ a ++ b)).2.1, 0) := if_pos k
       have f2 : flushF (cutB (s.came ++ a ++ b)).1 = some i := by rw [t1]; exact flushF_app _ _ f
       simp only [c2, f2]
       rw [if_neg]
       rintro ⟨_, q0, q1, q2⟩
       rw [t1] at q0 q1 q2
       simp only [List.length_append] at q1
       have q3 : (cutB ((cutB (s.came ++ a)).2.1 ++ b)).1 = [] := List.eq_nil_of_length_eq_zero (by omega)
       have q5 : (cutB ((cutB (s.came ++ a)).2.1 ++ b)).2.1 = (cutB (s.came ++ a)).2.1 ++ b := cut_none _ _ q3
       rw [q5] at q2
       have q6 := List.append_eq_nil_iff.1 q2
       simp only [q3, List.append_nil] at q0
       exact g ⟨q0, by rw [q3, List.length_nil] at q1; omega, q6.1⟩
      ·have c2 : cutF (s.came ++ a ++ b) = ([], [], 3) := if_neg k
       simp only [c2, flushF]
       rw [if_neg (by decide)]
     rw [e5]
     exact ⟨rfl, rfl, rfl, fun e => by cases (show (2 : Int) = 1 from e)⟩
  ·have c1 : cutF (s.came ++ a) = ([], [], 3) := if_neg c
   have c2 : cutF (s.came ++ a ++ b) = ([], [], 3) := if_neg (by rw [(t2 c).2]; decide)
   have e3 : hearS ask err { s with came := s.came ++ a } = endS err { s with came := s.came ++ a } 3 := by
    unfold hearS
    simp only [c1, flushF]
    rw [if_neg (by decide)]
   have e4 : ∀ u : St, u.st = 2 -> takeS ask err u b = { u with came := u.came ++ b } := fun u hu => by unfold takeS; rw [if_neg (by rw [hu]; decide), if_neg (by rw [hu]; decide)]
   have e5 : hearS ask err { s with came := s.came ++ a ++ b } = endS err { s with came := s.came ++ a ++ b } 3 := by
    unfold hearS
    simp only [c2, flushF]
    rw [if_neg (by decide)]
   rw [e3, e4 _ rfl, e5]
   exact ⟨rfl, rfl, rfl, fun e => by cases (show (2 : Int) = 1 from e)⟩
 ·unfold takeS
  by_cases ha : a = []
  ·subst ha
   simp only [h, if_pos, List.nil_append]
   exact Alike.refl _
  ·have hab : a ++ b ≠ [] := fun e => ha (List.append_eq_nil_iff.1 e).1
   simp only [h, if_pos, if_neg ha, if_neg hab]
   show Alike (if (2 : Int) = 1 then _ else if (2 : Int) = 0 then _ else _) _
   rw [if_neg (by decide), if_neg (by decide)]
   exact ⟨List.append_assoc _ _ _, rfl, rfl, fun e => by cases (show (2 : Int) = 1 from e)⟩
 ·have e4 : ∀ (u : St) (c : List Int), u.st = 2 -> takeS ask err u c = { u with came := u.came ++ c } := fun u c hu => by unfold takeS; rw [if_neg (by rw [hu]; decide), if_neg (by rw [hu]; decide)]
  rw [e4 s a h, e4 { s with came := s.came ++ a } b h, e4 s _ h]
  exact ⟨List.append_assoc _ _ _, rfl, rfl, fun e => by rw [h] at e; cases e⟩
theorem takeS_whole (s : St) (ls : List Ln) (h0 : s.st = 0) (hc : s.came = []) (hok : ls.all okL = true) (hf : flushF ls = some (ls.length - 1)) (ha : (ask ls).2.2 = true) :
  takeS ask err s (ls.flatMap encL) = { s with came := ls.flatMap encL, wants := (ask ls).1, haves := (ask ls).2.1, st := 1 } := by
 have hlt := flushF_lt ls hf
 have e1 : takeS ask err s (ls.flatMap encL) = hearS ask err { s with came := ls.flatMap encL } := by
  unfold takeS
  rw [if_neg (by rw [h0]; decide), if_pos h0, hc, List.nil_append]
 have e2 : ls.take (ls.length - 1 + 1) = ls := by rw [show ls.length - 1 + 1 = ls.length by omega, List.take_length]
 rw [e1]
 unfold hearS
 simp only [cutF_enc ls hok, hf, e2]
 rw [if_pos ⟨True.intro, ha, by omega, True.intro⟩]
theorem takeS_early (s : St) (a b : List Int) (h : s.st = 0 ∨ s.st = 1 ∨ s.st = 2) (hb : b ≠ []) (h1 : (takeS ask err s (a ++ b)).st = 1) : (takeS ask err s a).st ≠ 1 := fun e => by
 have h2 := (takeS_two ask err s a b h).2.2.1
 have h3 : takeS ask err (takeS ask err s a) b = endS err { takeS ask err s a with came := (takeS ask err s a).came ++ b } 3 := by
  unfold takeS at e ⊢
  rw [if_pos e, if_neg hb]
 rw [h3, h1] at h2
 cases (show (2 : Int) = 1 from h2)
end
end Go.Proofs.YtaadhjpcdnbbeaaGreatDoor.Serve
