/- A talk with one who pushes, as plain functions: bytes that come in pieces come to the same as at once. -/
import Derived.Test.YtemkgdpfkbpnpaaGreatDoorLinePure
import Derived.Test.YtemkgdpfkbpnpaaGreatDoorLineProg
namespace Go.Proofs.YtemkgdpfkbpnpaaGreatDoor.Take
open Go.RowKit Go.Proofs.YtemkgdpfkbpnpaaGreatDoorW.PrintWords Go.Proofs.YtemkgdpfkbpnpaaGreatDoor.Line Go.Proofs.YtemkgdpfkbpnpaaGreatDoor.Print
structure St where
 came : List Int
 send : List Int
 ups : List S42
 pack : List Int
 nx : Int
 waits : Bool
def flushF : List Ln -> Option Nat
 | [] => none
 | x :: t => if x.f0 = true then some 0 else (flushF t).map (· + 1)
theorem flushF_app (l m : List Ln) : ∀ {i : Nat}, flushF l = some i -> flushF (l ++ m) = some i := by
 induction l with
 | nil => intro i h; cases h
 | cons x t ih =>
  intro i h
  simp only [flushF, List.cons_append] at h ⊢
  by_cases c : x.f0 = true
  ·rw [if_pos c] at h ⊢; exact h
  ·rw [if_neg c] at h ⊢
   cases e : flushF t with
   | none => rw [e] at h; cases h
   | some j => rw [e] at h; rw [ih e]; exact h
theorem flushF_lt (l : List Ln) : ∀ {i : Nat}, flushF l = some i -> i < l.length := by
 induction l with
 | nil => intro i h; cases h
 | cons x t ih =>
  intro i h
  simp only [flushF] at h
  by_cases c : x.f0 = true
  ·rw [if_pos c] at h
   have := Option.some.inj h
   rw [List.length_cons]; omega
  ·rw [if_neg c] at h
   cases e : flushF t with
   | none => rw [e] at h; cases h
   | some j =>
    rw [e] at h
    have := ih e
    have h2 : j + 1 = i := Option.some.inj h
    rw [List.length_cons]; omega
theorem cut_none (n : Nat) (b : List Int) (h : (cutR n b).1 = []) : (cutR n b).2.1 = b := by
 cases n with
 | zero => rfl
 | succ n =>
  by_cases c : b.length < 4
  ·rw [cutR_short _ _ c]
  ·obtain ⟨a, x, y, d, t, rfl⟩ := four b c
   by_cases h1 : len4 a x y d < 0 ∨ (0 < len4 a x y d /\ len4 a x y d <= 4) ∨ 4004 < len4 a x y d
   ·rw [cutR_bad h1]
   ·by_cases h2 : ((a :: x :: y :: d :: t).length : Int) < len4 a x y d
    ·rw [cutR_lack h1 h2]
    ·by_cases h3 : len4 a x y d = 0
     ·rw [cutR_flush h3] at h; cases h
     ·rw [cutR_line h1 h2 h3] at h; cases h
section
variable (push : List Ln -> List S42 × Bool) (err : List Int)
def endS (s : St) : St := { s with send := s.send ++ err, nx := -2, waits := false }
instance lnEq : DecidableEq Ln := fun a b => if h : a.f0 = b.f0 /\ a.f1 = b.f1 then isTrue (by cases a; cases b; simp_all) else isFalse (fun e => h (by subst e; exact ⟨rfl, rfl⟩))
def fine (us : List Ln) (ps : List Int) (j : Nat) : Prop := j + 1 = us.length /\ ps = [] /\ partsF (joinF us) = us
instance (us : List Ln) (ps : List Int) (j : Nat) : Decidable (fine us ps j) := by unfold fine; infer_instance
def packS (s : St) (us : List Ln) (ps : List Int) : St :=
 match flushF us with
 | none => s
 | some j => if fine us ps j then { s with pack := joinF us, nx := -2, waits := true } else endS err s
def hearS (s : St) : St :=
 if (cutF s.came).2.2 = 0 then
  (if s.nx = -1 then
   match flushF (cutF s.came).1 with
   | none => s
   | some i => if (push ((cutF s.came).1.take (i + 1))).2 = true then packS err { s with ups := (push ((cutF s.came).1.take (i + 1))).1, nx := i } ((cutF s.came).1.drop (i + 1)) (cutF s.came).2.1 else endS err s
  else packS err s ((cutF s.came).1.drop (s.nx.toNat + 1)) (cutF s.came).2.1)
 else endS err s
def takeS (s : St) (b : List Int) : St :=
 if s.waits = true then (if b = [] then s else endS err s) else if s.nx = -2 then s else hearS push err { s with came := s.came ++ b }
def Alike (s t : St) : Prop := s.send = t.send /\ s.nx = t.nx /\ s.waits = t.waits /\ (s.nx ≠ -2 -> s.came = t.came /\ s.ups = t.ups) /\ (s.waits = true -> s.ups = t.ups /\ s.pack = t.pack)
theorem Alike.refl (s : St) : Alike s s := ⟨rfl, rfl, rfl, fun _ => ⟨rfl, rfl⟩, fun _ => ⟨rfl, rfl⟩⟩
theorem Alike.trans {s t u : St} (h : Alike s t) (k : Alike t u) : Alike s u := ⟨h.1.trans k.1, h.2.1.trans k.2.1, h.2.2.1.trans k.2.2.1, fun e => ⟨(h.2.2.2.1 e).1.trans (k.2.2.2.1 (h.2.1 ▸ e)).1, (h.2.2.2.1 e).2.trans (k.2.2.2.1 (h.2.1 ▸ e)).2⟩, fun e => ⟨(h.2.2.2.2 e).1.trans (k.2.2.2.2 (h.2.2.1 ▸ e)).1, (h.2.2.2.2 e).2.trans (k.2.2.2.2 (h.2.2.1 ▸ e)).2⟩⟩
theorem endS_alike {s t : St} (h : s.send = t.send) : Alike (endS err s) (endS err t) := ⟨by show s.send ++ _ = t.send ++ _; rw [h], rfl, rfl, fun e => absurd rfl e, fun e => by cases (show false = true from e)⟩
theorem take_wait {s : St} (h : s.waits = true) {b : List Int} (hb : b ≠ []) : takeS push err s b = endS err s := by unfold takeS; rw [if_pos h, if_neg hb]
theorem take_wait_nil {s : St} (h : s.waits = true) : takeS push err s [] = s := by unfold takeS; rw [if_pos h, if_pos rfl]
theorem take_over {s : St} (h : s.waits = false) (h2 : s.nx = -2) (b : List Int) : takeS push err s b = s := by unfold takeS; rw [if_neg (by rw [h]; decide), if_pos h2]
theorem take_hear {s : St} (h : s.waits = false) (h2 : s.nx ≠ -2) (b : List Int) : takeS push err s b = hearS push err { s with came := s.came ++ b } := by unfold takeS; rw [if_neg (by rw [h]; decide), if_neg h2]
theorem fine_more {us m : List Ln} {ps : List Int} {j : Nat} (hj : j < us.length) (h : fine (us ++ m) ps j) : m = [] /\ fine us ps j := by
 have h1 : m = [] := by
  have := h.1
  rw [List.length_append] at this
  exact List.eq_nil_of_length_eq_zero (by omega)
 subst h1
 rw [List.append_nil] at h
 exact ⟨rfl, h⟩
theorem takeS_two (td : List Int) (us0 : List S42) (pk : List Int) (a b : List Int) : Alike (takeS push err (takeS push err ⟨[], td, us0, pk, -1, false⟩ a) b) (takeS push err ⟨[], td, us0, pk, -1, false⟩ (a ++ b)) := by
 have hs : ∀ c : List Int, takeS push err ⟨[], td, us0, pk, -1, false⟩ c = hearS push err ⟨c, td, us0, pk, -1, false⟩ := fun c => take_hear push err rfl (by show (-1 : Int) ≠ -2; decide) c
 rw [hs a, hs (a ++ b)]
 have hover : ∀ s : St, takeS push err (endS err s) b = endS err s := fun s => take_over push err rfl rfl b
 have hend : ∀ c : List Int, ∀ u : St, u.send = td -> Alike (endS err u) (endS err ⟨c, td, us0, pk, -1, false⟩) := fun c u h => endS_alike err h
 obtain ⟨t1, t2⟩ := cutB_two a b
 have n1 : (-1 : Int) = -1 := rfl
 by_cases c : (cutB a).2.2 = 0
 ·have t1 := t1 c
  have c1 : cutF a = ((cutB a).1, (cutB a).2.1, 0) := if_pos c
  by_cases k : (cutB (a ++ b)).2.2 = 0
  ·have c2 : cutF (a ++ b) = ((cutB a).1 ++ (cutB ((cutB a).2.1 ++ b)).1, (cutB ((cutB a).2.1 ++ b)).2.1, 0) := by
    have h : cutF (a ++ b) = ((cutB (a ++ b)).1, (cutB (a ++ b)).2.1, 0) := if_pos k
    rw [h, t1]
   have hrest : (cutB ((cutB a).2.1 ++ b)).1 = [] -> (cutB ((cutB a).2.1 ++ b)).2.1 = (cutB a).2.1 ++ b := fun h => cut_none _ _ h
   generalize (cutB a).1 = us at c1 c2
   generalize (cutB a).2.1 = ps at c1 c2 hrest
   generalize (cutB (ps ++ b)).1 = us2 at c2 hrest
   generalize (cutB (ps ++ b)).2.1 = ps2 at c2 hrest
   cases f : flushF us with
   | none =>
    have e3 : hearS push err ⟨a, td, us0, pk, -1, false⟩ = ⟨a, td, us0, pk, -1, false⟩ := by
     unfold hearS
     simp only [c1, f]
     rw [if_pos trivial, if_pos trivial]
    rw [e3, take_hear push err rfl (by show (-1 : Int) ≠ -2; decide) b]
    exact Alike.refl _
   | some i =>
    have hi := flushF_lt us f
    have f2 : flushF (us ++ us2) = some i := flushF_app _ _ f
    have ht : (us ++ us2).take (i + 1) = us.take (i + 1) := List.take_append_of_le_length (by omega)
    have hd : (us ++ us2).drop (i + 1) = us.drop (i + 1) ++ us2 := List.drop_append_of_le_length (by omega)
    by_cases g : (push (us.take (i + 1))).2 = true
    ·have e3 : hearS push err ⟨a, td, us0, pk, -1, false⟩ = packS err ⟨a, td, (push (us.take (i + 1))).1, pk, i, false⟩ (us.drop (i + 1)) ps := by
      unfold hearS
      simp only [c1, f]
      rw [if_pos trivial, if_pos trivial, if_pos g]
     have e4 : hearS push err ⟨a ++ b, td, us0, pk, -1, false⟩ = packS err ⟨a ++ b, td, (push (us.take (i + 1))).1, pk, i, false⟩ (us.drop (i + 1) ++ us2) ps2 := by
      unfold hearS
      simp only [c2, f2, ht, hd]
      rw [if_pos trivial, if_pos trivial, if_pos g]
     rw [e3, e4]
     have hii : ¬ ((i : Int) = -1) := by omega
     have hi2 : ((i : Nat) : Int) ≠ -2 := by omega
     generalize (push (us.take (i + 1))).1 = u
     unfold packS
     cases f3 : flushF (us.drop (i + 1)) with
     | none =>
      simp only []
      rw [take_hear push err rfl hi2 b]
      have e5 : hearS push err ⟨a ++ b, td, u, pk, i, false⟩ = packS err ⟨a ++ b, td, u, pk, i, false⟩ (us.drop (i + 1) ++ us2) ps2 := by
       unfold hearS
       simp only [c2]
       rw [if_pos trivial, if_neg hii, Int.toNat_natCast, hd]
      show Alike (hearS push err ⟨a ++ b, td, u, pk, i, false⟩) _
      rw [e5]
      unfold packS
      exact Alike.refl _
     | some j =>
      have hj := flushF_lt _ f3
      have f4 : flushF (us.drop (i + 1) ++ us2) = some j := flushF_app _ _ f3
      simp only [f4]
      by_cases q : fine (us.drop (i + 1)) ps j
      ·rw [if_pos q]
       by_cases hb : b = []
       ·subst hb
        rw [take_wait_nil push err rfl]
        by_cases q2 : fine (us.drop (i + 1) ++ us2) ps2 j
        ·have q3 := (fine_more hj q2).1
         rw [if_pos q2, q3, List.append_nil]
         exact ⟨rfl, rfl, rfl, fun e => absurd rfl e, fun _ => ⟨rfl, by simp⟩⟩
        ·exfalso
         apply q2
         rw [List.append_nil] at c2
         have h := c1.symm.trans c2
         simp only [Prod.mk.injEq] at h
         have h3 : us2 = [] := by
          have := congrArg List.length h.1
          rw [List.length_append] at this
          exact List.eq_nil_of_length_eq_zero (by omega)
         rw [h3, List.append_nil, <- h.2.1]
         exact q
       ·rw [take_wait push err rfl hb]
        have q2 : ¬ fine (us.drop (i + 1) ++ us2) ps2 j := fun q2 => by
         obtain ⟨q3, q4⟩ := fine_more hj q2
         have q5 := hrest q3
         rw [q4.2.1, q.2.1, List.nil_append] at q5
         exact hb q5.symm
        rw [if_neg q2]
        exact endS_alike err rfl
      ·rw [if_neg q, hover]
       have q2 : ¬ fine (us.drop (i + 1) ++ us2) ps2 j := fun q2 => by
        obtain ⟨q3, q4⟩ := fine_more hj q2
        have q5 := hrest q3
        rw [q4.2.1] at q5
        have q6 := List.append_eq_nil_iff.1 q5.symm
        exact q ⟨q4.1, q6.1, q4.2.2⟩
       rw [if_neg q2]
       exact endS_alike err rfl
    ·have e3 : hearS push err ⟨a, td, us0, pk, -1, false⟩ = endS err ⟨a, td, us0, pk, -1, false⟩ := by
      unfold hearS
      simp only [c1, f]
      rw [if_pos trivial, if_pos trivial, if_neg g]
     have e4 : hearS push err ⟨a ++ b, td, us0, pk, -1, false⟩ = endS err ⟨a ++ b, td, us0, pk, -1, false⟩ := by
      unfold hearS
      simp only [c2, f2, ht, hd]
      rw [if_pos trivial, if_pos trivial, if_neg g]
     rw [e3, e4, hover]
     exact endS_alike err rfl
  ·have c2 : cutF (a ++ b) = ([], [], 3) := if_neg k
   have e4 : hearS push err ⟨a ++ b, td, us0, pk, -1, false⟩ = endS err ⟨a ++ b, td, us0, pk, -1, false⟩ := by
    unfold hearS
    simp only [c2]
    rw [if_neg (by decide)]
   have hb : b ≠ [] := fun e => k (by rw [e, List.append_nil]; exact c)
   have e6 : ∀ (u : List S42) (x : Int), hearS push err ⟨a ++ b, td, u, pk, x, false⟩ = endS err ⟨a ++ b, td, u, pk, x, false⟩ := fun u x => by
    unfold hearS
    simp only [c2]
    rw [if_neg (by decide)]
   rw [e4]
   generalize (cutB a).1 = us at c1
   generalize (cutB a).2.1 = ps at c1
   cases f : flushF us with
   | none =>
    have e3 : hearS push err ⟨a, td, us0, pk, -1, false⟩ = ⟨a, td, us0, pk, -1, false⟩ := by
     unfold hearS
     simp only [c1, f]
     rw [if_pos trivial, if_pos trivial]
    rw [e3, take_hear push err rfl (by show (-1 : Int) ≠ -2; decide) b]
    show Alike (hearS push err ⟨a ++ b, td, us0, pk, -1, false⟩) _
    rw [e6]
    exact Alike.refl _
   | some i =>
    have hi2 : ((i : Nat) : Int) ≠ -2 := by omega
    by_cases g : (push (us.take (i + 1))).2 = true
    ·have e3 : hearS push err ⟨a, td, us0, pk, -1, false⟩ = packS err ⟨a, td, (push (us.take (i + 1))).1, pk, i, false⟩ (us.drop (i + 1)) ps := by
      unfold hearS
      simp only [c1, f]
      rw [if_pos trivial, if_pos trivial, if_pos g]
     rw [e3]
     generalize (push (us.take (i + 1))).1 = u
     unfold packS
     cases f3 : flushF (us.drop (i + 1)) with
     | none =>
      simp only []
      rw [take_hear push err rfl hi2 b]
      show Alike (hearS push err ⟨a ++ b, td, u, pk, i, false⟩) _
      rw [e6]
      exact endS_alike err rfl
     | some j =>
      by_cases q : fine (us.drop (i + 1)) ps j
      ·simp only [if_pos q]
       rw [take_wait push err rfl hb]
       exact endS_alike err rfl
      ·simp only [if_neg q]
       rw [hover]
       exact endS_alike err rfl
    ·have e3 : hearS push err ⟨a, td, us0, pk, -1, false⟩ = endS err ⟨a, td, us0, pk, -1, false⟩ := by
      unfold hearS
      simp only [c1, f]
      rw [if_pos trivial, if_pos trivial, if_neg g]
     rw [e3, hover]
     exact endS_alike err rfl
 ·have c1 : cutF a = ([], [], 3) := if_neg c
  have c2 : cutF (a ++ b) = ([], [], 3) := if_neg (by rw [(t2 c).2]; decide)
  have e3 : hearS push err ⟨a, td, us0, pk, -1, false⟩ = endS err ⟨a, td, us0, pk, -1, false⟩ := by
   unfold hearS
   simp only [c1]
   rw [if_neg (by decide)]
  have e4 : hearS push err ⟨a ++ b, td, us0, pk, -1, false⟩ = endS err ⟨a ++ b, td, us0, pk, -1, false⟩ := by
   unfold hearS
   simp only [c2]
   rw [if_neg (by decide)]
  rw [e3, e4, hover]
  exact endS_alike err rfl
end
end Go.Proofs.YtemkgdpfkbpnpaaGreatDoor.Take
