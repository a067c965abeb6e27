/- What talks begin with, the reference's part: what is heard, asked and pushed is what the program hears. -/
import Derived.Test.YtmmionafcmnfoaaDoorHelloT
import Derived.Test.YtmmionafcmnfoaaDoorPTellD
namespace Go.Proofs.YtmmionafcmnfoaaDoor.Hello
open Go.RowKit Go.Proofs.YtmmionafcmnfoaaDoorW.PrintWords Go.Proofs.YtmmionafcmnfoaaDoorW.PrintLast Go.Proofs.YtmmionafcmnfoaaDoorW.PrintMore Go.Proofs.YtmmionafcmnfoaaDoor.Conv Go.Proofs.YtmmionafcmnfoaaDoor.Print
def rrefGo : List ByteArray -> List Rf -> Option (List Rf)
 | [], out => some out
 | s :: t, out => cond (decide (s.size < 65)) none (rrefGo t (out ++ [⟨s.extract 65 s.size, s.extract 0 64⟩]))
theorem rheard_fin (x : List Ln) (h : ByteArray) (q : List Rf) (hq : q.length <= 20000) {k : Nat} (hk : 500000000 <= k) : ∃ r, ((q6_Told.f k h q).bind fun b => (if b.2 = true then ((q5_Same.f k b.1 x).bind fun t => (if t = true then (some (h, q, true)) else (some ((⟨#[]⟩ : ByteArray), ([] : List Rf), false)))) else (some ((⟨#[]⟩ : ByteArray), ([] : List Rf), false)))) = some r /\ ((toldF h q = (x, true) /\ r = (h, q, true)) ∨ (toldF h q ≠ (x, true) /\ r = (⟨#[]⟩, [], false))) := by
 rw [rtold_eq h q hq hk]
 simp only [Option.bind_some]
 have hl := told_len h q
 obtain ⟨t, ht, hi⟩ := rsame_eq (toldF h q).1 x (by omega) (k := k) (by omega)
 by_cases a : (toldF h q).2 = true
 ·rw [if_pos a, ht]
  simp only [Option.bind_some]
  by_cases b : t = true
  ·rw [if_pos b]
   exact ⟨_, rfl, Or.inl ⟨Prod.ext (hi.1 b) a, rfl⟩⟩
  ·rw [if_neg b]
   exact ⟨_, rfl, Or.inr ⟨fun e => b (hi.2 (by rw [e])), rfl⟩⟩
 ·rw [if_neg a]
  exact ⟨_, rfl, Or.inr ⟨fun e => a (by rw [e]), rfl⟩⟩
theorem rheard_loop (x : List Ln) (ts : List ByteArray) (h : ByteArray) (hl : ts.length <= 20000) : ∀ (d i k : Nat) (out : List Rf), i + d = ts.length -> out.length <= i -> d + 500000001 <= k ->
  ∃ r, q6_Heard.l0 k x ts h out (i : Int) = some r /\ ((∃ q, rrefGo (ts.drop i) out = some q /\ toldF h q = (x, true) /\ r = (h, q, true)) ∨ ((∀ q, rrefGo (ts.drop i) out = some q -> toldF h q ≠ (x, true)) /\ r = (⟨#[]⟩, [], false))) := by
 intro d
 induction d with
 | zero =>
  intro i k out hi ho hk
  obtain ⟨k, rfl⟩ : ∃ j, k = j + 1 := ⟨k - 1, by omega⟩
  obtain ⟨r, hr, hc⟩ := rheard_fin x h out (by omega) (k := k) (by omega)
  simp only [q6_Heard.l0]
  rw [if_neg (by omega), List.drop_eq_nil_of_le (by omega)]
  refine ⟨r, hr, ?_⟩
  rcases hc with ⟨a, b⟩ | ⟨a, b⟩
  ·exact Or.inl ⟨out, rfl, a, b⟩
  ·exact Or.inr ⟨fun q e => by rw [<- Option.some.inj (show some out = some q from e)]; exact a, b⟩
 | succ d ih =>
  intro i k out hi ho hk
  obtain ⟨k, rfl⟩ : ∃ j, k = j + 1 := ⟨k - 1, by omega⟩
  have hlt : i < ts.length := by omega
  simp only [q6_Heard.l0]
  rw [if_pos (by omega), if_pos (by omega), rd_get ts i hlt, List.drop_eq_getElem_cons hlt]
  simp only [rrefGo]
  by_cases a : (ts[i].size : Int) < 65
  ·rw [if_pos a, decide_eq_true (by omega)]
   exact ⟨_, rfl, Or.inr ⟨fun q e => (by rw [cond_true] at e; cases e), rfl⟩⟩
  ·rw [if_neg a, if_pos (by omega), if_pos (by omega), if_pos (by omega), if_pos (by omega), w64 (by omega) (by omega), show ((i : Int) + 1) = ((i + 1 : Nat) : Int) by omega, decide_eq_false (by omega)]
   exact ih (i + 1) k _ (by omega) (by rw [List.length_append]; simp; omega) (by omega)
def rheadF (x : List Ln) : ByteArray := (rdOf ByteArray.empty (rtextsF x).1 0).extract 14 (rdOf ByteArray.empty (rtextsF x).1 0).size
theorem rheard_eq (x : List Ln) (hl : x.length <= 20000) (hs : ∀ y ∈ x, y.f1.size <= 100000) {k : Nat} (hk : 600000000 <= k) :
  ∃ r, q6_Heard.f k x = some r /\ ((∃ h q, toldF h q = (x, true) /\ r = (h, q, true)) ∨ ((∀ h q, toldF h q ≠ (x, true)) /\ r = (⟨#[]⟩, [], false))) := by
 obtain ⟨k, rfl⟩ : ∃ j, k = j + 1 := ⟨k - 1, by omega⟩
 have hb := rtexts_small 100000 x hs
 have back : ∀ h q, toldF h q = (x, true) -> rtextsF x = (toldT h q, true) /\ ∀ y ∈ q, y.f1.size = 64 := fun h q e => by
  have e1 := told_first e
  have e2 := rightGo_out q q none e1.2.2
  exact ⟨by rw [e1.1, rtexts_ends], fun y hy => id_size (e2.2 y hy).2⟩
 have ht : q6_Heard.j0 (k + 1) x (rtextsF x).1 true = some (⟨#[]⟩, [], false) := by
  simp only [q6_Heard.j0]
  rw [if_pos True.intro]
 unfold q6_Heard.f
 rw [rtexts_eq x (fun y hy => by have := hs y hy; omega) (by omega) (by omega)]
 simp only [Option.bind_some]
 by_cases a : (rtextsF x).2 = true
 ·rw [if_pos a]
  by_cases b : ((rtextsF x).1.length : Int) = 0
  ·rw [if_pos b, ht]
   exact ⟨_, rfl, Or.inr ⟨fun h q e => by have := (back h q e).1; rw [this] at b; simp [toldT] at b; omega, rfl⟩⟩
  ·rw [if_neg b, if_pos (by omega)]
   by_cases c : ((rdOf ByteArray.empty (rtextsF x).1 0).size : Int) < 14
   ·rw [decide_eq_true c, ht]
    refine ⟨_, rfl, Or.inr ⟨fun h q e => ?_, rfl⟩⟩
    rw [(back h q e).1] at c
    have e3 : (rdOf ByteArray.empty (toldT h q, true).1 0).size = 14 + h.size := by
     show (titleT ++ h).size = _
     rw [ByteArray.size_append]; rfl
    omega
   ·rw [decide_eq_false c]
    obtain ⟨r, hr, hc⟩ := rheard_loop x (rtextsF x).1 (rheadF x) (by omega) ((rtextsF x).1.length - 1) 1 k [] (by omega) (by simp) (by omega)
    simp only [q6_Heard.j0]
    rw [if_neg (by simp), if_pos (by omega), if_pos (by omega)]
    refine ⟨r, hr, ?_⟩
    rcases hc with ⟨q, _, e1, e2⟩ | ⟨e1, e2⟩
    ·exact Or.inl ⟨_, q, e1, e2⟩
    ·refine Or.inr ⟨fun h q e => ?_, e2⟩
     have e3 := back h q e
     have e4 : rheadF x = h := by
      unfold rheadF
      rw [e3.1]
      show (titleT ++ h).extract 14 (titleT ++ h).size = h
      exact ByteArray.extract_append_eq_right rfl ByteArray.size_append
     have e5 : ∀ (l out : List Rf), (∀ y ∈ l, y.f1.size = 64) -> rrefGo (l.map refT) out = some (out ++ l) := by
      intro l
      induction l with
      | nil => intro out _; simp [rrefGo]
      | cons y t ih =>
       intro out hy
       have h64 := hy y (by simp)
       have hz := refT_size y
       have x1 : (refT y).extract 0 64 = y.f1 := by
        show ((y.f1 ++ (⟨#[32]⟩ : ByteArray)) ++ y.f0).extract 0 64 = y.f1
        rw [ByteArray.append_assoc]
        exact ByteArray.extract_append_eq_left h64.symm
       have x2 : (refT y).extract 65 (refT y).size = y.f0 := by
        show ((y.f1 ++ (⟨#[32]⟩ : ByteArray)) ++ y.f0).extract 65 ((y.f1 ++ (⟨#[32]⟩ : ByteArray)) ++ y.f0).size = y.f0
        exact ByteArray.extract_append_eq_right (by rw [ByteArray.size_append, h64]; rfl) ByteArray.size_append
       simp only [List.map_cons, rrefGo]
       rw [decide_eq_false (by omega), cond_false, x1, x2, ih _ (fun z hz => hy z (by simp [hz])), List.append_assoc]
       rfl
     have e6 : rrefGo ((rtextsF x).1.drop 1) [] = some q := by
      rw [e3.1]
      show rrefGo (q.map refT) [] = some q
      rw [e5 q [] e3.2]
      rfl
     have e7 := e1 q e6
     rw [e4] at e7
     exact e7 e
 ·rw [if_neg a, ht]
  exact ⟨_, rfl, Or.inr ⟨fun h q e => a (by rw [(back h q e).1]), rfl⟩⟩
theorem heard_same (x : List Ln) (hl : x.length <= 20000) (hs : ∀ y ∈ x, y.f1.size <= 100000) {k1 k2 : Nat} (hk1 : 4000000 <= k1) (hk2 : 600000000 <= k2) : ∃ h q b, q.length <= 1000 /\ hello_Heard.f k1 x = some (h, q, b) /\ q6_Heard.f k2 x = some (h, q, b) := by
 obtain ⟨⟨h1, q1, b1⟩, f1, c1⟩ := heard_eq x (by omega) hs hk1
 obtain ⟨r2, f2, c2⟩ := rheard_eq x hl hs hk2
 rcases c2 with ⟨h, q, e, rfl⟩ | ⟨e, rfl⟩
 ·exact ⟨h, q, true, by have := (rightGo_out q q none (told_first e).2.2).1; omega, heard_back e hk1, f2⟩
 ·rcases c1 with ⟨a, b⟩ | ⟨a, b⟩
  ·exact absurd a (e _ _)
  ·rw [b] at f1
   exact ⟨_, _, _, by simp, f1, f2⟩
end Go.Proofs.YtmmionafcmnfoaaDoor.Hello
