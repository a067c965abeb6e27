/- What talks begin with: no lines are two things at once; what is told, asked and pushed is heard. -/
import Derived.Test.YtmmionafcmnfoaaDoorHelloE
namespace Go.Proofs.YtmmionafcmnfoaaDoor.Hello
open Go.RowKit Go.Proofs.YtmmionafcmnfoaaDoorW.PrintWords Go.Proofs.YtmmionafcmnfoaaDoorW.PrintLast Go.Proofs.YtmmionafcmnfoaaDoorW.PrintMore Go.Proofs.YtmmionafcmnfoaaDoor.Conv Go.Proofs.YtmmionafcmnfoaaDoor.Print
theorem endsF_inj {a b : List ByteArray} (h : endsF a = endsF b) : a = b := by
 have := congrArg textsF h
 rwa [textsF_ends, textsF_ends] at this
theorem bt_app (a b : ByteArray) (h : 0 < a.size) : bt (a ++ b) 0 = bt a 0 := by
 have h1 : (0 : Int).toNat < (a ++ b).size := by rw [ByteArray.size_append]; show 0 < _; omega
 rw [<- bt_at (a ++ b) 0 h1, <- bt_at a 0 h]
 congr 2
 exact ByteArray.getElem_append_left h
theorem told_first {h : ByteArray} {l : List Rf} {x : List Ln} (e : toldF h l = (x, true)) : x = endsF (toldT h l) /\ namedF h = true /\ rightF l = true := by
 unfold toldF at e
 split at e
 ·rename_i c
  exact ⟨(Prod.mk.inj e).1.symm, c⟩
 ·exact absurd (Prod.mk.inj e).2 (by simp)
theorem ask_first {a b : List ByteArray} {x : List Ln} (e : askF a b = (x, true)) : x = endsF (asks a b) /\ a.length ≠ 0 /\ namesF a 64 = true /\ namesF b 256 = true := by
 unfold askF at e
 split at e
 ·rename_i c
  exact ⟨(Prod.mk.inj e).1.symm, c⟩
 ·exact absurd (Prod.mk.inj e).2 (by simp)
theorem push_first {u : List Up} {x : List Ln} (e : pushF u = (x, true)) : x = endsF (u.map upT) /\ u.all okU = true /\ u.length ≠ 0 /\ u.length <= 16 := by
 unfold pushF at e
 split at e
 ·rename_i c
  exact ⟨(Prod.mk.inj e).1.symm, c⟩
 ·exact absurd (Prod.mk.inj e).2 (by simp)
theorem want_bt (h : ByteArray) : bt (wantL ++ h) 0 = 119 := (bt_app wantL h (by decide)).trans (by kernel_rfl)
theorem dash_bt {s : ByteArray} (h : mayF s = true) : 0 < (dashF s).size /\ (bt (dashF s) 0 = 45 ∨ hexB (bt (dashF s) 0) = true) := by
 unfold mayF at h
 unfold dashF
 by_cases c : s.toList = ([] : List UInt8)
 ·rw [if_pos c]
  exact ⟨by decide, .inl (by kernel_rfl)⟩
 ·rw [if_neg c]
  rw [decide_eq_false c, Bool.false_or] at h
  have hs := id_size h
  refine ⟨by omega, .inr ?_⟩
  unfold idF at h
  rw [Bool.and_eq_true] at h
  exact hexFrom_at s s.size 0 h.1 0 (Nat.le_refl _) (by omega)
theorem up_bt {y : Up} (h : okU y = true) : bt (upT y) 0 = 45 ∨ hexB (bt (upT y) 0) = true := by
 unfold okU at h
 simp only [Bool.and_eq_true] at h
 have h1 := dash_bt h.2.1
 have e : bt (upT y) 0 = bt (dashF y.f1) 0 := by
  unfold upT
  rw [ByteArray.append_assoc, ByteArray.append_assoc, ByteArray.append_assoc]
  exact bt_app _ _ h1.1
 rw [e]; exact h1.2
theorem not_ask_push {a b : List ByteArray} {u : List Up} {x : List Ln} (e1 : askF a b = (x, true)) (e2 : pushF u = (x, true)) : False := by
 have h1 := ask_first e1
 have h2 := push_first e2
 have := endsF_inj (h1.1.symm.trans h2.1)
 cases u with
 | nil => exact h2.2.2.1 rfl
 | cons y t =>
  cases a with
  | nil => exact h1.2.1 rfl
  | cons s t' =>
   have e := congrArg (fun ts : List ByteArray => bt (ts.headD ⟨#[]⟩) 0) this
   have e' : bt (wantL ++ s) 0 = bt (upT y) 0 := e
   have hy := up_bt (y := y) (List.all_eq_true.1 h2.2.1 y (by simp))
   rw [want_bt] at e'
   rw [<- e', hexB_iff] at hy
   omega
theorem ends_small {B : Nat} {ts : List ByteArray} (h : ∀ s ∈ ts, s.size + 1 <= B) : ∀ x ∈ endsF ts, x.f1.size <= B := by
 intro x hx
 unfold endsF at hx
 rcases List.mem_append.1 hx with hx | hx
 ·obtain ⟨s, hs, rfl⟩ := List.mem_map.1 hx
  show (s ++ (⟨#[10]⟩ : ByteArray)).size <= B
  rw [ByteArray.size_append]
  exact h s hs
 ·rw [List.mem_singleton] at hx
  rw [hx]; exact Nat.zero_le _
theorem told_small {h : ByteArray} {l : List Rf} (hh : namedF h = true) (hr : rightF l = true) : ∀ s ∈ toldT h l, s.size + 1 <= 200 := by
 intro s hs
 have h1 := named_size hh
 have h2 := rightGo_out l l none hr
 rcases List.mem_cons.1 hs with rfl | hs
 ·rw [ByteArray.size_append]
  have : titleT.size = 14 := rfl
  omega
 ·obtain ⟨y, hy, rfl⟩ := List.mem_map.1 hs
  have h3 := h2.2 y hy
  have := named_size h3.1
  have := id_size h3.2
  rw [refT_size]; omega
theorem push_small {u : List Up} (h : u.all okU = true) : ∀ s ∈ u.map upT, s.size + 1 <= 300 := by
 intro s hs
 obtain ⟨y, hy, rfl⟩ := List.mem_map.1 hs
 have := List.all_eq_true.1 h y hy
 unfold okU at this
 simp only [Bool.and_eq_true] at this
 have h1 := upT_size y this.2.1 this.2.2.1
 have h2 := named_size this.1
 omega
theorem asks_small {a b : List ByteArray} (ha : namesF a 64 = true) (hb : namesF b 256 = true) : ∀ s ∈ asks a b, s.size + 1 <= 200 := by
 intro s hs
 have h1 := names_size ha
 have h2 := names_size hb
 unfold asks at hs
 simp only [List.mem_append, List.mem_map, List.mem_singleton] at hs
 have w5 : wantL.size = 5 := rfl
 have h5 : haveL.size = 5 := rfl
 rcases hs with (⟨x, hx, rfl⟩ | ⟨x, hx, rfl⟩) | rfl
 ·rw [ByteArray.size_append, h1.2 x hx]; omega
 ·rw [ByteArray.size_append, h2.2 x hx]; omega
 ·decide
theorem ends_len (ts : List ByteArray) : (endsF ts).length = ts.length + 1 := by
 unfold endsF
 simp
theorem heard_back {h : ByteArray} {l : List Rf} {x : List Ln} (e : toldF h l = (x, true)) {k : Nat} (hk : 4000000 <= k) : hello_Heard.f k x = some (h, l, true) := by
 have h1 := told_first e
 have hr := rightGo_out l l none h1.2.2
 obtain ⟨r, hr1, hr2⟩ := heard_eq x (by rw [h1.1, ends_len]; unfold toldT; simp; omega) (by rw [h1.1]; intro y hy; have := ends_small (told_small h1.2.1 h1.2.2) y hy; omega) hk
 have ht : textsF x = toldT h l := by rw [h1.1, textsF_ends]
 have hb := heard_told h l h1.2.2
 rw [ht, hb.1, hb.2] at hr2
 rcases hr2 with ⟨_, rfl⟩ | ⟨hne, _⟩
 ·exact hr1
 ·exact absurd e hne
theorem asked_back {a b : List ByteArray} {x : List Ln} (e : askF a b = (x, true)) {k : Nat} (hk : 4000000 <= k) : hello_Asked.f k x = some (a, b, true) := by
 have h1 := ask_first e
 have ha := (names_size h1.2.2.1).1
 have hb := (names_size h1.2.2.2).1
 obtain ⟨r, hr1, hr2⟩ := asked_eq x (by rw [h1.1, ends_len]; unfold asks; simp; omega) (by rw [h1.1]; intro y hy; have := ends_small (asks_small h1.2.2.1 h1.2.2.2) y hy; omega) hk
 have ht : textsF x = asks a b := by rw [h1.1, textsF_ends]
 rw [ht, asked_asks] at hr2
 rcases hr2 with ⟨_, rfl⟩ | ⟨hne, _⟩
 ·exact hr1
 ·exact absurd e hne
theorem pushed_back {u : List Up} {x : List Ln} (e : pushF u = (x, true)) {k : Nat} (hk : 6000000 <= k) : hello_Pushed.f k x = some (u, true) := by
 have h1 := push_first e
 obtain ⟨r, hr1, hr2⟩ := pushed_eq x (by rw [h1.1, ends_len]; simp; omega) (by rw [h1.1]; intro y hy; have := ends_small (push_small h1.2.1) y hy; omega) hk
 have ht : textsF x = u.map upT := by rw [h1.1, textsF_ends]
 rw [ht, pushed_push u h1.2.1] at hr2
 rcases hr2 with ⟨_, rfl⟩ | ⟨hne, _⟩
 ·exact hr1
 ·exact absurd e hne
theorem pushed_ask {a b : List ByteArray} {x : List Ln} (e : askF a b = (x, true)) {k : Nat} (hk : 6000000 <= k) : hello_Pushed.f k x = some ([], false) := by
 have h1 := ask_first e
 have ha := (names_size h1.2.2.1).1
 have hb := (names_size h1.2.2.2).1
 obtain ⟨r, hr1, hr2⟩ := pushed_eq x (by rw [h1.1, ends_len]; unfold asks; simp; omega) (by rw [h1.1]; intro y hy; have := ends_small (asks_small h1.2.2.1 h1.2.2.2) y hy; omega) hk
 rcases hr2 with ⟨he, _⟩ | ⟨_, rfl⟩
 ·exact (not_ask_push e he).elim
 ·exact hr1
end Go.Proofs.YtmmionafcmnfoaaDoor.Hello
