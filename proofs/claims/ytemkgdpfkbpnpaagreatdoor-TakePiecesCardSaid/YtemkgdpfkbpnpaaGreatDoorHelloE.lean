/- What talks begin with: what is asked and pushed, as plain functions. -/
import Derived.Test.YtemkgdpfkbpnpaaGreatDoorHelloD
namespace Go.Proofs.YtemkgdpfkbpnpaaGreatDoor.Hello
open Go.RowKit Go.Proofs.YtemkgdpfkbpnpaaGreatDoorW.PrintWords Go.Proofs.YtemkgdpfkbpnpaaGreatDoorW.PrintLast Go.Proofs.YtemkgdpfkbpnpaaGreatDoorW.PrintMore Go.Proofs.YtemkgdpfkbpnpaaGreatDoor.Conv Go.Proofs.YtemkgdpfkbpnpaaGreatDoor.Print
def okU (y : Up) : Bool := namedF y.f0 && (mayF y.f1 && (mayF y.f2 && !((y.f1 ++ y.f2).toList == ([] : List UInt8))))
def upT (y : Up) : ByteArray := (((dashF y.f1 ++ (⟨#[32]⟩ : ByteArray)) ++ dashF y.f2) ++ (⟨#[32]⟩ : ByteArray)) ++ y.f0
def pushF (u : List Up) : List Ln × Bool := if u.all okU = true /\ u.length ≠ 0 /\ u.length <= 16 then (endsF (u.map upT), true) else ([], false)
def smallU (y : Up) : Prop := y.f0.size <= 100000 /\ y.f1.size <= 100000 /\ y.f2.size <= 100000
theorem sp (s : ByteArray) : (s ++ (⟨#[32]⟩ : ByteArray)).size = s.size + 1 := by rw [ByteArray.size_append]; rfl
theorem upT_size (y : Up) (h1 : mayF y.f1 = true) (h2 : mayF y.f2 = true) : (upT y).size <= 130 + y.f0.size := by
 have := dashF_size h1
 have := dashF_size h2
 unfold upT
 rw [ByteArray.size_append, sp, ByteArray.size_append, sp]
 omega
theorem push_loop (u : List Up) (hl : u.length <= 1000000) (hs : ∀ y ∈ u, smallU y) : ∀ (d i k : Nat) (out : List ByteArray), i + d = u.length -> out.length <= i -> (∀ s ∈ out, s.size <= 1000000) -> 2 * d + 1000002 <= k ->
  hello_Push.l0 k u out u (u.length : Int) (i : Int) = some (if (u.drop i).all okU = true /\ u.length ≠ 0 /\ u.length <= 16 then (endsF (out ++ (u.drop i).map upT), true) else ([], false)) := by
 intro d
 induction d with
 | zero =>
  intro i k out hi ho hos hk
  obtain ⟨k, rfl⟩ : ∃ j, k = j + 1 := ⟨k - 1, by omega⟩
  simp only [hello_Push.l0]
  rw [if_neg (by omega), List.drop_eq_nil_of_le (by omega), List.map_nil, List.append_nil]
  by_cases c0 : (u.length : Int) = 0
  ·rw [if_pos c0, if_neg (fun e => e.2.1 (by omega))]
  ·rw [if_neg c0]
   by_cases c1 : (u.length : Int) > 16
   ·rw [if_pos c1, if_neg (fun e => by have := e.2.2; omega)]
   ·rw [if_neg c1, if_pos ⟨rfl, by omega, by omega⟩, ended_eq out (fun s h => by have := hos s h; omega) (by omega) (by omega)]
    rfl
 | succ d ih =>
  intro i k out hi ho hos hk
  obtain ⟨k, rfl⟩ : ∃ j, k = j + 2 := ⟨k - 2, by omega⟩
  have hlt : i < u.length := by omega
  have hz := hs u[i] (List.getElem_mem hlt)
  unfold smallU at hz
  have hj : ∀ b : Bool, (b = false -> mayF u[i].f1 = true /\ mayF u[i].f2 = true) -> hello_Push.j1 (k + 1) u out u (u.length : Int) (i : Int) b u[i].f0 u[i].f1 u[i].f2 = some (if b = true then ([], false) else if (u.drop (i + 1)).all okU = true /\ u.length ≠ 0 /\ u.length <= 16 then (endsF ((out ++ [upT u[i]]) ++ (u.drop (i + 1)).map upT), true) else ([], false)) := by
   intro b hb
   simp only [hello_Push.j1]
   by_cases c : b = true
   ·rw [if_pos c, if_pos c]
   ·have hm := hb (Bool.eq_false_iff.2 c)
    have d1 := dashF_size hm.1
    have d2 := dashF_size hm.2
    have hu := upT_size u[i] hm.1 hm.2
    rw [if_neg c, if_neg c, dash_eq u[i].f1, dash_eq u[i].f2]
    simp only [Option.bind_some]
    have s1 := sp (dashF u[i].f1)
    have s2 : ((dashF u[i].f1 ++ (⟨#[32]⟩ : ByteArray)) ++ dashF u[i].f2).size = (dashF u[i].f1).size + 1 + (dashF u[i].f2).size := by rw [ByteArray.size_append, s1]
    have s3 := sp ((dashF u[i].f1 ++ (⟨#[32]⟩ : ByteArray)) ++ dashF u[i].f2)
    rw [if_pos (by omega), if_pos (by omega), if_pos (by omega), if_pos (by omega), if_pos (by omega), w64 (by omega) (by omega), show ((i : Int) + 1) = ((i + 1 : Nat) : Int) by omega]
    exact ih (i + 1) k (out ++ [upT u[i]]) (by omega) (by rw [List.length_append]; simp; omega) (fun s h => by
     rcases List.mem_append.1 h with h | h
     ·exact hos s h
     ·rw [List.mem_singleton] at h
      rw [h]; omega) (by omega)
  simp only [hello_Push.l0]
  rw [if_pos (by omega), if_pos (by omega), if_pos (by omega), getU u i hlt, refnamed_eq u[i].f0 (by omega) (by omega)]
  simp only [Option.bind_some]
  rw [List.drop_eq_getElem_cons hlt, List.all_cons, List.map_cons]
  have hno : hello_Push.j1 (k + 1) u out u (u.length : Int) (i : Int) true u[i].f0 u[i].f1 u[i].f2 = some ([], false) := by
   rw [hj true (fun e => by cases e), if_pos rfl]
  have bad : okU u[i] = false -> (if (okU u[i] && (u.drop (i + 1)).all okU) = true /\ u.length ≠ 0 /\ u.length <= 16 then (endsF (out ++ upT u[i] :: (u.drop (i + 1)).map upT), true) else (([], false) : List Ln × Bool)) = ([], false) := by
   intro o
   rw [if_neg (fun e => by rw [o] at e; simp at e)]
  by_cases c1 : namedF u[i].f0 = true
  ·rw [if_pos c1, may_eq u[i].f1 (by omega) (by omega)]
   simp only [Option.bind_some]
   by_cases c2 : mayF u[i].f1 = true
   ·rw [if_pos c2, may_eq u[i].f2 (by omega) (by omega)]
    simp only [Option.bind_some]
    by_cases c3 : mayF u[i].f2 = true
    ·rw [if_pos c3, if_pos (by omega), hj _ (fun _ => ⟨c2, c3⟩)]
     by_cases c4 : ((u[i].f1 ++ u[i].f2).toList == ([] : List UInt8)) = true
     ·rw [if_pos c4, bad (by unfold okU; rw [c4]; simp)]
     ·rw [if_neg c4]
      have o : okU u[i] = true := by unfold okU; rw [c1, c2, c3, Bool.eq_false_iff.2 c4]; rfl
      simp only [o, Bool.true_and, List.append_assoc, List.singleton_append]
    ·rw [if_neg c3, hno, bad (by unfold okU; rw [Bool.eq_false_iff.2 c3]; simp)]
   ·rw [if_neg c2, hno, bad (by unfold okU; rw [Bool.eq_false_iff.2 c2]; simp)]
  ·rw [if_neg c1, hno, bad (by unfold okU; rw [Bool.eq_false_iff.2 c1]; simp)]
theorem push_eq (u : List Up) (hl : u.length <= 1000000) (hs : ∀ y ∈ u, smallU y) {k : Nat} (hk : 4000000 <= k) : hello_Push.f k u = some (pushF u) := by
 have := push_loop u hl hs u.length 0 k [] (by omega) (by simp) (by simp) (by omega)
 simpa [hello_Push.f, pushF] using this
theorem push_len (u : List Up) : (pushF u).1.length <= 17 := by
 unfold pushF
 split
 ·rename_i c
  show (endsF (u.map upT)).length <= 17
  unfold endsF
  simp only [List.length_append, List.length_map, List.length_cons, List.length_nil]
  omega
 ·simp
def plainF (s : ByteArray) : ByteArray := if s.toList = ([45] : List UInt8) then ⟨#[]⟩ else s
theorem plain_eq (s : ByteArray) : hello_plain.f s = some (plainF s) := by
 unfold hello_plain.f plainF
 split <;> rfl
theorem plainF_size (s : ByteArray) : (plainF s).size <= s.size := by
 unfold plainF
 split
 ·exact Nat.zero_le _
 ·exact Nat.le_refl _
def upOf (s : ByteArray) : Up := ⟨(cutF (cutF s).2).2, plainF (cutF s).1, plainF (cutF (cutF s).2).1⟩
theorem upOf_small (s : ByteArray) (h : s.size <= 100000) : smallU (upOf s) := by
 have h1 := cutF_size s
 have h2 := cutF_size (cutF s).2
 have h3 := plainF_size (cutF s).1
 have h4 := plainF_size (cutF (cutF s).2).1
 exact ⟨by show (cutF (cutF s).2).2.size <= _; omega, by show (plainF (cutF s).1).size <= _; omega, by show (plainF (cutF (cutF s).2).1).size <= _; omega⟩
theorem pushed_loop (l : List Ln) (ts : List ByteArray) (hl : ts.length <= 1000000) (hs : ∀ s ∈ ts, s.size <= 100000) : ∀ (d i k : Nat) (out : List Up), i + d = ts.length -> out.length <= i -> (∀ y ∈ out, smallU y) -> d + 4000001 <= k ->
  ∃ r, hello_Pushed.l0 k l out ts (ts.length : Int) (i : Int) = some r /\ ((pushF (out ++ (ts.drop i).map upOf) = (l, true) /\ r = (out ++ (ts.drop i).map upOf, true)) ∨ (pushF (out ++ (ts.drop i).map upOf) ≠ (l, true) /\ r = ([], false))) := by
 intro d
 induction d with
 | zero =>
  intro i k out hi ho hos hk
  obtain ⟨k, rfl⟩ : ∃ j, k = j + 1 := ⟨k - 1, by omega⟩
  simp only [hello_Pushed.l0]
  rw [if_neg (by omega), List.drop_eq_nil_of_le (by omega), List.map_nil, List.append_nil, push_eq out (by omega) hos (by omega)]
  have ht := push_len out
  simp only [Option.bind_some]
  obtain ⟨r, hr, hi⟩ := again_eq (pushF out).1 l (pushF out).2 (by omega) (k := k) (by omega)
  rw [hr]
  simp only [Option.bind_some]
  by_cases c : r = true
  ·rw [if_pos c]
   have := hi.1 c
   exact ⟨_, rfl, .inl ⟨Prod.ext this.2 this.1, rfl⟩⟩
  ·rw [if_neg c]
   exact ⟨_, rfl, .inr ⟨fun e => c (hi.2 ⟨by rw [e], by rw [e]⟩), rfl⟩⟩
 | succ d ih =>
  intro i k out hi ho hos hk
  obtain ⟨k, rfl⟩ : ∃ j, k = j + 1 := ⟨k - 1, by omega⟩
  have hlt : i < ts.length := by omega
  have hz := hs ts[i] (List.getElem_mem hlt)
  obtain ⟨b1, hc1⟩ := cut_eq ts[i] (by omega)
  have hcs := cutF_size ts[i]
  obtain ⟨b2, hc2⟩ := cut_eq (cutF ts[i]).2 (by omega)
  simp only [hello_Pushed.l0]
  rw [if_pos (by omega), if_pos (by omega), if_pos (by omega), rd_get ts i hlt, hc1]
  simp only [Option.bind_some]
  rw [hc2]
  simp only [Option.bind_some, plain_eq]
  rw [if_pos (by omega), w64 (by omega) (by omega), show ((i : Int) + 1) = ((i + 1 : Nat) : Int) by omega]
  have := ih (i + 1) k (out ++ [upOf ts[i]]) (by omega) (by rw [List.length_append]; simp; omega) (fun y hy => by
   rcases List.mem_append.1 hy with hy | hy
   ·exact hos y hy
   ·rw [List.mem_singleton] at hy
    rw [hy]
    exact upOf_small _ hz) (by omega)
  rw [List.drop_eq_getElem_cons hlt, List.map_cons]
  rw [List.append_assoc] at this
  exact this
theorem pushed_eq (l : List Ln) (hl : l.length <= 1000000) (hs : ∀ x ∈ l, x.f1.size <= 100000) {k : Nat} (hk : 6000000 <= k) :
  ∃ r, hello_Pushed.f k l = some r /\ ((pushF ((textsF l).map upOf) = (l, true) /\ r = ((textsF l).map upOf, true)) ∨ (pushF ((textsF l).map upOf) ≠ (l, true) /\ r = ([], false))) := by
 have hz := textsF_size 100000 l hs
 unfold hello_Pushed.f
 rw [texts_eq l hl (fun x hx => by have := hs x hx; omega) (by omega)]
 simp only [Option.bind_some]
 exact pushed_loop l (textsF l) (by omega) hz.1 (textsF l).length 0 k [] (by omega) (by simp) (by simp) (by omega)
theorem dash_plain {s : ByteArray} (h : mayF s = true) : plainT (dashF s) /\ plainF (dashF s) = s := by
 unfold mayF at h
 unfold dashF plainF
 by_cases c : s.toList = ([] : List UInt8)
 ·rw [if_pos c, if_pos (by rw [Lib.toList_data])]
  exact ⟨by unfold plainT; simp, (toList_inj (by rw [c, Lib.toList_data])).symm⟩
 ·rw [if_neg c]
  rw [decide_eq_false c, Bool.false_or] at h
  refine ⟨id_plain h, ?_⟩
  rw [if_neg (fun e => ?_)]
  have := id_size h
  have e2 := congrArg List.length e
  rw [Lib.toList_data, Array.length_toList] at e2
  have : s.data.size = s.size := rfl
  simp at e2
  omega
theorem upOf_upT (y : Up) (h : okU y = true) : upOf (upT y) = y := by
 unfold okU at h
 simp only [Bool.and_eq_true] at h
 have h1 := dash_plain h.2.1
 have h2 := dash_plain h.2.2.1
 unfold upOf upT
 have e : (((dashF y.f1 ++ (⟨#[32]⟩ : ByteArray)) ++ dashF y.f2) ++ (⟨#[32]⟩ : ByteArray)) ++ y.f0 = (dashF y.f1 ++ (⟨#[32]⟩ : ByteArray)) ++ ((dashF y.f2 ++ (⟨#[32]⟩ : ByteArray)) ++ y.f0) := by
  simp only [ByteArray.append_assoc]
 rw [e, cutF_app _ _ h1.1]
 simp only
 rw [cutF_app _ _ h2.1]
 simp only
 rw [h1.2, h2.2]
theorem pushed_push (u : List Up) (h : u.all okU = true) : (u.map upT).map upOf = u := by
 rw [List.map_map]
 have e : ∀ y ∈ u, (upOf ∘ upT) y = id y := fun y hy => upOf_upT y (List.all_eq_true.1 h y hy)
 rw [List.map_congr_left e, List.map_id]
end Go.Proofs.YtemkgdpfkbpnpaaGreatDoor.Hello
