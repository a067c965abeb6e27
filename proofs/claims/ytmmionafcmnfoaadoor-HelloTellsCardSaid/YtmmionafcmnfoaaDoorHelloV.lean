/- What talks begin with, the reference's part: what is asked and pushed of lines. -/
import Derived.Test.YtmmionafcmnfoaaDoorHelloU
namespace Go.Proofs.YtmmionafcmnfoaaDoor.Hello
open Go.RowKit Go.Proofs.YtmmionafcmnfoaaDoorW.PrintWords Go.Proofs.YtmmionafcmnfoaaDoorW.PrintLast Go.Proofs.YtmmionafcmnfoaaDoorW.PrintMore Go.Proofs.YtmmionafcmnfoaaDoor.Conv Go.Proofs.YtmmionafcmnfoaaDoor.Print
def wordB (s : ByteArray) (p : List UInt8) : Bool := decide (5 < s.size) && ((s.extract 0 5).toList == p)
def raGo : List ByteArray -> List ByteArray -> List ByteArray -> List ByteArray × List ByteArray
 | [], a, b => (a, b)
 | s :: t, a, b => cond (wordB s [119, 97, 110, 116, 32]) (raGo t (a ++ [s.extract 5 s.size]) b) (cond (wordB s [104, 97, 118, 101, 32]) (raGo t a (b ++ [s.extract 5 s.size])) (raGo t a b))
theorem rasked_fin (x : List Ln) (a b : List ByteArray) (ha : a.length <= 20000) (hb : b.length <= 20000) {k : Nat} (hk : 100000 <= k) : ∃ r, ((q6_Ask.f k a b).bind fun y => (if y.2 = true then ((q5_Same.f k y.1 x).bind fun t => (if t = true then (some (a, b, true)) else (some (([] : List ByteArray), ([] : List ByteArray), false)))) else (some (([] : List ByteArray), ([] : List ByteArray), false)))) = some r /\ ((askF a b = (x, true) /\ r = (a, b, true)) ∨ (askF a b ≠ (x, true) /\ r = ([], [], false))) := by
 rw [rask_eq a b (by omega) (by omega) (by omega) (by omega) (by omega)]
 simp only [Option.bind_some]
 have hl := ask_len a b
 obtain ⟨t, ht, hi⟩ := rsame_eq (askF a b).1 x (by omega) (k := k) (by omega)
 by_cases c : (askF a b).2 = true
 ·rw [if_pos c, ht]
  simp only [Option.bind_some]
  by_cases d : t = true
  ·rw [if_pos d]
   exact ⟨_, rfl, Or.inl ⟨Prod.ext (hi.1 d) c, rfl⟩⟩
  ·rw [if_neg d]
   exact ⟨_, rfl, Or.inr ⟨fun e => d (hi.2 (by rw [e])), rfl⟩⟩
 ·rw [if_neg c]
  exact ⟨_, rfl, Or.inr ⟨fun e => c (by rw [e]), rfl⟩⟩
theorem rasked_loop (x : List Ln) (ts : List ByteArray) (hl : ts.length <= 20000) : ∀ (d i k : Nat) (a b : List ByteArray), i + d = ts.length -> a.length <= i -> b.length <= i -> 2 * d + 100001 <= k ->
  ∃ r, q6_Asked.l0 k x ts (i : Int) a b = some r /\ ((askF (raGo (ts.drop i) a b).1 (raGo (ts.drop i) a b).2 = (x, true) /\ r = ((raGo (ts.drop i) a b).1, (raGo (ts.drop i) a b).2, true)) ∨ (askF (raGo (ts.drop i) a b).1 (raGo (ts.drop i) a b).2 ≠ (x, true) /\ r = ([], [], false))) := by
 intro d
 induction d with
 | zero =>
  intro i k a b hi ha hb hk
  obtain ⟨k, rfl⟩ : ∃ j, k = j + 1 := ⟨k - 1, by omega⟩
  simp only [q6_Asked.l0]
  rw [if_neg (by omega), List.drop_eq_nil_of_le (by omega)]
  exact rasked_fin x a b (by omega) (by omega) (by omega)
 | succ d ih =>
  intro i k a b hi ha hb hk
  obtain ⟨k, rfl⟩ : ∃ j, k = j + 2 := ⟨k - 2, by omega⟩
  have hlt : i < ts.length := by omega
  have i0 := ih (i + 1) k a b (by omega) (by omega) (by omega) (by omega)
  have i1 := ih (i + 1) k (a ++ [ts[i].extract 5 ts[i].size]) b (by omega) (by rw [List.length_append]; simp; omega) (by omega) (by omega)
  have i2 := ih (i + 1) k a (b ++ [ts[i].extract 5 ts[i].size]) (by omega) (by omega) (by rw [List.length_append]; simp; omega) (by omega)
  have w1 : wrap64 ((i : Int) + 1) = ((i + 1 : Nat) : Int) := (w64 (by omega) (by omega)).trans (by omega)
  simp only [q6_Asked.l0, q6_Asked.j1]
  rw [rd_get ts i hlt, w1, List.drop_eq_getElem_cons hlt]
  simp only [raGo]
  generalize ts[i] = s at i1 i2
  rw [if_pos (show (i : Int) < (ts.length : Int) by omega), if_pos (show (0 : Int) <= (i : Int) by omega)]
  unfold wordB
  by_cases c : (s.size : Int) > 5
  ·rw [if_pos c, if_pos (by omega), if_pos (by omega), decide_eq_true (by omega), Bool.true_and, Bool.true_and]
   by_cases e : ((s.extract 0 5).toList == ([119, 97, 110, 116, 32] : List UInt8)) = true
   ·rw [if_pos e, if_pos (by omega), if_pos (by omega), if_pos (by omega), if_pos (by omega), e, cond_true]
    exact i1
   ·rw [if_neg e, Bool.eq_false_iff.2 e, cond_false, if_pos (by omega), if_pos (by omega), if_pos c, if_pos (by omega), if_pos (by omega)]
    by_cases f : (s.extract 0 5).toList = ([104, 97, 118, 101, 32] : List UInt8)
    ·rw [if_pos f, if_pos (by omega), f]
     exact i2
    ·rw [if_neg f, beq_eq_false_iff_ne.2 f]
     exact i0
  ·rw [if_neg c, if_neg (by simp), if_pos (by omega), if_pos (by omega), if_neg c, decide_eq_false (by omega)]
   exact i0
theorem raGo_wants : ∀ (l t a b : List ByteArray), (∀ s ∈ l, s.size = 64) -> raGo (l.map (fun x => wantL ++ x) ++ t) a b = raGo t (a ++ l) b
 | [], t, a, b, _ => by simp
 | s :: l, t, a, b, h => by
  have hs := h s (by simp)
  have hz : (wantL ++ s).size = 69 := by rw [ByteArray.size_append, hs]; rfl
  have hx : (wantL ++ s).extract 0 5 = wantL := ByteArray.extract_append_eq_left rfl
  have e : wordB (wantL ++ s) [119, 97, 110, 116, 32] = true := by
   unfold wordB
   rw [decide_eq_true (by omega), hx, Lib.toList_data]
   rfl
  have e2 : (wantL ++ s).extract 5 (wantL ++ s).size = s := ByteArray.extract_append_eq_right rfl ByteArray.size_append
  simp only [List.map_cons, List.cons_append, raGo]
  rw [e, cond_true, e2, raGo_wants l t _ b (fun y hy => h y (by simp [hy])), List.append_assoc]
  rfl
theorem raGo_haves : ∀ (l t a b : List ByteArray), (∀ s ∈ l, s.size = 64) -> raGo (l.map (fun x => haveL ++ x) ++ t) a b = raGo t a (b ++ l)
 | [], t, a, b, _ => by simp
 | s :: l, t, a, b, h => by
  have hs := h s (by simp)
  have hz : (haveL ++ s).size = 69 := by rw [ByteArray.size_append, hs]; rfl
  have hx : (haveL ++ s).extract 0 5 = haveL := ByteArray.extract_append_eq_left rfl
  have e0 : wordB (haveL ++ s) [119, 97, 110, 116, 32] = false := by
   unfold wordB
   rw [decide_eq_true (by omega), hx, Lib.toList_data]
   rfl
  have e : wordB (haveL ++ s) [104, 97, 118, 101, 32] = true := by
   unfold wordB
   rw [decide_eq_true (by omega), hx, Lib.toList_data]
   rfl
  have e2 : (haveL ++ s).extract 5 (haveL ++ s).size = s := ByteArray.extract_append_eq_right rfl ByteArray.size_append
  simp only [List.map_cons, List.cons_append, raGo]
  rw [e0, cond_false, e, cond_true, e2, raGo_haves l t a _ (fun y hy => h y (by simp [hy])), List.append_assoc]
  rfl
theorem raGo_asks (a b : List ByteArray) (ha : ∀ s ∈ a, s.size = 64) (hb : ∀ s ∈ b, s.size = 64) : raGo (asks a b) [] [] = (a, b) := by
 unfold asks
 rw [List.append_assoc, raGo_wants a _ [] [] ha, raGo_haves b _ _ _ hb]
 rfl
theorem rasked_eq (x : List Ln) (hl : x.length <= 20000) (hs : ∀ y ∈ x, y.f1.size <= 100000) {k : Nat} (hk : 600000 <= k) :
  ∃ r, q6_Asked.f k x = some r /\ ((∃ a b, askF a b = (x, true) /\ r = (a, b, true)) ∨ ((∀ a b, askF a b ≠ (x, true)) /\ r = ([], [], false))) := by
 have hb := rtexts_small 100000 x hs
 have back : ∀ a b, askF a b = (x, true) -> rtextsF x = (asks a b, true) /\ raGo (asks a b) [] [] = (a, b) := fun a b e => by
  have e1 := ask_first e
  exact ⟨by rw [e1.1, rtexts_ends], raGo_asks a b (names_size e1.2.2.1).2 (names_size e1.2.2.2).2⟩
 unfold q6_Asked.f
 rw [rtexts_eq x (fun y hy => by have := hs y hy; omega) (by omega) (by omega)]
 simp only [Option.bind_some]
 by_cases c : (rtextsF x).2 = true
 ·rw [if_pos c]
  obtain ⟨r, hr, hc⟩ := rasked_loop x (rtextsF x).1 (by omega) (rtextsF x).1.length 0 k [] [] (by omega) (by simp) (by simp) (by omega)
  refine ⟨r, hr, ?_⟩
  rcases hc with ⟨e1, e2⟩ | ⟨e1, e2⟩
  ·exact Or.inl ⟨_, _, e1, e2⟩
  ·refine Or.inr ⟨fun a b e => e1 ?_, e2⟩
   rw [List.drop_zero, (back a b e).1, (back a b e).2]
   exact e
 ·rw [if_neg c]
  exact ⟨_, rfl, Or.inr ⟨fun a b e => c (by rw [(back a b e).1]), rfl⟩⟩
theorem asked_same (x : List Ln) (hl : x.length <= 20000) (hs : ∀ y ∈ x, y.f1.size <= 100000) {k1 k2 : Nat} (hk1 : 4000000 <= k1) (hk2 : 600000 <= k2) : ∃ a b c, (a.length <= 1000 /\ b.length <= 1000) /\ hello_Asked.f k1 x = some (a, b, c) /\ q6_Asked.f k2 x = some (a, b, c) := by
 obtain ⟨⟨a1, b1, d1⟩, f1, c1⟩ := asked_eq x (by omega) hs hk1
 obtain ⟨r2, f2, c2⟩ := rasked_eq x hl hs hk2
 rcases c2 with ⟨a, b, e, rfl⟩ | ⟨e, rfl⟩
 ·have e1 := ask_first e
  have e2 := names_size e1.2.2.1
  have e3 := names_size e1.2.2.2
  exact ⟨a, b, true, ⟨by omega, by omega⟩, asked_back e hk1, f2⟩
 ·rcases c1 with ⟨a, b⟩ | ⟨a, b⟩
  ·exact absurd a (e _ _)
  ·rw [b] at f1
   exact ⟨_, _, _, ⟨by simp, by simp⟩, f1, f2⟩
theorem blank_cases (s : ByteArray) : (cutF s = (s, ⟨#[]⟩) /\ ∀ x, x < s.size -> bt s (x : Int) ≠ 32) ∨ ∃ e, e < s.size /\ bt s (e : Int) = 32 /\ (∀ x, x < e -> bt s (x : Int) ≠ 32) /\ cutF s = (s.extract 0 e, s.extract (e + 1) s.size) := by
 have hge := Lib.indexByte_ge s.data.toList 32
 have hb : ∀ i, i < s.size -> (bt s (i : Int) = 32 <-> s.data.toList[i]? = some 32) := fun i h => by
  rw [bt_get s i h, List.getElem?_eq_getElem (by simpa using h)]
  constructor
  ·intro e
   have : (s.data.toList[i]'(by simpa using h)).toNat = 32 := by omega
   congr 1
   exact UInt8.toNat_inj.1 this
  ·intro e
   rw [Option.some.inj e]
   rfl
 unfold cutF
 by_cases h : Lib.indexByte s.data.toList 32 = -1
 ·left
  exact ⟨by rw [if_neg (by omega)], fun x hx e => Lib.indexByte_none h x ((hb x hx).1 e)⟩
 ·right
  obtain ⟨o, ho⟩ : ∃ o : Nat, Lib.indexByte s.data.toList 32 = o := ⟨(Lib.indexByte s.data.toList 32).toNat, by omega⟩
  have h1 := Lib.indexByte_some ho
  have hlt : o < s.size := by
   have := (List.getElem?_eq_some_iff.1 h1.1).1
   simpa using this
  refine ⟨o, hlt, (hb o hlt).2 h1.1, fun x hx e => h1.2 x hx ((hb x (by omega)).1 e), ?_⟩
  rw [ho, if_pos (by omega), Int.toNat_natCast]
theorem word_eq (s : ByteArray) (hs : s.size <= 1000000) {k : Nat} (hk : s.size + 1 <= k) : q6_word.f k s = some (cutF s) := by
 have scan : ∀ e, e <= s.size -> (∀ x, x < e -> bt s (x : Int) ≠ 32) -> ∀ (d i k : Nat), i + d = e -> d + 1 <= k -> q6_word.l0 k s (i : Int) = q6_word.l0 (k - d) s (e : Int) := by
  intro e he hne d
  induction d with
  | zero => intro i k hi hk; rw [show i = e by omega]; rfl
  | succ d ih =>
   intro i k hi hk
   obtain ⟨k, rfl⟩ : ∃ j, k = j + 1 := ⟨k - 1, by omega⟩
   have h := ih (i + 1) k (by omega) (by omega)
   rw [show k + 1 - (d + 1) = k - d by omega, <- h]
   simp only [q6_word.l0]
   rw [if_pos (by omega), if_pos (by omega), if_neg (hne i (by omega)), w64 (by omega) (by omega), show ((i : Int) + 1) = ((i + 1 : Nat) : Int) by omega]
 unfold q6_word.f
 rw [show (0 : Int) = ((0 : Nat) : Int) from rfl]
 rcases blank_cases s with ⟨h1, h2⟩ | ⟨e, h1, h2, h3, h4⟩
 ·obtain ⟨k, rfl⟩ : ∃ j, k = j + s.size + 1 := ⟨k - s.size - 1, by omega⟩
  rw [scan s.size (Nat.le_refl _) h2 s.size 0 _ (by omega) (by omega), show k + s.size + 1 - s.size = k + 1 by omega, h1]
  simp only [q6_word.l0]
  rw [if_neg (by omega)]
 ·obtain ⟨k, rfl⟩ : ∃ j, k = j + e + 1 := ⟨k - e - 1, by omega⟩
  rw [scan e (by omega) h3 e 0 _ (by omega) (by omega), show k + e + 1 - e = k + 1 by omega, h4]
  simp only [q6_word.l0]
  rw [if_pos (by omega), if_pos (by omega), if_pos h2, if_pos (by omega), w64 (by omega) (by omega), if_pos (by omega), if_pos (by omega), Int.toNat_natCast, show ((e : Int) + 1).toNat = e + 1 by omega]
theorem rpushed_fin (x : List Ln) (u : List Up) (hu : u.length <= 1000000) {k : Nat} (hk : 100000 <= k) : ∃ r, ((q6_Push.f k u).bind fun y => (if y.2 = true then ((q5_Same.f k y.1 x).bind fun t => (if t = true then (some (u, true)) else (some (([] : List Up), false)))) else (some (([] : List Up), false)))) = some r /\ ((pushF u = (x, true) /\ r = (u, true)) ∨ (pushF u ≠ (x, true) /\ r = ([], false))) := by
 rw [rpush_eq u (by omega) (by omega)]
 simp only [Option.bind_some]
 have hl := push_len u
 obtain ⟨t, ht, hi⟩ := rsame_eq (pushF u).1 x (by omega) (k := k) (by omega)
 by_cases c : (pushF u).2 = true
 ·rw [if_pos c, ht]
  simp only [Option.bind_some]
  by_cases d : t = true
  ·rw [if_pos d]
   exact ⟨_, rfl, Or.inl ⟨Prod.ext (hi.1 d) c, rfl⟩⟩
  ·rw [if_neg d]
   exact ⟨_, rfl, Or.inr ⟨fun e => d (hi.2 (by rw [e])), rfl⟩⟩
 ·rw [if_neg c]
  exact ⟨_, rfl, Or.inr ⟨fun e => c (by rw [e]), rfl⟩⟩
theorem rpushed_loop (x : List Ln) (ts : List ByteArray) (hs : ∀ s ∈ ts, s.size <= 100000) (hl : ts.length <= 20000) : ∀ (d i k : Nat) (out : List Up), i + d = ts.length -> out.length <= i -> d + 200001 <= k ->
  ∃ r, q6_Pushed.l0 k x out ts (i : Int) = some r /\ ((pushF (out ++ (ts.drop i).map upOf) = (x, true) /\ r = (out ++ (ts.drop i).map upOf, true)) ∨ (pushF (out ++ (ts.drop i).map upOf) ≠ (x, true) /\ r = ([], false))) := by
 intro d
 induction d with
 | zero =>
  intro i k out hi ho hk
  obtain ⟨k, rfl⟩ : ∃ j, k = j + 1 := ⟨k - 1, by omega⟩
  simp only [q6_Pushed.l0]
  rw [if_neg (by omega), List.drop_eq_nil_of_le (by omega), List.map_nil, List.append_nil]
  exact rpushed_fin x out (by omega) (by omega)
 | succ d ih =>
  intro i k out hi ho hk
  obtain ⟨k, rfl⟩ : ∃ j, k = j + 1 := ⟨k - 1, by omega⟩
  have hlt : i < ts.length := by omega
  have hz := hs ts[i] (List.getElem_mem hlt)
  have h1 := cutF_size ts[i]
  have w1 : wrap64 ((i : Int) + 1) = ((i + 1 : Nat) : Int) := (w64 (by omega) (by omega)).trans (by omega)
  have h := ih (i + 1) k (out ++ [upOf ts[i]]) (by omega) (by rw [List.length_append]; simp; omega) (by omega)
  rw [List.append_assoc] at h
  simp only [q6_Pushed.l0]
  rw [if_pos (by omega), if_pos (by omega), rd_get ts i hlt, word_eq ts[i] (by omega) (by omega), w1, List.drop_eq_getElem_cons hlt, List.map_cons]
  simp only [Option.bind_some]
  rw [word_eq _ (by omega) (by omega)]
  simp only [Option.bind_some]
  have key : ∀ y : Up, y = upOf ts[i] -> ∃ r, (if out.length < 2932031007402 then q6_Pushed.l0 k x (out ++ [y]) ts ((i + 1 : Nat) : Int) else none) = some r /\ ((pushF (out ++ upOf ts[i] :: (ts.drop (i + 1)).map upOf) = (x, true) /\ r = (out ++ upOf ts[i] :: (ts.drop (i + 1)).map upOf, true)) ∨ (pushF (out ++ upOf ts[i] :: (ts.drop (i + 1)).map upOf) ≠ (x, true) /\ r = ([], false))) := by
   rintro y rfl
   rw [if_pos (by omega)]
   exact h
  by_cases a : (cutF ts[i]).1.toList = ([45] : List UInt8)
  ·rw [if_pos a]
   by_cases b : (cutF (cutF ts[i]).2).1.toList = ([45] : List UInt8)
   ·rw [if_pos b]
    exact key _ (by unfold upOf plainF; rw [if_pos a, if_pos b])
   ·rw [if_neg b]
    exact key _ (by unfold upOf plainF; rw [if_pos a, if_neg b])
  ·rw [if_neg a]
   by_cases b : (cutF (cutF ts[i]).2).1.toList = ([45] : List UInt8)
   ·rw [if_pos b]
    exact key _ (by unfold upOf plainF; rw [if_neg a, if_pos b])
   ·rw [if_neg b]
    exact key _ (by unfold upOf plainF; rw [if_neg a, if_neg b])
theorem rpushed_eq (x : List Ln) (hl : x.length <= 20000) (hs : ∀ y ∈ x, y.f1.size <= 100000) {k : Nat} (hk : 600000 <= k) :
  ∃ r, q6_Pushed.f k x = some r /\ ((∃ u, pushF u = (x, true) /\ r = (u, true)) ∨ ((∀ u, pushF u ≠ (x, true)) /\ r = ([], false))) := by
 have hb := rtexts_small 100000 x hs
 have back : ∀ u, pushF u = (x, true) -> rtextsF x = (u.map upT, true) /\ (u.map upT).map upOf = u := fun u e => by
  have e1 := push_first e
  exact ⟨by rw [e1.1, rtexts_ends], pushed_push u e1.2.1⟩
 unfold q6_Pushed.f
 rw [rtexts_eq x (fun y hy => by have := hs y hy; omega) (by omega) (by omega)]
 simp only [Option.bind_some]
 by_cases c : (rtextsF x).2 = true
 ·rw [if_pos c]
  obtain ⟨r, hr, hc⟩ := rpushed_loop x (rtextsF x).1 hb.2 (by omega) (rtextsF x).1.length 0 k [] (by omega) (by simp) (by omega)
  refine ⟨r, hr, ?_⟩
  rcases hc with ⟨e1, e2⟩ | ⟨e1, e2⟩
  ·exact Or.inl ⟨_, e1, e2⟩
  ·refine Or.inr ⟨fun u e => e1 ?_, e2⟩
   rw [List.drop_zero, (back u e).1]
   show pushF ([] ++ (u.map upT).map upOf) = _
   rw [(back u e).2]
   exact e
 ·rw [if_neg c]
  exact ⟨_, rfl, Or.inr ⟨fun u e => c (by rw [(back u e).1]), rfl⟩⟩
theorem pushed_same (x : List Ln) (hl : x.length <= 20000) (hs : ∀ y ∈ x, y.f1.size <= 100000) {k1 k2 : Nat} (hk1 : 6000000 <= k1) (hk2 : 600000 <= k2) : ∃ u c, u.length <= 1000 /\ hello_Pushed.f k1 x = some (u, c) /\ q6_Pushed.f k2 x = some (u, c) := by
 obtain ⟨⟨u1, d1⟩, f1, c1⟩ := pushed_eq x (by omega) hs hk1
 obtain ⟨r2, f2, c2⟩ := rpushed_eq x hl hs hk2
 rcases c2 with ⟨u, e, rfl⟩ | ⟨e, rfl⟩
 ·exact ⟨u, true, by have := (push_first e).2.2.2; omega, pushed_back e hk1, f2⟩
 ·rcases c1 with ⟨a, b⟩ | ⟨a, b⟩
  ·exact absurd a (e _)
  ·rw [b] at f1
   exact ⟨_, _, by simp, f1, f2⟩
end Go.Proofs.YtmmionafcmnfoaaDoor.Hello
