/- What one who pushes sends comes to what is pushed. -/
import Derived.Test.YtemkgdpfkbpnpaaGreatDoorTakeGotOk
namespace Go.Proofs.YtemkgdpfkbpnpaaGreatDoor.Take
open Go.RowKit Go.Proofs.YtemkgdpfkbpnpaaGreatDoorW.PrintWords Go.Proofs.YtemkgdpfkbpnpaaGreatDoorW.PrintLast Go.Proofs.YtemkgdpfkbpnpaaGreatDoorW.PrintMore Go.Proofs.YtemkgdpfkbpnpaaGreatDoor.Conv Go.Proofs.YtemkgdpfkbpnpaaGreatDoor.Print Go.Proofs.YtemkgdpfkbpnpaaGreatDoor.Line
set_option linter.unusedVariables false
theorem ends_ok {ts : List ByteArray} (h : ∀ t ∈ ts, t.size + 1 <= 300) : (Hello.endsF ts).all okL = true := by
 unfold Hello.endsF
 rw [List.all_append, Bool.and_eq_true]
 refine ⟨List.all_eq_true.2 fun x hx => ?_, by decide⟩
 obtain ⟨t, ht, rfl⟩ := List.mem_map.1 hx
 have h1 := h t ht
 have hz : (Hello.lineOf t).f1.size = t.size + 1 := by show (t ++ (⟨#[10]⟩ : ByteArray)).size = _; rw [ByteArray.size_append]; rfl
 exact line_ok rfl (by omega) (by omega)
theorem flushF_line (x : Ln) (t : List Ln) (h : x.f0 = false) : flushF (x :: t) = (flushF t).map (· + 1) := by
 simp only [flushF]
 rw [if_neg (by rw [h]; decide)]
theorem flushF_last : ∀ l : List Ln, (∀ x ∈ l, x.f0 = false) -> ∀ y : Ln, y.f0 = true -> flushF (l ++ [y]) = some l.length
 | [], _, y, hy => by simp only [List.nil_append, flushF]; rw [if_pos hy]; rfl
 | x :: t, h, y, hy => by
  rw [List.cons_append, flushF_line x _ (h x List.mem_cons_self), flushF_last t (fun z hz => h z (List.mem_cons_of_mem _ hz)) y hy]
  rfl
theorem flushF_ends (ts : List ByteArray) : flushF (Hello.endsF ts) = some ts.length := by
 have h := flushF_last (ts.map Hello.lineOf) (fun x hx => by obtain ⟨t, _, rfl⟩ := List.mem_map.1 hx; rfl) Hello.flushL rfl
 rw [List.length_map] at h
 exact h
theorem flushF_parts (p : List Int) : flushF (partsF p) = some (pieces p).length := by
 have h := flushF_last ((pieces p).map lineOf) (fun x hx => by obtain ⟨t, _, rfl⟩ := List.mem_map.1 hx; rfl) Line.flushL rfl
 rw [List.length_map] at h
 exact h
def saidF (u : List S42) (p : List Int) : List Int := if (Hello.pushF u).2 = true then (putF ((Hello.pushF u).1 ++ partsF p)).1 else []
theorem said_eq (u : List S42) (p : List Int) (hl : u.length <= 1000000) (hs : ∀ y ∈ u, Hello.smallU y) (hp : p.length <= 1000000) : sacristylaw18_said.f 100000000 u p = some (saidF u p) := by
 have h1 := Hello.push_eq u hl hs (k := 100000000) (by omega)
 have h2 := Hello.push_len u
 have h3 := partsF_length p
 unfold sacristylaw18_said.f saidF
 rw [h1]
 simp only [Option.bind_some]
 by_cases c : (Hello.pushF u).2 = true
 ·rw [if_pos c, if_pos c, if_pos (by simp; omega), List.nil_append, parts_eq p (by omega)]
  simp only [Option.bind_some]
  rw [if_pos (by omega), put_eq ((Hello.pushF u).1 ++ partsF p) (by rw [List.length_append]; omega) (by rw [List.length_append]; omega)]
  rfl
 ·rw [if_neg c, if_neg c]
theorem push_ok {u : List S42} {x : List Ln} (e : Hello.pushF u = (x, true)) : x.all okL = true /\ x = Hello.endsF (u.map Hello.upT) /\ x.length = u.length + 1 /\ u.all Hello.okU = true /\ u.length ≠ 0 /\ u.length <= 16 := by
 have e1 := Hello.push_first e
 refine ⟨?_, e1.1, ?_, e1.2⟩
 ·rw [e1.1]
  exact ends_ok (Hello.push_small e1.2.1)
 ·rw [e1.1, Hello.ends_len, List.length_map]
theorem said_lines {u : List S42} {x : List Ln} (e : Hello.pushF u = (x, true)) (p : List Int) : saidF u p = (x ++ partsF p).flatMap encL /\ (x ++ partsF p).all okL = true := by
 have h1 := push_ok e
 have hok : (x ++ partsF p).all okL = true := by rw [List.all_append, h1.1, partsF_ok]; rfl
 unfold saidF putF
 rw [e, if_pos rfl, if_pos hok]
 exact ⟨rfl, hok⟩
theorem said_bytes (u : List S42) (p : List Int) : Bytes (saidF u p) := by
 unfold saidF putF
 split
 ·split
  ·rename_i c
   exact enc_bytes c
  ·exact fun x hx => by cases hx
 ·exact fun x hx => by cases hx
theorem said_len {u : List S42} {x : List Ln} (e : Hello.pushF u = (x, true)) (p : List Int) : (saidF u p).length <= 4004 * (19 + p.length / 4000) /\ 12 <= (saidF u p).length := by
 have h1 := push_ok e
 have h2 := partsF_length p
 have h3 := putF_len (x ++ partsF p)
 have h4 := said_lines e p
 have h5 : saidF u p = (putF (x ++ partsF p)).1 := by unfold saidF; rw [e]; rfl
 constructor
 ·rw [h5]
  rw [List.length_append] at h3
  omega
 ·rw [h4.1, joinE_length, List.length_append]
  omega
theorem said_take {u : List S42} {x : List Ln} (e : Hello.pushF u = (x, true)) (p : List Int) (hB : Bytes p) (td : List Int) : takeS pushR errT ⟨[], td, [], [], -1, false⟩ (saidF u p) = ⟨saidF u p, td, u, p, -2, true⟩ := by
 have h1 := push_ok e
 have h4 := said_lines e p
 have hpl : (pieces p).length + 1 = (partsF p).length := by rw [partsF_length, pieces_length]
 have hc : cutF (saidF u p) = (x ++ partsF p, [], 0) := by rw [h4.1]; exact cutF_enc _ h4.2
 have hf : flushF (x ++ partsF p) = some u.length := flushF_app _ _ (by rw [h1.2.1, flushF_ends, List.length_map])
 have hpu : pushR x = (u, true) := by
  unfold pushR
  rw [Hello.pushed_back e (k := 6000000) (by omega)]
  rfl
 have ht : (x ++ partsF p).take (u.length + 1) = x := by rw [<- h1.2.2.1, List.take_left]
 have hd : (x ++ partsF p).drop (u.length + 1) = partsF p := by rw [<- h1.2.2.1, List.drop_left]
 rw [take_hear pushR errT rfl (show (-1 : Int) ≠ -2 by decide) _]
 rw [hear_changes (s := { came := [] ++ saidF u p, send := td, ups := [], pack := [], nx := -1, waits := false }) hc rfl]
 unfold changesS
 rw [hf]
 simp only [ht, hd, hpu]
 rw [if_pos trivial]
 unfold packS
 rw [flushF_parts]
 have hfine : fine (partsF p) [] (pieces p).length := ⟨hpl, rfl, by rw [partsF_join p hB]⟩
 simp only [if_pos hfine]
 rw [partsF_join p hB]
 rfl
theorem said_two {u : List S42} {x : List Ln} (e : Hello.pushF u = (x, true)) (p : List Int) (hB : Bytes p) (td : List Int) (a b : List Int) (hab : a ++ b = saidF u p) :
  (takeS pushR errT (takeS pushR errT ⟨[], td, [], [], -1, false⟩ a) b).waits = true /\ (takeS pushR errT (takeS pushR errT ⟨[], td, [], [], -1, false⟩ a) b).send = td /\ (takeS pushR errT (takeS pushR errT ⟨[], td, [], [], -1, false⟩ a) b).ups = u /\ (takeS pushR errT (takeS pushR errT ⟨[], td, [], [], -1, false⟩ a) b).pack = p /\ (b ≠ [] -> (takeS pushR errT ⟨[], td, [], [], -1, false⟩ a).waits = false) := by
 have h := takeS_two pushR errT td [] [] a b
 rw [hab, said_take e p hB td] at h
 obtain ⟨q1, q2, q3, q4, q5⟩ := h
 have hw : (takeS pushR errT (takeS pushR errT ⟨[], td, [], [], -1, false⟩ a) b).waits = true := q3
 have h6 := q5 hw
 refine ⟨hw, q1, h6.1, h6.2, fun hb => ?_⟩
 cases c : (takeS pushR errT ⟨[], td, [], [], -1, false⟩ a).waits with
 | false => rfl
 | true =>
  rw [take_wait pushR errT c hb] at hw
  cases hw
end Go.Proofs.YtemkgdpfkbpnpaaGreatDoor.Take
