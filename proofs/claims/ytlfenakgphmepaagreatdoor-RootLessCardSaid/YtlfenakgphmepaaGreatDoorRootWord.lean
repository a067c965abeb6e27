/- A reader of lines: the words of a line. -/
import Derived.Test.YtlfenakgphmepaaGreatDoorRootRead
namespace Go.Proofs.YtlfenakgphmepaaGreatDoor.Root
open Go.RowKit Go.Proofs.YtlfenakgphmepaaGreatDoorW.PrintWords Go.Proofs.YtlfenakgphmepaaGreatDoorW.PrintLast Go.Proofs.YtlfenakgphmepaaGreatDoorW.PrintMore Go.Proofs.YtlfenakgphmepaaGreatDoor.Conv Go.Proofs.YtlfenakgphmepaaGreatDoor.Print Go.Proofs.YtlfenakgphmepaaGreatDoor.Build
set_option linter.unusedVariables false
set_option linter.unusedSimpArgs false
theorem some1_calls {W : World} {S : Nat -> Prop} {g : Nat} {l : List ByteArray} {e : Bool} (h : Rd W S g l e) (hl : l.length <= 1000000000) :
  Calls Tryz.prog 33 #[.pointer (some ⟨g, 0, none⟩), .int .i64 1] W fun r w' => ∃ v, r = .returned v /\ Kd.R Kd.string 9 w' W.heap.size (fun _ => True) v (someF 1 l e).1 /\ Rd w' S g (someF 1 l e).2.1 (someF 1 l e).2.2 /\ Keeps W w' (At g) := some_calls h 1 (by decide) hl
def cutsF (c : UInt8) (s : ByteArray) : List ByteArray := Lib.splitB ⟨#[c]⟩ 0 (Lib.countB s ⟨#[c]⟩) s
theorem split_eq (c : UInt8) (s : ByteArray) (h : s.size < 4294967281) : strings_Split.f s ⟨#[c]⟩ = some (cutsF c s) := if_pos ⟨rfl, h⟩
theorem cuts_len (c : UInt8) (s : ByteArray) : 0 < (cutsF c s).length := by
 unfold cutsF
 rw [Lib.splitB_all ⟨#[c]⟩ (Nat.le_refl 1) 0 _ s rfl]
 exact Nat.succ_pos _
def blanks (n : Nat) : List ByteArray := List.replicate n ⟨#[]⟩
def hd0 (l : List ByteArray) : ByteArray := l.getD 0 ByteArray.empty
def wordsF (first : ByteArray) (many : Nat) (l : List ByteArray) (e : Bool) : List ByteArray × List ByteArray × Bool :=
 if (someF 1 l e).2.2 = true then (blanks many, (someF 1 l e).2) else
 if (cutsF 32 (hd0 l)).length = many /\ (hd0 (cutsF 32 (hd0 l))).toList = first.toList then (cutsF 32 (hd0 l), (someF 1 l e).2) else (blanks many, (someF 1 l e).2.1, true)
theorem size_str : (Tryz.prog.info? 9).map (·.size) = some 1 := by kernel_rfl
theorem IsErr.no {v : Value} (h : IsErr v false) : v = .nilIface := h.elim (fun h => h.2) (fun h => Bool.noConfusion h.1)
theorem IsErr.is {v : Value} (h : IsErr v true) : ∃ b, v = .iface 87 (.pointer (some ⟨b, 0, none⟩)) := h.elim (fun h => Bool.noConfusion h.1) (fun h => h.2)
theorem R_keeps {α : Type} {d : Kd α} {ty : Nat} {W W' : World} {base g : Nat} {ok : Nat -> Prop} {v : Value} {xs : List α} (h : Kd.R d ty W base ok v xs) (hk : Keeps W W' (At g)) (hg : g < base) : Kd.R d ty W' base ok v xs :=
 Kd.R_mono (Kd.R_step (Kd.R_bound h) (fun k e hl => hk.block k hl (fun e2 => by have := e.2.1; have e3 : k = g := e2; omega))) (fun k e => e.1)
theorem cell0 {W : World} {base ty : Nat} {ok : Nat -> Prop} {v : Value} {xs : List ByteArray} (h : Kd.R Kd.string ty W base ok v xs) (hp : 0 < xs.length) : ∃ ad c, v = .slice (some ad) xs.length c /\ W.cell? (ad.add 0) = some (.string (hd0 xs)) /\ W.cell? ad = some (.string (hd0 xs)) := by
 obtain ⟨A, c, rfl⟩ := Kd.R_slice h
 obtain ⟨ad, rfl, hc⟩ := (Kd.reads_of_C (enc := Value.string) (d := ByteArray.empty) (h1 := fun _ => rfl) (Kd.R_reads' h).2.2).2.2 hp
 have h0 := hc 0 hp
 refine ⟨ad, c, rfl, h0, ?_⟩
 have e : ad.add 0 = ad := by simp [Addr.add]
 rw [e] at h0
 exact h0
theorem row_lt {W : World} {p : Addr} {v : Value} (h : W.cell? p = some v) : p.block < W.heap.size := by
 rcases Nat.lt_or_ge p.block W.heap.size with h' | h'
 ·exact h'
 ·simp [World.cell?, Array.getElem?_eq_none h'] at h
theorem cell1 {W : World} {base ty : Nat} {ok : Nat -> Prop} {v : Value} {s : ByteArray} (h : Kd.R Kd.string ty W base ok v [s]) : ∃ ad c, v = .slice (some ad) 1 c /\ W.cell? (ad.add 0) = some (.string s) /\ W.cell? ad = some (.string s) := cell0 h (Nat.succ_pos 0)
set_option maxHeartbeats 8000000 in
set_option maxRecDepth 100000 in
theorem words_calls {W : World} {S : Nat -> Prop} {g : Nat} {l : List ByteArray} {e : Bool} (h : Rd W S g l e) (first : ByteArray) (many : Nat) (hm0 : 0 < many) (hm : many <= 6) (hl : l.length <= 1000000000) (hs : ∀ s ∈ l, s.size <= 1000000000) :
  Calls Tryz.prog 32 #[.pointer (some ⟨g, 0, none⟩), .string first, .int .i64 many] W fun r w' => ∃ v, r = .returned v /\ Kd.R Kd.string 9 w' W.heap.size (fun _ => True) v (wordsF first many l e).1 /\ Rd w' S g (wordsF first many l e).2.1 (wordsF first many l e).2.2 /\ Keeps W w' (At g) := by
 have H := Asd.mk h
 have HL := Asd.mk hl
 have HM := Asd.mk (And.intro hm0 hm)
 have HS := Asd.mk (fun (W' : World) (hb : Below W.heap.size W W') => some1_calls (h.below hb) hl)
 have HBW := Asd.mk (Below.refl W.heap.size W)
 by_cases hb : l.length < 1 ∨ e = true
 ·have e1 : wordsF first many l e = (blanks many, l, true) := by
   unfold wordsF
   rw [some_bad hb, if_pos rfl]
  rw [e1]
  have e2 := some_bad (n := 1) hb
  have E2 := Asd.mk e2
  clear h hm0 hm hl hs e1 e2 hb
  go_enter Tryz.func32, Tryz.ntmps32
  go_wp2_with (first
   | ((with_reducible refine gate_dst (N := 11) rfl ?_); refine Kd.R_make Kd.string (w0 := W) W.heap.size 9 ?hg (N := 11) ?hd 22 (.tmp 10) (.tmp 10) ?ho (many : Int) ?hx ?hy Tryz.underlying22 (.string ⟨#[]⟩) 16 info9 rfl (by decide) (by decide) (⟨#[]⟩ : ByteArray) (ok := fun _ => True) (okp := fun _ => True) rfl (fun _ _ => trivial) trivial ?h0 ?hl HBW.out (Nat.le_refl _) ?_; (case hg => rfl); (case hd => rfl); (case ho => rfl); (case hx => rfl); (case hy => rfl); (case h0 => omega); (case hl => have := HM.out.2; omega); intro v1 w1 ho1 hb1 hg1 hat1; have HO1 := Asd.mk ho1; have HB1 := Asd.mk hb1; clear ho1 hb1 hg1 hat1)
   | (go_at_call 33; with_reducible refine (HS.out _ HB1.out).mono ?_; rintro r w2 ⟨v2, rfl, hr, hR, hK⟩; rw [E2.out] at hR; have HRD := Asd.mk hR; have HK := Asd.mk hK; obtain ⟨A2, c2, ve, k0, k1, f0, f1, he, hf, hc⟩ := hR.cells; obtain ⟨b, rfl⟩ := he.is; clear hr hR hK k0 f0 f1 hf hc))
  go_ret
  have hgl := H.out.lt
  exact ⟨_, rfl, R_keeps HO1.out HK.out hgl, HRD.out, (Keeps.of_below HB1.out).trans HK.out⟩
 ·obtain ⟨s, tl, rfl⟩ : ∃ s tl, l = s :: tl := by
   cases l with
   | nil => exact absurd (Or.inl (by simp)) hb
   | cons s tl => exact ⟨s, tl, rfl⟩
  obtain rfl : e = false := by
   cases e with
   | true => exact absurd (Or.inr rfl) hb
   | false => rfl
  have e2 : someF 1 (s :: tl) false = ([s], tl, false) := some_ok (n := 1) (by simp)
  have E2 := Asd.mk e2
  have hss := hs s List.mem_cons_self
  have hcl := cuts_len 32 s
  have SP := Asd.mk (fun W' => strings_Split.calls s ⟨#[32]⟩ _ W' (split_eq 32 s (by omega)))
  generalize hws : cutsF 32 s = ws at hcl SP
  have e1 : wordsF first many (s :: tl) false = if ws.length = many /\ (hd0 ws).toList = first.toList then (ws, tl, false) else (blanks many, tl, true) := by
   unfold wordsF
   rw [e2]
   have : hd0 (s :: tl) = s := rfl
   rw [this, hws]
   exact if_neg (fun e => Bool.noConfusion e)
  rw [e1]
  have HCL := Asd.mk hcl
  have HGL := Asd.mk h.lt
  by_cases c1 : ws.length = many
  ·by_cases c2 : (hd0 ws).toList = first.toList
   ·rw [if_pos ⟨c1, c2⟩]
    have q1 : ((ws.length : Int) == (many : Int)) = true := beq_iff_eq.2 (by omega)
    have q2 : ((ws.length : Int) != (many : Int)) = false := bne_eq_false_iff_eq.2 (by omega)
    have q3 : ((hd0 ws).toList == first.toList) = true := beq_iff_eq.2 c2
    have q4 : ((hd0 ws).toList != first.toList) = false := bne_eq_false_iff_eq.2 c2
    have C1 := Asd.mk c1
    have z1 : (0 : Int) < (ws.length : Int) := by omega
    have z2 : 0 < ws.length := hcl
    clear h hm0 hm hl hs e1 e2 hb hws hss hcl c2 c1
    go_enter Tryz.func32, Tryz.ntmps32
    go_wp2_with (first
     | ((with_reducible refine gate_dst (N := 11) rfl ?_); refine Kd.R_make Kd.string (w0 := W) W.heap.size 9 ?hg (N := 11) ?hd 22 (.tmp 10) (.tmp 10) ?ho (many : Int) ?hx ?hy Tryz.underlying22 (.string ⟨#[]⟩) 16 info9 rfl (by decide) (by decide) (⟨#[]⟩ : ByteArray) (ok := fun _ => True) (okp := fun _ => True) rfl (fun _ _ => trivial) trivial ?h0 ?hl HBW.out (Nat.le_refl _) ?_; (case hg => rfl); (case hd => rfl); (case ho => rfl); (case hx => rfl); (case hy => rfl); (case h0 => omega); (case hl => have := HM.out.2; omega); intro v1 w1 ho1 hb1 hg1 hat1; have HO1 := Asd.mk ho1; have HB1 := Asd.mk hb1; clear ho1 hb1 hg1 hat1)
     | (go_at_call 33; with_reducible refine (HS.out _ HB1.out).mono ?_; rintro r w2 ⟨v2, rfl, hr, hR, hK⟩; rw [E2.out] at hR hr; have HRD := Asd.mk hR; have HK := Asd.mk hK; obtain ⟨A2, c2, ve, k0, k1, f0, f1, he, hf, hc⟩ := hR.cells; obtain rfl := he.no; obtain ⟨ad, cv, rfl, m0, m0'⟩ := cell1 hr; clear hr hR hK k0 f0 f1 hf hc)
     | (go_at_call 30; with_reducible refine (SP.out _).mono ?_; rintro r w3 ⟨v3, rfl, hr, hb3⟩; have HB3 := Asd.mk hb3; obtain ⟨ad3, cw, rfl, m3, m3'⟩ := cell0 hr HCL.out; have HW := Asd.mk (Kd.R_reads' hr).2.2; clear hr hb3)
     | ((with_reducible refine gate_builtin (b := .copy) (xs := #[.tmp 44, .tmp 45]) rfl ?_); refine Kd.R_copy (enc := Value.string) ByteArray.empty (w0 := w3) W.heap.size rfl (.tmp 44) (.tmp 45) 22 22 9 rfl Tryz.underlying22 size_str v1 _ ws (some ad3) ws.length cw (fun _ => True) rfl rfl (Kd.R_below (R_keeps HO1.out HK.out HGL.out) HB3.out) HW.out (Below.refl _ _) (Nat.le_trans HB1.out.size (Nat.le_trans HK.out.size HB3.out.size)) ?_; intro w4 ho4 hb4 hg4; have HO4 := Asd.mk ho4; have HG4 := Asd.mk hg4; clear ho4 hb4 hg4))
    go_ret
    have hrow : ∀ k, v1.ownBlock = some k -> W.heap.size <= k := Kd.R_base HO1.out
    have hk4 : Keeps w3 _ (fun k => v1.ownBlock = some k) := Keeps.of_grown HG4.out (fun k e => e)
    have hS : ∀ k, S k -> k < W.heap.size := fun k e => by
     obtain ⟨_, _, _, _, _, _, _, hs⟩ := H.out
     exact (hs k e).2
    refine ⟨_, rfl, ?_, (HRD.out.below HB3.out).keeps hk4 (fun e => by have := hrow g e; have := HGL.out; omega) (fun k e e2 => by have := hrow k e2; have := hS k e; omega), ?_⟩
    ·have e : (List.take (min ws.length (List.replicate (many : Int).toNat (⟨#[]⟩ : ByteArray)).length) ws ++ List.drop (min ws.length (List.replicate (many : Int).toNat (⟨#[]⟩ : ByteArray)).length) (List.replicate (many : Int).toNat (⟨#[]⟩ : ByteArray))) = ws := by
      rw [List.length_replicate, Int.toNat_natCast, C1.out, Nat.min_self, List.take_of_length_le (by rw [C1.out]; exact Nat.le_refl _), List.drop_of_length_le (by rw [List.length_replicate]; exact Nat.le_refl _), List.append_nil]
     have := HO4.out
     rw [e] at this
     exact this
    ·have hk3 := ((Keeps.of_below HB1.out).trans HK.out).trans (Keeps.of_below HB3.out)
     exact ⟨hk4.os.trans hk3.os, hk4.tape.trans hk3.tape, hk4.output.trans hk3.output, Nat.le_trans hk3.size hk4.size, fun k hk hn => (hk4.block k (Nat.lt_of_lt_of_le hk hk3.size) (fun e => by have := hrow k e; omega)).trans (hk3.block k hk hn)⟩
   ·rw [if_neg (fun e => c2 e.2)]
    have q1 : ((ws.length : Int) == (many : Int)) = true := beq_iff_eq.2 (by omega)
    have q2 : ((ws.length : Int) != (many : Int)) = false := bne_eq_false_iff_eq.2 (by omega)
    have q3 : ((hd0 ws).toList == first.toList) = false := beq_eq_false_iff_ne.2 c2
    have q4 : ((hd0 ws).toList != first.toList) = true := bne_iff_ne.2 c2
    have z1 : (0 : Int) < (ws.length : Int) := by omega
    have z2 : 0 < ws.length := hcl
    clear h hm0 hm hl hs e1 e2 hb hws hss hcl c2 c1
    go_enter Tryz.func32, Tryz.ntmps32
    go_wp2_with (first
     | ((with_reducible refine gate_dst (N := 11) rfl ?_); refine Kd.R_make Kd.string (w0 := W) W.heap.size 9 ?hg (N := 11) ?hd 22 (.tmp 10) (.tmp 10) ?ho (many : Int) ?hx ?hy Tryz.underlying22 (.string ⟨#[]⟩) 16 info9 rfl (by decide) (by decide) (⟨#[]⟩ : ByteArray) (ok := fun _ => True) (okp := fun _ => True) rfl (fun _ _ => trivial) trivial ?h0 ?hl HBW.out (Nat.le_refl _) ?_; (case hg => rfl); (case hd => rfl); (case ho => rfl); (case hx => rfl); (case hy => rfl); (case h0 => omega); (case hl => have := HM.out.2; omega); intro v1 w1 ho1 hb1 hg1 hat1; have HO1 := Asd.mk ho1; have HB1 := Asd.mk hb1; clear ho1 hb1 hg1 hat1)
     | (go_at_call 33; with_reducible refine (HS.out _ HB1.out).mono ?_; rintro r w2 ⟨v2, rfl, hr, hR, hK⟩; rw [E2.out] at hR hr; have HRD := Asd.mk hR; have HK := Asd.mk hK; obtain ⟨A2, c2, ve, k0, k1, f0, f1, he, hf, hc⟩ := hR.cells; obtain rfl := he.no; obtain ⟨ad, cv, rfl, m0, m0'⟩ := cell1 hr; clear hr hR hK k0 f0 f1 hf hc)
     | (go_at_call 30; with_reducible refine (SP.out _).mono ?_; rintro r w3 ⟨v3, rfl, hr, hb3⟩; have HB3 := Asd.mk hb3; have HR3 := Asd.mk (HRD.out.below hb3); have k1x := (hb3.cell (p := ⟨g, 1, none⟩) HRD.out.lt).trans k1; have HBX := Asd.mk (bal hb3 (.cells #[.string s] 89)); obtain ⟨Az, cz, vz, k0z, k1z, f0z, f1z, hez, hfz, hcz⟩ := (HRD.out.below HBX.out).cells; have m0z := (hb3.cell (p := ad) (row_lt m0')).trans m0'; have m0y := (hb3.cell (p := ad.add 0) (row_lt m0)).trans m0; obtain ⟨ad3, cw, rfl, m3, m3'⟩ := cell0 hr HCL.out; have HW := Asd.mk (Kd.R_reads' hr).2.2; clear hr hb3 k0z f0z hez hfz hcz k1x))
    go_ret
    have h2 := (HRD.out.below HBX.out).fail w3.heap.size
    have hk3 := ((Keeps.of_below HB1.out).trans HK.out).trans ((Keeps.of_below HBX.out).trans h2.2)
    exact ⟨_, rfl, R_keeps (Kd.R_below (R_keeps HO1.out HK.out HGL.out) HBX.out) h2.2 HGL.out, h2.1, hk3⟩
  ·rw [if_neg (fun e => c1 e.1)]
   have q1 : ((ws.length : Int) == (many : Int)) = false := beq_eq_false_iff_ne.2 (by omega)
   have q2 : ((ws.length : Int) != (many : Int)) = true := bne_iff_ne.2 (by omega)
   clear h hm0 hm hl hs e1 e2 hb hws hss hcl c1
   go_enter Tryz.func32, Tryz.ntmps32
   go_wp2_with (first
     | ((with_reducible refine gate_dst (N := 11) rfl ?_); refine Kd.R_make Kd.string (w0 := W) W.heap.size 9 ?hg (N := 11) ?hd 22 (.tmp 10) (.tmp 10) ?ho (many : Int) ?hx ?hy Tryz.underlying22 (.string ⟨#[]⟩) 16 info9 rfl (by decide) (by decide) (⟨#[]⟩ : ByteArray) (ok := fun _ => True) (okp := fun _ => True) rfl (fun _ _ => trivial) trivial ?h0 ?hl HBW.out (Nat.le_refl _) ?_; (case hg => rfl); (case hd => rfl); (case ho => rfl); (case hx => rfl); (case hy => rfl); (case h0 => omega); (case hl => have := HM.out.2; omega); intro v1 w1 ho1 hb1 hg1 hat1; have HO1 := Asd.mk ho1; have HB1 := Asd.mk hb1; clear ho1 hb1 hg1 hat1)
     | (go_at_call 33; with_reducible refine (HS.out _ HB1.out).mono ?_; rintro r w2 ⟨v2, rfl, hr, hR, hK⟩; rw [E2.out] at hR hr; have HRD := Asd.mk hR; have HK := Asd.mk hK; obtain ⟨A2, c2, ve, k0, k1, f0, f1, he, hf, hc⟩ := hR.cells; obtain rfl := he.no; obtain ⟨ad, cv, rfl, m0, m0'⟩ := cell1 hr; clear hr hR hK k0 f0 f1 hf hc)
     | (go_at_call 30; with_reducible refine (SP.out _).mono ?_; rintro r w3 ⟨v3, rfl, hr, hb3⟩; have HB3 := Asd.mk hb3; have HR3 := Asd.mk (HRD.out.below hb3); have k1x := (hb3.cell (p := ⟨g, 1, none⟩) HRD.out.lt).trans k1; have HBX := Asd.mk (bal hb3 (.cells #[.string s] 89)); obtain ⟨Az, cz, vz, k0z, k1z, f0z, f1z, hez, hfz, hcz⟩ := (HRD.out.below HBX.out).cells; have m0z := (hb3.cell (p := ad) (row_lt m0')).trans m0'; have m0y := (hb3.cell (p := ad.add 0) (row_lt m0)).trans m0; obtain ⟨ad3, cw, rfl, m3, m3'⟩ := cell0 hr HCL.out; have HW := Asd.mk (Kd.R_reads' hr).2.2; clear hr hb3 k0z f0z hez hfz hcz k1x))
   go_ret
   have h2 := (HRD.out.below HBX.out).fail w3.heap.size
   have hk3 := ((Keeps.of_below HB1.out).trans HK.out).trans ((Keeps.of_below HBX.out).trans h2.2)
   exact ⟨_, rfl, R_keeps (Kd.R_below (R_keeps HO1.out HK.out HGL.out) HBX.out) h2.2 HGL.out, h2.1, hk3⟩
end Go.Proofs.YtlfenakgphmepaaGreatDoor.Root
