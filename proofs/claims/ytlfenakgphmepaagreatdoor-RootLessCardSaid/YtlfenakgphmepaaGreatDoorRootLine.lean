/- The closures of Put: a line, and lines. -/
import Derived.Test.YtlfenakgphmepaaGreatDoorJoin
namespace Go.Proofs.YtlfenakgphmepaaGreatDoor.Root
open Go.RowKit Go.Proofs.YtlfenakgphmepaaGreatDoorW.PrintWords Go.Proofs.YtlfenakgphmepaaGreatDoorW.PrintLast Go.Proofs.YtlfenakgphmepaaGreatDoorW.PrintMore Go.Proofs.YtlfenakgphmepaaGreatDoor.Conv Go.Proofs.YtlfenakgphmepaaGreatDoor.Print Go.Proofs.YtlfenakgphmepaaGreatDoor.Build
set_option linter.unusedVariables false
set_option linter.unusedSimpArgs false
def lineS (l : List ByteArray) : ByteArray := joinS l ++ (⟨#[10]⟩ : ByteArray)
theorem joinG_size (l : List ByteArray) : ∀ acc : ByteArray, (joinG acc l).size = acc.size + sizeT l := by
 induction l with
 | nil => intro acc; rfl
 | cons s t ih =>
  intro acc
  rw [joinG, ih, sizeT_cons, ByteArray.size_append, ByteArray.size_append]
  show acc.size + 1 + s.size + sizeT t = _
  omega
theorem lineS_size (l : List ByteArray) : (lineS l).size <= sizeT l + 1 := by
 unfold lineS
 rw [ByteArray.size_append]
 show (joinS l).size + 1 <= _
 cases l with
 | nil => exact Nat.le_refl _
 | cons x t =>
  show (joinG x t).size + 1 <= _
  rw [joinG_size, sizeT_cons]
  omega
theorem C_strs {W : World} {g : Nat} {t : TypeId} {fr : Nat × Nat} (xs : List ByteArray) (h : W.heap[g]? = some (.cells (xs.map Value.string).toArray t fr)) (hm : xs.length <= 9223372036854775807) : Kd.C Kd.string W (some ⟨g, 0, none⟩) xs.length xs :=
 Kd.C_of_reads (enc := Value.string) (d := ByteArray.empty) (h1 := fun _ => rfl) ⟨rfl, hm, fun _ => ⟨_, rfl, fun j hj => by
  rw [add_plain, cell_of_row W g j _ t fr h]
  simp [List.getD_eq_getElem?_getD, List.getElem?_eq_getElem hj]⟩⟩
set_option maxHeartbeats 2000000 in
set_option maxRecDepth 100000 in
theorem line_calls {W : World} {own : Nat -> Prop} {b : Nat} {s : ByteArray} (h : IsBd W own b s) (A : Option Addr) (c : Nat) (l : List ByteArray) (hr : Kd.C Kd.string W A l.length l) (hc : l.length <= c) (hz : sizeT l <= 1000000000) (hs : s.size <= 1000000000) :
  Calls Tryz.prog 20 #[.slice A l.length c, .pointer (some ⟨b, 0, none⟩)] W fun e w' => e = .returned (.tuple #[]) /\ ∃ own', IsBd w' own' b (s ++ lineS l) /\ Goes W w' own own' := by
 have HJ := Asd.mk (join_calls A c l W hr hc hz)
 have HI := Asd.mk h
 have hls := lineS_size l
 have hjs : (joinS l).size + 1 = (lineS l).size := by unfold lineS; rw [ByteArray.size_append]; rfl
 have z1 : (joinS l).size + 1 <= 9223372036854775807 := by omega
 have HZ : Asd (s.size + (lineS l).size <= 140737488355328) := ⟨by omega⟩
 clear hr hc hz hs h hls hjs
 go_enter Tryz.func20, Tryz.ntmps20
 go_wp2_with (first
  | (go_at_call 22; with_reducible refine HJ.out.mono ?_; rintro r w1 ⟨rfl, hb1⟩; have HI1 := Asd.mk (HI.out.below hb1); have HB1 := Asd.mk hb1; clear hb1)
  | (go_at_call 21; refine (write_calls HI1.out (lineS l) HZ.out).mono ?_; rintro r w2 ⟨rfl, own2, hI2, hG2⟩; have HI2 := Asd.mk hI2; have HG2 := Asd.mk hG2; clear hI2 hG2))
 first | go_end0 | ((try simp only [Exit.inBlock, Exit.then]); refine bodyPost_ret (results_none rfl _ _ _) rfl ?_)
 exact ⟨rfl, own2, HI2.out, (Goes.below HB1.out).trans HG2.out⟩
set_option maxHeartbeats 4000000 in
set_option maxRecDepth 100000 in
theorem each_calls {W : World} {own : Nat -> Prop} {b : Nat} {s : ByteArray} (h : IsBd W own b s) (q : Nat) (hq : W.heap[q]? = some (.cells #[.func (.func 20) #[] #[.pointer (some ⟨b, 0, none⟩)]] 51 (0, 0))) (hqo : ¬ own q) (A : Option Addr) (c : Nat) (l : List ByteArray) (hr : Kd.F Kd.string W (fun k => ¬ own k /\ k < W.heap.size) A l.length l) (hc : l.length <= c) (hz : s.size + sizeT l <= 900000000) :
  Calls Tryz.prog 23 #[.slice A l.length c, .pointer (some ⟨q, 0, none⟩)] W fun e w' => e = .returned (.tuple #[]) /\ ∃ own', IsBd w' own' b (joinA s l) /\ Goes W w' own own' := by
 have HI := Asd.mk h
 have HQ := Asd.mk hq
 have HQO := Asd.mk hqo
 have HR := Asd.mk hr
 have hmax : l.length <= 9223372036854775807 := by have := sizeT_len l; omega
 have HZ := Asd.mk hz
 have HQL := Asd.mk (lt_box hq)
 clear hr hc hz h hq hqo
 go_enter Tryz.func23, Tryz.ntmps23
 go_wp2
 go_loopg [7] l.length (fun gg s7 wr => ∃ kk : Nat, kk <= l.length /\ l.length - kk <= gg /\ s7 = .int .i64 kk /\ Asd (∃ own1 acc, IsBd wr own1 b acc /\ Goes W wr own own1 /\ joinA acc (l.drop kk) = joinA s l /\ acc.size + sizeT (l.drop kk) <= 900000000))
 case atStart => exact ⟨0, Nat.zero_le _, by omega, rfl, ⟨own, s, HI.out, Goes.refl _ _, rfl, HZ.out⟩⟩
 case round =>
  obtain ⟨kk, hkk, hg, rfl, ⟨own1, acc, hI, hG, hA, hac⟩⟩ := hrel
  by_cases hlt : kk < l.length
  ·have hltz : (kk : Int) < (l.length : Int) := by omega
   have hrow : Kd.F Kd.string wr (fun k => ¬ own k /\ k < W.heap.size) A l.length l := Kd.F_step HR.out (fun k e hl => hG.keeps.block k e.2 e.1)
   obtain ⟨ad2, rfl, hcc⟩ := (Kd.reads_of_C (enc := Value.string) (d := ByteArray.empty) (h1 := fun _ => rfl) (Kd.F_now hrow)).2.2 (by omega)
   have hcell := hcc kk hlt
   clear hcc hrow
   have hx : l.getD kk ByteArray.empty = l[kk] := by rw [List.getD_eq_getElem?_getD, List.getElem?_eq_getElem hlt]; rfl
   rw [hx] at hcell
   rw [List.drop_eq_getElem_cons hlt] at hA hac
   rw [sizeT_cons] at hac
   clear hx
   generalize l[kk] = z at hcell hA hac
   have kq := (box_cell ((hG.keeps.block q HQL.out HQO.out).trans HQ.out) 0 rfl).1
   have HA := Asd.mk hA
   have HI1 := Asd.mk hI
   have HG1 := Asd.mk hG
   have HAC : Asd ((acc ++ (z ++ (⟨#[10]⟩ : ByteArray))).size + sizeT (l.drop (kk + 1)) <= 900000000) := ⟨by rw [ByteArray.size_append, ByteArray.size_append]; show acc.size + (z.size + 1) + _ <= _; omega⟩
   have HZZ : Asd (sizeT [z] <= 1000000000 /\ acc.size <= 1000000000) := ⟨by rw [sizeT_cons]; have : sizeT ([] : List ByteArray) = 0 := rfl; omega, by omega⟩
   have hL : Calls Tryz.prog 20 #[.slice (some ⟨wr.heap.size, 0, none⟩) 1 1, .pointer (some ⟨b, 0, none⟩)] (wr.alloc (.cells #[.string z] 9)) fun e w' => e = .returned (.tuple #[]) /\ ∃ own', IsBd w' own' b (acc ++ lineS [z]) /\ Goes (wr.alloc (.cells #[.string z] 9)) w' own1 own' := line_calls (hI.below (bal (Below.refl _ _) (.cells #[.string z] 9))) _ 1 [z] (C_strs [z] (heap_alloc_new wr (.cells #[.string z] 9)) (show 1 <= 9223372036854775807 by decide)) (Nat.le_refl _) HZZ.out.1 HZZ.out.2
   have HL := Asd.mk hL
   clear hA hac hI hG hL
   go_wp2_with (go_at_call 20; with_reducible refine HL.out.mono ?_; rintro r w2 ⟨rfl, own2, hI2, hG2⟩; have HI2 := Asd.mk hI2; have HG2 := Asd.mk hG2; clear hI2 hG2)
   go_roundg (l.length - (kk + 1))
   case measure => omega
   case rel => exact ⟨kk + 1, by omega, by omega, by go_num, ⟨own2, _, HI2.out, (HG1.out.trans (Goes.below (bal (Below.refl _ _) _))).trans HG2.out, HA.out, HAC.out⟩⟩
  ·obtain rfl : kk = l.length := by omega
   rw [List.drop_length] at hA
   have hA' : acc = joinA s l := hA
   subst hA'
   have HI1 := Asd.mk hI
   have HG1 := Asd.mk hG
   clear hA hac hI hG
   go_wp2
   first | go_end0 | ((try simp only [Exit.inBlock, Exit.then]); refine bodyPost_ret (results_none rfl _ _ _) rfl ?_)
   exact ⟨rfl, own1, HI1.out, HG1.out⟩
end Go.Proofs.YtlfenakgphmepaaGreatDoor.Root
