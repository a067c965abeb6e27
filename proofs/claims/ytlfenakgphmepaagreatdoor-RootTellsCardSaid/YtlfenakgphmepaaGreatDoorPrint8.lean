/- Functions of the program as plain functions, and proofs that the program's calls tell what these tell. Written by a program. -/
import Derived.Test.YtlfenakgphmepaaGreatDoorPrint0
import Derived.Test.YtlfenakgphmepaaGreatDoorPrint7
namespace Go.Proofs.YtlfenakgphmepaaGreatDoor.Print
open Go.RowKit YtlfenakgphmepaaGreatDoorW.PrintWords YtlfenakgphmepaaGreatDoorW.PrintLast YtlfenakgphmepaaGreatDoorW.PrintMore YtlfenakgphmepaaGreatDoor.Conv
attribute [local go_sem] max2_int min2_int max_two min_two max_three min_three max_four min_four
set_option linter.unusedVariables false
set_option linter.unusedSimpArgs false
mutual
def sacristylaw10_Great.j1 : Nat -> Int -> Int -> List ByteArray -> List (S39) -> Option (Bool)
 | 0, _, _, _, _ => none
 | k + 1, x3, x158000, x158001, x158002 => sacristylaw10_Great.l1 k x3 0 x158000 x158001 x158002
def sacristylaw10_Great.l1 : Nat -> Int -> Int -> Int -> List ByteArray -> List (S39) -> Option (Bool)
 | 0, _, _, _, _, _ => none
 | k + 1, x3, x5, x158000, x158001, x158002 => if x5 < (x158002.length : Int) then (sacristylaw10_Great.j3 k x3 x5 (decide (x3 < 20000)) x158000 x158001 x158002) else (sacristylaw10_Great.j3 k x3 x5 false x158000 x158001 x158002)
def sacristylaw10_Great.j3 : Nat -> Int -> Int -> Bool -> Int -> List ByteArray -> List (S39) -> Option (Bool)
 | 0, _, _, _, _, _, _ => none
 | k + 1, x3, x5, x43, x158000, x158001, x158002 => if x43 = true then (if 0 <= x5 then (if x5 < (x158002.length : Int) then (sacristylaw10_Great.l2 k (wrap64 ((wrap64 ((wrap64 ((wrap64 (x3 + 1)) + (mn (((qT x158002 x5).f0).size : Int) 20000))) + (mn (((qT x158002 x5).f2).size : Int) 20000))) + (((qT x158002 x5).f4).length : Int))) x5 0 x158000 x158001 x158002 ((qT x158002 x5).f0) ((qT x158002 x5).f1) ((qT x158002 x5).f2) ((qT x158002 x5).f3) ((qT x158002 x5).f4)) else (none)) else (none)) else (if x3 >= 20000 then (some true) else (some (decide ((x158002.length : Int) > 40))))
def sacristylaw10_Great.l2 : Nat -> Int -> Int -> Int -> Int -> List ByteArray -> List (S39) -> ByteArray -> Bool -> ByteArray -> List (S83) -> List ByteArray -> Option (Bool)
 | 0, _, _, _, _, _, _, _, _, _, _, _ => none
 | k + 1, x3, x5, x7, x158000, x158001, x158002, x161000, x161001, x161002, x161003, x161004 => if x7 < (x161004.length : Int) then (if x3 < 20000 then (if 0 <= x7 then (sacristylaw10_Great.l2 k (wrap64 (x3 + (mn ((rdOf ByteArray.empty x161004 x7).size : Int) 20000))) x5 (wrap64 (x7 + 1)) x158000 x158001 x158002 x161000 x161001 x161002 x161003 x161004) else (none)) else ((w9_Great.f k x161003).bind fun t162 => (if t162 = true then (some true) else (sacristylaw10_Great.l1 k x3 (wrap64 (x5 + 1)) x158000 x158001 x158002)))) else ((w9_Great.f k x161003).bind fun t163 => (if t163 = true then (some true) else (sacristylaw10_Great.l1 k x3 (wrap64 (x5 + 1)) x158000 x158001 x158002)))
def sacristylaw10_Great.l0 : Nat -> Int -> Int -> Int -> List ByteArray -> List (S39) -> Option (Bool)
 | 0, _, _, _, _, _ => none
 | k + 1, x3, x4, x158000, x158001, x158002 => if x4 < (x158001.length : Int) then (if x3 < 20000 then (if 0 <= x4 then (sacristylaw10_Great.l0 k (wrap64 (x3 + (mn ((rdOf ByteArray.empty x158001 x4).size : Int) 20000))) (wrap64 (x4 + 1)) x158000 x158001 x158002) else (none)) else (sacristylaw10_Great.j1 k x3 x158000 x158001 x158002)) else (sacristylaw10_Great.j1 k x3 x158000 x158001 x158002)
end
def sacristylaw10_Great.f (k : Nat) (a0_0 : Int) (l0_1 : List ByteArray) (l0_2 : List (S39)) : Option (Bool) := sacristylaw10_Great.l0 k (wrap64 ((l0_1.length : Int) + (l0_2.length : Int))) 0 a0_0 l0_1 l0_2
theorem sacristylaw10_Great.mono_l : ∀ k, (∀ y0 y1 y2 y3, LeO (sacristylaw10_Great.j1 k y0 y1 y2 y3) (sacristylaw10_Great.j1 (k + 1) y0 y1 y2 y3)) /\ (∀ y0 y1 y2 y3 y4, LeO (sacristylaw10_Great.l1 k y0 y1 y2 y3 y4) (sacristylaw10_Great.l1 (k + 1) y0 y1 y2 y3 y4)) /\ (∀ y0 y1 y2 y3 y4 y5, LeO (sacristylaw10_Great.j3 k y0 y1 y2 y3 y4 y5) (sacristylaw10_Great.j3 (k + 1) y0 y1 y2 y3 y4 y5)) /\ (∀ y0 y1 y2 y3 y4 y5 y6 y7 y8 y9 y10, LeO (sacristylaw10_Great.l2 k y0 y1 y2 y3 y4 y5 y6 y7 y8 y9 y10) (sacristylaw10_Great.l2 (k + 1) y0 y1 y2 y3 y4 y5 y6 y7 y8 y9 y10)) /\ (∀ y0 y1 y2 y3 y4, LeO (sacristylaw10_Great.l0 k y0 y1 y2 y3 y4) (sacristylaw10_Great.l0 (k + 1) y0 y1 y2 y3 y4))
 | 0 => ⟨fun _ _ _ _ r h => by simp [sacristylaw10_Great.j1] at h, fun _ _ _ _ _ r h => by simp [sacristylaw10_Great.l1] at h, fun _ _ _ _ _ _ r h => by simp [sacristylaw10_Great.j3] at h, fun _ _ _ _ _ _ _ _ _ _ _ r h => by simp [sacristylaw10_Great.l2] at h, fun _ _ _ _ _ r h => by simp [sacristylaw10_Great.l0] at h⟩
 | k + 1 => by
  obtain ⟨ih0, ih1, ih2, ih3, ih4⟩ := sacristylaw10_Great.mono_l k
  refine ⟨?_, ?_, ?_, ?_, ?_⟩
  ·intro y0 y1 y2 y3
   unfold sacristylaw10_Great.j1
   repeat' first
   | (with_reducible exact ih0 _ _ _ _)
   | (with_reducible exact ih1 _ _ _ _ _)
   | (with_reducible exact ih2 _ _ _ _ _ _)
   | (with_reducible exact ih3 _ _ _ _ _ _ _ _ _ _ _)
   | (with_reducible exact ih4 _ _ _ _ _)
   | (with_reducible exact w9_Great.mono _ _)
   | (with_reducible exact LeO.refl _)
   | (with_reducible exact LeO.none _)
   | (with_reducible refine LeO.ite ?_ ?_)
   | (with_reducible refine LeO.bind ?_ (fun _ => ?_))
   | exact ih0 _ _ _ _
   | exact ih1 _ _ _ _ _
   | exact ih2 _ _ _ _ _ _
   | exact ih3 _ _ _ _ _ _ _ _ _ _ _
   | exact ih4 _ _ _ _ _
   | exact w9_Great.mono _ _
   | exact LeO.none _
   | refine LeO.ite ?_ ?_
   | refine LeO.bind ?_ (fun _ => ?_)
  ·intro y0 y1 y2 y3 y4
   unfold sacristylaw10_Great.l1
   repeat' first
   | (with_reducible exact ih0 _ _ _ _)
   | (with_reducible exact ih1 _ _ _ _ _)
   | (with_reducible exact ih2 _ _ _ _ _ _)
   | (with_reducible exact ih3 _ _ _ _ _ _ _ _ _ _ _)
   | (with_reducible exact ih4 _ _ _ _ _)
   | (with_reducible exact w9_Great.mono _ _)
   | (with_reducible exact LeO.refl _)
   | (with_reducible exact LeO.none _)
   | (with_reducible refine LeO.ite ?_ ?_)
   | (with_reducible refine LeO.bind ?_ (fun _ => ?_))
   | exact ih0 _ _ _ _
   | exact ih1 _ _ _ _ _
   | exact ih2 _ _ _ _ _ _
   | exact ih3 _ _ _ _ _ _ _ _ _ _ _
   | exact ih4 _ _ _ _ _
   | exact w9_Great.mono _ _
   | exact LeO.none _
   | refine LeO.ite ?_ ?_
   | refine LeO.bind ?_ (fun _ => ?_)
  ·intro y0 y1 y2 y3 y4 y5
   unfold sacristylaw10_Great.j3
   repeat' first
   | (with_reducible exact ih0 _ _ _ _)
   | (with_reducible exact ih1 _ _ _ _ _)
   | (with_reducible exact ih2 _ _ _ _ _ _)
   | (with_reducible exact ih3 _ _ _ _ _ _ _ _ _ _ _)
   | (with_reducible exact ih4 _ _ _ _ _)
   | (with_reducible exact w9_Great.mono _ _)
   | (with_reducible exact LeO.refl _)
   | (with_reducible exact LeO.none _)
   | (with_reducible refine LeO.ite ?_ ?_)
   | (with_reducible refine LeO.bind ?_ (fun _ => ?_))
   | exact ih0 _ _ _ _
   | exact ih1 _ _ _ _ _
   | exact ih2 _ _ _ _ _ _
   | exact ih3 _ _ _ _ _ _ _ _ _ _ _
   | exact ih4 _ _ _ _ _
   | exact w9_Great.mono _ _
   | exact LeO.none _
   | refine LeO.ite ?_ ?_
   | refine LeO.bind ?_ (fun _ => ?_)
  ·intro y0 y1 y2 y3 y4 y5 y6 y7 y8 y9 y10
   unfold sacristylaw10_Great.l2
   repeat' first
   | (with_reducible exact ih0 _ _ _ _)
   | (with_reducible exact ih1 _ _ _ _ _)
   | (with_reducible exact ih2 _ _ _ _ _ _)
   | (with_reducible exact ih3 _ _ _ _ _ _ _ _ _ _ _)
   | (with_reducible exact ih4 _ _ _ _ _)
   | (with_reducible exact w9_Great.mono _ _)
   | (with_reducible exact LeO.refl _)
   | (with_reducible exact LeO.none _)
   | (with_reducible refine LeO.ite ?_ ?_)
   | (with_reducible refine LeO.bind ?_ (fun _ => ?_))
   | exact ih0 _ _ _ _
   | exact ih1 _ _ _ _ _
   | exact ih2 _ _ _ _ _ _
   | exact ih3 _ _ _ _ _ _ _ _ _ _ _
   | exact ih4 _ _ _ _ _
   | exact w9_Great.mono _ _
   | exact LeO.none _
   | refine LeO.ite ?_ ?_
   | refine LeO.bind ?_ (fun _ => ?_)
  ·intro y0 y1 y2 y3 y4
   unfold sacristylaw10_Great.l0
   repeat' first
   | (with_reducible exact ih0 _ _ _ _)
   | (with_reducible exact ih1 _ _ _ _ _)
   | (with_reducible exact ih2 _ _ _ _ _ _)
   | (with_reducible exact ih3 _ _ _ _ _ _ _ _ _ _ _)
   | (with_reducible exact ih4 _ _ _ _ _)
   | (with_reducible exact w9_Great.mono _ _)
   | (with_reducible exact LeO.refl _)
   | (with_reducible exact LeO.none _)
   | (with_reducible refine LeO.ite ?_ ?_)
   | (with_reducible refine LeO.bind ?_ (fun _ => ?_))
   | exact ih0 _ _ _ _
   | exact ih1 _ _ _ _ _
   | exact ih2 _ _ _ _ _ _
   | exact ih3 _ _ _ _ _ _ _ _ _ _ _
   | exact ih4 _ _ _ _ _
   | exact w9_Great.mono _ _
   | exact LeO.none _
   | refine LeO.ite ?_ ?_
   | refine LeO.bind ?_ (fun _ => ?_)
set_option maxHeartbeats 8000000 in
set_option maxRecDepth 100000 in
theorem sacristylaw10_Great.calls (k : Nat) (a0_0 : Int) (A0_1 : Option Addr) (c0_1 : Nat) (l0_1 : List ByteArray) (A0_2 : Option Addr) (c0_2 : Nat) (l0_2 : List (S39)) (r : Bool) (w : World) (hr0_1 : Kd.C Kd.string w A0_1 l0_1.length l0_1) (hc0_1 : l0_1.length <= c0_1) (hr0_2 : Kd.C k39 w A0_2 l0_2.length l0_2) (hc0_2 : l0_2.length <= c0_2) (h : sacristylaw10_Great.f k a0_0 l0_1 l0_2 = some r) :
  Calls Tryz.prog 6 #[.agg #[.int .i64 a0_0, .slice A0_1 l0_1.length c0_1, .slice A0_2 l0_2.length c0_2]] w fun e w' => e = .returned (.bool r) /\ Below w.heap.size w w' := by
 have hu25 := Tryz.underlying25
 have hu39 := Tryz.underlying39
 have HR0_1 := am hr0_1
 have HC0_1 := am hc0_1
 clear hr0_1 hc0_1
 have HR0_2 := am hr0_2
 have HC0_2 := am hc0_2
 clear hr0_2 hc0_2
 have HB := am (Below.refl w.heap.size w)
 have H : (sacristylaw10_Great.l0 k (wrap64 ((l0_1.length : Int) + (l0_2.length : Int))) 0 a0_0 l0_1 l0_2) = some r := h
 clear h
 have HC2 := am H
 clear H
 go_enter Tryz.func6, Tryz.ntmps6
 go_upto_block 0 with (first | ((with_reducible refine gate_dst (N := 1) rfl ?_); (try (refine gate_guard (by rfl) ?_; dsimp only)); refine box_event ?hg (N := 1) ?hd (cs := #[.int .i64 a0_0, .slice A0_1 l0_1.length c0_1, .slice A0_2 l0_2.length c0_2]) (t := 25) ?hr ?_; (case hd => rfl); (case hg => rfl); (case hr => first | (go_simp; done) | (go_simp; rfl)); intro gb157 hg w3 hbox hb; have n0_ := am (qW (bz HB.out) hb); have n1_ := am (hbox); have n2_ := am ((by rw [hg]; exact (qZ (bz HB.out)) : w.heap.size <= gb157)); have n3_ := am ((by rw [hg]; exact (qZ (bz HB.out)) : w.heap.size <= gb157)); clear HB; have HB := n0_; have BK157 := n1_; have GW157 := n2_; have GE157 := n3_; clear n0_ n1_ n2_ n3_; clear hb hbox hg; have hcz4_0 : w3.cell? ⟨gb157, 0, none⟩ = some (.int .i64 a0_0) := bc BK157.out 0; have hcz4_1 : w3.cell? ⟨gb157, 1, none⟩ = some (.slice A0_1 l0_1.length c0_1) := bc BK157.out 1; have hcz4_2 : w3.cell? ⟨gb157, 2, none⟩ = some (.slice A0_2 l0_2.length c0_2) := bc BK157.out 2; have hfz4_0 := qf BK157.out 0; have hfz4_1 := qf BK157.out 1; have hfz4_2 := qf BK157.out 2))
 (try simp only [Act.put, zA, zB, zC])
 go_cut [3] (fun v3 wc => ∃ (kq : Nat) (x3_1 : Int), v3 = .int .i64 x3_1 /\ Asd (sacristylaw10_Great.j1 kq x3_1 a0_0 l0_1 l0_2 = some r) /\ Asd (kq <= k) /\ Asd (wc.heap[gb157]? = some (.cells #[.int .i64 a0_0, (.slice A0_1 l0_1.length c0_1), (.slice A0_2 l0_2.length c0_2)] 25 (0, 0))) /\ Asd (Below w.heap.size w wc))
 case first =>
  have H := HC2.out
  clear HC2
  have H' := am H
  clear H
  go_wp2
  go_loopg [3, 4] k (fun kq v3 v4 w' => ∃ (x3_1 : Int) (x4_1 : Int), v3 = .int .i64 x3_1 /\ v4 = .int .i64 x4_1 /\ Asd (sacristylaw10_Great.l0 kq x3_1 x4_1 a0_0 l0_1 l0_2 = some r) /\ Asd (kq <= k) /\ Asd (w'.heap[gb157]? = some (.cells #[.int .i64 a0_0, (.slice A0_1 l0_1.length c0_1), (.slice A0_2 l0_2.length c0_2)] 25 (0, 0))) /\ Asd (Below w.heap.size w w'))
  case atStart => exact ⟨(wrap64 ((l0_1.length : Int) + (l0_2.length : Int))), (0), (ez), (ez), H', ⟨Nat.le_refl _⟩, ⟨kz BK157.out⟩, ⟨bs1 HB.out GE157.out⟩⟩
  case round =>
   clear H'
   obtain ⟨x3_1, x4_1, rfl, rfl, HA, HK1, BK157, HB⟩ := hrel
   cases gk with
   | zero => exact absurd HA.out (by simp [sacristylaw10_Great.l0])
   | succ k1 =>
    have H := HA.out
    clear HA
    simp only [sacristylaw10_Great.l0] at H
    by_cases c5 : x4_1 < (l0_1.length : Int)
    ·rw [if_pos c5] at H
     have c5b0 : decide (x4_1 < (l0_1.length : Int)) = true := dt c5
     clear c5
     (first | rw [c5b0] | (simp only [i64_w, i32_w]; rw [c5b0]) | skip)
     by_cases c6 : x3_1 < 20000
     ·rw [if_pos c6] at H
      have c6b0 : decide (x3_1 < 20000) = true := dt c6
      clear c6
      by_cases c7 : 0 <= x4_1
      ·rw [if_pos c7] at H
       have c7b0 : decide (0 <= x4_1) = true := dt c7
       clear c7
       obtain ⟨ji8, hji8⟩ : ∃ j_ : Int, (mn ((rdOf ByteArray.empty l0_1 x4_1).size : Int) 20000) = j_ := ⟨_, rfl⟩
       replace H : (sacristylaw10_Great.l0 k1 (wrap64 (x3_1 + (ji8))) (wrap64 (x4_1 + 1)) a0_0 l0_1 l0_2) = some r := by first | (rw [hji8] at H; exact H) | (simp only [hji8] at H ⊢; exact H)
       have hji8_ : (if 20000 < ((rdOf ByteArray.empty l0_1 x4_1).size : Int) then 20000 else ((rdOf ByteArray.empty l0_1 x4_1).size : Int)) = ji8 := hji8
       have H' := am H
       clear H
       have hcz9_0 : wr.cell? ⟨gb157, 0, none⟩ = some (.int .i64 a0_0) := bc BK157.out 0
       have hcz9_1 : wr.cell? ⟨gb157, 1, none⟩ = some (.slice A0_1 l0_1.length c0_1) := bc BK157.out 1
       have hcz9_2 : wr.cell? ⟨gb157, 2, none⟩ = some (.slice A0_2 l0_2.length c0_2) := bc BK157.out 2
       have hfz9_0 := qf BK157.out 0
       have hfz9_1 := qf BK157.out 1
       have hfz9_2 := qf BK157.out 2
       have p158 : 0 <= (x4_1 : Int) := dz
       have q158 : x4_1 < (l0_1.length : Int) := dz
       obtain ⟨ad158, e158, hx158_0⟩ := Kd.at_string HR0_1.out x4_1 p158 q158
       cases e158
       replace hx158_0 := hZc HB.out hx158_0
       replace p158 := eq_true p158
       replace q158 := eq_true q158
       go_wp2
       go_roundg k1
       case measure => have := HK1.out; omega
       case rel => exact ⟨(wrap64 (x3_1 + (ji8))), (wrap64 (x4_1 + 1)), (by first | rfl | (simp; done) | (simp only [<- hji8] <;> (first | rfl | simp)) | (simp [*]; done)), (ez), H', ⟨by have := HK1.out; omega⟩, ⟨kz BK157.out⟩, ⟨bs1 HB.out GE157.out⟩⟩
      ·rw [if_neg c7] at H
       exact absurd H (by simp)
     ·rw [if_neg c6] at H
      have c6b0 : decide (x3_1 < 20000) = false := df c6
      clear c6
      have H' := am H
      clear H
      have hcz10_0 : wr.cell? ⟨gb157, 0, none⟩ = some (.int .i64 a0_0) := bc BK157.out 0
      have hcz10_1 : wr.cell? ⟨gb157, 1, none⟩ = some (.slice A0_1 l0_1.length c0_1) := bc BK157.out 1
      have hcz10_2 : wr.cell? ⟨gb157, 2, none⟩ = some (.slice A0_2 l0_2.length c0_2) := bc BK157.out 2
      have hfz10_0 := qf BK157.out 0
      have hfz10_1 := qf BK157.out 1
      have hfz10_2 := qf BK157.out 2
      go_wp2
      go_meet
      case rel => exact ⟨_, (x3_1), (ez), H', ⟨by have := HK1.out; first | omega | exact Nat.le_refl _⟩, ⟨kz BK157.out⟩, ⟨bs1 HB.out GE157.out⟩⟩
    ·rw [if_neg c5] at H
     have c5b0 : decide (x4_1 < (l0_1.length : Int)) = false := df c5
     clear c5
     (first | rw [c5b0] | (simp only [i64_w, i32_w]; rw [c5b0]) | skip)
     have H' := am H
     clear H
     have hcz11_0 : wr.cell? ⟨gb157, 0, none⟩ = some (.int .i64 a0_0) := bc BK157.out 0
     have hcz11_1 : wr.cell? ⟨gb157, 1, none⟩ = some (.slice A0_1 l0_1.length c0_1) := bc BK157.out 1
     have hcz11_2 : wr.cell? ⟨gb157, 2, none⟩ = some (.slice A0_2 l0_2.length c0_2) := bc BK157.out 2
     have hfz11_0 := qf BK157.out 0
     have hfz11_1 := qf BK157.out 1
     have hfz11_2 := qf BK157.out 2
     go_wp2
     go_meet
     case rel => exact ⟨_, (x3_1), (ez), H', ⟨by have := HK1.out; first | omega | exact Nat.le_refl _⟩, ⟨kz BK157.out⟩, ⟨bs1 HB.out GE157.out⟩⟩
 case rest =>
  clear HC2
  obtain ⟨kq, x3_1, rfl, HA, HJ1, BK157, HB⟩ := hcut
  cases kq with
  | zero => exact absurd HA.out (by simp [sacristylaw10_Great.j1])
  | succ kj1 =>
   have H := HA.out
   clear HA
   simp only [sacristylaw10_Great.j1] at H
   have H' := am H
   clear H
   go_wp2
   go_loopg [3, 5] kj1 (fun kq v3 v5 w' => ∃ (x3_2 : Int) (x5_2 : Int), v3 = .int .i64 x3_2 /\ v5 = .int .i64 x5_2 /\ Asd (sacristylaw10_Great.l1 kq x3_2 x5_2 a0_0 l0_1 l0_2 = some r) /\ Asd (kq <= kj1) /\ Asd (w'.heap[gb157]? = some (.cells #[.int .i64 a0_0, (.slice A0_1 l0_1.length c0_1), (.slice A0_2 l0_2.length c0_2)] 25 (0, 0))) /\ Asd (Below w.heap.size w w'))
   case atStart => exact ⟨(x3_1), (0), (ez), (ez), H', ⟨Nat.le_refl _⟩, ⟨kz BK157.out⟩, ⟨bs1 HB.out GE157.out⟩⟩
   case round =>
    clear H'
    obtain ⟨x3_2, x5_2, rfl, rfl, HA, HK2, BK157, HB⟩ := hrel
    cases gk with
    | zero => exact absurd HA.out (by simp [sacristylaw10_Great.l1])
    | succ k2 =>
     have H := HA.out
     clear HA
     simp only [sacristylaw10_Great.l1] at H
     have HC12 := am H
     clear H
     go_upto_region 7 with (fail)
     go_cut [43] (fun v43 wc => ∃ (kq : Nat) (x43_11 : Bool), v43 = .bool x43_11 /\ Asd (sacristylaw10_Great.j3 kq x3_2 x5_2 x43_11 a0_0 l0_1 l0_2 = some r) /\ Asd (kq <= k2) /\ Asd (wc.heap[gb157]? = some (.cells #[.int .i64 a0_0, (.slice A0_1 l0_1.length c0_1), (.slice A0_2 l0_2.length c0_2)] 25 (0, 0))) /\ Asd (Below w.heap.size w wc))
     case first =>
      have H := HC12.out
      clear HC12
      by_cases c13 : x5_2 < (l0_2.length : Int)
      ·rw [if_pos c13] at H
       have c13b0 : decide (x5_2 < (l0_2.length : Int)) = true := dt c13
       clear c13
       (first | rw [c13b0] | (simp only [i64_w, i32_w]; rw [c13b0]) | skip)
       have H' := am H
       clear H
       have hcz14_0 : wr.cell? ⟨gb157, 0, none⟩ = some (.int .i64 a0_0) := bc BK157.out 0
       have hcz14_1 : wr.cell? ⟨gb157, 1, none⟩ = some (.slice A0_1 l0_1.length c0_1) := bc BK157.out 1
       have hcz14_2 : wr.cell? ⟨gb157, 2, none⟩ = some (.slice A0_2 l0_2.length c0_2) := bc BK157.out 2
       have hfz14_0 := qf BK157.out 0
       have hfz14_1 := qf BK157.out 1
       have hfz14_2 := qf BK157.out 2
       go_wp2
       go_meet
       case rel => exact ⟨_, (decide (x3_2 < 20000)), (ez), H', ⟨by have := HJ1.out; have := HK2.out; first | omega | exact Nat.le_refl _⟩, ⟨kz BK157.out⟩, ⟨bs1 HB.out GE157.out⟩⟩
      ·rw [if_neg c13] at H
       have c13b0 : decide (x5_2 < (l0_2.length : Int)) = false := df c13
       clear c13
       (first | rw [c13b0] | (simp only [i64_w, i32_w]; rw [c13b0]) | skip)
       have H' := am H
       clear H
       have hcz15_0 : wr.cell? ⟨gb157, 0, none⟩ = some (.int .i64 a0_0) := bc BK157.out 0
       have hcz15_1 : wr.cell? ⟨gb157, 1, none⟩ = some (.slice A0_1 l0_1.length c0_1) := bc BK157.out 1
       have hcz15_2 : wr.cell? ⟨gb157, 2, none⟩ = some (.slice A0_2 l0_2.length c0_2) := bc BK157.out 2
       have hfz15_0 := qf BK157.out 0
       have hfz15_1 := qf BK157.out 1
       have hfz15_2 := qf BK157.out 2
       go_wp2
       go_meet
       case rel => exact ⟨_, (false), (ez), H', ⟨by have := HJ1.out; have := HK2.out; first | omega | exact Nat.le_refl _⟩, ⟨kz BK157.out⟩, ⟨bs1 HB.out GE157.out⟩⟩
     case rest =>
      clear HC12
      obtain ⟨kq, x43_11, rfl, HA, HJ11, BK157, HB⟩ := hcut
      cases kq with
      | zero => exact absurd HA.out (by simp [sacristylaw10_Great.j3])
      | succ kj11 =>
       have H := HA.out
       clear HA
       simp only [sacristylaw10_Great.j3] at H
       by_cases c16 : x43_11 = true
       ·subst c16
        have H1 : (if 0 <= x5_2 then (if x5_2 < (l0_2.length : Int) then (sacristylaw10_Great.l2 kj11 (wrap64 ((wrap64 ((wrap64 ((wrap64 (x3_2 + 1)) + (mn (((qT l0_2 x5_2).f0).size : Int) 20000))) + (mn (((qT l0_2 x5_2).f2).size : Int) 20000))) + (((qT l0_2 x5_2).f4).length : Int))) x5_2 0 a0_0 l0_1 l0_2 ((qT l0_2 x5_2).f0) ((qT l0_2 x5_2).f1) ((qT l0_2 x5_2).f2) ((qT l0_2 x5_2).f3) ((qT l0_2 x5_2).f4)) else (none)) else (none)) = some r := by rw [if_pos rfl] at H; exact H
        clear H
        have H := H1
        clear H1
        by_cases c17 : 0 <= x5_2
        ·rw [if_pos c17] at H
         have c17b0 : decide (0 <= x5_2) = true := dt c17
         clear c17
         by_cases c18 : x5_2 < (l0_2.length : Int)
         ·rw [if_pos c18] at H
          have c18b0 : decide (x5_2 < (l0_2.length : Int)) = true := dt c18
          clear c18
          obtain ⟨ji19, hji19⟩ : ∃ j_ : Int, (mn (((qT l0_2 x5_2).f0).size : Int) 20000) = j_ := ⟨_, rfl⟩
          replace H : (sacristylaw10_Great.l2 kj11 (wrap64 ((wrap64 ((wrap64 ((wrap64 (x3_2 + 1)) + (ji19))) + (mn (((qT l0_2 x5_2).f2).size : Int) 20000))) + (((qT l0_2 x5_2).f4).length : Int))) x5_2 0 a0_0 l0_1 l0_2 ((qT l0_2 x5_2).f0) ((qT l0_2 x5_2).f1) ((qT l0_2 x5_2).f2) ((qT l0_2 x5_2).f3) ((qT l0_2 x5_2).f4)) = some r := by first | (rw [hji19] at H; exact H) | (simp only [hji19] at H ⊢; exact H)
          have hji19_ : (if 20000 < (((qT l0_2 x5_2).f0).size : Int) then 20000 else (((qT l0_2 x5_2).f0).size : Int)) = ji19 := hji19
          obtain ⟨ji20, hji20⟩ : ∃ j_ : Int, (mn (((qT l0_2 x5_2).f2).size : Int) 20000) = j_ := ⟨_, rfl⟩
          replace H : (sacristylaw10_Great.l2 kj11 (wrap64 ((wrap64 ((wrap64 ((wrap64 (x3_2 + 1)) + (ji19))) + (ji20))) + (((qT l0_2 x5_2).f4).length : Int))) x5_2 0 a0_0 l0_1 l0_2 ((qT l0_2 x5_2).f0) ((qT l0_2 x5_2).f1) ((qT l0_2 x5_2).f2) ((qT l0_2 x5_2).f3) ((qT l0_2 x5_2).f4)) = some r := by first | (rw [hji20] at H; exact H) | (simp only [hji20] at H ⊢; exact H)
          have hji20_ : (if 20000 < (((qT l0_2 x5_2).f2).size : Int) then 20000 else (((qT l0_2 x5_2).f2).size : Int)) = ji20 := hji20
          have H' := am H
          clear H
          have hcz21_0 : wc.cell? ⟨gb157, 0, none⟩ = some (.int .i64 a0_0) := bc BK157.out 0
          have hcz21_1 : wc.cell? ⟨gb157, 1, none⟩ = some (.slice A0_1 l0_1.length c0_1) := bc BK157.out 1
          have hcz21_2 : wc.cell? ⟨gb157, 2, none⟩ = some (.slice A0_2 l0_2.length c0_2) := bc BK157.out 2
          have hfz21_0 := qf BK157.out 0
          have hfz21_1 := qf BK157.out 1
          have hfz21_2 := qf BK157.out 2
          have p159 : 0 <= (x5_2 : Int) := dz
          have q159 : x5_2 < (l0_2.length : Int) := dz
          obtain ⟨ad159, A159_3, c159_3, A159_4, c159_4, e159, hx159_0, hx159_1, hx159_2, hx159_3, hx159_4, hl159_3, hi159_3, hl159_4, hi159_4⟩ := at_T39 HR0_2.out x5_2 p159 q159
          cases e159
          replace hx159_0 := hZc HB.out hx159_0
          replace hx159_1 := hZc HB.out hx159_1
          replace hx159_2 := hZc HB.out hx159_2
          replace hx159_3 := hZc HB.out hx159_3
          replace hx159_4 := hZc HB.out hx159_4
          have HR159_3 := am hi159_3
          have HC159_3 := am hl159_3
          clear hi159_3 hl159_3
          have HR159_4 := am hi159_4
          have HC159_4 := am hl159_4
          clear hi159_4 hl159_4
          replace p159 := eq_true p159
          replace q159 := eq_true q159
          go_wp2_with (first | ((with_reducible refine gate_dst (N := 6) rfl ?_); (try (refine gate_guard (by rfl) ?_; dsimp only)); refine box_event ?hg (N := 6) ?hd (cs := #[.string (⟨#[]⟩ : ByteArray), .bool false, .string (⟨#[]⟩ : ByteArray), .slice none 0 0, .slice none 0 0]) (t := 39) ?hr ?_; (case hd => rfl); (case hg => rfl); (case hr => first | (go_simp; done) | (go_simp; rfl)); intro gb160 hg w22 hbox hb; have n0_ := am (blk_below (g := gb157) (o := .cells #[.int .i64 a0_0, .slice A0_1 l0_1.length c0_1, .slice (some ad159) l0_2.length c0_2] 25 (0, 0)) (kz BK157.out) hb); have n1_ := am (qW (bs1 HB.out GE157.out) hb); have n2_ := am (hbox); have n3_ := am ((by rw [hg]; exact (qZ (bs1 HB.out GE157.out)) : w.heap.size <= gb160)); have n4_ := am ((by rw [hg]; exact (qZ (bs1 HB.out GE157.out)) : w.heap.size <= gb160)); have n5_ := am ((by rw [hg]; exact Nat.ne_of_lt (blk_lt (g := gb157) (o := .cells #[.int .i64 a0_0, .slice A0_1 l0_1.length c0_1, .slice (some ad159) l0_2.length c0_2] 25 (0, 0)) (kz BK157.out)) : gb157 ≠ gb160)); have n6_ := am ((by rw [hg]; exact Nat.ne_of_gt (blk_lt (g := gb157) (o := .cells #[.int .i64 a0_0, .slice A0_1 l0_1.length c0_1, .slice (some ad159) l0_2.length c0_2] 25 (0, 0)) (kz BK157.out)) : gb160 ≠ gb157)); clear BK157; clear HB; have BK157 := n0_; have HB := n1_; have BK160 := n2_; have GW160 := n3_; have GE160 := n4_; have NB157_160 := n5_; have NB160_157 := n6_; clear n0_ n1_ n2_ n3_ n4_ n5_ n6_; clear hb hbox hg; have hnb23 := NB160_157.out; have hnc23 := NB157_160.out; have hcz24_0 : w22.cell? ⟨gb160, 0, none⟩ = some (.string (⟨#[]⟩ : ByteArray)) := bc BK160.out 0; have hcz24_1 : w22.cell? ⟨gb160, 1, none⟩ = some (.bool false) := bc BK160.out 1; have hcz24_2 : w22.cell? ⟨gb160, 2, none⟩ = some (.string (⟨#[]⟩ : ByteArray)) := bc BK160.out 2; have hcz24_3 : w22.cell? ⟨gb160, 3, none⟩ = some (.slice none 0 0) := bc BK160.out 3; have hcz24_4 : w22.cell? ⟨gb160, 4, none⟩ = some (.slice none 0 0) := bc BK160.out 4; have hfz24_0 := qf BK160.out 0; have hfz24_1 := qf BK160.out 1; have hfz24_2 := qf BK160.out 2; have hfz24_3 := qf BK160.out 3; have hfz24_4 := qf BK160.out 4))
          go_loopg [3, 7] kj11 (fun kq v3 v7 w' => ∃ (x3_4 : Int) (x7_4 : Int), v3 = .int .i64 x3_4 /\ v7 = .int .i64 x7_4 /\ Asd (sacristylaw10_Great.l2 kq x3_4 x5_2 x7_4 a0_0 l0_1 l0_2 ((qT l0_2 x5_2).f0) ((qT l0_2 x5_2).f1) ((qT l0_2 x5_2).f2) ((qT l0_2 x5_2).f3) ((qT l0_2 x5_2).f4) = some r) /\ Asd (kq <= kj11) /\ Asd (w'.heap[gb157]? = some (.cells #[.int .i64 a0_0, (.slice A0_1 l0_1.length c0_1), (.slice (some ad159) l0_2.length c0_2)] 25 (0, 0))) /\ Asd (w'.heap[gb160]? = some (.cells #[.string ((qT l0_2 x5_2).f0), .bool ((qT l0_2 x5_2).f1), .string ((qT l0_2 x5_2).f2), (.slice A159_3 ((qT l0_2 x5_2).f3).length c159_3), (.slice A159_4 ((qT l0_2 x5_2).f4).length c159_4)] 39 (0, 0))) /\ Asd (Below w.heap.size w w'))
          case atStart => exact ⟨(wrap64 ((wrap64 ((wrap64 ((wrap64 (x3_2 + 1)) + (ji19))) + (ji20))) + (((qT l0_2 x5_2).f4).length : Int))), (0), (by first | rfl | (simp; done) | (simp only [<- hji19, <- hji20] <;> (first | rfl | simp)) | (simp [*]; done)), (ez), H', ⟨Nat.le_refl _⟩, ⟨by exact fz BK157.out NB157_160.out⟩, ⟨by (with_reducible repeat (first | refine qN ?_ _ | refine qd ?_ | refine qa ?_ _)); refine blk_put (cs := #[.string ((qT l0_2 x5_2).f0), .bool ((qT l0_2 x5_2).f1), .string ((qT l0_2 x5_2).f2), .slice A159_3 ((qT l0_2 x5_2).f3).length c159_3, .slice none 0 0]) ?_ 4 _ rfl; (with_reducible repeat (first | refine qN ?_ _ | refine qd ?_ | refine qa ?_ _)); refine blk_put (cs := #[.string ((qT l0_2 x5_2).f0), .bool ((qT l0_2 x5_2).f1), .string ((qT l0_2 x5_2).f2), .slice none 0 0, .slice none 0 0]) ?_ 3 _ rfl; (with_reducible repeat (first | refine qN ?_ _ | refine qd ?_ | refine qa ?_ _)); refine blk_put (cs := #[.string ((qT l0_2 x5_2).f0), .bool ((qT l0_2 x5_2).f1), .string (⟨#[]⟩ : ByteArray), .slice none 0 0, .slice none 0 0]) ?_ 2 _ rfl; (with_reducible repeat (first | refine qN ?_ _ | refine qd ?_ | refine qa ?_ _)); refine blk_put (cs := #[.string ((qT l0_2 x5_2).f0), .bool false, .string (⟨#[]⟩ : ByteArray), .slice none 0 0, .slice none 0 0]) ?_ 1 _ rfl; (with_reducible repeat (first | refine qN ?_ _ | refine qd ?_ | refine qa ?_ _)); refine blk_put (cs := #[.string (⟨#[]⟩ : ByteArray), .bool false, .string (⟨#[]⟩ : ByteArray), .slice none 0 0, .slice none 0 0]) ?_ 0 _ rfl; (with_reducible repeat (first | refine qN ?_ _ | refine qd ?_ | refine qa ?_ _)); exact BK160.out⟩, ⟨bs2 HB.out GE157.out GE160.out⟩⟩
          case round =>
           clear H'
           obtain ⟨x3_4, x7_4, rfl, rfl, HA, HK4, BK157, BK160, HB⟩ := hrel
           cases gk with
           | zero => exact absurd HA.out (by simp [sacristylaw10_Great.l2])
           | succ k4 =>
            have H := HA.out
            clear HA
            simp only [sacristylaw10_Great.l2] at H
            by_cases c25 : x7_4 < (((qT l0_2 x5_2).f4).length : Int)
            ·rw [if_pos c25] at H
             have c25b0 : decide (x7_4 < (((qT l0_2 x5_2).f4).length : Int)) = true := dt c25
             clear c25
             by_cases c26 : x3_4 < 20000
             ·rw [if_pos c26] at H
              have c26b0 : decide (x3_4 < 20000) = true := dt c26
              clear c26
              by_cases c27 : 0 <= x7_4
              ·rw [if_pos c27] at H
               have c27b0 : decide (0 <= x7_4) = true := dt c27
               clear c27
               obtain ⟨ji28, hji28⟩ : ∃ j_ : Int, (mn ((rdOf ByteArray.empty ((qT l0_2 x5_2).f4) x7_4).size : Int) 20000) = j_ := ⟨_, rfl⟩
               replace H : (sacristylaw10_Great.l2 k4 (wrap64 (x3_4 + (ji28))) x5_2 (wrap64 (x7_4 + 1)) a0_0 l0_1 l0_2 ((qT l0_2 x5_2).f0) ((qT l0_2 x5_2).f1) ((qT l0_2 x5_2).f2) ((qT l0_2 x5_2).f3) ((qT l0_2 x5_2).f4)) = some r := by first | (rw [hji28] at H; exact H) | (simp only [hji28] at H ⊢; exact H)
               have hji28_ : (if 20000 < ((rdOf ByteArray.empty ((qT l0_2 x5_2).f4) x7_4).size : Int) then 20000 else ((rdOf ByteArray.empty ((qT l0_2 x5_2).f4) x7_4).size : Int)) = ji28 := hji28
               have H' := am H
               clear H
               have hnb29 := NB160_157.out
               have hnc29 := NB157_160.out
               have hcz30_0 : wr.cell? ⟨gb160, 0, none⟩ = some (.string ((qT l0_2 x5_2).f0)) := bc BK160.out 0
               have hcz30_1 : wr.cell? ⟨gb160, 1, none⟩ = some (.bool ((qT l0_2 x5_2).f1)) := bc BK160.out 1
               have hcz30_2 : wr.cell? ⟨gb160, 2, none⟩ = some (.string ((qT l0_2 x5_2).f2)) := bc BK160.out 2
               have hcz30_3 : wr.cell? ⟨gb160, 3, none⟩ = some (.slice A159_3 ((qT l0_2 x5_2).f3).length c159_3) := bc BK160.out 3
               have hcz30_4 : wr.cell? ⟨gb160, 4, none⟩ = some (.slice A159_4 ((qT l0_2 x5_2).f4).length c159_4) := bc BK160.out 4
               have hfz30_0 := qf BK160.out 0
               have hfz30_1 := qf BK160.out 1
               have hfz30_2 := qf BK160.out 2
               have hfz30_3 := qf BK160.out 3
               have hfz30_4 := qf BK160.out 4
               have p161 : 0 <= (x7_4 : Int) := dz
               have q161 : x7_4 < (((qT l0_2 x5_2).f4).length : Int) := dz
               obtain ⟨ad161, e161, hx161_0⟩ := Kd.at_string HR159_4.out x7_4 p161 q161
               cases e161
               replace hx161_0 := hZc HB.out hx161_0
               replace p161 := eq_true p161
               replace q161 := eq_true q161
               go_wp2
               go_roundg k4
               case measure => have := HJ1.out; have := HK2.out; have := HJ11.out; have := HK4.out; omega
               case rel => exact ⟨(wrap64 (x3_4 + (ji28))), (wrap64 (x7_4 + 1)), (by first | rfl | (simp; done) | (simp only [<- hji28] <;> (first | rfl | simp)) | (simp [*]; done)), (ez), H', ⟨by have := HJ1.out; have := HK2.out; have := HJ11.out; have := HK4.out; omega⟩, ⟨kz BK157.out⟩, ⟨kz BK160.out⟩, ⟨bs2 HB.out GE157.out GE160.out⟩⟩
              ·rw [if_neg c27] at H
               exact absurd H (by simp)
             ·rw [if_neg c26] at H
              have c26b0 : decide (x3_4 < 20000) = false := df c26
              clear c26
              replace H := Option.bind_eq_some_iff.mp H
              obtain ⟨t162, A310, H⟩ := H
              replace H : (if t162 = true then (some true) else (sacristylaw10_Great.l1 k4 x3_4 (wrap64 (x5_2 + 1)) a0_0 l0_1 l0_2)) = some r := H
              have A31 := am A310
              by_cases c32 : t162 = true
              ·subst c32
               have H1 : (some true) = some r := by rw [if_pos rfl] at H; exact H
               clear H
               have H := H1
               clear H1
               obtain rfl := Option.some.inj H
               have hnb33 := NB160_157.out
               have hnc33 := NB157_160.out
               have hcz34_0 : wr.cell? ⟨gb160, 0, none⟩ = some (.string ((qT l0_2 x5_2).f0)) := bc BK160.out 0
               have hcz34_1 : wr.cell? ⟨gb160, 1, none⟩ = some (.bool ((qT l0_2 x5_2).f1)) := bc BK160.out 1
               have hcz34_2 : wr.cell? ⟨gb160, 2, none⟩ = some (.string ((qT l0_2 x5_2).f2)) := bc BK160.out 2
               have hcz34_3 : wr.cell? ⟨gb160, 3, none⟩ = some (.slice A159_3 ((qT l0_2 x5_2).f3).length c159_3) := bc BK160.out 3
               have hcz34_4 : wr.cell? ⟨gb160, 4, none⟩ = some (.slice A159_4 ((qT l0_2 x5_2).f4).length c159_4) := bc BK160.out 4
               have hfz34_0 := qf BK160.out 0
               have hfz34_1 := qf BK160.out 1
               have hfz34_2 := qf BK160.out 2
               have hfz34_3 := qf BK160.out 3
               have hfz34_4 := qf BK160.out 4
               go_wp2_with (first | ((with_reducible refine gate_callee (f := 19) rfl ?_); refine goesL_ (some 89) rfl rfl Tryz.func19 (by kernel_rfl) rfl #[.slice A159_3 ((qT l0_2 x5_2).f3).length c159_3] rfl mz ?_; (with_reducible refine (w9_Great.calls k4 _ _ ((qT l0_2 x5_2).f3) true _ ?side1 ?side2 A31.out).mono ?_); (case side1 => repeat (first | exact (Kd.C_below HR159_3.out HB.out) | (with_reducible refine Kd.C_alloc ?_ _) | (with_reducible refine Kd.C_drewN ?_ _) | (with_reducible refine Kd.C_drew ?_))); (case side2 => exact HC159_3.out); rintro e w35 ⟨rfl, hb⟩; refine ⟨_, rfl, ?_⟩; have n0_ := am (blk_below (g := gb157) (o := .cells #[.int .i64 a0_0, .slice A0_1 l0_1.length c0_1, .slice (some ad159) l0_2.length c0_2] 25 (0, 0)) (kz BK157.out) hb); have n1_ := am (blk_below (g := gb160) (o := .cells #[.string ((qT l0_2 x5_2).f0), .bool ((qT l0_2 x5_2).f1), .string ((qT l0_2 x5_2).f2), .slice A159_3 ((qT l0_2 x5_2).f3).length c159_3, .slice A159_4 ((qT l0_2 x5_2).f4).length c159_4] 39 (0, 0)) (kz BK160.out) hb); have n2_ := am (qW (bs2 HB.out GE157.out GE160.out) hb); clear BK157; clear BK160; clear HB; have BK157 := n0_; have BK160 := n1_; have HB := n2_; clear n0_ n1_ n2_; (try clear hb); (try clear hb2); (try clear hk); (try clear hi)))
               go_ret
               exact ⟨by first | rfl | (simp [qn, qS] <;> rfl) | (simp only [<- hji19, <- hji20]; first | rfl | (simp [qn, qS] <;> rfl)) | (simp [*, qn, qS] <;> rfl), bs2 HB.out GE157.out GE160.out⟩
              ·replace c32 := Bool.eq_false_iff.mpr c32
               subst c32
               have H1 : (sacristylaw10_Great.l1 k4 x3_4 (wrap64 (x5_2 + 1)) a0_0 l0_1 l0_2) = some r := by rw [if_neg (show ¬ (false = true) by decide)] at H; exact H
               clear H
               have H := H1
               clear H1
               have H' := am H
               clear H
               have hnb36 := NB160_157.out
               have hnc36 := NB157_160.out
               have hcz37_0 : wr.cell? ⟨gb160, 0, none⟩ = some (.string ((qT l0_2 x5_2).f0)) := bc BK160.out 0
               have hcz37_1 : wr.cell? ⟨gb160, 1, none⟩ = some (.bool ((qT l0_2 x5_2).f1)) := bc BK160.out 1
               have hcz37_2 : wr.cell? ⟨gb160, 2, none⟩ = some (.string ((qT l0_2 x5_2).f2)) := bc BK160.out 2
               have hcz37_3 : wr.cell? ⟨gb160, 3, none⟩ = some (.slice A159_3 ((qT l0_2 x5_2).f3).length c159_3) := bc BK160.out 3
               have hcz37_4 : wr.cell? ⟨gb160, 4, none⟩ = some (.slice A159_4 ((qT l0_2 x5_2).f4).length c159_4) := bc BK160.out 4
               have hfz37_0 := qf BK160.out 0
               have hfz37_1 := qf BK160.out 1
               have hfz37_2 := qf BK160.out 2
               have hfz37_3 := qf BK160.out 3
               have hfz37_4 := qf BK160.out 4
               go_wp2_with (first | ((with_reducible refine gate_callee (f := 19) rfl ?_); refine goesL_ (some 89) rfl rfl Tryz.func19 (by kernel_rfl) rfl #[.slice A159_3 ((qT l0_2 x5_2).f3).length c159_3] rfl mz ?_; (with_reducible refine (w9_Great.calls k4 _ _ ((qT l0_2 x5_2).f3) false _ ?side1 ?side2 A31.out).mono ?_); (case side1 => repeat (first | exact (Kd.C_below HR159_3.out HB.out) | (with_reducible refine Kd.C_alloc ?_ _) | (with_reducible refine Kd.C_drewN ?_ _) | (with_reducible refine Kd.C_drew ?_))); (case side2 => exact HC159_3.out); rintro e w38 ⟨rfl, hb⟩; refine ⟨_, rfl, ?_⟩; have n0_ := am (blk_below (g := gb157) (o := .cells #[.int .i64 a0_0, .slice A0_1 l0_1.length c0_1, .slice (some ad159) l0_2.length c0_2] 25 (0, 0)) (kz BK157.out) hb); have n1_ := am (blk_below (g := gb160) (o := .cells #[.string ((qT l0_2 x5_2).f0), .bool ((qT l0_2 x5_2).f1), .string ((qT l0_2 x5_2).f2), .slice A159_3 ((qT l0_2 x5_2).f3).length c159_3, .slice A159_4 ((qT l0_2 x5_2).f4).length c159_4] 39 (0, 0)) (kz BK160.out) hb); have n2_ := am (qW (bs2 HB.out GE157.out GE160.out) hb); clear BK157; clear BK160; clear HB; have BK157 := n0_; have BK160 := n1_; have HB := n2_; clear n0_ n1_ n2_; (try clear hb); (try clear hb2); (try clear hk); (try clear hi)))
               go_roundg k4
               case measure => have := HJ1.out; have := HK2.out; have := HJ11.out; have := HK4.out; omega
               case rel => exact ⟨(x3_4), (wrap64 (x5_2 + 1)), (ez), (ez), H', ⟨by have := HJ1.out; have := HK2.out; have := HJ11.out; have := HK4.out; omega⟩, ⟨kz BK157.out⟩, ⟨bs2 HB.out GE157.out GE160.out⟩⟩
            ·rw [if_neg c25] at H
             have c25b0 : decide (x7_4 < (((qT l0_2 x5_2).f4).length : Int)) = false := df c25
             clear c25
             replace H := Option.bind_eq_some_iff.mp H
             obtain ⟨t163, A390, H⟩ := H
             replace H : (if t163 = true then (some true) else (sacristylaw10_Great.l1 k4 x3_4 (wrap64 (x5_2 + 1)) a0_0 l0_1 l0_2)) = some r := H
             have A39 := am A390
             by_cases c40 : t163 = true
             ·subst c40
              have H1 : (some true) = some r := by rw [if_pos rfl] at H; exact H
              clear H
              have H := H1
              clear H1
              obtain rfl := Option.some.inj H
              have hnb41 := NB160_157.out
              have hnc41 := NB157_160.out
              have hcz42_0 : wr.cell? ⟨gb160, 0, none⟩ = some (.string ((qT l0_2 x5_2).f0)) := bc BK160.out 0
              have hcz42_1 : wr.cell? ⟨gb160, 1, none⟩ = some (.bool ((qT l0_2 x5_2).f1)) := bc BK160.out 1
              have hcz42_2 : wr.cell? ⟨gb160, 2, none⟩ = some (.string ((qT l0_2 x5_2).f2)) := bc BK160.out 2
              have hcz42_3 : wr.cell? ⟨gb160, 3, none⟩ = some (.slice A159_3 ((qT l0_2 x5_2).f3).length c159_3) := bc BK160.out 3
              have hcz42_4 : wr.cell? ⟨gb160, 4, none⟩ = some (.slice A159_4 ((qT l0_2 x5_2).f4).length c159_4) := bc BK160.out 4
              have hfz42_0 := qf BK160.out 0
              have hfz42_1 := qf BK160.out 1
              have hfz42_2 := qf BK160.out 2
              have hfz42_3 := qf BK160.out 3
              have hfz42_4 := qf BK160.out 4
              go_wp2_with (first | ((with_reducible refine gate_callee (f := 19) rfl ?_); refine goesL_ (some 89) rfl rfl Tryz.func19 (by kernel_rfl) rfl #[.slice A159_3 ((qT l0_2 x5_2).f3).length c159_3] rfl mz ?_; (with_reducible refine (w9_Great.calls k4 _ _ ((qT l0_2 x5_2).f3) true _ ?side1 ?side2 A39.out).mono ?_); (case side1 => repeat (first | exact (Kd.C_below HR159_3.out HB.out) | (with_reducible refine Kd.C_alloc ?_ _) | (with_reducible refine Kd.C_drewN ?_ _) | (with_reducible refine Kd.C_drew ?_))); (case side2 => exact HC159_3.out); rintro e w43 ⟨rfl, hb⟩; refine ⟨_, rfl, ?_⟩; have n0_ := am (blk_below (g := gb157) (o := .cells #[.int .i64 a0_0, .slice A0_1 l0_1.length c0_1, .slice (some ad159) l0_2.length c0_2] 25 (0, 0)) (kz BK157.out) hb); have n1_ := am (blk_below (g := gb160) (o := .cells #[.string ((qT l0_2 x5_2).f0), .bool ((qT l0_2 x5_2).f1), .string ((qT l0_2 x5_2).f2), .slice A159_3 ((qT l0_2 x5_2).f3).length c159_3, .slice A159_4 ((qT l0_2 x5_2).f4).length c159_4] 39 (0, 0)) (kz BK160.out) hb); have n2_ := am (qW (bs2 HB.out GE157.out GE160.out) hb); clear BK157; clear BK160; clear HB; have BK157 := n0_; have BK160 := n1_; have HB := n2_; clear n0_ n1_ n2_; (try clear hb); (try clear hb2); (try clear hk); (try clear hi)))
              go_ret
              exact ⟨by first | rfl | (simp [qn, qS] <;> rfl) | (simp only [<- hji19, <- hji20]; first | rfl | (simp [qn, qS] <;> rfl)) | (simp [*, qn, qS] <;> rfl), bs2 HB.out GE157.out GE160.out⟩
             ·replace c40 := Bool.eq_false_iff.mpr c40
              subst c40
              have H1 : (sacristylaw10_Great.l1 k4 x3_4 (wrap64 (x5_2 + 1)) a0_0 l0_1 l0_2) = some r := by rw [if_neg (show ¬ (false = true) by decide)] at H; exact H
              clear H
              have H := H1
              clear H1
              have H' := am H
              clear H
              have hnb44 := NB160_157.out
              have hnc44 := NB157_160.out
              have hcz45_0 : wr.cell? ⟨gb160, 0, none⟩ = some (.string ((qT l0_2 x5_2).f0)) := bc BK160.out 0
              have hcz45_1 : wr.cell? ⟨gb160, 1, none⟩ = some (.bool ((qT l0_2 x5_2).f1)) := bc BK160.out 1
              have hcz45_2 : wr.cell? ⟨gb160, 2, none⟩ = some (.string ((qT l0_2 x5_2).f2)) := bc BK160.out 2
              have hcz45_3 : wr.cell? ⟨gb160, 3, none⟩ = some (.slice A159_3 ((qT l0_2 x5_2).f3).length c159_3) := bc BK160.out 3
              have hcz45_4 : wr.cell? ⟨gb160, 4, none⟩ = some (.slice A159_4 ((qT l0_2 x5_2).f4).length c159_4) := bc BK160.out 4
              have hfz45_0 := qf BK160.out 0
              have hfz45_1 := qf BK160.out 1
              have hfz45_2 := qf BK160.out 2
              have hfz45_3 := qf BK160.out 3
              have hfz45_4 := qf BK160.out 4
              go_wp2_with (first | ((with_reducible refine gate_callee (f := 19) rfl ?_); refine goesL_ (some 89) rfl rfl Tryz.func19 (by kernel_rfl) rfl #[.slice A159_3 ((qT l0_2 x5_2).f3).length c159_3] rfl mz ?_; (with_reducible refine (w9_Great.calls k4 _ _ ((qT l0_2 x5_2).f3) false _ ?side1 ?side2 A39.out).mono ?_); (case side1 => repeat (first | exact (Kd.C_below HR159_3.out HB.out) | (with_reducible refine Kd.C_alloc ?_ _) | (with_reducible refine Kd.C_drewN ?_ _) | (with_reducible refine Kd.C_drew ?_))); (case side2 => exact HC159_3.out); rintro e w46 ⟨rfl, hb⟩; refine ⟨_, rfl, ?_⟩; have n0_ := am (blk_below (g := gb157) (o := .cells #[.int .i64 a0_0, .slice A0_1 l0_1.length c0_1, .slice (some ad159) l0_2.length c0_2] 25 (0, 0)) (kz BK157.out) hb); have n1_ := am (blk_below (g := gb160) (o := .cells #[.string ((qT l0_2 x5_2).f0), .bool ((qT l0_2 x5_2).f1), .string ((qT l0_2 x5_2).f2), .slice A159_3 ((qT l0_2 x5_2).f3).length c159_3, .slice A159_4 ((qT l0_2 x5_2).f4).length c159_4] 39 (0, 0)) (kz BK160.out) hb); have n2_ := am (qW (bs2 HB.out GE157.out GE160.out) hb); clear BK157; clear BK160; clear HB; have BK157 := n0_; have BK160 := n1_; have HB := n2_; clear n0_ n1_ n2_; (try clear hb); (try clear hb2); (try clear hk); (try clear hi)))
              go_roundg k4
              case measure => have := HJ1.out; have := HK2.out; have := HJ11.out; have := HK4.out; omega
              case rel => exact ⟨(x3_4), (wrap64 (x5_2 + 1)), (ez), (ez), H', ⟨by have := HJ1.out; have := HK2.out; have := HJ11.out; have := HK4.out; omega⟩, ⟨kz BK157.out⟩, ⟨bs2 HB.out GE157.out GE160.out⟩⟩
         ·rw [if_neg c18] at H
          exact absurd H (by simp)
        ·rw [if_neg c17] at H
         exact absurd H (by simp)
       ·replace c16 := Bool.eq_false_iff.mpr c16
        subst c16
        have H1 : (if x3_2 >= 20000 then (some true) else (some (decide ((l0_2.length : Int) > 40)))) = some r := by rw [if_neg (show ¬ (false = true) by decide)] at H; exact H
        clear H
        have H := H1
        clear H1
        by_cases c47 : x3_2 >= 20000
        ·rw [if_pos c47] at H
         have c47b0 : decide (20000 <= x3_2) = true := dt c47
         clear c47
         obtain rfl := Option.some.inj H
         go_wp2
         go_ret
         exact ⟨ey, bs1 HB.out GE157.out⟩
        ·rw [if_neg c47] at H
         have c47b0 : decide (20000 <= x3_2) = false := df c47
         clear c47
         obtain rfl := Option.some.inj H
         have hcz48_0 : wc.cell? ⟨gb157, 0, none⟩ = some (.int .i64 a0_0) := bc BK157.out 0
         have hcz48_1 : wc.cell? ⟨gb157, 1, none⟩ = some (.slice A0_1 l0_1.length c0_1) := bc BK157.out 1
         have hcz48_2 : wc.cell? ⟨gb157, 2, none⟩ = some (.slice A0_2 l0_2.length c0_2) := bc BK157.out 2
         have hfz48_0 := qf BK157.out 0
         have hfz48_1 := qf BK157.out 1
         have hfz48_2 := qf BK157.out 2
         go_wp2
         go_ret
         exact ⟨ey, bs1 HB.out GE157.out⟩
end Go.Proofs.YtlfenakgphmepaaGreatDoor.Print
