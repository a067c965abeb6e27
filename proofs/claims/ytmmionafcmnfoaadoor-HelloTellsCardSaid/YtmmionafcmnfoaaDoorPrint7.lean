/- Functions of the program as plain functions, and proofs that the program's calls tell what these tell. Written by a program. -/
import Derived.Test.YtmmionafcmnfoaaDoorPrint0
import Derived.Test.YtmmionafcmnfoaaDoorPrint4
import Derived.Test.YtmmionafcmnfoaaDoorPrint6
namespace Go.Proofs.YtmmionafcmnfoaaDoor.Print
open Go.RowKit Go.Proofs.YtmmionafcmnfoaaDoorW.PrintWords Go.Proofs.YtmmionafcmnfoaaDoorW.PrintLast Go.Proofs.YtmmionafcmnfoaaDoorW.PrintMore Go.Proofs.YtmmionafcmnfoaaDoor.Conv
attribute [local go_sem] max2_int min2_int max_two min_two max_three min_three max_four min_four
set_option linter.unusedVariables false
set_option linter.unusedSimpArgs false
mutual
def hello_Push.l0 : Nat -> List (S65) -> List ByteArray -> List (S65) -> Int -> Int -> Option ((List (S49)) × Bool)
 | 0, _, _, _, _, _ => none
 | k + 1, x0, x4, x7, x8, x9 => if x9 < x8 then (if 0 <= x9 then (if x9 < (x7.length : Int) then ((refs_Named.f k ((rd_T65 x7 x9).f0)).bind fun t145 => (if t145 = true then ((hello_may.f k ((rd_T65 x7 x9).f1)).bind fun t146 => (if t146 = true then ((hello_may.f k ((rd_T65 x7 x9).f2)).bind fun t147 => (if t147 = true then (if ((rd_T65 x7 x9).f1).size + ((rd_T65 x7 x9).f2).size <= 9223372036854775807 then (hello_Push.j1 k x0 x4 x7 x8 x9 ((((rd_T65 x7 x9).f1) ++ ((rd_T65 x7 x9).f2)).toList == ([] : List UInt8)) ((rd_T65 x7 x9).f0) ((rd_T65 x7 x9).f1) ((rd_T65 x7 x9).f2)) else (none)) else (hello_Push.j1 k x0 x4 x7 x8 x9 true ((rd_T65 x7 x9).f0) ((rd_T65 x7 x9).f1) ((rd_T65 x7 x9).f2)))) else (hello_Push.j1 k x0 x4 x7 x8 x9 true ((rd_T65 x7 x9).f0) ((rd_T65 x7 x9).f1) ((rd_T65 x7 x9).f2)))) else (hello_Push.j1 k x0 x4 x7 x8 x9 true ((rd_T65 x7 x9).f0) ((rd_T65 x7 x9).f1) ((rd_T65 x7 x9).f2)))) else (none)) else (none)) else (if (x0.length : Int) = 0 then (some (([] : List (S49)), false)) else (if (x0.length : Int) > 16 then (some (([] : List (S49)), false)) else ((hello_ended.f k x4).bind fun t140 => (some (t140, true)))))
def hello_Push.j1 : Nat -> List (S65) -> List ByteArray -> List (S65) -> Int -> Int -> Bool -> ByteArray -> ByteArray -> ByteArray -> Option ((List (S49)) × Bool)
 | 0, _, _, _, _, _, _, _, _, _ => none
 | k + 1, x0, x4, x7, x8, x9, x36, x145000, x145001, x145002 => if x36 = true then (some (([] : List (S49)), false)) else ((hello_dash.f x145001).bind fun t148 => (if t148.size + 1 <= 9223372036854775807 then ((hello_dash.f x145002).bind fun t149 => (if (t148 ++ (⟨#[32]⟩ : ByteArray)).size + t149.size <= 9223372036854775807 then (if ((t148 ++ (⟨#[32]⟩ : ByteArray)) ++ t149).size + 1 <= 9223372036854775807 then (if (((t148 ++ (⟨#[32]⟩ : ByteArray)) ++ t149) ++ (⟨#[32]⟩ : ByteArray)).size + x145000.size <= 9223372036854775807 then (if x4.length < 8796093022208 then (hello_Push.l0 k x0 (x4 ++ [(((t148 ++ (⟨#[32]⟩ : ByteArray)) ++ t149) ++ (⟨#[32]⟩ : ByteArray)) ++ x145000]) x7 x8 (wrap64 (x9 + 1))) else (none)) else (none)) else (none)) else (none))) else (none)))
end
def hello_Push.f (k : Nat) (l0 : List (S65)) : Option ((List (S49)) × Bool) := hello_Push.l0 k l0 ([] : List ByteArray) l0 (l0.length : Int) 0
def hello_Push.T7 : Bool × List (List Nat × List Nat) := (true, [([], []), ([], []), ([1], [1]), ([2], [2]), ([3], [3]), ([], []), ([5], [5]), ([6, 3], [6]), ([4, 7], [4, 7]), ([8], [8]), ([], []), ([10], [10]), ([9, 11], [9, 11]), ([12], [12]), ([0, 13, 7], [0, 13]), ([14, 14, 0, 1, 2, 3, 4, 5, 6, 7, 8, 9, 10, 11, 12, 13, 14], [0, 14])])
def hello_Push.B7 : List Nat := [0, 0, 2, 6, 14, 0, 32, 110, 254, 510, 0, 1024, 4094, 8190, 16383, 32767]
theorem hello_Push.tab7 : rtab .any (opsOf Tryd.f17 7) = hello_Push.T7 := by kernel_rfl
theorem hello_Push.bits7 : waitsOk hello_Push.T7.2 hello_Push.B7 = true := by kernel_rfl
set_option maxHeartbeats 8000000 in
set_option maxRecDepth 100000 in
theorem hello_Push.calls (k : Nat) (A0 : Option Addr) (c0 : Nat) (l0 : List (S65)) (r1 : List (S49)) (r2 : Bool) (w : World) (hr0 : Kd.C k65 w A0 l0.length l0) (hc0 : l0.length <= c0) (h : hello_Push.f k l0 = some (r1, r2)) :
  Calls Tryd.prog 17 #[.slice A0 l0.length c0] w fun e w' => ∃ v0_ : Value, e = .returned (.tuple #[v0_, .bool r2]) /\ Kd.R k49 49 w' w.heap.size (fun _ => True) v0_ r1 /\ Below w.heap.size w w' := by
 have hu65 := Tryd.underlying65
 have HR0 := Asd.mk hr0
 have HC0 := Asd.mk hc0
 clear hr0 hc0
 have HB := Asd.mk (Below.refl w.heap.size w)
 have H : (hello_Push.l0 k l0 ([] : List ByteArray) l0 (l0.length : Int) 0) = some (r1, r2) := h
 clear h
 have H' := Asd.mk H
 clear H
 go_enter Tryd.func17, Tryd.ntmps17
 go_wp2
 go_loopg [4, 9] k (fun kq v4 v9 w' => ∃ (x4_1 : List ByteArray) (x9_1 : Int), v9 = .int .i64 x9_1 /\ Asd (hello_Push.l0 kq l0 x4_1 l0 (l0.length : Int) x9_1 = some (r1, r2)) /\ Asd (kq <= k) /\ Asd (Kd.R Kd.string 9 w' w.heap.size (fun _ => True) v4 x4_1) /\ Asd (Below w.heap.size w w'))
 case atStart => exact ⟨(([] : List ByteArray)), (0), (by first | rfl | (simp; done) | (simp [*]; done)), H', ⟨Nat.le_refl _⟩, ⟨by first | exact Kd.R_nil _ _ _ _ _ | exact Kd.N_nil _ _ _ _ _ | exact Kd.V_nil _ _ _ _ _ | exact Kd.Q_nil _ _ _ _ _ | exact Kd.S_nil _ _ _ _ _⟩, ⟨by repeat (first | (with_reducible first | exact HB.out | apply bal | apply pbN | apply bd1) | exact HB.out)⟩⟩
 case round =>
  clear H'
  try clear c1
  obtain ⟨x4_1, x9_1, rfl, HA, HK1, HO_4, HB⟩ := hrel
  cases gk with
  | zero => exact absurd HA.out (by simp [hello_Push.l0])
  | succ k1 =>
   have H := HA.out
   clear HA
   simp only [hello_Push.l0] at H
   by_cases c2 : x9_1 < (l0.length : Int)
   ·rw [if_pos c2] at H
    have c2b0 : decide (x9_1 < (l0.length : Int)) = true := decide_eq_true c2
    clear c2
    by_cases c3 : 0 <= x9_1
    ·rw [if_pos c3] at H
     have c3b0 : decide (0 <= x9_1) = true := decide_eq_true c3
     clear c3
     by_cases c4 : x9_1 < (l0.length : Int)
     ·rw [if_pos c4] at H
      have c4b0 : decide (x9_1 < (l0.length : Int)) = true := decide_eq_true c4
      clear c4
      have HC5 := Asd.mk H
      clear H
      have p143 : 0 <= (x9_1 : Int) := of_decide_eq_true (by first | (with_reducible assumption) | assumption)
      have q143 : x9_1 < (l0.length : Int) := of_decide_eq_true (by first | (with_reducible assumption) | assumption)
      obtain ⟨ad143, e143, hx143_0, hx143_1, hx143_2⟩ := at_T65 HR0.out x9_1 p143 q143
      cases e143
      replace hx143_0 := (HB.out.cell (World.block_lt_of_cell? w _ hx143_0)).trans hx143_0
      replace hx143_1 := (HB.out.cell (World.block_lt_of_cell? w _ hx143_1)).trans hx143_1
      replace hx143_2 := (HB.out.cell (World.block_lt_of_cell? w _ hx143_2)).trans hx143_2
      replace p143 := eq_true p143
      replace q143 := eq_true q143
      go_upto_region 5 with (first | ((with_reducible refine gate_dst (N := 6) rfl ?_); (try (refine gate_guard (by rfl) ?_; dsimp only)); refine box_event ?hg (N := 6) ?hd (cs := #[.string (⟨#[]⟩ : ByteArray), .string (⟨#[]⟩ : ByteArray), .string (⟨#[]⟩ : ByteArray)]) (t := 65) ?hr ?_; (case hd => rfl); (case hg => rfl); (case hr => first | (go_simp; done) | (go_simp; rfl)); intro gb144 hg w6 hbox hb; have n0_ := Asd.mk (Kd.R_below (by (with_reducible repeat (first | apply Kd.R_alloc | apply Kd.R_drewN | apply Kd.R_drew)); exact HO_4.out) hb); have n1_ := Asd.mk (below_step (by repeat (first | (with_reducible first | exact HB.out | apply bal | apply pbN | apply bd1) | exact HB.out)) hb); have n2_ := Asd.mk (hbox); have n3_ := Asd.mk ((by rw [hg]; exact (below_size (by repeat (first | (with_reducible first | exact HB.out | apply bal | apply pbN | apply bd1) | exact HB.out))) : w.heap.size <= gb144)); have n4_ := Asd.mk ((by rw [hg]; exact (below_size (by repeat (first | (with_reducible first | exact HB.out | apply bal | apply pbN | apply bd1) | exact HB.out))) : w.heap.size <= gb144)); clear HO_4; clear HB; have HO_4 := n0_; have HB := n1_; have BK144 := n2_; have GW144 := n3_; have GE144 := n4_; clear n0_ n1_ n2_ n3_ n4_; clear hb hbox hg; have hcz7_0 : w6.cell? ⟨gb144, 0, none⟩ = some (.string (⟨#[]⟩ : ByteArray)) := (blk_cell BK144.out 0).trans rfl; have hcz7_1 : w6.cell? ⟨gb144, 1, none⟩ = some (.string (⟨#[]⟩ : ByteArray)) := (blk_cell BK144.out 1).trans rfl; have hcz7_2 : w6.cell? ⟨gb144, 2, none⟩ = some (.string (⟨#[]⟩ : ByteArray)) := (blk_cell BK144.out 2).trans rfl; have hfz7_0 := blk_frozen BK144.out 0; have hfz7_1 := blk_frozen BK144.out 1; have hfz7_2 := blk_frozen BK144.out 2))
      (try simp only [Act.put, zA, zB, zC])
      go_cut [36] (fun v36 wc => ∃ (kq : Nat) (x36_4 : Bool), v36 = .bool x36_4 /\ Asd (hello_Push.j1 kq l0 x4_1 l0 (l0.length : Int) x9_1 x36_4 ((rd_T65 l0 x9_1).f0) ((rd_T65 l0 x9_1).f1) ((rd_T65 l0 x9_1).f2) = some (r1, r2)) /\ Asd (kq <= k1) /\ Asd (Kd.R Kd.string 9 wc w.heap.size (fun _ => True) u4 x4_1) /\ Asd (wc.heap[gb144]? = some (.cells #[.string ((rd_T65 l0 x9_1).f0), .string ((rd_T65 l0 x9_1).f1), .string ((rd_T65 l0 x9_1).f2)] 65 (0, 0))) /\ Asd (Below w.heap.size w wc))
      case first =>
       have H := HC5.out
       clear HC5
       replace H := Option.bind_eq_some_iff.mp H
       obtain ⟨t145, A80, H⟩ := H
       replace H : (if t145 = true then ((hello_may.f k1 ((rd_T65 l0 x9_1).f1)).bind fun t146 => (if t146 = true then ((hello_may.f k1 ((rd_T65 l0 x9_1).f2)).bind fun t147 => (if t147 = true then (if ((rd_T65 l0 x9_1).f1).size + ((rd_T65 l0 x9_1).f2).size <= 9223372036854775807 then (hello_Push.j1 k1 l0 x4_1 l0 (l0.length : Int) x9_1 ((((rd_T65 l0 x9_1).f1) ++ ((rd_T65 l0 x9_1).f2)).toList == ([] : List UInt8)) ((rd_T65 l0 x9_1).f0) ((rd_T65 l0 x9_1).f1) ((rd_T65 l0 x9_1).f2)) else (none)) else (hello_Push.j1 k1 l0 x4_1 l0 (l0.length : Int) x9_1 true ((rd_T65 l0 x9_1).f0) ((rd_T65 l0 x9_1).f1) ((rd_T65 l0 x9_1).f2)))) else (hello_Push.j1 k1 l0 x4_1 l0 (l0.length : Int) x9_1 true ((rd_T65 l0 x9_1).f0) ((rd_T65 l0 x9_1).f1) ((rd_T65 l0 x9_1).f2)))) else (hello_Push.j1 k1 l0 x4_1 l0 (l0.length : Int) x9_1 true ((rd_T65 l0 x9_1).f0) ((rd_T65 l0 x9_1).f1) ((rd_T65 l0 x9_1).f2))) = some (r1, r2) := H
       have A8 := Asd.mk A80
       clear A80
       by_cases c9 : t145 = true
       ·subst c9
        have H1 : ((hello_may.f k1 ((rd_T65 l0 x9_1).f1)).bind fun t146 => (if t146 = true then ((hello_may.f k1 ((rd_T65 l0 x9_1).f2)).bind fun t147 => (if t147 = true then (if ((rd_T65 l0 x9_1).f1).size + ((rd_T65 l0 x9_1).f2).size <= 9223372036854775807 then (hello_Push.j1 k1 l0 x4_1 l0 (l0.length : Int) x9_1 ((((rd_T65 l0 x9_1).f1) ++ ((rd_T65 l0 x9_1).f2)).toList == ([] : List UInt8)) ((rd_T65 l0 x9_1).f0) ((rd_T65 l0 x9_1).f1) ((rd_T65 l0 x9_1).f2)) else (none)) else (hello_Push.j1 k1 l0 x4_1 l0 (l0.length : Int) x9_1 true ((rd_T65 l0 x9_1).f0) ((rd_T65 l0 x9_1).f1) ((rd_T65 l0 x9_1).f2)))) else (hello_Push.j1 k1 l0 x4_1 l0 (l0.length : Int) x9_1 true ((rd_T65 l0 x9_1).f0) ((rd_T65 l0 x9_1).f1) ((rd_T65 l0 x9_1).f2)))) = some (r1, r2) := by rw [if_pos rfl] at H; exact H
        clear H
        have H := H1
        clear H1
        replace H := Option.bind_eq_some_iff.mp H
        obtain ⟨t146, A100, H⟩ := H
        replace H : (if t146 = true then ((hello_may.f k1 ((rd_T65 l0 x9_1).f2)).bind fun t147 => (if t147 = true then (if ((rd_T65 l0 x9_1).f1).size + ((rd_T65 l0 x9_1).f2).size <= 9223372036854775807 then (hello_Push.j1 k1 l0 x4_1 l0 (l0.length : Int) x9_1 ((((rd_T65 l0 x9_1).f1) ++ ((rd_T65 l0 x9_1).f2)).toList == ([] : List UInt8)) ((rd_T65 l0 x9_1).f0) ((rd_T65 l0 x9_1).f1) ((rd_T65 l0 x9_1).f2)) else (none)) else (hello_Push.j1 k1 l0 x4_1 l0 (l0.length : Int) x9_1 true ((rd_T65 l0 x9_1).f0) ((rd_T65 l0 x9_1).f1) ((rd_T65 l0 x9_1).f2)))) else (hello_Push.j1 k1 l0 x4_1 l0 (l0.length : Int) x9_1 true ((rd_T65 l0 x9_1).f0) ((rd_T65 l0 x9_1).f1) ((rd_T65 l0 x9_1).f2))) = some (r1, r2) := H
        have A10 := Asd.mk A100
        clear A100
        by_cases c11 : t146 = true
        ·subst c11
         have H1 : ((hello_may.f k1 ((rd_T65 l0 x9_1).f2)).bind fun t147 => (if t147 = true then (if ((rd_T65 l0 x9_1).f1).size + ((rd_T65 l0 x9_1).f2).size <= 9223372036854775807 then (hello_Push.j1 k1 l0 x4_1 l0 (l0.length : Int) x9_1 ((((rd_T65 l0 x9_1).f1) ++ ((rd_T65 l0 x9_1).f2)).toList == ([] : List UInt8)) ((rd_T65 l0 x9_1).f0) ((rd_T65 l0 x9_1).f1) ((rd_T65 l0 x9_1).f2)) else (none)) else (hello_Push.j1 k1 l0 x4_1 l0 (l0.length : Int) x9_1 true ((rd_T65 l0 x9_1).f0) ((rd_T65 l0 x9_1).f1) ((rd_T65 l0 x9_1).f2)))) = some (r1, r2) := by rw [if_pos rfl] at H; exact H
         clear H
         have H := H1
         clear H1
         replace H := Option.bind_eq_some_iff.mp H
         obtain ⟨t147, A120, H⟩ := H
         replace H : (if t147 = true then (if ((rd_T65 l0 x9_1).f1).size + ((rd_T65 l0 x9_1).f2).size <= 9223372036854775807 then (hello_Push.j1 k1 l0 x4_1 l0 (l0.length : Int) x9_1 ((((rd_T65 l0 x9_1).f1) ++ ((rd_T65 l0 x9_1).f2)).toList == ([] : List UInt8)) ((rd_T65 l0 x9_1).f0) ((rd_T65 l0 x9_1).f1) ((rd_T65 l0 x9_1).f2)) else (none)) else (hello_Push.j1 k1 l0 x4_1 l0 (l0.length : Int) x9_1 true ((rd_T65 l0 x9_1).f0) ((rd_T65 l0 x9_1).f1) ((rd_T65 l0 x9_1).f2))) = some (r1, r2) := H
         have A12 := Asd.mk A120
         clear A120
         by_cases c13 : t147 = true
         ·subst c13
          have H1 : (if ((rd_T65 l0 x9_1).f1).size + ((rd_T65 l0 x9_1).f2).size <= 9223372036854775807 then (hello_Push.j1 k1 l0 x4_1 l0 (l0.length : Int) x9_1 ((((rd_T65 l0 x9_1).f1) ++ ((rd_T65 l0 x9_1).f2)).toList == ([] : List UInt8)) ((rd_T65 l0 x9_1).f0) ((rd_T65 l0 x9_1).f1) ((rd_T65 l0 x9_1).f2)) else (none)) = some (r1, r2) := by rw [if_pos rfl] at H; exact H
          clear H
          have H := H1
          clear H1
          by_cases c14 : ((rd_T65 l0 x9_1).f1).size + ((rd_T65 l0 x9_1).f2).size <= 9223372036854775807
          ·rw [if_pos c14] at H
           have c14b0 := eq_true c14
           have c14b1 : decide (((rd_T65 l0 x9_1).f1).size + ((rd_T65 l0 x9_1).f2).size <= 9223372036854775807) = true := decide_eq_true c14
           try have c14b2 : (9223372036854775807 < ((rd_T65 l0 x9_1).f1).size + ((rd_T65 l0 x9_1).f2).size) = False := eq_false (Nat.not_lt.2 c14)
           have H' := Asd.mk H
           clear H
           have hcz15_0 : w6.cell? ⟨gb144, 0, none⟩ = some (.string (⟨#[]⟩ : ByteArray)) := (blk_cell BK144.out 0).trans rfl
           have hcz15_1 : w6.cell? ⟨gb144, 1, none⟩ = some (.string (⟨#[]⟩ : ByteArray)) := (blk_cell BK144.out 1).trans rfl
           have hcz15_2 : w6.cell? ⟨gb144, 2, none⟩ = some (.string (⟨#[]⟩ : ByteArray)) := (blk_cell BK144.out 2).trans rfl
           have hfz15_0 := blk_frozen BK144.out 0
           have hfz15_1 := blk_frozen BK144.out 1
           have hfz15_2 := blk_frozen BK144.out 2
           go_wp2_with (first | ((with_reducible refine gate_callee (f := 33) rfl ?_); refine goesL_ (some 15) rfl rfl Tryd.func33 (by kernel_rfl) rfl #[.string ((rd_T65 l0 x9_1).f0)] rfl (by (try simp only [List.map_toArray, List.map_cons, List.map_nil]); first | done | rfl | (simp only [List.length_drop, List.length_take]; rfl)) ?_; (with_reducible refine (refs_Named.calls k1 ((rd_T65 l0 x9_1).f0) true _ A8.out).mono ?_); rintro e w16 ⟨rfl, hb⟩; refine ⟨_, rfl, ?_⟩; have n0_ := Asd.mk (Kd.R_below (by (with_reducible repeat (first | apply Kd.R_alloc | apply Kd.R_drewN | apply Kd.R_drew)); exact (Kd.R_mono (Kd.R_far (p := ⟨gb144, 2, none⟩) (Kd.R_far (p := ⟨gb144, 1, none⟩) (Kd.R_far (p := ⟨gb144, 0, none⟩) (Kd.R_types HO_4.out BK144.out (by decide)) (fun _ hk => hk.2) (.string ((rd_T65 l0 x9_1).f0))) (fun _ hk => hk.2) (.string ((rd_T65 l0 x9_1).f1))) (fun _ hk => hk.2) (.string ((rd_T65 l0 x9_1).f2))) (fun _ h_ => h_.1))) hb); have n1_ := Asd.mk (blk_below (g := gb144) (o := .cells #[.string ((rd_T65 l0 x9_1).f0), .string ((rd_T65 l0 x9_1).f1), .string ((rd_T65 l0 x9_1).f2)] 65 (0, 0)) (by (with_reducible repeat (first | refine blk_drewN ?_ _ | refine blk_drew ?_ | refine blk_alloc ?_ _)); refine blk_put (cs := #[.string ((rd_T65 l0 x9_1).f0), .string ((rd_T65 l0 x9_1).f1), .string (⟨#[]⟩ : ByteArray)]) ?_ 2 _ rfl; (with_reducible repeat (first | refine blk_drewN ?_ _ | refine blk_drew ?_ | refine blk_alloc ?_ _)); refine blk_put (cs := #[.string ((rd_T65 l0 x9_1).f0), .string (⟨#[]⟩ : ByteArray), .string (⟨#[]⟩ : ByteArray)]) ?_ 1 _ rfl; (with_reducible repeat (first | refine blk_drewN ?_ _ | refine blk_drew ?_ | refine blk_alloc ?_ _)); refine blk_put (cs := #[.string (⟨#[]⟩ : ByteArray), .string (⟨#[]⟩ : ByteArray), .string (⟨#[]⟩ : ByteArray)]) ?_ 0 _ rfl; (with_reducible repeat (first | refine blk_drewN ?_ _ | refine blk_drew ?_ | refine blk_alloc ?_ _)); exact BK144.out) hb); have n2_ := Asd.mk (below_step (by repeat (first | (with_reducible first | exact HB.out | apply bal | apply pbN | apply bd1 | refine below_set ?_ GE144.out) | exact HB.out)) hb); clear HO_4; clear BK144; clear HB; have HO_4 := n0_; have BK144 := n1_; have HB := n2_; clear n0_ n1_ n2_; (try clear hb); (try clear hb2); (try clear hk); (try clear hi); have hcz17_0 : w16.cell? ⟨gb144, 0, none⟩ = some (.string ((rd_T65 l0 x9_1).f0)) := (blk_cell BK144.out 0).trans rfl; have hcz17_1 : w16.cell? ⟨gb144, 1, none⟩ = some (.string ((rd_T65 l0 x9_1).f1)) := (blk_cell BK144.out 1).trans rfl; have hcz17_2 : w16.cell? ⟨gb144, 2, none⟩ = some (.string ((rd_T65 l0 x9_1).f2)) := (blk_cell BK144.out 2).trans rfl; have hfz17_0 := blk_frozen BK144.out 0; have hfz17_1 := blk_frozen BK144.out 1; have hfz17_2 := blk_frozen BK144.out 2) | (go_at_call 42; (with_reducible refine (hello_may.calls k1 ((rd_T65 l0 x9_1).f1) true _ A10.out).mono ?_); rintro e w' ⟨rfl, ⟨nd, rfl⟩⟩) | (go_at_call 42; (with_reducible refine (hello_may.calls k1 ((rd_T65 l0 x9_1).f2) true _ A12.out).mono ?_); rintro e w' ⟨rfl, ⟨nd, rfl⟩⟩))
           go_meet
           case rel => exact ⟨_, (((((rd_T65 l0 x9_1).f1) ++ ((rd_T65 l0 x9_1).f2)).toList == ([] : List UInt8))), (by first | rfl | (simp; done) | (simp [*]; done)), H', ⟨by have := HK1.out; first | omega | exact Nat.le_refl _⟩, ⟨by (with_reducible repeat (first | apply Kd.R_alloc | apply Kd.R_drewN | apply Kd.R_drew)); exact HO_4.out⟩, ⟨by (with_reducible repeat (first | refine blk_drewN ?_ _ | refine blk_drew ?_ | refine blk_alloc ?_ _)); exact BK144.out⟩, ⟨by repeat (first | (with_reducible first | exact HB.out | apply bal | apply pbN | apply bd1 | refine below_set ?_ GE144.out) | exact HB.out)⟩⟩
          ·rw [if_neg c14] at H
           exact absurd H (by simp)
         ·replace c13 := Bool.eq_false_iff.mpr c13
          subst c13
          have H1 : (hello_Push.j1 k1 l0 x4_1 l0 (l0.length : Int) x9_1 true ((rd_T65 l0 x9_1).f0) ((rd_T65 l0 x9_1).f1) ((rd_T65 l0 x9_1).f2)) = some (r1, r2) := by rw [if_neg (show ¬ (false = true) by decide)] at H; exact H
          clear H
          have H := H1
          clear H1
          have H' := Asd.mk H
          clear H
          have hcz18_0 : w6.cell? ⟨gb144, 0, none⟩ = some (.string (⟨#[]⟩ : ByteArray)) := (blk_cell BK144.out 0).trans rfl
          have hcz18_1 : w6.cell? ⟨gb144, 1, none⟩ = some (.string (⟨#[]⟩ : ByteArray)) := (blk_cell BK144.out 1).trans rfl
          have hcz18_2 : w6.cell? ⟨gb144, 2, none⟩ = some (.string (⟨#[]⟩ : ByteArray)) := (blk_cell BK144.out 2).trans rfl
          have hfz18_0 := blk_frozen BK144.out 0
          have hfz18_1 := blk_frozen BK144.out 1
          have hfz18_2 := blk_frozen BK144.out 2
          go_wp2_with (first | ((with_reducible refine gate_callee (f := 33) rfl ?_); refine goesL_ (some 15) rfl rfl Tryd.func33 (by kernel_rfl) rfl #[.string ((rd_T65 l0 x9_1).f0)] rfl (by (try simp only [List.map_toArray, List.map_cons, List.map_nil]); first | done | rfl | (simp only [List.length_drop, List.length_take]; rfl)) ?_; (with_reducible refine (refs_Named.calls k1 ((rd_T65 l0 x9_1).f0) true _ A8.out).mono ?_); rintro e w19 ⟨rfl, hb⟩; refine ⟨_, rfl, ?_⟩; have n0_ := Asd.mk (Kd.R_below (by (with_reducible repeat (first | apply Kd.R_alloc | apply Kd.R_drewN | apply Kd.R_drew)); exact (Kd.R_mono (Kd.R_far (p := ⟨gb144, 2, none⟩) (Kd.R_far (p := ⟨gb144, 1, none⟩) (Kd.R_far (p := ⟨gb144, 0, none⟩) (Kd.R_types HO_4.out BK144.out (by decide)) (fun _ hk => hk.2) (.string ((rd_T65 l0 x9_1).f0))) (fun _ hk => hk.2) (.string ((rd_T65 l0 x9_1).f1))) (fun _ hk => hk.2) (.string ((rd_T65 l0 x9_1).f2))) (fun _ h_ => h_.1))) hb); have n1_ := Asd.mk (blk_below (g := gb144) (o := .cells #[.string ((rd_T65 l0 x9_1).f0), .string ((rd_T65 l0 x9_1).f1), .string ((rd_T65 l0 x9_1).f2)] 65 (0, 0)) (by (with_reducible repeat (first | refine blk_drewN ?_ _ | refine blk_drew ?_ | refine blk_alloc ?_ _)); refine blk_put (cs := #[.string ((rd_T65 l0 x9_1).f0), .string ((rd_T65 l0 x9_1).f1), .string (⟨#[]⟩ : ByteArray)]) ?_ 2 _ rfl; (with_reducible repeat (first | refine blk_drewN ?_ _ | refine blk_drew ?_ | refine blk_alloc ?_ _)); refine blk_put (cs := #[.string ((rd_T65 l0 x9_1).f0), .string (⟨#[]⟩ : ByteArray), .string (⟨#[]⟩ : ByteArray)]) ?_ 1 _ rfl; (with_reducible repeat (first | refine blk_drewN ?_ _ | refine blk_drew ?_ | refine blk_alloc ?_ _)); refine blk_put (cs := #[.string (⟨#[]⟩ : ByteArray), .string (⟨#[]⟩ : ByteArray), .string (⟨#[]⟩ : ByteArray)]) ?_ 0 _ rfl; (with_reducible repeat (first | refine blk_drewN ?_ _ | refine blk_drew ?_ | refine blk_alloc ?_ _)); exact BK144.out) hb); have n2_ := Asd.mk (below_step (by repeat (first | (with_reducible first | exact HB.out | apply bal | apply pbN | apply bd1 | refine below_set ?_ GE144.out) | exact HB.out)) hb); clear HO_4; clear BK144; clear HB; have HO_4 := n0_; have BK144 := n1_; have HB := n2_; clear n0_ n1_ n2_; (try clear hb); (try clear hb2); (try clear hk); (try clear hi); have hcz20_0 : w19.cell? ⟨gb144, 0, none⟩ = some (.string ((rd_T65 l0 x9_1).f0)) := (blk_cell BK144.out 0).trans rfl; have hcz20_1 : w19.cell? ⟨gb144, 1, none⟩ = some (.string ((rd_T65 l0 x9_1).f1)) := (blk_cell BK144.out 1).trans rfl; have hcz20_2 : w19.cell? ⟨gb144, 2, none⟩ = some (.string ((rd_T65 l0 x9_1).f2)) := (blk_cell BK144.out 2).trans rfl; have hfz20_0 := blk_frozen BK144.out 0; have hfz20_1 := blk_frozen BK144.out 1; have hfz20_2 := blk_frozen BK144.out 2) | (go_at_call 42; (with_reducible refine (hello_may.calls k1 ((rd_T65 l0 x9_1).f1) true _ A10.out).mono ?_); rintro e w' ⟨rfl, ⟨nd, rfl⟩⟩) | (go_at_call 42; (with_reducible refine (hello_may.calls k1 ((rd_T65 l0 x9_1).f2) false _ A12.out).mono ?_); rintro e w' ⟨rfl, ⟨nd, rfl⟩⟩))
          go_meet
          case rel => exact ⟨_, (true), (by first | rfl | (simp; done) | (simp [*]; done)), H', ⟨by have := HK1.out; first | omega | exact Nat.le_refl _⟩, ⟨by (with_reducible repeat (first | apply Kd.R_alloc | apply Kd.R_drewN | apply Kd.R_drew)); exact HO_4.out⟩, ⟨by (with_reducible repeat (first | refine blk_drewN ?_ _ | refine blk_drew ?_ | refine blk_alloc ?_ _)); exact BK144.out⟩, ⟨by repeat (first | (with_reducible first | exact HB.out | apply bal | apply pbN | apply bd1 | refine below_set ?_ GE144.out) | exact HB.out)⟩⟩
        ·replace c11 := Bool.eq_false_iff.mpr c11
         subst c11
         have H1 : (hello_Push.j1 k1 l0 x4_1 l0 (l0.length : Int) x9_1 true ((rd_T65 l0 x9_1).f0) ((rd_T65 l0 x9_1).f1) ((rd_T65 l0 x9_1).f2)) = some (r1, r2) := by rw [if_neg (show ¬ (false = true) by decide)] at H; exact H
         clear H
         have H := H1
         clear H1
         have H' := Asd.mk H
         clear H
         have hcz21_0 : w6.cell? ⟨gb144, 0, none⟩ = some (.string (⟨#[]⟩ : ByteArray)) := (blk_cell BK144.out 0).trans rfl
         have hcz21_1 : w6.cell? ⟨gb144, 1, none⟩ = some (.string (⟨#[]⟩ : ByteArray)) := (blk_cell BK144.out 1).trans rfl
         have hcz21_2 : w6.cell? ⟨gb144, 2, none⟩ = some (.string (⟨#[]⟩ : ByteArray)) := (blk_cell BK144.out 2).trans rfl
         have hfz21_0 := blk_frozen BK144.out 0
         have hfz21_1 := blk_frozen BK144.out 1
         have hfz21_2 := blk_frozen BK144.out 2
         go_wp2_with (first | ((with_reducible refine gate_callee (f := 33) rfl ?_); refine goesL_ (some 15) rfl rfl Tryd.func33 (by kernel_rfl) rfl #[.string ((rd_T65 l0 x9_1).f0)] rfl (by (try simp only [List.map_toArray, List.map_cons, List.map_nil]); first | done | rfl | (simp only [List.length_drop, List.length_take]; rfl)) ?_; (with_reducible refine (refs_Named.calls k1 ((rd_T65 l0 x9_1).f0) true _ A8.out).mono ?_); rintro e w22 ⟨rfl, hb⟩; refine ⟨_, rfl, ?_⟩; have n0_ := Asd.mk (Kd.R_below (by (with_reducible repeat (first | apply Kd.R_alloc | apply Kd.R_drewN | apply Kd.R_drew)); exact (Kd.R_mono (Kd.R_far (p := ⟨gb144, 2, none⟩) (Kd.R_far (p := ⟨gb144, 1, none⟩) (Kd.R_far (p := ⟨gb144, 0, none⟩) (Kd.R_types HO_4.out BK144.out (by decide)) (fun _ hk => hk.2) (.string ((rd_T65 l0 x9_1).f0))) (fun _ hk => hk.2) (.string ((rd_T65 l0 x9_1).f1))) (fun _ hk => hk.2) (.string ((rd_T65 l0 x9_1).f2))) (fun _ h_ => h_.1))) hb); have n1_ := Asd.mk (blk_below (g := gb144) (o := .cells #[.string ((rd_T65 l0 x9_1).f0), .string ((rd_T65 l0 x9_1).f1), .string ((rd_T65 l0 x9_1).f2)] 65 (0, 0)) (by (with_reducible repeat (first | refine blk_drewN ?_ _ | refine blk_drew ?_ | refine blk_alloc ?_ _)); refine blk_put (cs := #[.string ((rd_T65 l0 x9_1).f0), .string ((rd_T65 l0 x9_1).f1), .string (⟨#[]⟩ : ByteArray)]) ?_ 2 _ rfl; (with_reducible repeat (first | refine blk_drewN ?_ _ | refine blk_drew ?_ | refine blk_alloc ?_ _)); refine blk_put (cs := #[.string ((rd_T65 l0 x9_1).f0), .string (⟨#[]⟩ : ByteArray), .string (⟨#[]⟩ : ByteArray)]) ?_ 1 _ rfl; (with_reducible repeat (first | refine blk_drewN ?_ _ | refine blk_drew ?_ | refine blk_alloc ?_ _)); refine blk_put (cs := #[.string (⟨#[]⟩ : ByteArray), .string (⟨#[]⟩ : ByteArray), .string (⟨#[]⟩ : ByteArray)]) ?_ 0 _ rfl; (with_reducible repeat (first | refine blk_drewN ?_ _ | refine blk_drew ?_ | refine blk_alloc ?_ _)); exact BK144.out) hb); have n2_ := Asd.mk (below_step (by repeat (first | (with_reducible first | exact HB.out | apply bal | apply pbN | apply bd1 | refine below_set ?_ GE144.out) | exact HB.out)) hb); clear HO_4; clear BK144; clear HB; have HO_4 := n0_; have BK144 := n1_; have HB := n2_; clear n0_ n1_ n2_; (try clear hb); (try clear hb2); (try clear hk); (try clear hi); have hcz23_0 : w22.cell? ⟨gb144, 0, none⟩ = some (.string ((rd_T65 l0 x9_1).f0)) := (blk_cell BK144.out 0).trans rfl; have hcz23_1 : w22.cell? ⟨gb144, 1, none⟩ = some (.string ((rd_T65 l0 x9_1).f1)) := (blk_cell BK144.out 1).trans rfl; have hcz23_2 : w22.cell? ⟨gb144, 2, none⟩ = some (.string ((rd_T65 l0 x9_1).f2)) := (blk_cell BK144.out 2).trans rfl; have hfz23_0 := blk_frozen BK144.out 0; have hfz23_1 := blk_frozen BK144.out 1; have hfz23_2 := blk_frozen BK144.out 2) | (go_at_call 42; (with_reducible refine (hello_may.calls k1 ((rd_T65 l0 x9_1).f1) false _ A10.out).mono ?_); rintro e w' ⟨rfl, ⟨nd, rfl⟩⟩))
         go_meet
         case rel => exact ⟨_, (true), (by first | rfl | (simp; done) | (simp [*]; done)), H', ⟨by have := HK1.out; first | omega | exact Nat.le_refl _⟩, ⟨by (with_reducible repeat (first | apply Kd.R_alloc | apply Kd.R_drewN | apply Kd.R_drew)); exact HO_4.out⟩, ⟨by (with_reducible repeat (first | refine blk_drewN ?_ _ | refine blk_drew ?_ | refine blk_alloc ?_ _)); exact BK144.out⟩, ⟨by repeat (first | (with_reducible first | exact HB.out | apply bal | apply pbN | apply bd1 | refine below_set ?_ GE144.out) | exact HB.out)⟩⟩
       ·replace c9 := Bool.eq_false_iff.mpr c9
        subst c9
        have H1 : (hello_Push.j1 k1 l0 x4_1 l0 (l0.length : Int) x9_1 true ((rd_T65 l0 x9_1).f0) ((rd_T65 l0 x9_1).f1) ((rd_T65 l0 x9_1).f2)) = some (r1, r2) := by rw [if_neg (show ¬ (false = true) by decide)] at H; exact H
        clear H
        have H := H1
        clear H1
        have H' := Asd.mk H
        clear H
        have hcz24_0 : w6.cell? ⟨gb144, 0, none⟩ = some (.string (⟨#[]⟩ : ByteArray)) := (blk_cell BK144.out 0).trans rfl
        have hcz24_1 : w6.cell? ⟨gb144, 1, none⟩ = some (.string (⟨#[]⟩ : ByteArray)) := (blk_cell BK144.out 1).trans rfl
        have hcz24_2 : w6.cell? ⟨gb144, 2, none⟩ = some (.string (⟨#[]⟩ : ByteArray)) := (blk_cell BK144.out 2).trans rfl
        have hfz24_0 := blk_frozen BK144.out 0
        have hfz24_1 := blk_frozen BK144.out 1
        have hfz24_2 := blk_frozen BK144.out 2
        go_wp2_with (first | ((with_reducible refine gate_callee (f := 33) rfl ?_); refine goesL_ (some 15) rfl rfl Tryd.func33 (by kernel_rfl) rfl #[.string ((rd_T65 l0 x9_1).f0)] rfl (by (try simp only [List.map_toArray, List.map_cons, List.map_nil]); first | done | rfl | (simp only [List.length_drop, List.length_take]; rfl)) ?_; (with_reducible refine (refs_Named.calls k1 ((rd_T65 l0 x9_1).f0) false _ A8.out).mono ?_); rintro e w25 ⟨rfl, hb⟩; refine ⟨_, rfl, ?_⟩; have n0_ := Asd.mk (Kd.R_below (by (with_reducible repeat (first | apply Kd.R_alloc | apply Kd.R_drewN | apply Kd.R_drew)); exact (Kd.R_mono (Kd.R_far (p := ⟨gb144, 2, none⟩) (Kd.R_far (p := ⟨gb144, 1, none⟩) (Kd.R_far (p := ⟨gb144, 0, none⟩) (Kd.R_types HO_4.out BK144.out (by decide)) (fun _ hk => hk.2) (.string ((rd_T65 l0 x9_1).f0))) (fun _ hk => hk.2) (.string ((rd_T65 l0 x9_1).f1))) (fun _ hk => hk.2) (.string ((rd_T65 l0 x9_1).f2))) (fun _ h_ => h_.1))) hb); have n1_ := Asd.mk (blk_below (g := gb144) (o := .cells #[.string ((rd_T65 l0 x9_1).f0), .string ((rd_T65 l0 x9_1).f1), .string ((rd_T65 l0 x9_1).f2)] 65 (0, 0)) (by (with_reducible repeat (first | refine blk_drewN ?_ _ | refine blk_drew ?_ | refine blk_alloc ?_ _)); refine blk_put (cs := #[.string ((rd_T65 l0 x9_1).f0), .string ((rd_T65 l0 x9_1).f1), .string (⟨#[]⟩ : ByteArray)]) ?_ 2 _ rfl; (with_reducible repeat (first | refine blk_drewN ?_ _ | refine blk_drew ?_ | refine blk_alloc ?_ _)); refine blk_put (cs := #[.string ((rd_T65 l0 x9_1).f0), .string (⟨#[]⟩ : ByteArray), .string (⟨#[]⟩ : ByteArray)]) ?_ 1 _ rfl; (with_reducible repeat (first | refine blk_drewN ?_ _ | refine blk_drew ?_ | refine blk_alloc ?_ _)); refine blk_put (cs := #[.string (⟨#[]⟩ : ByteArray), .string (⟨#[]⟩ : ByteArray), .string (⟨#[]⟩ : ByteArray)]) ?_ 0 _ rfl; (with_reducible repeat (first | refine blk_drewN ?_ _ | refine blk_drew ?_ | refine blk_alloc ?_ _)); exact BK144.out) hb); have n2_ := Asd.mk (below_step (by repeat (first | (with_reducible first | exact HB.out | apply bal | apply pbN | apply bd1 | refine below_set ?_ GE144.out) | exact HB.out)) hb); clear HO_4; clear BK144; clear HB; have HO_4 := n0_; have BK144 := n1_; have HB := n2_; clear n0_ n1_ n2_; (try clear hb); (try clear hb2); (try clear hk); (try clear hi)))
        go_meet
        case rel => exact ⟨_, (true), (by first | rfl | (simp; done) | (simp [*]; done)), H', ⟨by have := HK1.out; first | omega | exact Nat.le_refl _⟩, ⟨by (with_reducible repeat (first | apply Kd.R_alloc | apply Kd.R_drewN | apply Kd.R_drew)); exact HO_4.out⟩, ⟨by (with_reducible repeat (first | refine blk_drewN ?_ _ | refine blk_drew ?_ | refine blk_alloc ?_ _)); exact BK144.out⟩, ⟨by repeat (first | (with_reducible first | exact HB.out | apply bal | apply pbN | apply bd1 | refine below_set ?_ GE144.out) | exact HB.out)⟩⟩
      case rest =>
       clear HC5
       try clear c1
       try clear p1
       try clear q1
       try clear hx1
       try clear c2
       try clear c2b0
       try clear p2
       try clear c3
       try clear c3b0
       try clear c4
       try clear c4b0
       try clear c9
       try clear c11
       try clear c13
       try clear c14
       try clear c14b0
       try clear c14b1
       try clear c14b2
       try clear p14
       try clear q14
       try clear hx14
       try clear c17
       try clear hcz15_0
       try clear hcz15_1
       try clear hcz15_2
       try clear hcz17_0
       try clear hcz17_1
       try clear hcz17_2
       try clear hcz18_0
       try clear hcz18_1
       try clear hcz18_2
       try clear hcz20_0
       try clear hcz20_1
       try clear hcz20_2
       try clear hcz21_0
       try clear hcz21_1
       try clear hcz21_2
       try clear hcz23_0
       try clear hcz23_1
       try clear hcz23_2
       try clear hcz24_0
       try clear hcz24_1
       try clear hcz24_2
       try clear hcz7_0
       try clear hcz7_1
       try clear hcz7_2
       try clear hfz15_0
       try clear hfz15_1
       try clear hfz15_2
       try clear hfz17_0
       try clear hfz17_1
       try clear hfz17_2
       try clear hfz18_0
       try clear hfz18_1
       try clear hfz18_2
       try clear hfz20_0
       try clear hfz20_1
       try clear hfz20_2
       try clear hfz21_0
       try clear hfz21_1
       try clear hfz21_2
       try clear hfz23_0
       try clear hfz23_1
       try clear hfz23_2
       try clear hfz24_0
       try clear hfz24_1
       try clear hfz24_2
       try clear hfz7_0
       try clear hfz7_1
       try clear hfz7_2
       try clear hx143_0
       try clear hx143_1
       try clear hx143_2
       try clear p143
       try clear q143
       obtain ⟨kq, x36_4, rfl, HA, HJ4, HO_4, BK144, HB⟩ := hcut
       cases kq with
       | zero => exact absurd HA.out (by simp [hello_Push.j1])
       | succ kj4 =>
        have H := HA.out
        clear HA
        simp only [hello_Push.j1] at H
        by_cases c26 : x36_4 = true
        ·subst c26
         have H1 : (some (([] : List (S49)), false)) = some (r1, r2) := by rw [if_pos rfl] at H; exact H
         clear H
         have H := H1
         clear H1
         simp only [Option.some.injEq, Prod.mk.injEq] at H
         obtain ⟨rfl, rfl⟩ := H
         go_wp2
         go_ret2
         exact ⟨_, by first | rfl | (simp [errW_none, errW_some] <;> rfl) | (simp [*, errW_none, errW_some] <;> rfl), by first | exact Kd.R_nil _ _ _ _ _ | exact Kd.N_nil _ _ _ _ _ | exact Kd.V_nil _ _ _ _ _ | exact Kd.Q_nil _ _ _ _ _ | exact Kd.S_nil _ _ _ _ _, by repeat (first | (with_reducible first | exact HB.out | apply bal | apply pbN | apply bd1 | refine below_set ?_ GE144.out) | exact HB.out)⟩
        ·replace c26 := Bool.eq_false_iff.mpr c26
         subst c26
         have H1 : ((hello_dash.f ((rd_T65 l0 x9_1).f1)).bind fun t148 => (if t148.size + 1 <= 9223372036854775807 then ((hello_dash.f ((rd_T65 l0 x9_1).f2)).bind fun t149 => (if (t148 ++ (⟨#[32]⟩ : ByteArray)).size + t149.size <= 9223372036854775807 then (if ((t148 ++ (⟨#[32]⟩ : ByteArray)) ++ t149).size + 1 <= 9223372036854775807 then (if (((t148 ++ (⟨#[32]⟩ : ByteArray)) ++ t149) ++ (⟨#[32]⟩ : ByteArray)).size + ((rd_T65 l0 x9_1).f0).size <= 9223372036854775807 then (if x4_1.length < 8796093022208 then (hello_Push.l0 kj4 l0 (x4_1 ++ [(((t148 ++ (⟨#[32]⟩ : ByteArray)) ++ t149) ++ (⟨#[32]⟩ : ByteArray)) ++ ((rd_T65 l0 x9_1).f0)]) l0 (l0.length : Int) (wrap64 (x9_1 + 1))) else (none)) else (none)) else (none)) else (none))) else (none))) = some (r1, r2) := by rw [if_neg (show ¬ (false = true) by decide)] at H; exact H
         clear H
         have H := H1
         clear H1
         replace H := Option.bind_eq_some_iff.mp H
         obtain ⟨t148, A270, H⟩ := H
         replace H : (if t148.size + 1 <= 9223372036854775807 then ((hello_dash.f ((rd_T65 l0 x9_1).f2)).bind fun t149 => (if (t148 ++ (⟨#[32]⟩ : ByteArray)).size + t149.size <= 9223372036854775807 then (if ((t148 ++ (⟨#[32]⟩ : ByteArray)) ++ t149).size + 1 <= 9223372036854775807 then (if (((t148 ++ (⟨#[32]⟩ : ByteArray)) ++ t149) ++ (⟨#[32]⟩ : ByteArray)).size + ((rd_T65 l0 x9_1).f0).size <= 9223372036854775807 then (if x4_1.length < 8796093022208 then (hello_Push.l0 kj4 l0 (x4_1 ++ [(((t148 ++ (⟨#[32]⟩ : ByteArray)) ++ t149) ++ (⟨#[32]⟩ : ByteArray)) ++ ((rd_T65 l0 x9_1).f0)]) l0 (l0.length : Int) (wrap64 (x9_1 + 1))) else (none)) else (none)) else (none)) else (none))) else (none)) = some (r1, r2) := H
         have A27 := Asd.mk A270
         clear A270
         by_cases c28 : t148.size + 1 <= 9223372036854775807
         ·rw [if_pos c28] at H
          have c28b0 := eq_true c28
          have c28b1 : decide (t148.size + 1 <= 9223372036854775807) = true := decide_eq_true c28
          try have c28b2 : (9223372036854775807 < t148.size + 1) = False := eq_false (Nat.not_lt.2 c28)
          replace H := Option.bind_eq_some_iff.mp H
          obtain ⟨t149, A290, H⟩ := H
          replace H : (if (t148 ++ (⟨#[32]⟩ : ByteArray)).size + t149.size <= 9223372036854775807 then (if ((t148 ++ (⟨#[32]⟩ : ByteArray)) ++ t149).size + 1 <= 9223372036854775807 then (if (((t148 ++ (⟨#[32]⟩ : ByteArray)) ++ t149) ++ (⟨#[32]⟩ : ByteArray)).size + ((rd_T65 l0 x9_1).f0).size <= 9223372036854775807 then (if x4_1.length < 8796093022208 then (hello_Push.l0 kj4 l0 (x4_1 ++ [(((t148 ++ (⟨#[32]⟩ : ByteArray)) ++ t149) ++ (⟨#[32]⟩ : ByteArray)) ++ ((rd_T65 l0 x9_1).f0)]) l0 (l0.length : Int) (wrap64 (x9_1 + 1))) else (none)) else (none)) else (none)) else (none)) = some (r1, r2) := H
          have A29 := Asd.mk A290
          clear A290
          by_cases c30 : (t148 ++ (⟨#[32]⟩ : ByteArray)).size + t149.size <= 9223372036854775807
          ·rw [if_pos c30] at H
           have c30b0 := eq_true c30
           have c30b1 : decide ((t148 ++ (⟨#[32]⟩ : ByteArray)).size + t149.size <= 9223372036854775807) = true := decide_eq_true c30
           try have c30b2 : (9223372036854775807 < (t148 ++ (⟨#[32]⟩ : ByteArray)).size + t149.size) = False := eq_false (Nat.not_lt.2 c30)
           try have c30b3 : (9223372036854775807 < t148.size + 1 + t149.size) = False := eq_false (Nat.not_lt.2 (by have e_ := c30; simp only [ByteArray.size_append] at e_; exact e_))
           by_cases c31 : ((t148 ++ (⟨#[32]⟩ : ByteArray)) ++ t149).size + 1 <= 9223372036854775807
           ·rw [if_pos c31] at H
            have c31b0 := eq_true c31
            have c31b1 : decide (((t148 ++ (⟨#[32]⟩ : ByteArray)) ++ t149).size + 1 <= 9223372036854775807) = true := decide_eq_true c31
            try have c31b2 : (9223372036854775807 < ((t148 ++ (⟨#[32]⟩ : ByteArray)) ++ t149).size + 1) = False := eq_false (Nat.not_lt.2 c31)
            try have c31b3 : (9223372036854775807 < t148.size + 1 + t149.size + 1) = False := eq_false (Nat.not_lt.2 (by have e_ := c31; simp only [ByteArray.size_append] at e_; exact e_))
            by_cases c32 : (((t148 ++ (⟨#[32]⟩ : ByteArray)) ++ t149) ++ (⟨#[32]⟩ : ByteArray)).size + ((rd_T65 l0 x9_1).f0).size <= 9223372036854775807
            ·rw [if_pos c32] at H
             have c32b0 := eq_true c32
             have c32b1 : decide ((((t148 ++ (⟨#[32]⟩ : ByteArray)) ++ t149) ++ (⟨#[32]⟩ : ByteArray)).size + ((rd_T65 l0 x9_1).f0).size <= 9223372036854775807) = true := decide_eq_true c32
             try have c32b2 : (9223372036854775807 < (((t148 ++ (⟨#[32]⟩ : ByteArray)) ++ t149) ++ (⟨#[32]⟩ : ByteArray)).size + ((rd_T65 l0 x9_1).f0).size) = False := eq_false (Nat.not_lt.2 c32)
             try have c32b3 : (9223372036854775807 < t148.size + 1 + t149.size + 1 + ((rd_T65 l0 x9_1).f0).size) = False := eq_false (Nat.not_lt.2 (by have e_ := c32; simp only [ByteArray.size_append] at e_; exact e_))
             by_cases c33 : x4_1.length < 8796093022208
             ·rw [if_pos c33] at H
              have LMc33 := Asd.mk c33
              clear c33
              obtain ⟨y150, hy150⟩ : ∃ y_ : List ByteArray, y_ = (x4_1 ++ [(((t148 ++ (⟨#[32]⟩ : ByteArray)) ++ t149) ++ (⟨#[32]⟩ : ByteArray)) ++ ((rd_T65 l0 x9_1).f0)]) := ⟨_, rfl⟩
              replace H : (hello_Push.l0 kj4 l0 y150 l0 (l0.length : Int) (wrap64 (x9_1 + 1))) = some (r1, r2) := by first | (rw [hy150]; with_reducible exact H) | (have H2_ := (Option.bind_some _ _).symm.trans H; rw [hy150]; with_reducible exact H2_) | (have H2_ := (Option.bind_some _ _).symm.trans H; with_reducible exact H2_) | with_reducible exact H | (rw [hy150]; exact H) | exact H
              have Ny150 := Asd.mk hy150
              clear hy150
              have H' := Asd.mk H
              clear H
              try go_wp2
              have n0_ := Asd.mk (Kd.R_drew HO_4.out)
              have n1_ := Asd.mk (blk_drew BK144.out)
              have n2_ := Asd.mk (bd1 HB.out)
              clear HO_4
              clear BK144
              clear HB
              have HO_4 := n0_
              have BK144 := n1_
              have HB := n2_
              clear n0_ n1_ n2_
              refine start_ (n := 16) (S := fun w' => w'.cell? ⟨gb144, 0, none⟩ = some (.string ((rd_T65 l0 x9_1).f0)) /\ w'.cell? ⟨gb144, 1, none⟩ = some (.string ((rd_T65 l0 x9_1).f1)) /\ w'.cell? ⟨gb144, 2, none⟩ = some (.string ((rd_T65 l0 x9_1).f2))) (ds := []) (bA 16 0) (by kernel_rfl) rfl rfl ⟨(blk_cell BK144.out 0).trans rfl, (blk_cell BK144.out 1).trans rfl, (blk_cell BK144.out 2).trans rfl⟩ (fun hHeld => ?_); refine with_tabW hello_Push.tab7 hello_Push.bits7 (fun HT_ HW_ => ?_)
              generalize wc.drew = w34 at HO_4 BK144 HB hHeld ⊢
              refine pure_ (i := 0) (N := some 37) (v := ?_) (a' := ?_) (bA 16 1) rfl rfl (any_of HT_.out (by kernel_rfl)) (fun _ _ _ h => h) (Or.inl ⟨by rfl, ?_⟩) ?_ ?_
              rotate_left
              ·intro w'
               go_simp
               with_reducible rfl
              rotate_left
              ·simp only [Act.put, zA, zB, zC, i64_w, i32_w]
               rfl
              refine pure_ (i := 1) (N := some 38) (v := ?_) (a' := ?_) (bA 16 3) rfl rfl (any_of HT_.out (by kernel_rfl)) (fun _ _ _ h => h) (Or.inl ⟨by rfl, ?_⟩) ?_ ?_
              rotate_left
              ·intro w'
               go_simp
               with_reducible rfl
              rotate_left
              ·simp only [Act.put, zA, zB, zC, i64_w, i32_w]
               rfl
              refine pure_ (i := 5) (N := some 42) (v := ?_) (a' := ?_) (bA 16 35) rfl rfl (any_of HT_.out (by kernel_rfl)) (fun _ _ _ h => h) (Or.inl ⟨by rfl, ?_⟩) ?_ ?_
              rotate_left
              ·intro w'
               go_simp
               with_reducible rfl
              rotate_left
              ·simp only [Act.put, zA, zB, zC, i64_w, i32_w]
               rfl
              refine pure_ (i := 10) (N := some 47) (v := ?_) (a' := ?_) (bA 16 1059) rfl rfl (any_of HT_.out (by kernel_rfl)) (fun _ _ _ h => h) (Or.inl ⟨by rfl, ?_⟩) ?_ ?_
              rotate_left
              ·intro w'
               go_simp
               with_reducible rfl
              rotate_left
              ·simp only [Act.put, zA, zB, zC, i64_w, i32_w]
               rfl
              refine take_ (i := 2) (N := some 39) (v := ?_) (a' := ?_) (bA 16 1063) rfl rfl (take_ofW HT_.out HW_.out (by kernel_rfl)) (fun _ _ _ h => h) (Or.inl ⟨by rfl, ?_⟩) hHeld ?_ ?_
              rotate_left
              ·rintro w' ⟨s0, s1, s2⟩
               go_simp
               with_reducible rfl
              rotate_left
              ·simp only [Act.put, zA, zB, zC, i64_w, i32_w]
               rfl
              refine take_ (i := 6) (N := some 43) (v := ?_) (a' := ?_) (bA 16 1127) rfl rfl (take_ofW HT_.out HW_.out (by kernel_rfl)) (fun _ _ _ h => h) (Or.inl ⟨by rfl, ?_⟩) hHeld ?_ ?_
              rotate_left
              ·rintro w' ⟨s0, s1, s2⟩
               go_simp
               with_reducible rfl
              rotate_left
              ·simp only [Act.put, zA, zB, zC, i64_w, i32_w]
               rfl
              refine take_ (i := 11) (N := some 48) (v := ?_) (a' := ?_) (bA 16 3175) rfl rfl (take_ofW HT_.out HW_.out (by kernel_rfl)) (fun _ _ _ h => h) (Or.inl ⟨by rfl, ?_⟩) hHeld ?_ ?_
              rotate_left
              ·rintro w' ⟨s0, s1, s2⟩
               go_simp
               with_reducible rfl
              rotate_left
              ·simp only [Act.put, zA, zB, zC, i64_w, i32_w]
               rfl
              refine one_ (i := 3) (N := some 40) (bA 16 3183) rfl rfl (one_of HT_.out (by kernel_rfl)) (by decide) (fun K hK => ?_)
              refine goes_ Tryd.func43 (by kernel_rfl) rfl #[.string ((rd_T65 l0 x9_1).f1)] (by rfl) rfl rfl (by (try simp only [List.map_toArray, List.map_cons, List.map_nil]); first | done | rfl | (simp only [List.length_drop, List.length_take]; rfl)) ?_
              with_reducible refine (hello_dash.calls ((rd_T65 l0 x9_1).f1) t148 _ A27.out).mono ?_
              rintro e w' ⟨rfl, ⟨nd, rfl⟩⟩
              refine ⟨_, rfl, ?_⟩
              refine hK.out _ _ ⟨(blk_cell BK144.out 0).trans rfl, (blk_cell BK144.out 1).trans rfl, (blk_cell BK144.out 2).trans rfl⟩ (fun hHeld => ?_)
              clear hK K
              refine norm_ (a' := ?_) ?_ ?_
              rotate_left
              ·show Act.put _ (some 40) _ = _
               simp only [Act.put, zA, zB, zC, i64_w, i32_w]
               rfl
              refine pure_ (i := 4) (N := some 41) (v := ?_) (a' := ?_) (bA 16 3199) rfl rfl (any_of HT_.out (by kernel_rfl)) (fun _ _ _ h => h) (Or.inl ⟨by rfl, ?_⟩) ?_ ?_
              rotate_left
              ·intro w'
               go_simp
               with_reducible rfl
              rotate_left
              ·simp only [Act.put, zA, zB, zC, i64_w, i32_w]
               rfl
              refine one_ (i := 7) (N := some 44) (bA 16 3327) rfl rfl (one_of HT_.out (by kernel_rfl)) (by decide) (fun K hK => ?_)
              refine goes_ Tryd.func43 (by kernel_rfl) rfl #[.string ((rd_T65 l0 x9_1).f2)] (by rfl) rfl rfl (by (try simp only [List.map_toArray, List.map_cons, List.map_nil]); first | done | rfl | (simp only [List.length_drop, List.length_take]; rfl)) ?_
              with_reducible refine (hello_dash.calls ((rd_T65 l0 x9_1).f2) t149 _ A29.out).mono ?_
              rintro e w' ⟨rfl, ⟨nd, rfl⟩⟩
              refine ⟨_, rfl, ?_⟩
              refine hK.out _ _ ⟨(blk_cell BK144.out 0).trans rfl, (blk_cell BK144.out 1).trans rfl, (blk_cell BK144.out 2).trans rfl⟩ (fun hHeld => ?_)
              clear hK K
              refine norm_ (a' := ?_) ?_ ?_
              rotate_left
              ·show Act.put _ (some 44) _ = _
               simp only [Act.put, zA, zB, zC, i64_w, i32_w]
               rfl
              refine pure_ (i := 8) (N := some 45) (v := ?_) (a' := ?_) (bA 16 3583) rfl rfl (any_of HT_.out (by kernel_rfl)) (fun _ _ _ h => h) (Or.inl ⟨by rfl, ?_⟩) ?_ ?_
              rotate_left
              ·intro w'
               go_simp
               with_reducible rfl
              rotate_left
              ·simp only [Act.put, zA, zB, zC, i64_w, i32_w]
               rfl
              refine pure_ (i := 9) (N := some 46) (v := ?_) (a' := ?_) (bA 16 4095) rfl rfl (any_of HT_.out (by kernel_rfl)) (fun _ _ _ h => h) (Or.inl ⟨by rfl, ?_⟩) ?_ ?_
              rotate_left
              ·intro w'
               go_simp
               with_reducible rfl
              rotate_left
              ·simp only [Act.put, zA, zB, zC, i64_w, i32_w]
               rfl
              refine pure_ (i := 12) (N := some 49) (v := ?_) (a' := ?_) (bA 16 8191) rfl rfl (any_of HT_.out (by kernel_rfl)) (fun _ _ _ h => h) (Or.inl ⟨by rfl, ?_⟩) ?_ ?_
              rotate_left
              ·intro w'
               go_simp
               with_reducible rfl
              rotate_left
              ·simp only [Act.put, zA, zB, zC, i64_w, i32_w]
               rfl
              refine one_ (i := 13) (N := some 50) (bA 16 16383) rfl rfl (one_of HT_.out (by kernel_rfl)) (by decide) (fun K hK => ?_)
              refine value_ (w1 := ?_) (v := ?_) (by rfl) rfl ?_ ?_
              rotate_left 2
              ·go_simp
               constructor
               ·rfl
               ·rfl
              refine hK.out _ _ ⟨(blk_cell (blk_alloc BK144.out _) 0).trans rfl, (blk_cell (blk_alloc BK144.out _) 1).trans rfl, (blk_cell (blk_alloc BK144.out _) 2).trans rfl⟩ (fun hHeld => ?_)
              clear hK K
              refine norm_ (a' := ?_) ?_ ?_
              rotate_left
              ·show Act.put _ (some 50) _ = _
               simp only [Act.put, zA, zB, zC, i64_w, i32_w]
               rfl
              refine one_ (i := 14) (N := some 51) (bA 16 32767) rfl rfl (one_of HT_.out (by kernel_rfl)) (by decide) (fun K hK => ?_)
              refine Kd.R_append_step Kd.string (w0 := w) w.heap.size (by rfl) (.tmp 37) (.tmp 50) 23 9 (.string ⟨#[]⟩) 16 rfl Tryd.underlying23 info9 rfl (by decide) (by omega) u4 x4_1 ((((t148 ++ (⟨#[32]⟩ : ByteArray)) ++ t149) ++ (⟨#[32]⟩ : ByteArray)) ++ ((rd_T65 l0 x9_1).f0)) [.string ((((t148 ++ (⟨#[32]⟩ : ByteArray)) ++ t149) ++ (⟨#[32]⟩ : ByteArray)) ++ ((rd_T65 l0 x9_1).f0))] (fun _ => True) (fun _ => False) rfl rfl ?aP (fun _ hk => hk.elim) ?aF ?aO ?aB ?aS ?aL ?_
              (case aP => exact rfl)
              (case aB => exact (by repeat (first | (with_reducible first | exact HB.out | apply bal | apply pbN | apply bd1 | refine below_set ?_ GE144.out) | exact HB.out)))
              (case aF => exact (fun _ _ => trivial))
              (case aO => exact (by (with_reducible repeat (first | apply Kd.R_alloc | apply Kd.R_drewN | apply Kd.R_drew)); exact HO_4.out))
              (case aS => exact (below_size (by repeat (first | (with_reducible first | exact HB.out | apply bal | apply pbN | apply bd1 | refine below_set ?_ GE144.out) | exact HB.out))))
              (case aL => have := LMc33.out; omega)
              intro v151 w35 ho hb hg hat
              rw [<- Ny150.out] at ho
              have n0_ := Asd.mk (blk_grown (g := gb144) (o := .cells #[.string ((rd_T65 l0 x9_1).f0), .string ((rd_T65 l0 x9_1).f1), .string ((rd_T65 l0 x9_1).f2)] 65 (0, 0)) (by (with_reducible repeat (first | refine blk_drewN ?_ _ | refine blk_drew ?_ | refine blk_alloc ?_ _)); exact BK144.out) hg (Kd.R_ne HO_4.out BK144.out (by decide)))
              have n1_ := Asd.mk (hb)
              have n2_ := Asd.mk (ho)
              clear BK144
              clear HB
              clear HO_4
              have BK144 := n0_
              have HB := n1_
              have HO152 := n2_
              clear n0_ n1_ n2_
              clear ho hb hg hat
              refine hK.out _ _ ⟨(blk_cell BK144.out 0).trans rfl, (blk_cell BK144.out 1).trans rfl, (blk_cell BK144.out 2).trans rfl⟩ (fun hHeld => ?_)
              clear hK K
              refine norm_ (a' := ?_) ?_ ?_
              rotate_left
              ·show Act.put _ (some 51) _ = _
               simp only [Act.put, zA, zB, zC, i64_w, i32_w]
               rfl
              refine pure_ (i := 15) (N := some 4) (v := ?_) (a' := ?_) (bA 16 65535) rfl rfl (any_of HT_.out (by kernel_rfl)) (fun _ _ _ h => h) (Or.inl ⟨by rfl, ?_⟩) ?_ ?_
              rotate_left
              ·intro w'
               go_simp
               with_reducible rfl
              rotate_left
              ·simp only [Act.put, zA, zB, zC, i64_w, i32_w]
               rfl
              refine done_ (done_of HT_.out (by kernel_rfl)) ?_
              try go_wp2
              go_roundg kj4
              case measure => have := HK1.out; have := HJ4.out; omega
              case rel => exact ⟨(y150), (wrap64 (x9_1 + 1)), (by first | rfl | (simp; done) | (simp [*]; done)), H', ⟨by have := HK1.out; have := HJ4.out; omega⟩, ⟨by (with_reducible repeat (first | apply Kd.R_alloc | apply Kd.R_drewN | apply Kd.R_drew)); exact HO152.out⟩, ⟨by repeat (first | (with_reducible first | exact HB.out | apply bal | apply pbN | apply bd1 | refine below_set ?_ GE144.out) | exact HB.out)⟩⟩
             ·rw [if_neg c33] at H
              exact absurd H (by simp)
            ·rw [if_neg c32] at H
             exact absurd H (by simp)
           ·rw [if_neg c31] at H
            exact absurd H (by simp)
          ·rw [if_neg c30] at H
           exact absurd H (by simp)
         ·rw [if_neg c28] at H
          exact absurd H (by simp)
     ·rw [if_neg c4] at H
      exact absurd H (by simp)
    ·rw [if_neg c3] at H
     exact absurd H (by simp)
   ·rw [if_neg c2] at H
    have c2b0 : decide (x9_1 < (l0.length : Int)) = false := decide_eq_false c2
    clear c2
    by_cases c36 : (l0.length : Int) = 0
    ·rw [if_pos c36] at H
     have c36b0 : ((l0.length : Int) == 0) = true := beq_iff_eq.mpr c36
     have c36b1 : ((l0.length : Int) != 0) = false := bne_eq_false_iff_eq.mpr c36
     clear c36
     simp only [Option.some.injEq, Prod.mk.injEq] at H
     obtain ⟨rfl, rfl⟩ := H
     go_wp2
     go_ret2
     exact ⟨_, by first | rfl | (simp [errW_none, errW_some] <;> rfl) | (simp [*, errW_none, errW_some] <;> rfl), by first | exact Kd.R_nil _ _ _ _ _ | exact Kd.N_nil _ _ _ _ _ | exact Kd.V_nil _ _ _ _ _ | exact Kd.Q_nil _ _ _ _ _ | exact Kd.S_nil _ _ _ _ _, by repeat (first | (with_reducible first | exact HB.out | apply bal | apply pbN | apply bd1) | exact HB.out)⟩
    ·rw [if_neg c36] at H
     have c36b0 : ((l0.length : Int) == 0) = false := beq_eq_false_iff_ne.mpr c36
     have c36b1 : ((l0.length : Int) != 0) = true := bne_iff_ne.mpr c36
     have c36b2 : ¬ (l0 = []) := fun h_ => c36 (by rw [h_]; rfl)
     by_cases c37 : (l0.length : Int) > 16
     ·rw [if_pos c37] at H
      have c37b0 : decide (16 < (l0.length : Int)) = true := decide_eq_true c37
      have c37b1 : decide (16 < l0.length) = true := decide_eq_true (by omega)
      clear c37
      simp only [Option.some.injEq, Prod.mk.injEq] at H
      obtain ⟨rfl, rfl⟩ := H
      go_wp2
      go_ret2
      exact ⟨_, by first | rfl | (simp [errW_none, errW_some] <;> rfl) | (simp [*, errW_none, errW_some] <;> rfl), by first | exact Kd.R_nil _ _ _ _ _ | exact Kd.N_nil _ _ _ _ _ | exact Kd.V_nil _ _ _ _ _ | exact Kd.Q_nil _ _ _ _ _ | exact Kd.S_nil _ _ _ _ _, by repeat (first | (with_reducible first | exact HB.out | apply bal | apply pbN | apply bd1) | exact HB.out)⟩
     ·rw [if_neg c37] at H
      have c37b0 : decide (16 < (l0.length : Int)) = false := decide_eq_false c37
      have c37b1 : decide (16 < l0.length) = false := decide_eq_false (by omega)
      clear c37
      replace H := Option.bind_eq_some_iff.mp H
      obtain ⟨t140, A380, H⟩ := H
      replace H : (some (t140, true)) = some (r1, r2) := H
      have A38 := Asd.mk A380
      clear A380
      simp only [Option.some.injEq, Prod.mk.injEq] at H
      obtain ⟨rfl, rfl⟩ := H
      obtain ⟨Ao39, co39, eo39⟩ := Kd.R_slice HO_4.out
      subst eo39
      go_wp2_with (first | ((with_reducible refine gate_callee (f := 35) rfl ?_); refine goesL_ (some 62) rfl rfl Tryd.func35 (by kernel_rfl) rfl #[.slice Ao39 x4_1.length co39] rfl (by (try simp only [List.map_toArray, List.map_cons, List.map_nil]); first | done | rfl | (simp only [List.length_drop, List.length_take]; rfl)) ?_; (with_reducible refine (hello_ended.calls k1 _ _ x4_1 t140 _ ?side1 ?side2 A38.out).mono ?_); (case side1 => repeat (first | exact (Kd.R_reads' HO_4.out).2.2 | (with_reducible refine Kd.C_alloc ?_ _) | (with_reducible refine Kd.C_drewN ?_ _) | (with_reducible refine Kd.C_drew ?_))); (case side2 => exact (Kd.R_reads' HO_4.out).2.1); rintro e w40 ⟨v141, rfl, ho0, hb⟩; refine ⟨_, rfl, ?_⟩; have n0_ := Asd.mk (Kd.R_below (by (with_reducible repeat (first | apply Kd.R_alloc | apply Kd.R_drewN | apply Kd.R_drew)); exact HO_4.out) hb); have n1_ := Asd.mk (Kd.R_lower ho0 (below_size (by repeat (first | (with_reducible first | exact HB.out | apply bal | apply pbN | apply bd1) | exact HB.out)))); have n2_ := Asd.mk (below_step (by repeat (first | (with_reducible first | exact HB.out | apply bal | apply pbN | apply bd1) | exact HB.out)) hb); clear HO_4; clear HB; have HO_4 := n0_; have HO142 := n1_; have HB := n2_; clear n0_ n1_ n2_; (try clear hb); (try clear hb2); (try clear hk); (try clear hi); (try clear ho0)))
      go_ret2
      exact ⟨_, by first | rfl | (simp [errW_none, errW_some] <;> rfl) | (simp [*, errW_none, errW_some] <;> rfl), by (with_reducible repeat (first | apply Kd.R_alloc | apply Kd.R_drewN | apply Kd.R_drew)); exact HO142.out, by repeat (first | (with_reducible first | exact HB.out | apply bal | apply pbN | apply bd1) | exact HB.out)⟩
def sl_HasSuffix.f (a0 : ByteArray) (a1 : ByteArray) : Option (Bool) := if (a0.size : Int) >= (a1.size : Int) then (if 0 <= (wrap64 ((a0.size : Int) - (a1.size : Int))) then (if (wrap64 ((a0.size : Int) - (a1.size : Int))) <= (a0.size : Int) then (some ((a0.extract ((wrap64 ((a0.size : Int) - (a1.size : Int))) : Int).toNat a0.size).toList == a1.toList)) else (none)) else (none)) else (some false)
set_option maxHeartbeats 8000000 in
set_option maxRecDepth 100000 in
theorem sl_HasSuffix.calls (a0 : ByteArray) (a1 : ByteArray) (r : Bool) (w : World) (h : sl_HasSuffix.f a0 a1 = some r) :
  Calls Tryd.prog 87 #[.string a0, .string a1] w fun e w' => e = .returned (.bool r) /\ Drawn0 w w' := by
 have H : (if (a0.size : Int) >= (a1.size : Int) then (if 0 <= (wrap64 ((a0.size : Int) - (a1.size : Int))) then (if (wrap64 ((a0.size : Int) - (a1.size : Int))) <= (a0.size : Int) then (some ((a0.extract ((wrap64 ((a0.size : Int) - (a1.size : Int))) : Int).toNat a0.size).toList == a1.toList)) else (none)) else (none)) else (some false)) = some r := h
 clear h
 by_cases c3 : (a0.size : Int) >= (a1.size : Int)
 ·rw [if_pos c3] at H
  have c3b0 : decide ((a1.size : Int) <= (a0.size : Int)) = true := decide_eq_true c3
  have c3b1 : decide (a1.size <= a0.size) = true := decide_eq_true (Int.ofNat_le.mp c3)
  clear c3
  obtain ⟨ji4, hji4⟩ : ∃ j_ : Int, (wrap64 ((a0.size : Int) - (a1.size : Int))) = j_ := ⟨_, rfl⟩
  replace H : (if 0 <= (ji4) then (if (ji4) <= (a0.size : Int) then (some ((a0.extract ((ji4) : Int).toNat a0.size).toList == a1.toList)) else (none)) else (none)) = some r := by first | (rw [hji4] at H; exact H) | (simp only [hji4] at H ⊢; exact H)
  have hji4w : (IntKind.i64.wrap ((a0.size : Int) - (a1.size : Int))) = ji4 := (i64_w _).trans hji4
  by_cases c5 : 0 <= (ji4)
  ·rw [if_pos c5] at H
   have c5b0 := eq_true c5
   have c5b1 : decide (0 <= (ji4)) = true := decide_eq_true c5
   clear c5
   by_cases c6 : (ji4) <= (a0.size : Int)
   ·rw [if_pos c6] at H
    have c6b0 := eq_true c6
    have c6b1 : decide ((ji4) <= (a0.size : Int)) = true := decide_eq_true c6
    clear c6
    obtain rfl := Option.some.inj H
    go_enter Tryd.func87, Tryd.ntmps87
    go_wp2
    go_ret
    exact ⟨by first | rfl | (simp; done) | (simp only [<- hji4] <;> (first | rfl | simp)) | (simp [*]; done), by repeat (first | exact Drawn0.refl _ | apply Drawn0.step)⟩
   ·rw [if_neg c6] at H
    exact absurd H (by simp)
  ·rw [if_neg c5] at H
   exact absurd H (by simp)
 ·rw [if_neg c3] at H
  have c3b0 : decide ((a1.size : Int) <= (a0.size : Int)) = false := decide_eq_false c3
  have c3b1 : decide (a1.size <= a0.size) = false := decide_eq_false (fun h => c3 (Int.ofNat_le.mpr h))
  clear c3
  obtain rfl := Option.some.inj H
  go_enter Tryd.func87, Tryd.ntmps87
  go_wp2
  go_ret
  exact ⟨by first | rfl | (simp; done) | (simp [*]; done), by repeat (first | exact Drawn0.refl _ | apply Drawn0.step)⟩
def sl_CutSuffix.f (a0 : ByteArray) (a1 : ByteArray) : Option (ByteArray × Bool) := (sl_HasSuffix.f a0 a1).bind fun t153 => (if t153 = true then (if 0 <= (wrap64 ((a0.size : Int) - (a1.size : Int))) then (if (wrap64 ((a0.size : Int) - (a1.size : Int))) <= (a0.size : Int) then (some (a0.extract 0 ((wrap64 ((a0.size : Int) - (a1.size : Int))) : Int).toNat, true)) else (none)) else (none)) else (some (a0, false)))
set_option maxHeartbeats 8000000 in
set_option maxRecDepth 100000 in
theorem sl_CutSuffix.calls (a0 : ByteArray) (a1 : ByteArray) (r1 : ByteArray) (r2 : Bool) (w : World) (h : sl_CutSuffix.f a0 a1 = some (r1, r2)) :
  Calls Tryd.prog 77 #[.string a0, .string a1] w fun e w' => e = .returned (.tuple #[.string r1, .bool r2]) /\ Drawn0 w w' := by
 have H : ((sl_HasSuffix.f a0 a1).bind fun t153 => (if t153 = true then (if 0 <= (wrap64 ((a0.size : Int) - (a1.size : Int))) then (if (wrap64 ((a0.size : Int) - (a1.size : Int))) <= (a0.size : Int) then (some (a0.extract 0 ((wrap64 ((a0.size : Int) - (a1.size : Int))) : Int).toNat, true)) else (none)) else (none)) else (some (a0, false)))) = some (r1, r2) := h
 clear h
 replace H := Option.bind_eq_some_iff.mp H
 obtain ⟨t153, A30, H⟩ := H
 replace H : (if t153 = true then (if 0 <= (wrap64 ((a0.size : Int) - (a1.size : Int))) then (if (wrap64 ((a0.size : Int) - (a1.size : Int))) <= (a0.size : Int) then (some (a0.extract 0 ((wrap64 ((a0.size : Int) - (a1.size : Int))) : Int).toNat, true)) else (none)) else (none)) else (some (a0, false))) = some (r1, r2) := H
 have A3 := Asd.mk A30
 clear A30
 by_cases c4 : t153 = true
 ·subst c4
  have H1 : (if 0 <= (wrap64 ((a0.size : Int) - (a1.size : Int))) then (if (wrap64 ((a0.size : Int) - (a1.size : Int))) <= (a0.size : Int) then (some (a0.extract 0 ((wrap64 ((a0.size : Int) - (a1.size : Int))) : Int).toNat, true)) else (none)) else (none)) = some (r1, r2) := by rw [if_pos rfl] at H; exact H
  clear H
  have H := H1
  clear H1
  obtain ⟨ji5, hji5⟩ : ∃ j_ : Int, (wrap64 ((a0.size : Int) - (a1.size : Int))) = j_ := ⟨_, rfl⟩
  replace H : (if 0 <= (ji5) then (if (ji5) <= (a0.size : Int) then (some (a0.extract 0 ((ji5) : Int).toNat, true)) else (none)) else (none)) = some (r1, r2) := by first | (rw [hji5] at H; exact H) | (simp only [hji5] at H ⊢; exact H)
  (try rw [hji5] at A3)
  have hji5w : (IntKind.i64.wrap ((a0.size : Int) - (a1.size : Int))) = ji5 := (i64_w _).trans hji5
  by_cases c6 : 0 <= (ji5)
  ·rw [if_pos c6] at H
   have c6b0 := eq_true c6
   have c6b1 : decide (0 <= (ji5)) = true := decide_eq_true c6
   clear c6
   by_cases c7 : (ji5) <= (a0.size : Int)
   ·rw [if_pos c7] at H
    have c7b0 := eq_true c7
    have c7b1 : decide ((ji5) <= (a0.size : Int)) = true := decide_eq_true c7
    clear c7
    simp only [Option.some.injEq, Prod.mk.injEq] at H
    obtain ⟨rfl, rfl⟩ := H
    go_enter Tryd.func77, Tryd.ntmps77
    go_wp2_with (first | ((with_reducible refine gate_callee (f := 87) rfl ?_); refine goesL_ (some 8) rfl rfl Tryd.func87 (by kernel_rfl) rfl #[.string a0, .string a1] rfl (by (try simp only [List.map_toArray, List.map_cons, List.map_nil]); first | done | rfl | (simp only [List.length_drop, List.length_take]; rfl)) ?_; (with_reducible refine (sl_HasSuffix.calls a0 a1 true _ A3.out).mono ?_); rintro e w' ⟨rfl, ⟨nd, rfl⟩⟩; refine ⟨_, rfl, ?_⟩))
    go_ret2
    exact ⟨by first | rfl | (simp; done) | (simp only [<- hji5] <;> (first | rfl | simp)) | (simp [*]; done), by repeat (first | exact Drawn0.refl _ | apply Drawn0.step)⟩
   ·rw [if_neg c7] at H
    exact absurd H (by simp)
  ·rw [if_neg c6] at H
   exact absurd H (by simp)
 ·replace c4 := Bool.eq_false_iff.mpr c4
  subst c4
  have H1 : (some (a0, false)) = some (r1, r2) := by rw [if_neg (show ¬ (false = true) by decide)] at H; exact H
  clear H
  have H := H1
  clear H1
  simp only [Option.some.injEq, Prod.mk.injEq] at H
  obtain ⟨rfl, rfl⟩ := H
  go_enter Tryd.func77, Tryd.ntmps77
  go_wp2_with (first | ((with_reducible refine gate_callee (f := 87) rfl ?_); refine goesL_ (some 8) rfl rfl Tryd.func87 (by kernel_rfl) rfl #[.string a0, .string a1] rfl (by (try simp only [List.map_toArray, List.map_cons, List.map_nil]); first | done | rfl | (simp only [List.length_drop, List.length_take]; rfl)) ?_; (with_reducible refine (sl_HasSuffix.calls a0 a1 false _ A3.out).mono ?_); rintro e w' ⟨rfl, ⟨nd, rfl⟩⟩; refine ⟨_, rfl, ?_⟩))
  go_ret2
  exact ⟨by first | rfl | (simp; done) | (simp [*]; done), by repeat (first | exact Drawn0.refl _ | apply Drawn0.step)⟩
def strings_CutSuffix.f (a0 : ByteArray) (a1 : ByteArray) : Option (ByteArray × Bool) := (sl_CutSuffix.f a0 a1).bind fun bt154 => (some (bt154.1, bt154.2))
set_option maxHeartbeats 8000000 in
set_option maxRecDepth 100000 in
theorem strings_CutSuffix.calls (a0 : ByteArray) (a1 : ByteArray) (r1 : ByteArray) (r2 : Bool) (w : World) (h : strings_CutSuffix.f a0 a1 = some (r1, r2)) :
  Calls Tryd.prog 68 #[.string a0, .string a1] w fun e w' => e = .returned (.tuple #[.string r1, .bool r2]) /\ Drawn0 w w' := by
 have H : ((sl_CutSuffix.f a0 a1).bind fun bt154 => (some (bt154.1, bt154.2))) = some (r1, r2) := h
 clear h
 replace H := Option.bind_eq_some_iff.mp H
 obtain ⟨⟨t154, t155⟩, A30, H⟩ := H
 replace H : (some (t154, t155)) = some (r1, r2) := H
 have A3 := Asd.mk A30
 clear A30
 simp only [Option.some.injEq, Prod.mk.injEq] at H
 obtain ⟨rfl, rfl⟩ := H
 go_enter Tryd.func68, Tryd.ntmps68
 go_wp2_with (first | ((with_reducible refine gate_callee (f := 77) rfl ?_); refine goesL_ (some 8) rfl rfl Tryd.func77 (by kernel_rfl) rfl #[.string a0, .string a1] rfl (by (try simp only [List.map_toArray, List.map_cons, List.map_nil]); first | done | rfl | (simp only [List.length_drop, List.length_take]; rfl)) ?_; (with_reducible refine (sl_CutSuffix.calls a0 a1 t154 t155 _ A3.out).mono ?_); rintro e w' ⟨rfl, ⟨nd, rfl⟩⟩; refine ⟨_, rfl, ?_⟩))
 go_ret2
 exact ⟨by first | rfl | (simp; done) | (simp [*]; done), by repeat (first | exact Drawn0.refl _ | apply Drawn0.step)⟩
end Go.Proofs.YtmmionafcmnfoaaDoor.Print
