/- Functions of the program as plain functions, and proofs that the program's calls tell what these tell. Written by a program. -/
import Derived.Test.YtemkgdpfkbpnpaaGreatDoorPrint0
import Derived.Test.YtemkgdpfkbpnpaaGreatDoorPrint3
import Derived.Test.YtemkgdpfkbpnpaaGreatDoorPrint5
import Derived.Test.YtemkgdpfkbpnpaaGreatDoorPrint6
namespace Go.Proofs.YtemkgdpfkbpnpaaGreatDoor.Print
open Go.RowKit Go.Proofs.YtemkgdpfkbpnpaaGreatDoorW.PrintWords Go.Proofs.YtemkgdpfkbpnpaaGreatDoorW.PrintLast Go.Proofs.YtemkgdpfkbpnpaaGreatDoorW.PrintMore Go.Proofs.YtemkgdpfkbpnpaaGreatDoor.Conv
attribute [local go_sem] max2_int min2_int max_two min_two max_three min_three max_four min_four
set_option linter.unusedVariables false
set_option linter.unusedSimpArgs false
mutual
def hello_Push.l0 : Nat -> List (S42) -> List ByteArray -> List (S42) -> Int -> Int -> Option ((List (S65)) × Bool)
 | 0, _, _, _, _, _ => none
 | k + 1, x0, x4, x7, x8, x9 => if x9 < x8 then (if 0 <= x9 then (if x9 < (x7.length : Int) then ((refs_Named.f k ((rd_T42 x7 x9).f0)).bind fun t159 => (if t159 = true then ((hello_may.f k ((rd_T42 x7 x9).f1)).bind fun t160 => (if t160 = true then ((hello_may.f k ((rd_T42 x7 x9).f2)).bind fun t161 => (if t161 = true then (if ((rd_T42 x7 x9).f1).size + ((rd_T42 x7 x9).f2).size <= 9223372036854775807 then (hello_Push.j1 k x0 x4 x7 x8 x9 ((((rd_T42 x7 x9).f1) ++ ((rd_T42 x7 x9).f2)).toList == ([] : List UInt8)) ((rd_T42 x7 x9).f0) ((rd_T42 x7 x9).f1) ((rd_T42 x7 x9).f2)) else (none)) else (hello_Push.j1 k x0 x4 x7 x8 x9 true ((rd_T42 x7 x9).f0) ((rd_T42 x7 x9).f1) ((rd_T42 x7 x9).f2)))) else (hello_Push.j1 k x0 x4 x7 x8 x9 true ((rd_T42 x7 x9).f0) ((rd_T42 x7 x9).f1) ((rd_T42 x7 x9).f2)))) else (hello_Push.j1 k x0 x4 x7 x8 x9 true ((rd_T42 x7 x9).f0) ((rd_T42 x7 x9).f1) ((rd_T42 x7 x9).f2)))) else (none)) else (none)) else (if (x0.length : Int) = 0 then (some (([] : List (S65)), false)) else (if (x0.length : Int) > 16 then (some (([] : List (S65)), false)) else ((hello_ended.f k x4).bind fun t154 => (some (t154, true)))))
def hello_Push.j1 : Nat -> List (S42) -> List ByteArray -> List (S42) -> Int -> Int -> Bool -> ByteArray -> ByteArray -> ByteArray -> Option ((List (S65)) × Bool)
 | 0, _, _, _, _, _, _, _, _, _ => none
 | k + 1, x0, x4, x7, x8, x9, x36, x159000, x159001, x159002 => if x36 = true then (some (([] : List (S65)), false)) else ((hello_dash.f x159001).bind fun t162 => (if t162.size + 1 <= 9223372036854775807 then ((hello_dash.f x159002).bind fun t163 => (if (t162 ++ (⟨#[32]⟩ : ByteArray)).size + t163.size <= 9223372036854775807 then (if ((t162 ++ (⟨#[32]⟩ : ByteArray)) ++ t163).size + 1 <= 9223372036854775807 then (if (((t162 ++ (⟨#[32]⟩ : ByteArray)) ++ t163) ++ (⟨#[32]⟩ : ByteArray)).size + x159000.size <= 9223372036854775807 then (if x4.length < 8796093022208 then (hello_Push.l0 k x0 (x4 ++ [(((t162 ++ (⟨#[32]⟩ : ByteArray)) ++ t163) ++ (⟨#[32]⟩ : ByteArray)) ++ x159000]) x7 x8 (wrap64 (x9 + 1))) else (none)) else (none)) else (none)) else (none))) else (none)))
end
def hello_Push.f (k : Nat) (l0 : List (S42)) : Option ((List (S65)) × Bool) := hello_Push.l0 k l0 ([] : List ByteArray) l0 (l0.length : Int) 0
def hello_Push.T7 : Bool × List (List Nat × List Nat) := (true, [([], []), ([], []), ([1], [1]), ([2], [2]), ([3], [3]), ([], []), ([5], [5]), ([6, 3], [6]), ([4, 7], [4, 7]), ([8], [8]), ([], []), ([10], [10]), ([9, 11], [9, 11]), ([12], [12]), ([0, 13, 7], [0, 13]), ([14, 14, 0, 1, 2, 3, 4, 5, 6, 7, 8, 9, 10, 11, 12, 13, 14], [0, 14])])
def hello_Push.B7 : List Nat := [0, 0, 2, 6, 14, 0, 32, 110, 254, 510, 0, 1024, 4094, 8190, 16383, 32767]
theorem hello_Push.tab7 : rtab .any (opsOf Tryz.f21 7) = hello_Push.T7 := by kernel_rfl
theorem hello_Push.bits7 : waitsOk hello_Push.T7.2 hello_Push.B7 = true := by kernel_rfl
set_option maxHeartbeats 8000000 in
set_option maxRecDepth 100000 in
theorem hello_Push.calls (k : Nat) (A0 : Option Addr) (c0 : Nat) (l0 : List (S42)) (r1 : List (S65)) (r2 : Bool) (w : World) (hr0 : Kd.C k42 w A0 l0.length l0) (hc0 : l0.length <= c0) (h : hello_Push.f k l0 = some (r1, r2)) :
  Calls Tryz.prog 21 #[.slice A0 l0.length c0] w fun e w' => ∃ v0_ : Value, e = .returned (.tuple #[v0_, .bool r2]) /\ Kd.R k65 65 w' w.heap.size (fun _ => True) v0_ r1 /\ Below w.heap.size w w' := by
 have hu42 := Tryz.underlying42
 have HR0 := Asd.mk hr0
 have HC0 := Asd.mk hc0
 clear hr0 hc0
 have HB := Asd.mk (Below.refl w.heap.size w)
 have H : (hello_Push.l0 k l0 ([] : List ByteArray) l0 (l0.length : Int) 0) = some (r1, r2) := h
 clear h
 have H' := Asd.mk H
 clear H
 go_enter Tryz.func21, Tryz.ntmps21
 go_wp2
 go_loopg [4, 9] k (fun kq v4 v9 w' => ∃ (x4_1 : List ByteArray) (x9_1 : Int), v9 = .int .i64 x9_1 /\ Asd (hello_Push.l0 kq l0 x4_1 l0 (l0.length : Int) x9_1 = some (r1, r2)) /\ Asd (kq <= k) /\ Asd (Kd.R Kd.string 9 w' w.heap.size (fun _ => True) v4 x4_1) /\ Asd (Below w.heap.size w w'))
 case atStart => exact ⟨(([] : List ByteArray)), (0), (by first | rfl | (simp; done) | (simp [*]; done)), H', ⟨Nat.le_refl _⟩, ⟨by first | exact Kd.R_nil _ _ _ _ _ | exact Kd.N_nil _ _ _ _ _ | exact Kd.V_nil _ _ _ _ _ | exact Kd.Q_nil _ _ _ _ _ | exact Kd.S_nil _ _ _ _ _⟩, ⟨by repeat (first | (with_reducible first | exact HB.out | apply bal | apply pbN | apply bd1) | exact HB.out)⟩⟩
 case round =>
  clear H'
  obtain ⟨x4_1, x9_1, rfl, HA, HK1, HO_4, HB⟩ := hrel
  cases gk with
  | zero => exact absurd HA.out (by simp [hello_Push.l0])
  | succ k1 =>
   have H := HA.out
   clear HA
   simp only [hello_Push.l0] at H
   by_cases c2 : x9_1 < (l0.length : Int)
   ·rw [if_pos c2] at H
    have c2b0 : decide (x9_1 < (l0.length : Int)) = true := decide_eq_true c2
    clear c2
    by_cases c3 : 0 <= x9_1
    ·rw [if_pos c3] at H
     have c3b0 : decide (0 <= x9_1) = true := decide_eq_true c3
     clear c3
     by_cases c4 : x9_1 < (l0.length : Int)
     ·rw [if_pos c4] at H
      have c4b0 : decide (x9_1 < (l0.length : Int)) = true := decide_eq_true c4
      clear c4
      have HC5 := Asd.mk H
      clear H
      have p157 : 0 <= (x9_1 : Int) := of_decide_eq_true (by first | (with_reducible assumption) | assumption)
      have q157 : x9_1 < (l0.length : Int) := of_decide_eq_true (by first | (with_reducible assumption) | assumption)
      obtain ⟨ad157, e157, hx157_0, hx157_1, hx157_2⟩ := at_T42 HR0.out x9_1 p157 q157
      cases e157
      replace hx157_0 := (HB.out.cell (World.block_lt_of_cell? w _ hx157_0)).trans hx157_0
      replace hx157_1 := (HB.out.cell (World.block_lt_of_cell? w _ hx157_1)).trans hx157_1
      replace hx157_2 := (HB.out.cell (World.block_lt_of_cell? w _ hx157_2)).trans hx157_2
      replace p157 := eq_true p157
      replace q157 := eq_true q157
      go_upto_region 5 with (first | ((with_reducible refine gate_dst (N := 6) rfl ?_); (try (refine gate_guard (by rfl) ?_; dsimp only)); refine box_event ?hg (N := 6) ?hd (cs := #[.string (⟨#[]⟩ : ByteArray), .string (⟨#[]⟩ : ByteArray), .string (⟨#[]⟩ : ByteArray)]) (t := 42) ?hr ?_; (case hd => rfl); (case hg => rfl); (case hr => first | (go_simp; done) | (go_simp; rfl)); intro gb158 hg w6 hbox hb; have n0_ := Asd.mk (Kd.R_below (by (with_reducible repeat (first | apply Kd.R_alloc | apply Kd.R_drewN | apply Kd.R_drew)); exact HO_4.out) hb); have n1_ := Asd.mk (below_step (by repeat (first | (with_reducible first | exact HB.out | apply bal | apply pbN | apply bd1) | exact HB.out)) hb); have n2_ := Asd.mk (hbox); have n3_ := Asd.mk ((by rw [hg]; exact (below_size (by repeat (first | (with_reducible first | exact HB.out | apply bal | apply pbN | apply bd1) | exact HB.out))) : w.heap.size <= gb158)); have n4_ := Asd.mk ((by rw [hg]; exact (below_size (by repeat (first | (with_reducible first | exact HB.out | apply bal | apply pbN | apply bd1) | exact HB.out))) : w.heap.size <= gb158)); clear HO_4; clear HB; have HO_4 := n0_; have HB := n1_; have BK158 := n2_; have GW158 := n3_; have GE158 := n4_; clear n0_ n1_ n2_ n3_ n4_; clear hb hbox hg; have hcz7_0 : w6.cell? ⟨gb158, 0, none⟩ = some (.string (⟨#[]⟩ : ByteArray)) := (blk_cell BK158.out 0).trans rfl; have hcz7_1 : w6.cell? ⟨gb158, 1, none⟩ = some (.string (⟨#[]⟩ : ByteArray)) := (blk_cell BK158.out 1).trans rfl; have hcz7_2 : w6.cell? ⟨gb158, 2, none⟩ = some (.string (⟨#[]⟩ : ByteArray)) := (blk_cell BK158.out 2).trans rfl; have hfz7_0 := blk_frozen BK158.out 0; have hfz7_1 := blk_frozen BK158.out 1; have hfz7_2 := blk_frozen BK158.out 2))
      (try simp only [Act.put, zA, zB, zC])
      go_cut [36] (fun v36 wc => ∃ (kq : Nat) (x36_4 : Bool), v36 = .bool x36_4 /\ Asd (hello_Push.j1 kq l0 x4_1 l0 (l0.length : Int) x9_1 x36_4 ((rd_T42 l0 x9_1).f0) ((rd_T42 l0 x9_1).f1) ((rd_T42 l0 x9_1).f2) = some (r1, r2)) /\ Asd (kq <= k1) /\ Asd (Kd.R Kd.string 9 wc w.heap.size (fun _ => True) u4 x4_1) /\ Asd (wc.heap[gb158]? = some (.cells #[.string ((rd_T42 l0 x9_1).f0), .string ((rd_T42 l0 x9_1).f1), .string ((rd_T42 l0 x9_1).f2)] 42 (0, 0))) /\ Asd (Below w.heap.size w wc))
      case first =>
       have H := HC5.out
       clear HC5
       replace H := Option.bind_eq_some_iff.mp H
       obtain ⟨t159, A80, H⟩ := H
       replace H : (if t159 = true then ((hello_may.f k1 ((rd_T42 l0 x9_1).f1)).bind fun t160 => (if t160 = true then ((hello_may.f k1 ((rd_T42 l0 x9_1).f2)).bind fun t161 => (if t161 = true then (if ((rd_T42 l0 x9_1).f1).size + ((rd_T42 l0 x9_1).f2).size <= 9223372036854775807 then (hello_Push.j1 k1 l0 x4_1 l0 (l0.length : Int) x9_1 ((((rd_T42 l0 x9_1).f1) ++ ((rd_T42 l0 x9_1).f2)).toList == ([] : List UInt8)) ((rd_T42 l0 x9_1).f0) ((rd_T42 l0 x9_1).f1) ((rd_T42 l0 x9_1).f2)) else (none)) else (hello_Push.j1 k1 l0 x4_1 l0 (l0.length : Int) x9_1 true ((rd_T42 l0 x9_1).f0) ((rd_T42 l0 x9_1).f1) ((rd_T42 l0 x9_1).f2)))) else (hello_Push.j1 k1 l0 x4_1 l0 (l0.length : Int) x9_1 true ((rd_T42 l0 x9_1).f0) ((rd_T42 l0 x9_1).f1) ((rd_T42 l0 x9_1).f2)))) else (hello_Push.j1 k1 l0 x4_1 l0 (l0.length : Int) x9_1 true ((rd_T42 l0 x9_1).f0) ((rd_T42 l0 x9_1).f1) ((rd_T42 l0 x9_1).f2))) = some (r1, r2) := H
       have A8 := Asd.mk A80
       clear A80
       by_cases c9 : t159 = true
       ·subst c9
        have H1 : ((hello_may.f k1 ((rd_T42 l0 x9_1).f1)).bind fun t160 => (if t160 = true then ((hello_may.f k1 ((rd_T42 l0 x9_1).f2)).bind fun t161 => (if t161 = true then (if ((rd_T42 l0 x9_1).f1).size + ((rd_T42 l0 x9_1).f2).size <= 9223372036854775807 then (hello_Push.j1 k1 l0 x4_1 l0 (l0.length : Int) x9_1 ((((rd_T42 l0 x9_1).f1) ++ ((rd_T42 l0 x9_1).f2)).toList == ([] : List UInt8)) ((rd_T42 l0 x9_1).f0) ((rd_T42 l0 x9_1).f1) ((rd_T42 l0 x9_1).f2)) else (none)) else (hello_Push.j1 k1 l0 x4_1 l0 (l0.length : Int) x9_1 true ((rd_T42 l0 x9_1).f0) ((rd_T42 l0 x9_1).f1) ((rd_T42 l0 x9_1).f2)))) else (hello_Push.j1 k1 l0 x4_1 l0 (l0.length : Int) x9_1 true ((rd_T42 l0 x9_1).f0) ((rd_T42 l0 x9_1).f1) ((rd_T42 l0 x9_1).f2)))) = some (r1, r2) := by rw [if_pos rfl] at H; exact H
        clear H
        have H := H1
        clear H1
        replace H := Option.bind_eq_some_iff.mp H
        obtain ⟨t160, A100, H⟩ := H
        replace H : (if t160 = true then ((hello_may.f k1 ((rd_T42 l0 x9_1).f2)).bind fun t161 => (if t161 = true then (if ((rd_T42 l0 x9_1).f1).size + ((rd_T42 l0 x9_1).f2).size <= 9223372036854775807 then (hello_Push.j1 k1 l0 x4_1 l0 (l0.length : Int) x9_1 ((((rd_T42 l0 x9_1).f1) ++ ((rd_T42 l0 x9_1).f2)).toList == ([] : List UInt8)) ((rd_T42 l0 x9_1).f0) ((rd_T42 l0 x9_1).f1) ((rd_T42 l0 x9_1).f2)) else (none)) else (hello_Push.j1 k1 l0 x4_1 l0 (l0.length : Int) x9_1 true ((rd_T42 l0 x9_1).f0) ((rd_T42 l0 x9_1).f1) ((rd_T42 l0 x9_1).f2)))) else (hello_Push.j1 k1 l0 x4_1 l0 (l0.length : Int) x9_1 true ((rd_T42 l0 x9_1).f0) ((rd_T42 l0 x9_1).f1) ((rd_T42 l0 x9_1).f2))) = some (r1, r2) := H
        have A10 := Asd.mk A100
        clear A100
        by_cases c11 : t160 = true
        ·subst c11
         have H1 : ((hello_may.f k1 ((rd_T42 l0 x9_1).f2)).bind fun t161 => (if t161 = true then (if ((rd_T42 l0 x9_1).f1).size + ((rd_T42 l0 x9_1).f2).size <= 9223372036854775807 then (hello_Push.j1 k1 l0 x4_1 l0 (l0.length : Int) x9_1 ((((rd_T42 l0 x9_1).f1) ++ ((rd_T42 l0 x9_1).f2)).toList == ([] : List UInt8)) ((rd_T42 l0 x9_1).f0) ((rd_T42 l0 x9_1).f1) ((rd_T42 l0 x9_1).f2)) else (none)) else (hello_Push.j1 k1 l0 x4_1 l0 (l0.length : Int) x9_1 true ((rd_T42 l0 x9_1).f0) ((rd_T42 l0 x9_1).f1) ((rd_T42 l0 x9_1).f2)))) = some (r1, r2) := by rw [if_pos rfl] at H; exact H
         clear H
         have H := H1
         clear H1
         replace H := Option.bind_eq_some_iff.mp H
         obtain ⟨t161, A120, H⟩ := H
         replace H : (if t161 = true then (if ((rd_T42 l0 x9_1).f1).size + ((rd_T42 l0 x9_1).f2).size <= 9223372036854775807 then (hello_Push.j1 k1 l0 x4_1 l0 (l0.length : Int) x9_1 ((((rd_T42 l0 x9_1).f1) ++ ((rd_T42 l0 x9_1).f2)).toList == ([] : List UInt8)) ((rd_T42 l0 x9_1).f0) ((rd_T42 l0 x9_1).f1) ((rd_T42 l0 x9_1).f2)) else (none)) else (hello_Push.j1 k1 l0 x4_1 l0 (l0.length : Int) x9_1 true ((rd_T42 l0 x9_1).f0) ((rd_T42 l0 x9_1).f1) ((rd_T42 l0 x9_1).f2))) = some (r1, r2) := H
         have A12 := Asd.mk A120
         clear A120
         by_cases c13 : t161 = true
         ·subst c13
          have H1 : (if ((rd_T42 l0 x9_1).f1).size + ((rd_T42 l0 x9_1).f2).size <= 9223372036854775807 then (hello_Push.j1 k1 l0 x4_1 l0 (l0.length : Int) x9_1 ((((rd_T42 l0 x9_1).f1) ++ ((rd_T42 l0 x9_1).f2)).toList == ([] : List UInt8)) ((rd_T42 l0 x9_1).f0) ((rd_T42 l0 x9_1).f1) ((rd_T42 l0 x9_1).f2)) else (none)) = some (r1, r2) := by rw [if_pos rfl] at H; exact H
          clear H
          have H := H1
          clear H1
          by_cases c14 : ((rd_T42 l0 x9_1).f1).size + ((rd_T42 l0 x9_1).f2).size <= 9223372036854775807
          ·rw [if_pos c14] at H
           have c14b0 := eq_true c14
           have c14b1 : decide (((rd_T42 l0 x9_1).f1).size + ((rd_T42 l0 x9_1).f2).size <= 9223372036854775807) = true := decide_eq_true c14
           try have c14b2 : (9223372036854775807 < ((rd_T42 l0 x9_1).f1).size + ((rd_T42 l0 x9_1).f2).size) = False := eq_false (Nat.not_lt.2 c14)
           have H' := Asd.mk H
           clear H
           have hcz15_0 : w6.cell? ⟨gb158, 0, none⟩ = some (.string (⟨#[]⟩ : ByteArray)) := (blk_cell BK158.out 0).trans rfl
           have hcz15_1 : w6.cell? ⟨gb158, 1, none⟩ = some (.string (⟨#[]⟩ : ByteArray)) := (blk_cell BK158.out 1).trans rfl
           have hcz15_2 : w6.cell? ⟨gb158, 2, none⟩ = some (.string (⟨#[]⟩ : ByteArray)) := (blk_cell BK158.out 2).trans rfl
           have hfz15_0 := blk_frozen BK158.out 0
           have hfz15_1 := blk_frozen BK158.out 1
           have hfz15_2 := blk_frozen BK158.out 2
           go_wp2_with (first | ((with_reducible refine gate_callee (f := 34) rfl ?_); refine goesL_ (some 15) rfl rfl Tryz.func34 (by kernel_rfl) rfl #[.string ((rd_T42 l0 x9_1).f0)] rfl (by (try simp only [List.map_toArray, List.map_cons, List.map_nil]); first | done | rfl | (simp only [List.length_drop, List.length_take]; rfl)) ?_; (with_reducible refine (refs_Named.calls k1 ((rd_T42 l0 x9_1).f0) true _ A8.out).mono ?_); rintro e w16 ⟨rfl, hb⟩; refine ⟨_, rfl, ?_⟩; have n0_ := Asd.mk (Kd.R_below (by (with_reducible repeat (first | apply Kd.R_alloc | apply Kd.R_drewN | apply Kd.R_drew)); exact (Kd.R_mono (Kd.R_far (p := ⟨gb158, 2, none⟩) (Kd.R_far (p := ⟨gb158, 1, none⟩) (Kd.R_far (p := ⟨gb158, 0, none⟩) (Kd.R_types HO_4.out BK158.out (by decide)) (fun _ hk => hk.2) (.string ((rd_T42 l0 x9_1).f0))) (fun _ hk => hk.2) (.string ((rd_T42 l0 x9_1).f1))) (fun _ hk => hk.2) (.string ((rd_T42 l0 x9_1).f2))) (fun _ h_ => h_.1))) hb); have n1_ := Asd.mk (blk_below (g := gb158) (o := .cells #[.string ((rd_T42 l0 x9_1).f0), .string ((rd_T42 l0 x9_1).f1), .string ((rd_T42 l0 x9_1).f2)] 42 (0, 0)) (by (with_reducible repeat (first | refine blk_drewN ?_ _ | refine blk_drew ?_ | refine blk_alloc ?_ _)); refine blk_put (cs := #[.string ((rd_T42 l0 x9_1).f0), .string ((rd_T42 l0 x9_1).f1), .string (⟨#[]⟩ : ByteArray)]) ?_ 2 _ rfl; (with_reducible repeat (first | refine blk_drewN ?_ _ | refine blk_drew ?_ | refine blk_alloc ?_ _)); refine blk_put (cs := #[.string ((rd_T42 l0 x9_1).f0), .string (⟨#[]⟩ : ByteArray), .string (⟨#[]⟩ : ByteArray)]) ?_ 1 _ rfl; (with_reducible repeat (first | refine blk_drewN ?_ _ | refine blk_drew ?_ | refine blk_alloc ?_ _)); refine blk_put (cs := #[.string (⟨#[]⟩ : ByteArray), .string (⟨#[]⟩ : ByteArray), .string (⟨#[]⟩ : ByteArray)]) ?_ 0 _ rfl; (with_reducible repeat (first | refine blk_drewN ?_ _ | refine blk_drew ?_ | refine blk_alloc ?_ _)); exact BK158.out) hb); have n2_ := Asd.mk (below_step (by repeat (first | (with_reducible first | exact HB.out | apply bal | apply pbN | apply bd1 | refine below_set ?_ GE158.out) | exact HB.out)) hb); clear HO_4; clear BK158; clear HB; have HO_4 := n0_; have BK158 := n1_; have HB := n2_; clear n0_ n1_ n2_; (try clear hb); (try clear hb2); (try clear hk); (try clear hi); have hcz17_0 : w16.cell? ⟨gb158, 0, none⟩ = some (.string ((rd_T42 l0 x9_1).f0)) := (blk_cell BK158.out 0).trans rfl; have hcz17_1 : w16.cell? ⟨gb158, 1, none⟩ = some (.string ((rd_T42 l0 x9_1).f1)) := (blk_cell BK158.out 1).trans rfl; have hcz17_2 : w16.cell? ⟨gb158, 2, none⟩ = some (.string ((rd_T42 l0 x9_1).f2)) := (blk_cell BK158.out 2).trans rfl; have hfz17_0 := blk_frozen BK158.out 0; have hfz17_1 := blk_frozen BK158.out 1; have hfz17_2 := blk_frozen BK158.out 2) | (go_at_call 37; (with_reducible refine (hello_may.calls k1 ((rd_T42 l0 x9_1).f1) true _ A10.out).mono ?_); rintro e w' ⟨rfl, ⟨nd, rfl⟩⟩) | (go_at_call 37; (with_reducible refine (hello_may.calls k1 ((rd_T42 l0 x9_1).f2) true _ A12.out).mono ?_); rintro e w' ⟨rfl, ⟨nd, rfl⟩⟩))
           go_meet
           case rel => exact ⟨_, (((((rd_T42 l0 x9_1).f1) ++ ((rd_T42 l0 x9_1).f2)).toList == ([] : List UInt8))), (by first | rfl | (simp; done) | (simp [*]; done)), H', ⟨by have := HK1.out; first | omega | exact Nat.le_refl _⟩, ⟨by (with_reducible repeat (first | apply Kd.R_alloc | apply Kd.R_drewN | apply Kd.R_drew)); exact HO_4.out⟩, ⟨by (with_reducible repeat (first | refine blk_drewN ?_ _ | refine blk_drew ?_ | refine blk_alloc ?_ _)); exact BK158.out⟩, ⟨by repeat (first | (with_reducible first | exact HB.out | apply bal | apply pbN | apply bd1 | refine below_set ?_ GE158.out) | exact HB.out)⟩⟩
          ·rw [if_neg c14] at H
           exact absurd H (by simp)
         ·replace c13 := Bool.eq_false_iff.mpr c13
          subst c13
          have H1 : (hello_Push.j1 k1 l0 x4_1 l0 (l0.length : Int) x9_1 true ((rd_T42 l0 x9_1).f0) ((rd_T42 l0 x9_1).f1) ((rd_T42 l0 x9_1).f2)) = some (r1, r2) := by rw [if_neg (show ¬ (false = true) by decide)] at H; exact H
          clear H
          have H := H1
          clear H1
          have H' := Asd.mk H
          clear H
          have hcz18_0 : w6.cell? ⟨gb158, 0, none⟩ = some (.string (⟨#[]⟩ : ByteArray)) := (blk_cell BK158.out 0).trans rfl
          have hcz18_1 : w6.cell? ⟨gb158, 1, none⟩ = some (.string (⟨#[]⟩ : ByteArray)) := (blk_cell BK158.out 1).trans rfl
          have hcz18_2 : w6.cell? ⟨gb158, 2, none⟩ = some (.string (⟨#[]⟩ : ByteArray)) := (blk_cell BK158.out 2).trans rfl
          have hfz18_0 := blk_frozen BK158.out 0
          have hfz18_1 := blk_frozen BK158.out 1
          have hfz18_2 := blk_frozen BK158.out 2
          go_wp2_with (first | ((with_reducible refine gate_callee (f := 34) rfl ?_); refine goesL_ (some 15) rfl rfl Tryz.func34 (by kernel_rfl) rfl #[.string ((rd_T42 l0 x9_1).f0)] rfl (by (try simp only [List.map_toArray, List.map_cons, List.map_nil]); first | done | rfl | (simp only [List.length_drop, List.length_take]; rfl)) ?_; (with_reducible refine (refs_Named.calls k1 ((rd_T42 l0 x9_1).f0) true _ A8.out).mono ?_); rintro e w19 ⟨rfl, hb⟩; refine ⟨_, rfl, ?_⟩; have n0_ := Asd.mk (Kd.R_below (by (with_reducible repeat (first | apply Kd.R_alloc | apply Kd.R_drewN | apply Kd.R_drew)); exact (Kd.R_mono (Kd.R_far (p := ⟨gb158, 2, none⟩) (Kd.R_far (p := ⟨gb158, 1, none⟩) (Kd.R_far (p := ⟨gb158, 0, none⟩) (Kd.R_types HO_4.out BK158.out (by decide)) (fun _ hk => hk.2) (.string ((rd_T42 l0 x9_1).f0))) (fun _ hk => hk.2) (.string ((rd_T42 l0 x9_1).f1))) (fun _ hk => hk.2) (.string ((rd_T42 l0 x9_1).f2))) (fun _ h_ => h_.1))) hb); have n1_ := Asd.mk (blk_below (g := gb158) (o := .cells #[.string ((rd_T42 l0 x9_1).f0), .string ((rd_T42 l0 x9_1).f1), .string ((rd_T42 l0 x9_1).f2)] 42 (0, 0)) (by (with_reducible repeat (first | refine blk_drewN ?_ _ | refine blk_drew ?_ | refine blk_alloc ?_ _)); refine blk_put (cs := #[.string ((rd_T42 l0 x9_1).f0), .string ((rd_T42 l0 x9_1).f1), .string (⟨#[]⟩ : ByteArray)]) ?_ 2 _ rfl; (with_reducible repeat (first | refine blk_drewN ?_ _ | refine blk_drew ?_ | refine blk_alloc ?_ _)); refine blk_put (cs := #[.string ((rd_T42 l0 x9_1).f0), .string (⟨#[]⟩ : ByteArray), .string (⟨#[]⟩ : ByteArray)]) ?_ 1 _ rfl; (with_reducible repeat (first | refine blk_drewN ?_ _ | refine blk_drew ?_ | refine blk_alloc ?_ _)); refine blk_put (cs := #[.string (⟨#[]⟩ : ByteArray), .string (⟨#[]⟩ : ByteArray), .string (⟨#[]⟩ : ByteArray)]) ?_ 0 _ rfl; (with_reducible repeat (first | refine blk_drewN ?_ _ | refine blk_drew ?_ | refine blk_alloc ?_ _)); exact BK158.out) hb); have n2_ := Asd.mk (below_step (by repeat (first | (with_reducible first | exact HB.out | apply bal | apply pbN | apply bd1 | refine below_set ?_ GE158.out) | exact HB.out)) hb); clear HO_4; clear BK158; clear HB; have HO_4 := n0_; have BK158 := n1_; have HB := n2_; clear n0_ n1_ n2_; (try clear hb); (try clear hb2); (try clear hk); (try clear hi); have hcz20_0 : w19.cell? ⟨gb158, 0, none⟩ = some (.string ((rd_T42 l0 x9_1).f0)) := (blk_cell BK158.out 0).trans rfl; have hcz20_1 : w19.cell? ⟨gb158, 1, none⟩ = some (.string ((rd_T42 l0 x9_1).f1)) := (blk_cell BK158.out 1).trans rfl; have hcz20_2 : w19.cell? ⟨gb158, 2, none⟩ = some (.string ((rd_T42 l0 x9_1).f2)) := (blk_cell BK158.out 2).trans rfl; have hfz20_0 := blk_frozen BK158.out 0; have hfz20_1 := blk_frozen BK158.out 1; have hfz20_2 := blk_frozen BK158.out 2) | (go_at_call 37; (with_reducible refine (hello_may.calls k1 ((rd_T42 l0 x9_1).f1) true _ A10.out).mono ?_); rintro e w' ⟨rfl, ⟨nd, rfl⟩⟩) | (go_at_call 37; (with_reducible refine (hello_may.calls k1 ((rd_T42 l0 x9_1).f2) false _ A12.out).mono ?_); rintro e w' ⟨rfl, ⟨nd, rfl⟩⟩))
          go_meet
          case rel => exact ⟨_, (true), (by first | rfl | (simp; done) | (simp [*]; done)), H', ⟨by have := HK1.out; first | omega | exact Nat.le_refl _⟩, ⟨by (with_reducible repeat (first | apply Kd.R_alloc | apply Kd.R_drewN | apply Kd.R_drew)); exact HO_4.out⟩, ⟨by (with_reducible repeat (first | refine blk_drewN ?_ _ | refine blk_drew ?_ | refine blk_alloc ?_ _)); exact BK158.out⟩, ⟨by repeat (first | (with_reducible first | exact HB.out | apply bal | apply pbN | apply bd1 | refine below_set ?_ GE158.out) | exact HB.out)⟩⟩
        ·replace c11 := Bool.eq_false_iff.mpr c11
         subst c11
         have H1 : (hello_Push.j1 k1 l0 x4_1 l0 (l0.length : Int) x9_1 true ((rd_T42 l0 x9_1).f0) ((rd_T42 l0 x9_1).f1) ((rd_T42 l0 x9_1).f2)) = some (r1, r2) := by rw [if_neg (show ¬ (false = true) by decide)] at H; exact H
         clear H
         have H := H1
         clear H1
         have H' := Asd.mk H
         clear H
         have hcz21_0 : w6.cell? ⟨gb158, 0, none⟩ = some (.string (⟨#[]⟩ : ByteArray)) := (blk_cell BK158.out 0).trans rfl
         have hcz21_1 : w6.cell? ⟨gb158, 1, none⟩ = some (.string (⟨#[]⟩ : ByteArray)) := (blk_cell BK158.out 1).trans rfl
         have hcz21_2 : w6.cell? ⟨gb158, 2, none⟩ = some (.string (⟨#[]⟩ : ByteArray)) := (blk_cell BK158.out 2).trans rfl
         have hfz21_0 := blk_frozen BK158.out 0
         have hfz21_1 := blk_frozen BK158.out 1
         have hfz21_2 := blk_frozen BK158.out 2
         go_wp2_with (first | ((with_reducible refine gate_callee (f := 34) rfl ?_); refine goesL_ (some 15) rfl rfl Tryz.func34 (by kernel_rfl) rfl #[.string ((rd_T42 l0 x9_1).f0)] rfl (by (try simp only [List.map_toArray, List.map_cons, List.map_nil]); first | done | rfl | (simp only [List.length_drop, List.length_take]; rfl)) ?_; (with_reducible refine (refs_Named.calls k1 ((rd_T42 l0 x9_1).f0) true _ A8.out).mono ?_); rintro e w22 ⟨rfl, hb⟩; refine ⟨_, rfl, ?_⟩; have n0_ := Asd.mk (Kd.R_below (by (with_reducible repeat (first | apply Kd.R_alloc | apply Kd.R_drewN | apply Kd.R_drew)); exact (Kd.R_mono (Kd.R_far (p := ⟨gb158, 2, none⟩) (Kd.R_far (p := ⟨gb158, 1, none⟩) (Kd.R_far (p := ⟨gb158, 0, none⟩) (Kd.R_types HO_4.out BK158.out (by decide)) (fun _ hk => hk.2) (.string ((rd_T42 l0 x9_1).f0))) (fun _ hk => hk.2) (.string ((rd_T42 l0 x9_1).f1))) (fun _ hk => hk.2) (.string ((rd_T42 l0 x9_1).f2))) (fun _ h_ => h_.1))) hb); have n1_ := Asd.mk (blk_below (g := gb158) (o := .cells #[.string ((rd_T42 l0 x9_1).f0), .string ((rd_T42 l0 x9_1).f1), .string ((rd_T42 l0 x9_1).f2)] 42 (0, 0)) (by (with_reducible repeat (first | refine blk_drewN ?_ _ | refine blk_drew ?_ | refine blk_alloc ?_ _)); refine blk_put (cs := #[.string ((rd_T42 l0 x9_1).f0), .string ((rd_T42 l0 x9_1).f1), .string (⟨#[]⟩ : ByteArray)]) ?_ 2 _ rfl; (with_reducible repeat (first | refine blk_drewN ?_ _ | refine blk_drew ?_ | refine blk_alloc ?_ _)); refine blk_put (cs := #[.string ((rd_T42 l0 x9_1).f0), .string (⟨#[]⟩ : ByteArray), .string (⟨#[]⟩ : ByteArray)]) ?_ 1 _ rfl; (with_reducible repeat (first | refine blk_drewN ?_ _ | refine blk_drew ?_ | refine blk_alloc ?_ _)); refine blk_put (cs := #[.string (⟨#[]⟩ : ByteArray), .string (⟨#[]⟩ : ByteArray), .string (⟨#[]⟩ : ByteArray)]) ?_ 0 _ rfl; (with_reducible repeat (first | refine blk_drewN ?_ _ | refine blk_drew ?_ | refine blk_alloc ?_ _)); exact BK158.out) hb); have n2_ := Asd.mk (below_step (by repeat (first | (with_reducible first | exact HB.out | apply bal | apply pbN | apply bd1 | refine below_set ?_ GE158.out) | exact HB.out)) hb); clear HO_4; clear BK158; clear HB; have HO_4 := n0_; have BK158 := n1_; have HB := n2_; clear n0_ n1_ n2_; (try clear hb); (try clear hb2); (try clear hk); (try clear hi); have hcz23_0 : w22.cell? ⟨gb158, 0, none⟩ = some (.string ((rd_T42 l0 x9_1).f0)) := (blk_cell BK158.out 0).trans rfl; have hcz23_1 : w22.cell? ⟨gb158, 1, none⟩ = some (.string ((rd_T42 l0 x9_1).f1)) := (blk_cell BK158.out 1).trans rfl; have hcz23_2 : w22.cell? ⟨gb158, 2, none⟩ = some (.string ((rd_T42 l0 x9_1).f2)) := (blk_cell BK158.out 2).trans rfl; have hfz23_0 := blk_frozen BK158.out 0; have hfz23_1 := blk_frozen BK158.out 1; have hfz23_2 := blk_frozen BK158.out 2) | (go_at_call 37; (with_reducible refine (hello_may.calls k1 ((rd_T42 l0 x9_1).f1) false _ A10.out).mono ?_); rintro e w' ⟨rfl, ⟨nd, rfl⟩⟩))
         go_meet
         case rel => exact ⟨_, (true), (by first | rfl | (simp; done) | (simp [*]; done)), H', ⟨by have := HK1.out; first | omega | exact Nat.le_refl _⟩, ⟨by (with_reducible repeat (first | apply Kd.R_alloc | apply Kd.R_drewN | apply Kd.R_drew)); exact HO_4.out⟩, ⟨by (with_reducible repeat (first | refine blk_drewN ?_ _ | refine blk_drew ?_ | refine blk_alloc ?_ _)); exact BK158.out⟩, ⟨by repeat (first | (with_reducible first | exact HB.out | apply bal | apply pbN | apply bd1 | refine below_set ?_ GE158.out) | exact HB.out)⟩⟩
       ·replace c9 := Bool.eq_false_iff.mpr c9
        subst c9
        have H1 : (hello_Push.j1 k1 l0 x4_1 l0 (l0.length : Int) x9_1 true ((rd_T42 l0 x9_1).f0) ((rd_T42 l0 x9_1).f1) ((rd_T42 l0 x9_1).f2)) = some (r1, r2) := by rw [if_neg (show ¬ (false = true) by decide)] at H; exact H
        clear H
        have H := H1
        clear H1
        have H' := Asd.mk H
        clear H
        have hcz24_0 : w6.cell? ⟨gb158, 0, none⟩ = some (.string (⟨#[]⟩ : ByteArray)) := (blk_cell BK158.out 0).trans rfl
        have hcz24_1 : w6.cell? ⟨gb158, 1, none⟩ = some (.string (⟨#[]⟩ : ByteArray)) := (blk_cell BK158.out 1).trans rfl
        have hcz24_2 : w6.cell? ⟨gb158, 2, none⟩ = some (.string (⟨#[]⟩ : ByteArray)) := (blk_cell BK158.out 2).trans rfl
        have hfz24_0 := blk_frozen BK158.out 0
        have hfz24_1 := blk_frozen BK158.out 1
        have hfz24_2 := blk_frozen BK158.out 2
        go_wp2_with (first | ((with_reducible refine gate_callee (f := 34) rfl ?_); refine goesL_ (some 15) rfl rfl Tryz.func34 (by kernel_rfl) rfl #[.string ((rd_T42 l0 x9_1).f0)] rfl (by (try simp only [List.map_toArray, List.map_cons, List.map_nil]); first | done | rfl | (simp only [List.length_drop, List.length_take]; rfl)) ?_; (with_reducible refine (refs_Named.calls k1 ((rd_T42 l0 x9_1).f0) false _ A8.out).mono ?_); rintro e w25 ⟨rfl, hb⟩; refine ⟨_, rfl, ?_⟩; have n0_ := Asd.mk (Kd.R_below (by (with_reducible repeat (first | apply Kd.R_alloc | apply Kd.R_drewN | apply Kd.R_drew)); exact (Kd.R_mono (Kd.R_far (p := ⟨gb158, 2, none⟩) (Kd.R_far (p := ⟨gb158, 1, none⟩) (Kd.R_far (p := ⟨gb158, 0, none⟩) (Kd.R_types HO_4.out BK158.out (by decide)) (fun _ hk => hk.2) (.string ((rd_T42 l0 x9_1).f0))) (fun _ hk => hk.2) (.string ((rd_T42 l0 x9_1).f1))) (fun _ hk => hk.2) (.string ((rd_T42 l0 x9_1).f2))) (fun _ h_ => h_.1))) hb); have n1_ := Asd.mk (blk_below (g := gb158) (o := .cells #[.string ((rd_T42 l0 x9_1).f0), .string ((rd_T42 l0 x9_1).f1), .string ((rd_T42 l0 x9_1).f2)] 42 (0, 0)) (by (with_reducible repeat (first | refine blk_drewN ?_ _ | refine blk_drew ?_ | refine blk_alloc ?_ _)); refine blk_put (cs := #[.string ((rd_T42 l0 x9_1).f0), .string ((rd_T42 l0 x9_1).f1), .string (⟨#[]⟩ : ByteArray)]) ?_ 2 _ rfl; (with_reducible repeat (first | refine blk_drewN ?_ _ | refine blk_drew ?_ | refine blk_alloc ?_ _)); refine blk_put (cs := #[.string ((rd_T42 l0 x9_1).f0), .string (⟨#[]⟩ : ByteArray), .string (⟨#[]⟩ : ByteArray)]) ?_ 1 _ rfl; (with_reducible repeat (first | refine blk_drewN ?_ _ | refine blk_drew ?_ | refine blk_alloc ?_ _)); refine blk_put (cs := #[.string (⟨#[]⟩ : ByteArray), .string (⟨#[]⟩ : ByteArray), .string (⟨#[]⟩ : ByteArray)]) ?_ 0 _ rfl; (with_reducible repeat (first | refine blk_drewN ?_ _ | refine blk_drew ?_ | refine blk_alloc ?_ _)); exact BK158.out) hb); have n2_ := Asd.mk (below_step (by repeat (first | (with_reducible first | exact HB.out | apply bal | apply pbN | apply bd1 | refine below_set ?_ GE158.out) | exact HB.out)) hb); clear HO_4; clear BK158; clear HB; have HO_4 := n0_; have BK158 := n1_; have HB := n2_; clear n0_ n1_ n2_; (try clear hb); (try clear hb2); (try clear hk); (try clear hi)))
        go_meet
        case rel => exact ⟨_, (true), (by first | rfl | (simp; done) | (simp [*]; done)), H', ⟨by have := HK1.out; first | omega | exact Nat.le_refl _⟩, ⟨by (with_reducible repeat (first | apply Kd.R_alloc | apply Kd.R_drewN | apply Kd.R_drew)); exact HO_4.out⟩, ⟨by (with_reducible repeat (first | refine blk_drewN ?_ _ | refine blk_drew ?_ | refine blk_alloc ?_ _)); exact BK158.out⟩, ⟨by repeat (first | (with_reducible first | exact HB.out | apply bal | apply pbN | apply bd1 | refine below_set ?_ GE158.out) | exact HB.out)⟩⟩
      case rest =>
       clear HC5
       try clear c1
       try clear p1
       try clear q1
       try clear hx1
       try clear c2
       try clear c2b0
       try clear p2
       try clear c3
       try clear c3b0
       try clear c4
       try clear c4b0
       try clear c9
       try clear c11
       try clear c13
       try clear c14
       try clear c14b0
       try clear c14b1
       try clear c14b2
       try clear p15
       try clear q15
       try clear hx15
       try clear c21
       try clear hcz15_0
       try clear hcz15_1
       try clear hcz15_2
       try clear hcz17_0
       try clear hcz17_1
       try clear hcz17_2
       try clear hcz18_0
       try clear hcz18_1
       try clear hcz18_2
       try clear hcz20_0
       try clear hcz20_1
       try clear hcz20_2
       try clear hcz21_0
       try clear hcz21_1
       try clear hcz21_2
       try clear hcz23_0
       try clear hcz23_1
       try clear hcz23_2
       try clear hcz24_0
       try clear hcz24_1
       try clear hcz24_2
       try clear hcz7_0
       try clear hcz7_1
       try clear hcz7_2
       try clear hfz15_0
       try clear hfz15_1
       try clear hfz15_2
       try clear hfz17_0
       try clear hfz17_1
       try clear hfz17_2
       try clear hfz18_0
       try clear hfz18_1
       try clear hfz18_2
       try clear hfz20_0
       try clear hfz20_1
       try clear hfz20_2
       try clear hfz21_0
       try clear hfz21_1
       try clear hfz21_2
       try clear hfz23_0
       try clear hfz23_1
       try clear hfz23_2
       try clear hfz24_0
       try clear hfz24_1
       try clear hfz24_2
       try clear hfz7_0
       try clear hfz7_1
       try clear hfz7_2
       try clear hx157_0
       try clear hx157_1
       try clear hx157_2
       try clear p157
       try clear q157
       obtain ⟨kq, x36_4, rfl, HA, HJ4, HO_4, BK158, HB⟩ := hcut
       cases kq with
       | zero => exact absurd HA.out (by simp [hello_Push.j1])
       | succ kj4 =>
        have H := HA.out
        clear HA
        simp only [hello_Push.j1] at H
        by_cases c26 : x36_4 = true
        ·subst c26
         have H1 : (some (([] : List (S65)), false)) = some (r1, r2) := by rw [if_pos rfl] at H; exact H
         clear H
         have H := H1
         clear H1
         simp only [Option.some.injEq, Prod.mk.injEq] at H
         obtain ⟨rfl, rfl⟩ := H
         go_wp2
         go_ret2
         exact ⟨_, by first | rfl | (simp [errW_none, errW_some] <;> rfl) | (simp [*, errW_none, errW_some] <;> rfl), by first | exact Kd.R_nil _ _ _ _ _ | exact Kd.N_nil _ _ _ _ _ | exact Kd.V_nil _ _ _ _ _ | exact Kd.Q_nil _ _ _ _ _ | exact Kd.S_nil _ _ _ _ _, by repeat (first | (with_reducible first | exact HB.out | apply bal | apply pbN | apply bd1 | refine below_set ?_ GE158.out) | exact HB.out)⟩
        ·replace c26 := Bool.eq_false_iff.mpr c26
         subst c26
         have H1 : ((hello_dash.f ((rd_T42 l0 x9_1).f1)).bind fun t162 => (if t162.size + 1 <= 9223372036854775807 then ((hello_dash.f ((rd_T42 l0 x9_1).f2)).bind fun t163 => (if (t162 ++ (⟨#[32]⟩ : ByteArray)).size + t163.size <= 9223372036854775807 then (if ((t162 ++ (⟨#[32]⟩ : ByteArray)) ++ t163).size + 1 <= 9223372036854775807 then (if (((t162 ++ (⟨#[32]⟩ : ByteArray)) ++ t163) ++ (⟨#[32]⟩ : ByteArray)).size + ((rd_T42 l0 x9_1).f0).size <= 9223372036854775807 then (if x4_1.length < 8796093022208 then (hello_Push.l0 kj4 l0 (x4_1 ++ [(((t162 ++ (⟨#[32]⟩ : ByteArray)) ++ t163) ++ (⟨#[32]⟩ : ByteArray)) ++ ((rd_T42 l0 x9_1).f0)]) l0 (l0.length : Int) (wrap64 (x9_1 + 1))) else (none)) else (none)) else (none)) else (none))) else (none))) = some (r1, r2) := by rw [if_neg (show ¬ (false = true) by decide)] at H; exact H
         clear H
         have H := H1
         clear H1
         replace H := Option.bind_eq_some_iff.mp H
         obtain ⟨t162, A270, H⟩ := H
         replace H : (if t162.size + 1 <= 9223372036854775807 then ((hello_dash.f ((rd_T42 l0 x9_1).f2)).bind fun t163 => (if (t162 ++ (⟨#[32]⟩ : ByteArray)).size + t163.size <= 9223372036854775807 then (if ((t162 ++ (⟨#[32]⟩ : ByteArray)) ++ t163).size + 1 <= 9223372036854775807 then (if (((t162 ++ (⟨#[32]⟩ : ByteArray)) ++ t163) ++ (⟨#[32]⟩ : ByteArray)).size + ((rd_T42 l0 x9_1).f0).size <= 9223372036854775807 then (if x4_1.length < 8796093022208 then (hello_Push.l0 kj4 l0 (x4_1 ++ [(((t162 ++ (⟨#[32]⟩ : ByteArray)) ++ t163) ++ (⟨#[32]⟩ : ByteArray)) ++ ((rd_T42 l0 x9_1).f0)]) l0 (l0.length : Int) (wrap64 (x9_1 + 1))) else (none)) else (none)) else (none)) else (none))) else (none)) = some (r1, r2) := H
         have A27 := Asd.mk A270
         clear A270
         by_cases c28 : t162.size + 1 <= 9223372036854775807
         ·rw [if_pos c28] at H
          have c28b0 := eq_true c28
          have c28b1 : decide (t162.size + 1 <= 9223372036854775807) = true := decide_eq_true c28
          try have c28b2 : (9223372036854775807 < t162.size + 1) = False := eq_false (Nat.not_lt.2 c28)
          replace H := Option.bind_eq_some_iff.mp H
          obtain ⟨t163, A290, H⟩ := H
          replace H : (if (t162 ++ (⟨#[32]⟩ : ByteArray)).size + t163.size <= 9223372036854775807 then (if ((t162 ++ (⟨#[32]⟩ : ByteArray)) ++ t163).size + 1 <= 9223372036854775807 then (if (((t162 ++ (⟨#[32]⟩ : ByteArray)) ++ t163) ++ (⟨#[32]⟩ : ByteArray)).size + ((rd_T42 l0 x9_1).f0).size <= 9223372036854775807 then (if x4_1.length < 8796093022208 then (hello_Push.l0 kj4 l0 (x4_1 ++ [(((t162 ++ (⟨#[32]⟩ : ByteArray)) ++ t163) ++ (⟨#[32]⟩ : ByteArray)) ++ ((rd_T42 l0 x9_1).f0)]) l0 (l0.length : Int) (wrap64 (x9_1 + 1))) else (none)) else (none)) else (none)) else (none)) = some (r1, r2) := H
          have A29 := Asd.mk A290
          clear A290
          by_cases c30 : (t162 ++ (⟨#[32]⟩ : ByteArray)).size + t163.size <= 9223372036854775807
          ·rw [if_pos c30] at H
           have c30b0 := eq_true c30
           have c30b1 : decide ((t162 ++ (⟨#[32]⟩ : ByteArray)).size + t163.size <= 9223372036854775807) = true := decide_eq_true c30
           try have c30b2 : (9223372036854775807 < (t162 ++ (⟨#[32]⟩ : ByteArray)).size + t163.size) = False := eq_false (Nat.not_lt.2 c30)
           try have c30b3 : (9223372036854775807 < t162.size + 1 + t163.size) = False := eq_false (Nat.not_lt.2 (by have e_ := c30; simp only [ByteArray.size_append] at e_; exact e_))
           by_cases c31 : ((t162 ++ (⟨#[32]⟩ : ByteArray)) ++ t163).size + 1 <= 9223372036854775807
           ·rw [if_pos c31] at H
            have c31b0 := eq_true c31
            have c31b1 : decide (((t162 ++ (⟨#[32]⟩ : ByteArray)) ++ t163).size + 1 <= 9223372036854775807) = true := decide_eq_true c31
            try have c31b2 : (9223372036854775807 < ((t162 ++ (⟨#[32]⟩ : ByteArray)) ++ t163).size + 1) = False := eq_false (Nat.not_lt.2 c31)
            try have c31b3 : (9223372036854775807 < t162.size + 1 + t163.size + 1) = False := eq_false (Nat.not_lt.2 (by have e_ := c31; simp only [ByteArray.size_append] at e_; exact e_))
            by_cases c32 : (((t162 ++ (⟨#[32]⟩ : ByteArray)) ++ t163) ++ (⟨#[32]⟩ : ByteArray)).size + ((rd_T42 l0 x9_1).f0).size <= 9223372036854775807
            ·rw [if_pos c32] at H
             have c32b0 := eq_true c32
             have c32b1 : decide ((((t162 ++ (⟨#[32]⟩ : ByteArray)) ++ t163) ++ (⟨#[32]⟩ : ByteArray)).size + ((rd_T42 l0 x9_1).f0).size <= 9223372036854775807) = true := decide_eq_true c32
             try have c32b2 : (9223372036854775807 < (((t162 ++ (⟨#[32]⟩ : ByteArray)) ++ t163) ++ (⟨#[32]⟩ : ByteArray)).size + ((rd_T42 l0 x9_1).f0).size) = False := eq_false (Nat.not_lt.2 c32)
             try have c32b3 : (9223372036854775807 < t162.size + 1 + t163.size + 1 + ((rd_T42 l0 x9_1).f0).size) = False := eq_false (Nat.not_lt.2 (by have e_ := c32; simp only [ByteArray.size_append] at e_; exact e_))
             by_cases c33 : x4_1.length < 8796093022208
             ·rw [if_pos c33] at H
              have LMc33 := Asd.mk c33
              clear c33
              obtain ⟨y164, hy164⟩ : ∃ y_ : List ByteArray, y_ = (x4_1 ++ [(((t162 ++ (⟨#[32]⟩ : ByteArray)) ++ t163) ++ (⟨#[32]⟩ : ByteArray)) ++ ((rd_T42 l0 x9_1).f0)]) := ⟨_, rfl⟩
              replace H : (hello_Push.l0 kj4 l0 y164 l0 (l0.length : Int) (wrap64 (x9_1 + 1))) = some (r1, r2) := by first | (rw [hy164]; with_reducible exact H) | (have H2_ := (Option.bind_some _ _).symm.trans H; rw [hy164]; with_reducible exact H2_) | (have H2_ := (Option.bind_some _ _).symm.trans H; with_reducible exact H2_) | with_reducible exact H | (rw [hy164]; exact H) | exact H
              have Ny164 := Asd.mk hy164
              clear hy164
              have H' := Asd.mk H
              clear H
              try go_wp2
              have n0_ := Asd.mk (Kd.R_drew HO_4.out)
              have n1_ := Asd.mk (blk_drew BK158.out)
              have n2_ := Asd.mk (bd1 HB.out)
              clear HO_4
              clear BK158
              clear HB
              have HO_4 := n0_
              have BK158 := n1_
              have HB := n2_
              clear n0_ n1_ n2_
              refine start_ (n := 16) (S := fun w' => w'.cell? ⟨gb158, 0, none⟩ = some (.string ((rd_T42 l0 x9_1).f0)) /\ w'.cell? ⟨gb158, 1, none⟩ = some (.string ((rd_T42 l0 x9_1).f1)) /\ w'.cell? ⟨gb158, 2, none⟩ = some (.string ((rd_T42 l0 x9_1).f2))) (ds := []) (bA 16 0) (by kernel_rfl) rfl rfl ⟨(blk_cell BK158.out 0).trans rfl, (blk_cell BK158.out 1).trans rfl, (blk_cell BK158.out 2).trans rfl⟩ (fun hHeld => ?_); refine with_tabW hello_Push.tab7 hello_Push.bits7 (fun HT_ HW_ => ?_)
              generalize wc.drew = w34 at HO_4 BK158 HB hHeld ⊢
              refine pure_ (i := 0) (N := some 37) (v := ?_) (a' := ?_) (bA 16 1) rfl rfl (any_of HT_.out (by kernel_rfl)) (fun _ _ _ h => h) (Or.inl ⟨by rfl, ?_⟩) ?_ ?_
              rotate_left
              ·intro w'
               go_simp
               with_reducible rfl
              rotate_left
              ·simp only [Act.put, zA, zB, zC, i64_w, i32_w]
               rfl
              refine pure_ (i := 1) (N := some 38) (v := ?_) (a' := ?_) (bA 16 3) rfl rfl (any_of HT_.out (by kernel_rfl)) (fun _ _ _ h => h) (Or.inl ⟨by rfl, ?_⟩) ?_ ?_
              rotate_left
              ·intro w'
               go_simp
               with_reducible rfl
              rotate_left
              ·simp only [Act.put, zA, zB, zC, i64_w, i32_w]
               rfl
              refine pure_ (i := 5) (N := some 42) (v := ?_) (a' := ?_) (bA 16 35) rfl rfl (any_of HT_.out (by kernel_rfl)) (fun _ _ _ h => h) (Or.inl ⟨by rfl, ?_⟩) ?_ ?_
              rotate_left
              ·intro w'
               go_simp
               with_reducible rfl
              rotate_left
              ·simp only [Act.put, zA, zB, zC, i64_w, i32_w]
               rfl
              refine pure_ (i := 10) (N := some 47) (v := ?_) (a' := ?_) (bA 16 1059) rfl rfl (any_of HT_.out (by kernel_rfl)) (fun _ _ _ h => h) (Or.inl ⟨by rfl, ?_⟩) ?_ ?_
              rotate_left
              ·intro w'
               go_simp
               with_reducible rfl
              rotate_left
              ·simp only [Act.put, zA, zB, zC, i64_w, i32_w]
               rfl
              refine take_ (i := 2) (N := some 39) (v := ?_) (a' := ?_) (bA 16 1063) rfl rfl (take_ofW HT_.out HW_.out (by kernel_rfl)) (fun _ _ _ h => h) (Or.inl ⟨by rfl, ?_⟩) hHeld ?_ ?_
              rotate_left
              ·rintro w' ⟨s0, s1, s2⟩
               go_simp
               with_reducible rfl
              rotate_left
              ·simp only [Act.put, zA, zB, zC, i64_w, i32_w]
               rfl
              refine take_ (i := 6) (N := some 43) (v := ?_) (a' := ?_) (bA 16 1127) rfl rfl (take_ofW HT_.out HW_.out (by kernel_rfl)) (fun _ _ _ h => h) (Or.inl ⟨by rfl, ?_⟩) hHeld ?_ ?_
              rotate_left
              ·rintro w' ⟨s0, s1, s2⟩
               go_simp
               with_reducible rfl
              rotate_left
              ·simp only [Act.put, zA, zB, zC, i64_w, i32_w]
               rfl
              refine take_ (i := 11) (N := some 48) (v := ?_) (a' := ?_) (bA 16 3175) rfl rfl (take_ofW HT_.out HW_.out (by kernel_rfl)) (fun _ _ _ h => h) (Or.inl ⟨by rfl, ?_⟩) hHeld ?_ ?_
              rotate_left
              ·rintro w' ⟨s0, s1, s2⟩
               go_simp
               with_reducible rfl
              rotate_left
              ·simp only [Act.put, zA, zB, zC, i64_w, i32_w]
               rfl
              refine one_ (i := 3) (N := some 40) (bA 16 3183) rfl rfl (one_of HT_.out (by kernel_rfl)) (by decide) (fun K hK => ?_)
              refine goes_ Tryz.func38 (by kernel_rfl) rfl #[.string ((rd_T42 l0 x9_1).f1)] (by rfl) rfl rfl (by (try simp only [List.map_toArray, List.map_cons, List.map_nil]); first | done | rfl | (simp only [List.length_drop, List.length_take]; rfl)) ?_
              with_reducible refine (hello_dash.calls ((rd_T42 l0 x9_1).f1) t162 _ A27.out).mono ?_
              rintro e w' ⟨rfl, ⟨nd, rfl⟩⟩
              refine ⟨_, rfl, ?_⟩
              refine hK.out _ _ ⟨(blk_cell BK158.out 0).trans rfl, (blk_cell BK158.out 1).trans rfl, (blk_cell BK158.out 2).trans rfl⟩ (fun hHeld => ?_)
              clear hK K
              refine norm_ (a' := ?_) ?_ ?_
              rotate_left
              ·show Act.put _ (some 40) _ = _
               simp only [Act.put, zA, zB, zC, i64_w, i32_w]
               rfl
              refine pure_ (i := 4) (N := some 41) (v := ?_) (a' := ?_) (bA 16 3199) rfl rfl (any_of HT_.out (by kernel_rfl)) (fun _ _ _ h => h) (Or.inl ⟨by rfl, ?_⟩) ?_ ?_
              rotate_left
              ·intro w'
               go_simp
               with_reducible rfl
              rotate_left
              ·simp only [Act.put, zA, zB, zC, i64_w, i32_w]
               rfl
              refine one_ (i := 7) (N := some 44) (bA 16 3327) rfl rfl (one_of HT_.out (by kernel_rfl)) (by decide) (fun K hK => ?_)
              refine goes_ Tryz.func38 (by kernel_rfl) rfl #[.string ((rd_T42 l0 x9_1).f2)] (by rfl) rfl rfl (by (try simp only [List.map_toArray, List.map_cons, List.map_nil]); first | done | rfl | (simp only [List.length_drop, List.length_take]; rfl)) ?_
              with_reducible refine (hello_dash.calls ((rd_T42 l0 x9_1).f2) t163 _ A29.out).mono ?_
              rintro e w' ⟨rfl, ⟨nd, rfl⟩⟩
              refine ⟨_, rfl, ?_⟩
              refine hK.out _ _ ⟨(blk_cell BK158.out 0).trans rfl, (blk_cell BK158.out 1).trans rfl, (blk_cell BK158.out 2).trans rfl⟩ (fun hHeld => ?_)
              clear hK K
              refine norm_ (a' := ?_) ?_ ?_
              rotate_left
              ·show Act.put _ (some 44) _ = _
               simp only [Act.put, zA, zB, zC, i64_w, i32_w]
               rfl
              refine pure_ (i := 8) (N := some 45) (v := ?_) (a' := ?_) (bA 16 3583) rfl rfl (any_of HT_.out (by kernel_rfl)) (fun _ _ _ h => h) (Or.inl ⟨by rfl, ?_⟩) ?_ ?_
              rotate_left
              ·intro w'
               go_simp
               with_reducible rfl
              rotate_left
              ·simp only [Act.put, zA, zB, zC, i64_w, i32_w]
               rfl
              refine pure_ (i := 9) (N := some 46) (v := ?_) (a' := ?_) (bA 16 4095) rfl rfl (any_of HT_.out (by kernel_rfl)) (fun _ _ _ h => h) (Or.inl ⟨by rfl, ?_⟩) ?_ ?_
              rotate_left
              ·intro w'
               go_simp
               with_reducible rfl
              rotate_left
              ·simp only [Act.put, zA, zB, zC, i64_w, i32_w]
               rfl
              refine pure_ (i := 12) (N := some 49) (v := ?_) (a' := ?_) (bA 16 8191) rfl rfl (any_of HT_.out (by kernel_rfl)) (fun _ _ _ h => h) (Or.inl ⟨by rfl, ?_⟩) ?_ ?_
              rotate_left
              ·intro w'
               go_simp
               with_reducible rfl
              rotate_left
              ·simp only [Act.put, zA, zB, zC, i64_w, i32_w]
               rfl
              refine one_ (i := 13) (N := some 50) (bA 16 16383) rfl rfl (one_of HT_.out (by kernel_rfl)) (by decide) (fun K hK => ?_)
              refine value_ (w1 := ?_) (v := ?_) (by rfl) rfl ?_ ?_
              rotate_left 2
              ·go_simp
               constructor
               ·rfl
               ·rfl
              refine hK.out _ _ ⟨(blk_cell (blk_alloc BK158.out _) 0).trans rfl, (blk_cell (blk_alloc BK158.out _) 1).trans rfl, (blk_cell (blk_alloc BK158.out _) 2).trans rfl⟩ (fun hHeld => ?_)
              clear hK K
              refine norm_ (a' := ?_) ?_ ?_
              rotate_left
              ·show Act.put _ (some 50) _ = _
               simp only [Act.put, zA, zB, zC, i64_w, i32_w]
               rfl
              refine one_ (i := 14) (N := some 51) (bA 16 32767) rfl rfl (one_of HT_.out (by kernel_rfl)) (by decide) (fun K hK => ?_)
              refine Kd.R_append_step Kd.string (w0 := w) w.heap.size (by rfl) (.tmp 37) (.tmp 50) 38 9 (.string ⟨#[]⟩) 16 rfl Tryz.underlying38 info9 rfl (by decide) (by omega) u4 x4_1 ((((t162 ++ (⟨#[32]⟩ : ByteArray)) ++ t163) ++ (⟨#[32]⟩ : ByteArray)) ++ ((rd_T42 l0 x9_1).f0)) [.string ((((t162 ++ (⟨#[32]⟩ : ByteArray)) ++ t163) ++ (⟨#[32]⟩ : ByteArray)) ++ ((rd_T42 l0 x9_1).f0))] (fun _ => True) (fun _ => False) rfl rfl ?aP (fun _ hk => hk.elim) ?aF ?aO ?aB ?aS ?aL ?_
              (case aP => exact rfl)
              (case aB => exact (by repeat (first | (with_reducible first | exact HB.out | apply bal | apply pbN | apply bd1 | refine below_set ?_ GE158.out) | exact HB.out)))
              (case aF => exact (fun _ _ => trivial))
              (case aO => exact (by (with_reducible repeat (first | apply Kd.R_alloc | apply Kd.R_drewN | apply Kd.R_drew)); exact HO_4.out))
              (case aS => exact (below_size (by repeat (first | (with_reducible first | exact HB.out | apply bal | apply pbN | apply bd1 | refine below_set ?_ GE158.out) | exact HB.out))))
              (case aL => have := LMc33.out; omega)
              intro v165 w35 ho hb hg hat
              rw [<- Ny164.out] at ho
              have n0_ := Asd.mk (blk_grown (g := gb158) (o := .cells #[.string ((rd_T42 l0 x9_1).f0), .string ((rd_T42 l0 x9_1).f1), .string ((rd_T42 l0 x9_1).f2)] 42 (0, 0)) (by (with_reducible repeat (first | refine blk_drewN ?_ _ | refine blk_drew ?_ | refine blk_alloc ?_ _)); exact BK158.out) hg (Kd.R_ne HO_4.out BK158.out (by decide)))
              have n1_ := Asd.mk (hb)
              have n2_ := Asd.mk (ho)
              clear BK158
              clear HB
              clear HO_4
              have BK158 := n0_
              have HB := n1_
              have HO166 := n2_
              clear n0_ n1_ n2_
              clear ho hb hg hat
              refine hK.out _ _ ⟨(blk_cell BK158.out 0).trans rfl, (blk_cell BK158.out 1).trans rfl, (blk_cell BK158.out 2).trans rfl⟩ (fun hHeld => ?_)
              clear hK K
              refine norm_ (a' := ?_) ?_ ?_
              rotate_left
              ·show Act.put _ (some 51) _ = _
               simp only [Act.put, zA, zB, zC, i64_w, i32_w]
               rfl
              refine pure_ (i := 15) (N := some 4) (v := ?_) (a' := ?_) (bA 16 65535) rfl rfl (any_of HT_.out (by kernel_rfl)) (fun _ _ _ h => h) (Or.inl ⟨by rfl, ?_⟩) ?_ ?_
              rotate_left
              ·intro w'
               go_simp
               with_reducible rfl
              rotate_left
              ·simp only [Act.put, zA, zB, zC, i64_w, i32_w]
               rfl
              refine done_ (done_of HT_.out (by kernel_rfl)) ?_
              try go_wp2
              go_roundg kj4
              case measure => have := HK1.out; have := HJ4.out; omega
              case rel => exact ⟨(y164), (wrap64 (x9_1 + 1)), (by first | rfl | (simp; done) | (simp [*]; done)), H', ⟨by have := HK1.out; have := HJ4.out; omega⟩, ⟨by (with_reducible repeat (first | apply Kd.R_alloc | apply Kd.R_drewN | apply Kd.R_drew)); exact HO166.out⟩, ⟨by repeat (first | (with_reducible first | exact HB.out | apply bal | apply pbN | apply bd1 | refine below_set ?_ GE158.out) | exact HB.out)⟩⟩
             ·rw [if_neg c33] at H
              exact absurd H (by simp)
            ·rw [if_neg c32] at H
             exact absurd H (by simp)
           ·rw [if_neg c31] at H
            exact absurd H (by simp)
          ·rw [if_neg c30] at H
           exact absurd H (by simp)
         ·rw [if_neg c28] at H
          exact absurd H (by simp)
     ·rw [if_neg c4] at H
      exact absurd H (by simp)
    ·rw [if_neg c3] at H
     exact absurd H (by simp)
   ·rw [if_neg c2] at H
    have c2b0 : decide (x9_1 < (l0.length : Int)) = false := decide_eq_false c2
    clear c2
    by_cases c36 : (l0.length : Int) = 0
    ·rw [if_pos c36] at H
     have c36b0 : ((l0.length : Int) == 0) = true := beq_iff_eq.mpr c36
     have c36b1 : ((l0.length : Int) != 0) = false := bne_eq_false_iff_eq.mpr c36
     clear c36
     simp only [Option.some.injEq, Prod.mk.injEq] at H
     obtain ⟨rfl, rfl⟩ := H
     go_wp2
     go_ret2
     exact ⟨_, by first | rfl | (simp [errW_none, errW_some] <;> rfl) | (simp [*, errW_none, errW_some] <;> rfl), by first | exact Kd.R_nil _ _ _ _ _ | exact Kd.N_nil _ _ _ _ _ | exact Kd.V_nil _ _ _ _ _ | exact Kd.Q_nil _ _ _ _ _ | exact Kd.S_nil _ _ _ _ _, by repeat (first | (with_reducible first | exact HB.out | apply bal | apply pbN | apply bd1) | exact HB.out)⟩
    ·rw [if_neg c36] at H
     have c36b0 : ((l0.length : Int) == 0) = false := beq_eq_false_iff_ne.mpr c36
     have c36b1 : ((l0.length : Int) != 0) = true := bne_iff_ne.mpr c36
     have c36b2 : ¬ (l0 = []) := fun h_ => c36 (by rw [h_]; rfl)
     by_cases c37 : (l0.length : Int) > 16
     ·rw [if_pos c37] at H
      have c37b0 : decide (16 < (l0.length : Int)) = true := decide_eq_true c37
      have c37b1 : decide (16 < l0.length) = true := decide_eq_true (by omega)
      clear c37
      simp only [Option.some.injEq, Prod.mk.injEq] at H
      obtain ⟨rfl, rfl⟩ := H
      go_wp2
      go_ret2
      exact ⟨_, by first | rfl | (simp [errW_none, errW_some] <;> rfl) | (simp [*, errW_none, errW_some] <;> rfl), by first | exact Kd.R_nil _ _ _ _ _ | exact Kd.N_nil _ _ _ _ _ | exact Kd.V_nil _ _ _ _ _ | exact Kd.Q_nil _ _ _ _ _ | exact Kd.S_nil _ _ _ _ _, by repeat (first | (with_reducible first | exact HB.out | apply bal | apply pbN | apply bd1) | exact HB.out)⟩
     ·rw [if_neg c37] at H
      have c37b0 : decide (16 < (l0.length : Int)) = false := decide_eq_false c37
      have c37b1 : decide (16 < l0.length) = false := decide_eq_false (by omega)
      clear c37
      replace H := Option.bind_eq_some_iff.mp H
      obtain ⟨t154, A380, H⟩ := H
      replace H : (some (t154, true)) = some (r1, r2) := H
      have A38 := Asd.mk A380
      clear A380
      simp only [Option.some.injEq, Prod.mk.injEq] at H
      obtain ⟨rfl, rfl⟩ := H
      obtain ⟨Ao39, co39, eo39⟩ := Kd.R_slice HO_4.out
      subst eo39
      go_wp2_with (first | ((with_reducible refine gate_callee (f := 36) rfl ?_); refine goesL_ (some 62) rfl rfl Tryz.func36 (by kernel_rfl) rfl #[.slice Ao39 x4_1.length co39] rfl (by (try simp only [List.map_toArray, List.map_cons, List.map_nil]); first | done | rfl | (simp only [List.length_drop, List.length_take]; rfl)) ?_; (with_reducible refine (hello_ended.calls k1 _ _ x4_1 t154 _ ?side1 ?side2 A38.out).mono ?_); (case side1 => repeat (first | exact (Kd.R_reads' HO_4.out).2.2 | (with_reducible refine Kd.C_alloc ?_ _) | (with_reducible refine Kd.C_drewN ?_ _) | (with_reducible refine Kd.C_drew ?_))); (case side2 => exact (Kd.R_reads' HO_4.out).2.1); rintro e w40 ⟨v155, rfl, ho0, hb⟩; refine ⟨_, rfl, ?_⟩; have n0_ := Asd.mk (Kd.R_below (by (with_reducible repeat (first | apply Kd.R_alloc | apply Kd.R_drewN | apply Kd.R_drew)); exact HO_4.out) hb); have n1_ := Asd.mk (Kd.R_lower ho0 (below_size (by repeat (first | (with_reducible first | exact HB.out | apply bal | apply pbN | apply bd1) | exact HB.out)))); have n2_ := Asd.mk (below_step (by repeat (first | (with_reducible first | exact HB.out | apply bal | apply pbN | apply bd1) | exact HB.out)) hb); clear HO_4; clear HB; have HO_4 := n0_; have HO156 := n1_; have HB := n2_; clear n0_ n1_ n2_; (try clear hb); (try clear hb2); (try clear hk); (try clear hi); (try clear ho0)))
      go_ret2
      exact ⟨_, by first | rfl | (simp [errW_none, errW_some] <;> rfl) | (simp [*, errW_none, errW_some] <;> rfl), by (with_reducible repeat (first | apply Kd.R_alloc | apply Kd.R_drewN | apply Kd.R_drew)); exact HO156.out, by repeat (first | (with_reducible first | exact HB.out | apply bal | apply pbN | apply bd1) | exact HB.out)⟩
section
attribute [local go_sem] Oper.semAt_some
theorem cut_three (A : Option Addr) (c : Nat) (xs : List Int) (a b : Int) (h0 : 0 <= a) (h1 : a < b) (hm : b <= xs.length) (hc : xs.length <= c) :
  ∃ A' : Option Addr, (∀ W : World, (Instr.slice 22 (.slice A xs.length c) (some (.int .i64 a)) (some (.int .i64 b)) (some (.int .i64 b))).run Tryz.prog W = .ok (.slice A' ((xs.take b.toNat).drop a.toNat).length ((xs.take b.toNat).drop a.toNat).length) W) /\
   (∀ w : World, ReadsOf (Value.int .u8) 0 w A xs.length xs -> ReadsOf (Value.int .u8) 0 w A' ((xs.take b.toNat).drop a.toNat).length ((xs.take b.toNat).drop a.toNat)) := by
 obtain ⟨i, hi, _, hsz, _⟩ := info_parts info5
 have hlt : (xs.take b.toNat).length = b.toNat := by rw [List.length_take]; omega
 have hl : ((xs.take b.toNat).drop a.toNat).length = b.toNat - a.toNat := by rw [List.length_drop, hlt]
 refine ⟨if b.toNat = a.toNat then A else A.map (·.add a.toNat), fun W => ?_, fun w h => ?_⟩
 ·have hel : Tryz.prog.elem 22 = 5 := by simp [Program.elem, Tryz.underlying22]
  have hu : Tryz.prog.underlying 22 = some (.slice (Tryz.prog.elem 22)) := by rw [hel]; exact Tryz.underlying22
  rw [run_slice_lhm W 22 A xs.length c hu .i64 .i64 .i64 a b b h0 (by omega) (by omega) (by omega), hel, hl]
  simp [sizeOf, typeInfo, hi, hsz, sliced, Result.andThen]
 ·have h2 := (h.take_ b.toNat (by omega)).drop_ (c := b.toNat) a.toNat (by omega) (by omega)
  rw [hl]
  exact h2
def pieces (b : List Int) : List (List Int) := (List.range ((b.length + 3999) / 4000)).map fun i => (b.drop (4000 * i)).take 4000
abbrev Piece (w : World) := { p : Option Addr × List Int // Kd.C (Kd.int .u8) w p.1 p.2.length p.2 }
def pval {w : World} (p : Piece w) : Array Value := #[.slice p.1.1 p.1.2.length p.1.2.length]
set_option maxRecDepth 100000 in
set_option maxHeartbeats 4000000 in
theorem line_chunks (b : List Int) (w w0 : World) (Bs Bn : Nat) (A : Option Addr) (c : Nat) (hsn : Bs ≠ Bn) (hBs : w.heap.size <= Bs) (hBn : w.heap.size <= Bn) (hw : Below w.heap.size w w0) (hlim : b.length < 140737488355328)
  (hS : w0.heap[Bs]? = some (.cells #[.slice A b.length c] 22 (0, 0))) (hN : w0.heap[Bn]? = some (.cells #[.int .i64 4000] 3 (0, 0))) (hC : Kd.C (Kd.int .u8) w A b.length b) (hc : b.length <= c) :
  Go.Sep.SeqSep Tryz.prog 72 #[.pointer (some ⟨Bs, 0, none⟩), .pointer (some ⟨Bn, 0, none⟩)] (pval (w := w)) (fun k => k < w.heap.size ∨ k = Bs ∨ k = Bn) (fun _ => False)
   (fun xs _ => xs.map (fun p => p.1.2) = pieces b) (fun _ _ => True) ((b.length + 3999) / 4000) w0 := by
 intro l J Jx Fp W hsz hFiW hdisj hFpl hSJ hSJx hround hJ0
 refine callsIn_of_wp Tryz.func72 rfl trivial ?_ rfl
 simp only [Tryz.ntmps72, List.size_toArray, List.length_cons, List.length_nil, Nat.reduceAdd, Nat.reduceSub, Array.replicate_succ, Array.replicate_zero, List.push_toArray, List.append_toArray, List.nil_append, List.cons_append]
 gi_wp2
 gi_loopw [4] (fun v4 wr => ∃ (Fq : Nat -> Prop) (pre : List (Piece w)) (q : Nat), v4 = .int .i64 q /\ Asd (q = 4000 * pre.length) /\ Asd (pre.map (fun p => p.1.2) = (List.range pre.length).map fun i => (b.drop (4000 * i)).take 4000) /\ Asd (q < b.length + 4000) /\ J Fq pre wr /\ Go.Sep.KeepEx Fp W wr /\ (∀ k, Fq k -> (Fp k ∨ W.heap.size <= k) /\ ¬ (k < w.heap.size ∨ k = Bs ∨ k = Bn) /\ k < wr.heap.size))
  (fun v4 _ => b.length + 4000 - (intOf v4).toNat)
 case atStart => exact ⟨Fp, [], 0, rfl, ⟨rfl⟩, ⟨rfl⟩, ⟨by omega⟩, hJ0, Go.Sep.KeepEx.refl _ _, fun k hk => ⟨.inl hk, hdisj k hk, hFpl k hk⟩⟩
 case round =>
  obtain ⟨Fq, pre, q, rfl, Hq, Hpre, Hqb, hJq, hkeep, hFq⟩ := hrel
  have hFi : ∀ k, (k < w.heap.size ∨ k = Bs ∨ k = Bn) -> wr.heap[k]? = w0.heap[k]? := fun k hk =>
   (hkeep.block k (by have := hw.size; have := (Array.getElem?_eq_some_iff.1 hS).1; have := (Array.getElem?_eq_some_iff.1 hN).1; omega) (fun h => hdisj k h hk)).trans (hFiW k hk)
  have hs0 : wr.cell? ⟨Bs, 0, none⟩ = some (.slice A b.length c) := (cell_of_row wr Bs 0 _ _ _ ((hFi Bs (.inr (.inl rfl))).trans hS)).trans rfl
  have hn0 : wr.cell? ⟨Bn, 0, none⟩ = some (.int .i64 4000) := (cell_of_row wr Bn 0 _ _ _ ((hFi Bn (.inr (.inr rfl))).trans hN)).trans rfl
  by_cases hlt : q < b.length
  ·have t1 : decide ((q : Int) < (b.length : Int)) = true := by simpa using hlt
   have t2 : decide (q < b.length) = true := by simpa using hlt
   obtain ⟨i0, hi0, _, hsz1, _⟩ := info_parts info5
   obtain ⟨A1, hcut1, _, _⟩ := print_drop_of (P := Tryz.prog) (Value.int .u8) 0 22 5 .i64 Tryz.underlying22 hi0 hsz1 A c b (q : Int) (by omega) (by omega) hc
   obtain ⟨e, he⟩ : ∃ e : Nat, e = min 4000 (b.length - q) := ⟨_, rfl⟩
   obtain ⟨A2, hcut2, hrd2⟩ := cut_three A c b (q : Int) ((q : Int) + (e : Int)) (by omega) (by omega) (by omega) hc
   have hy1 : (b.drop (q : Int).toNat).length = b.length - q := by simp
   generalize hyd : b.drop (q : Int).toNat = y1 at hcut1 hy1
   gi_wp2
   gi_region
   have hmin : (if ((b.length - q : Nat) : Int) < 4000 then ((b.length - q : Nat) : Int) else 4000) = (e : Int) := by split <;> omega
   rw [hmin]
   obtain ⟨W3, hW3⟩ : ∃ W3, W3 = wr.drew := ⟨_, rfl⟩
   rw [<- hW3]
   have hh3 : ∀ k : Nat, W3.heap[k]? = wr.heap[k]? := fun k => by rw [hW3]; rfl
   have hz3 : W3.heap.size = wr.heap.size := by rw [hW3]; rfl
   have hk3 : Go.Sep.KeepEx Fp W W3 := by rw [hW3]; exact hkeep.drew
   have hs3 : W3.cell? ⟨Bs, 0, none⟩ = some (.slice A b.length c) := by rw [hW3]; exact hs0
   have hj3 : J Fq pre W3 := hSJ _ _ _ _ hJq (fun k _ => hh3 k)
   have hC2 := Kd.C_of_reads (h1 := fun _ => rfl) (hrd2 _ (Kd.reads_of_C hC))
   have hyl : ((b.take ((q : Int) + (e : Int)).toNat).drop (q : Int).toNat) = (b.drop (4000 * pre.length)).take 4000 := by
    have := Hq.out
    have h1 : ((q : Int) + (e : Int)).toNat = q + e := by omega
    have h2 : (q : Int).toNat = q := by omega
    rw [h1, h2, <- this, List.drop_take]
    have h3 : q + e - q = e := by omega
    rw [h3]
    rcases Nat.le_total 4000 (b.length - q) with h | h
    ·rw [show e = 4000 by omega]
    ·rw [List.take_of_length_le (by simp; omega), List.take_of_length_le (by simp; omega)]
   generalize hy2 : ((b.take ((q : Int) + (e : Int)).toNat).drop (q : Int).toNat) = y2 at hC2 hcut2 hyl
   obtain ⟨fn, tmps, assign, body, hy3, hR⟩ := hround Fq pre ⟨(A2, y2), hC2⟩ W3 hj3 (by have := Hq.out; omega) (by have := hkeep.size; omega) (fun k hk => (hFq k hk).2.1) (fun k hk => by have := (hFq k hk).2.2; omega) (fun k h1 _ => (hh3 k).trans ((hFi k h1).trans (hFiW k h1).symm))
   simp only [pval] at hy3
   have HE := Asd.mk he
   have HY := Asd.mk hyl
   have b1 : (0 : Int) <= (e : Int) := by omega
   have b2 : (e : Int) <= 4000 := by omega
   have b3 : (q : Int) <= 140737488355328 := by omega
   clear hW3 hs0 hn0 hmin hy2 hyd hy1 hcut1 he hyl hrd2 hi0 hsz1
   gi_wp2
   refine ⟨rfl, hR.mono ?_⟩
   rintro e' W4 ⟨Fr, hk4, hFr, hor⟩
   have hn4 : W4.cell? ⟨Bn, 0, none⟩ = some (.int .i64 4000) := by
    have hb : W4.heap[Bn]? = some (.cells #[.int .i64 4000] 3 (0, 0)) := (hk4.block Bn (by rw [hz3]; have := hkeep.size; have := (Array.getElem?_eq_some_iff.1 hN).1; omega) (fun h => (hFq Bn h).2.1 (.inr (.inr rfl)))).trans ((hh3 Bn).trans ((hFi Bn (.inr (.inr rfl))).trans hN))
    exact (cell_of_row W4 Bn 0 _ _ _ hb).trans rfl
   have hk5 : Go.Sep.KeepEx Fp W W4 := hk3.trans hk4 (fun _ e => e) (fun k hk => (hFq k hk).1)
   have hFr5 : ∀ k, Fr k -> (Fp k ∨ W.heap.size <= k) /\ ¬ (k < w.heap.size ∨ k = Bs ∨ k = Bn) /\ k < W4.heap.size := fun k hk => by
    rcases (hFr k hk).1 with h | h
    ·exact ⟨(hFq k h).1, (hFq k h).2.1, (hFr k hk).2⟩
    ·have := hkeep.size; have := hw.size; have := (Array.getElem?_eq_some_iff.1 hS).1; have := (Array.getElem?_eq_some_iff.1 hN).1; exact ⟨.inr (by omega), fun h' => by omega, (hFr k hk).2⟩
   rcases hor with ⟨rfl, hj4⟩ | ⟨rfl, hj4⟩
   ·gi_wp2
    go_roundw
    case rel =>
     refine ⟨Fr, pre ++ [⟨(A2, y2), hC2⟩], q + 4000, by go_num, ⟨by have := Hq.out; simp; omega⟩, ⟨?_⟩, ⟨by omega⟩, hj4, hk5, hFr5⟩
     rw [List.length_append, List.length_singleton, List.range_succ, List.map_append, List.map_append, Hpre.out]
     simp only [List.map_cons, List.map_nil]
     rw [HY.out]
    case measure => simp [intOf]; omega
   ·gi_wp2
    refine bodyPost_ret (results_none rfl _ _ _) rfl ?_
    exact ⟨⟨_, rfl⟩, Fr, hk5.mono (fun i h => .inl (.inl h)), hFr5, .inr ⟨_, trivial, hj4⟩⟩
  ·have t1 : decide ((q : Int) < (b.length : Int)) = false := by simpa using hlt
   have t2 : decide (q < b.length) = false := by simpa using hlt
   gi_wp2
   go_end0
   refine ⟨⟨_, rfl⟩, Fq, hkeep.mono (fun i h => .inl (.inl h)), hFq, .inl ⟨pre, ?_, hJq⟩⟩
   rw [Hpre.out]
   unfold pieces
   rw [show (b.length + 3999) / 4000 = pre.length by have := Hq.out; have := Hqb.out; omega]
theorem line_chunk_any (A : Option Addr) (n c : Nat) (w : World) : Calls Tryz.prog 47 #[.slice A n c, .int .i64 4000] w fun e w' => e = .returned (.func (.func 72) #[] #[.pointer (some ⟨w.heap.size, 0, none⟩), .pointer (some ⟨w.heap.size + 1, 0, none⟩)]) /\ w' = (w.alloc (.cells #[.slice A n c] 22)).alloc (.cells #[.int .i64 4000] 3) := by
 go_enter Tryz.func47, Tryz.ntmps47
 go_wp2
 first
 | exact ⟨rfl, rfl⟩
 | (go_ret; exact ⟨rfl, rfl⟩)
def lineOf (p : List Int) : S65 := ⟨false, strOfNums p⟩
def line_Parts.f (l0 : List Int) : Option (List S65) := if l0.length < 140737488355328 then some ((pieces l0).map lineOf ++ [⟨true, ⟨#[]⟩⟩]) else none
set_option maxRecDepth 100000 in
set_option maxHeartbeats 4000000 in
theorem line_Parts.calls (A0 : Option Addr) (c0 : Nat) (l0 : List Int) (r : List S65) (w : World) (hr0 : Kd.C (Kd.int .u8) w A0 l0.length l0) (hc0 : l0.length <= c0) (h : line_Parts.f l0 = some r) :
  Calls Tryz.prog 29 #[.slice A0 l0.length c0] w fun e w' => ∃ v0_ : Value, e = .returned (v0_) /\ Kd.R k65 65 w' w.heap.size (fun _ => True) v0_ r /\ Below w.heap.size w w' := by
 unfold line_Parts.f at h
 split at h
 case isFalse => cases h
 case isTrue hlim =>
 obtain rfl := Option.some.inj h
 obtain ⟨i0, hi, hz0, hz1, hz2⟩ := info_parts infoL
 obtain ⟨W2, hW2⟩ : ∃ W2, W2 = ((w.alloc (.cells #[.slice none 0 0] 46)).alloc (.cells #[.slice A0 l0.length c0] 22)).alloc (.cells #[.int .i64 4000] 3) := ⟨_, rfl⟩
 have hz2' : W2.heap.size = w.heap.size + 3 := by rw [hW2]; simp
 have hb2 : Below w.heap.size w W2 := by rw [hW2]; exact bal (bal (bal (Below.refl _ _) _) _) _
 have hO2 : Boxed W2 w.heap.size 46 (.slice none 0 0) := by rw [hW2]; exact ((Boxed.new w 46 (.slice none 0 0)).alloc _).alloc _
 have hS2 : W2.heap[w.heap.size + 1]? = some (.cells #[.slice A0 l0.length c0] 22 (0, 0)) := by
  rw [hW2]; have := (Boxed.new (w.alloc (.cells #[.slice none 0 0] 46)) 22 (.slice A0 l0.length c0)).alloc (.cells #[.int .i64 4000] 3); rw [World.size_alloc] at this; exact this
 have hN2 : W2.heap[w.heap.size + 1 + 1]? = some (.cells #[.int .i64 4000] 3 (0, 0)) := by
  rw [hW2]; have := Boxed.new ((w.alloc (.cells #[.slice none 0 0] 46)).alloc (.cells #[.slice A0 l0.length c0] 22)) 3 (.int .i64 4000); rw [World.size_alloc, World.size_alloc] at this; exact this
 have hseq := line_chunks l0 w W2 (w.heap.size + 1) (w.heap.size + 1 + 1) A0 c0 (by omega) (by omega) (by omega) hb2 hlim hS2 hN2 hr0 hc0
 refine (callsIn_wide (n := 0)).1 (callsIn_of_wp_marks Tryz.func29 rfl trivial ?_ rfl)
 simp only [Tryz.ntmps29, List.size_toArray, List.length_cons, List.length_nil, Nat.reduceAdd, Nat.reduceSub, Array.replicate_succ, Array.replicate_zero, List.push_toArray, List.append_toArray, List.nil_append, List.cons_append]
 have HSEQ := Asd.mk hseq
 have HO := Asd.mk hO2
 have HZ := Asd.mk hz2'
 have HB := Asd.mk hb2
 have HW := Asd.mk hW2
 have HR0 := Asd.mk hr0
 clear hseq hO2 hz2' hb2 hW2 hS2 hN2 hr0
 gi_wp2_with (refine ⟨trivial, rfl, ?_⟩; gi_at_call 47; refine (callsIn_wide.2 (line_chunk_any _ _ _ _)).mono ?_; rintro e w' ⟨rfl, rfl⟩)
 rw [<- HW.out]
 refine Go.Sep.wpIn_rangeFunc_sep rfl (enters_of Tryz.func72 (by kernel_rfl) rfl) HSEQ.out (Nat.le_refl _) (fun k hk => rfl) (fun k hk => by have := HZ.out; omega) (fun _ => rfl) (fun _ _ _ h _ => h) (fun _ _ _ _ _ => trivial)
  (fun Fq pre W => ∃ v, Boxed W w.heap.size 46 v /\ W.ownsRow w.heap.size 65 2 v pre.length (lcells (pre.map fun p => lineOf p.1.2)) /\ Fq w.heap.size /\ ∀ k, v.ownBlock = some k -> Fq k)
  (fun _ _ _ _ => False) ?sI (fun _ _ _ _ _ h _ => h) (fun k => k = w.heap.size) ?d1 ?d2 ?h0
  (fun Fq p W => (∃ v, Boxed W w.heap.size 46 v /\ W.ownsRow w.heap.size 65 2 v p.1.length (lcells (p.1.map fun p => lineOf p.1.2)) /\ Fq w.heap.size /\ ∀ k, v.ownBlock = some k -> Fq k) /\ p.2.2 = { tmps := #[.slice A0 l0.length c0, undef, .slice none 0 0, .pointer (some ⟨w.heap.size, 0, none⟩), .slice p.2.1.1.1 p.2.1.1.2.length p.2.1.1.2.length, .slice A0 l0.length c0, .func (.func 72) #[] #[.pointer (some ⟨w.heap.size + 1, 0, none⟩), .pointer (some ⟨w.heap.size + 1 + 1, 0, none⟩)], .slice p.2.1.1.1 p.2.1.1.2.length p.2.1.1.2.length, undef, undef, undef, undef, undef, undef, undef, undef, undef, undef], defers := [] })
  ?sM ?assign ?body ?done ?stop
 case sI =>
  rintro Fq pre W W' ⟨v, hv, hr, hB, hb⟩ h
  exact ⟨v, (h _ hB).trans hv, own_move hr (fun k hk => h k (hb k hk)), hB, hb⟩
 case d1 =>
  rintro k rfl hk
  omega
 case d2 =>
  rintro k rfl
  have := HZ.out; omega
 case h0 => exact ⟨_, HO.out, World.ownsRow_nil _ _ _ _, rfl, by simp [Value.ownBlock]⟩
 case sM =>
  rintro Fq ⟨pre, x, a'⟩ W W' ⟨⟨v, hv, hr, hB, hb⟩, h3⟩ h
  exact ⟨⟨v, (h _ hB).trans hv, own_move hr (fun k hk => h k (hb k hk)), hB, hb⟩, h3⟩
 case assign =>
  rintro l Fq pre x W ⟨v, hv, hr, hB, hb⟩ hsz hFql hro
  simp only [pval, List.zip_toArray, List.zip_cons_cons, List.zip_nil_right, List.foldl_toArray', List.foldl_cons, List.foldl_nil]
  gi_wp2
  first
  | exact ⟨Fq, Go.Sep.KeepEx.refl _ _, fun k hk => ⟨.inl hk, hFql k hk⟩, ⟨v, hv, hr, hB, hb⟩, trivial⟩
  | exact ⟨Fq, Go.Sep.KeepEx.refl _ _, fun k hk => ⟨.inl hk, hFql k hk⟩, ⟨v, hv, hr, hB, hb⟩, rfl⟩
 case body =>
  rintro l Fq pre x a' W ⟨⟨v, hv, hr, hB, hb⟩, h3⟩ hlen hsz hFql hro
  dsimp only at hv hr h3
  subst h3
  have hc := hv.cell
  have hf := hv.frozen
  have hBs : w.heap.size <= W.heap.size := by have := HZ.out; omega
  have hCW : Kd.C (Kd.int .u8) W x.1.1 x.1.2.length x.1.2 := Kd.C_F (Kd.heap_int .u8) x.2 W (fun k hk _ => (hro k (.inl hk) (fun h => h)).trans (HB.out.block k hk))
  have hcv := Kd.C_string (P := Tryz.prog) (src := 22) (dst := 9) (c := x.1.2.length) Tryz.underlying22 Tryz.underlying5 Tryz.underlying9 hCW
  have hpl : (pre.length + 1) * 24 <= 140737488355328 := by omega
  have HROW := Asd.mk hr
  clear hCW hro
  gi_wp2_with (gi_at_builtin; refine wpListIn_append_own_at _ rfl _ _ 46 rfl w.heap.size 65 i0 _ 2 24 Tryz.underlying46 hi hz0 hz1 hz2 rfl (by decide) _ _ _ rfl (HROW.out.alloc _) ⟨W.heap.size, 0, none⟩ 1 1 [.bool false, .string (strOfNums x.1.2)] rfl rfl ?c1 ?c2 ?c3 ?c4 ?c5 ?_; (case c1 => exact cell_two_new _ _ _ _); (case c2 => simp [Value.oneCell']); (case c3 => unfold maxLen; omega); (case c4 => omega); (case c5 => simp; omega); intro v' w1 hown' hgrow _ hat; obtain ⟨g', cap', rfl⟩ := ownsRow_succ hown'; obtain ⟨hv1, hv2, hr2, hk2, hb2⟩ := hv.appended (by decide) HROW.out hBs (Nat.le_refl _) hown' hgrow; have hc1 := hv1.cell; have hf1 := hv1.frozen)
  have hg' : Fq g' ∨ W.heap.size <= g' := by
   rcases hat with h | h
   ·exact .inl (hb g' (Eq.symm h))
   ·exact .inr (by have h2 : some g' = some (W.alloc (.cells #[.bool false, .string (strOfNums x.1.2)] 65)).heap.size := h; simp at h2; omega)
  refine ⟨fun k => Fq k ∨ k = g', ((Go.Sep.KeepEx.refl Fq W).alloc _ |>.trans (Go.Sep.KeepEx.of_grownBy (Fp := Fq) hgrow (fun k e => .inl (hb k e))) (fun _ e => e) (fun _ e => .inl e)).setCell ⟨w.heap.size, 0, none⟩ _ (.inl hB), ?_, _, hv2, ?_, .inl hB, ?_⟩
  ·rintro k (hk | rfl)
   ·exact ⟨.inl hk, by have := hFql k hk; have := hk2.size; omega⟩
   ·exact ⟨hg', own_lt hr2 _ rfl⟩
  ·rw [List.map_append, List.map_singleton, lcells_snoc]; simpa [lineOf] using hr2
  ·intro k hk
   right
   simpa [Value.ownBlock] using hk.symm
 case done =>
  rintro D Fq xs W hD hFqD hSx ⟨v, hv, hr, hB, hb⟩ hkeep hFql hK
  have hc := hv.cell
  have hBs : w.heap.size <= W.heap.size := by have := HZ.out; have := hkeep.size; omega
  have hxl : xs.length = (l0.length + 3999) / 4000 := by have := congrArg List.length hSx; simpa [pieces] using this
  have hpl : (xs.length + 1) * 24 <= 140737488355328 := by omega
  have HROW := Asd.mk hr
  have HK := Asd.mk hK
  have HKEEP := Asd.mk hkeep
  have HX := Asd.mk hSx
  clear hr hK hkeep hSx hxl
  gi_wp2_with (gi_at_builtin; refine wpListIn_append_own_at _ rfl _ _ 46 rfl w.heap.size 65 i0 _ 2 24 Tryz.underlying46 hi hz0 hz1 hz2 rfl (by decide) _ _ _ rfl (HROW.out.alloc _) ⟨W.heap.size, 0, none⟩ 1 1 [.bool true, .string ⟨#[]⟩] rfl rfl ?c1 ?c2 ?c3 ?c4 ?c5 ?_; (case c1 => exact cell_two_new _ _ _ _); (case c2 => simp [Value.oneCell']); (case c3 => unfold maxLen; omega); (case c4 => omega); (case c5 => simp; omega); intro v' w1 hown' hgrow _ hat)
  have hDb : some D ≠ v.ownBlock := fun e => hFqD (hb D e.symm)
  have hDl : D < W.heap.size := (Array.getElem?_eq_some_iff.1 HK.out).1
  have hK1 : w1.heap[D]? = some (.deferred (some [])) := (hgrow.block D (by simp; omega) hDb).trans ((Below.heap_alloc _ _ _ hDl).trans HK.out)
  refine ⟨by simp, .inl ⟨_, _, rfl, run_takeDeferred hK1, ?_⟩⟩
  have hcells : lcells (xs.map fun p => lineOf p.1.2) ++ [.bool true, .string ⟨#[]⟩] = lcells ((pieces l0).map lineOf ++ [⟨true, ⟨#[]⟩⟩]) := by
   rw [lcells_snoc, <- HX.out, List.map_map]; rfl
  have hlen : xs.length + 1 = ((pieces l0).map lineOf ++ ([⟨true, ⟨#[]⟩⟩] : List S65)).length := by rw [<- HX.out]; simp
  have hown2 := ownsRow_putObj hown' (.deferred none) hK1 rfl
  rw [hcells, hlen] at hown2
  have hkk : Go.Sep.KeepEx (fun k => w.heap.size <= k) w (w1.putObj D (.deferred none)) :=
   ((((Go.Sep.KeepEx.of_below HB.out).trans HKEEP.out (fun _ e => e) (fun k hk => .inl (by rcases hk with rfl | hk; exact Nat.le_refl _; exact hk.elim))).alloc _).trans (Go.Sep.KeepEx.of_grownBy (Fp := fun k => w.heap.size <= k) hgrow (fun k e => .inl (own_base HROW.out k e))) (fun _ e => e) (fun _ e => .inl e)).trans (Go.Sep.KeepEx.putObj (Fp := fun k => k = D) w1 D _ rfl) (fun _ e => e) (fun k hk => .inl (by have := HZ.out; omega))
  exact ⟨_, results_tmp rfl _ _ _, v', rfl, (⟨fun _ _ => trivial, _, hown2, lcells_reps _⟩ : Kd.R k65 65 _ w.heap.size (fun _ => True) v' _), hkk.below (Nat.le_refl _) (fun _ e => e)⟩
 case stop =>
  rintro D c Fq pre W _ _ _ h
  exact h.elim
end
end Go.Proofs.YtemkgdpfkbpnpaaGreatDoor.Print
