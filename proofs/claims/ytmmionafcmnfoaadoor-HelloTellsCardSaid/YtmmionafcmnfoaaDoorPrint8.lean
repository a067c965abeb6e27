/- Functions of the program as plain functions, and proofs that the program's calls tell what these tell. Written by a program. -/
import Derived.Test.YtmmionafcmnfoaaDoorPrint0
import Derived.Test.YtmmionafcmnfoaaDoorPrint1
import Derived.Test.YtmmionafcmnfoaaDoorPrint4
import Derived.Test.YtmmionafcmnfoaaDoorPrint6
import Derived.Test.YtmmionafcmnfoaaDoorPrint7
namespace Go.Proofs.YtmmionafcmnfoaaDoor.Print
open Go.RowKit Go.Proofs.YtmmionafcmnfoaaDoorW.PrintWords Go.Proofs.YtmmionafcmnfoaaDoorW.PrintLast Go.Proofs.YtmmionafcmnfoaaDoorW.PrintMore Go.Proofs.YtmmionafcmnfoaaDoor.Conv
attribute [local go_sem] max2_int min2_int max_two min_two max_three min_three max_four min_four
set_option linter.unusedVariables false
set_option linter.unusedSimpArgs false
attribute [local go_sem high] eqA49
mutual
def hello_texts.l0 : Nat -> List (S49) -> List ByteArray -> List (S49) -> Int -> Int -> Option (List ByteArray)
 | 0, _, _, _, _, _ => none
 | k + 1, x0, x3, x9, x10, x11 => if x11 < x10 then (if 0 <= x11 then (if x11 < (x9.length : Int) then ((strings_CutSuffix.f ((rd_T49 x9 x11).f1) (⟨#[10]⟩ : ByteArray)).bind fun bt161 => (if x11 = (wrap64 ((x0.length : Int) - 1)) then (hello_texts.j1 k x0 x3 bt161.1 bt161.2 x9 x10 x11 (((rd_T49 x9 x11).f0) && ((((rd_T49 x9 x11).f1).toList) == ([] : List UInt8))) ((rd_T49 x9 x11).f0) ((rd_T49 x9 x11).f1)) else (hello_texts.j1 k x0 x3 bt161.1 bt161.2 x9 x10 x11 false ((rd_T49 x9 x11).f0) ((rd_T49 x9 x11).f1)))) else (none)) else (none)) else (some ([] : List ByteArray))
def hello_texts.j1 : Nat -> List (S49) -> List ByteArray -> ByteArray -> Bool -> List (S49) -> Int -> Int -> Bool -> Bool -> ByteArray -> Option (List ByteArray)
 | 0, _, _, _, _, _, _, _, _, _, _ => none
 | k + 1, x0, x3, x6, x7, x9, x10, x11, x22, x161000, x161001 => if x22 = true then (some x3) else (if x7 = true then (if x161000 = true then (some ([] : List ByteArray)) else (if x3.length < 8796093022208 then (hello_texts.l0 k x0 (x3 ++ [x6]) x9 x10 (wrap64 (x11 + 1))) else (none))) else (some ([] : List ByteArray)))
end
def hello_texts.f (k : Nat) (l0 : List (S49)) : Option (List ByteArray) := hello_texts.l0 k l0 (([] : List ByteArray)) l0 (l0.length : Int) 0
set_option maxHeartbeats 8000000 in
set_option maxRecDepth 100000 in
theorem hello_texts.calls (k : Nat) (A0 : Option Addr) (c0 : Nat) (l0 : List (S49)) (r : List ByteArray) (w : World) (hr0 : Kd.C k49 w A0 l0.length l0) (hc0 : l0.length <= c0) (h : hello_texts.f k l0 = some r) :
  Calls Tryd.prog 46 #[.slice A0 l0.length c0] w fun e w' => ∃ v0_ : Value, e = .returned (v0_) /\ Kd.R Kd.string 9 w' w.heap.size (fun _ => True) v0_ r /\ Below w.heap.size w w' := by
 have hu49 := Tryd.underlying49
 have HR0 := Asd.mk hr0
 have HC0 := Asd.mk hc0
 clear hr0 hc0
 have HB := Asd.mk (Below.refl w.heap.size w)
 have H : (hello_texts.l0 k l0 (([] : List ByteArray)) l0 (l0.length : Int) 0) = some r := h
 clear h
 obtain ⟨y156, hy156⟩ : ∃ y_ : List ByteArray, y_ = (([] : List ByteArray)) := ⟨_, rfl⟩
 replace H : (hello_texts.l0 k l0 y156 l0 (l0.length : Int) 0) = some r := by first | (rw [hy156]; with_reducible exact H) | (have H2_ := (Option.bind_some _ _).symm.trans H; rw [hy156]; with_reducible exact H2_) | (have H2_ := (Option.bind_some _ _).symm.trans H; with_reducible exact H2_) | with_reducible exact H | (rw [hy156]; exact H) | exact H
 have Ny156 := Asd.mk hy156
 clear hy156
 have H' := Asd.mk H
 clear H
 go_enter Tryd.func46, Tryd.ntmps46
 go_wp2_with (first | ((with_reducible refine gate_dst (N := 8) rfl ?_); refine Kd.R_lit Kd.string _ 9 ?hg (N := 8) ?hd (xs := ([] : List ByteArray)) (inner := []) (ok := fun _ => True) (okp := fun _ => True) ?hr ?hp (fun _ hk => hk) trivial (Below.refl _ _) (Nat.le_refl _) (by simp) ?_; (case hd => rfl); (case hg => rfl); (case hr => first | (go_simp; done) | (go_simp; rfl)); (case hp => exact (Reps.none _ _)); intro v157 w2 ho3 hb hg_ hnew_; clear hg_ hnew_; (first | rw [<- Ny156.out] at ho3 | (simp only [Int.reduceToNat] at ho3; rw [<- Ny156.out] at ho3)); have n0_ := Asd.mk (Kd.R_lower ho3 (below_size (by repeat (first | (with_reducible first | exact HB.out | apply bal | apply pbN | apply bd1) | exact HB.out)))); have n1_ := Asd.mk (below_step (by repeat (first | (with_reducible first | exact HB.out | apply bal | apply pbN | apply bd1) | exact HB.out)) hb); clear HB; have HO158 := n0_; have HB := n1_; clear n0_ n1_; clear hb ho3))
 go_loopg [3, 11] k (fun kq v3 v11 w' => ∃ (x3_1 : List ByteArray) (x11_1 : Int), v11 = .int .i64 x11_1 /\ Asd (hello_texts.l0 kq l0 x3_1 l0 (l0.length : Int) x11_1 = some r) /\ Asd (kq <= k) /\ Asd (Kd.R Kd.string 9 w' w.heap.size (fun _ => True) v3 x3_1) /\ Asd (Below w.heap.size w w'))
 case atStart => exact ⟨(y156), (0), (by first | rfl | (simp; done) | (simp [*]; done)), H', ⟨Nat.le_refl _⟩, ⟨by (with_reducible repeat (first | apply Kd.R_alloc | apply Kd.R_drewN | apply Kd.R_drew)); exact HO158.out⟩, ⟨by repeat (first | (with_reducible first | exact HB.out | apply bal | apply pbN | apply bd1) | exact HB.out)⟩⟩
 case round =>
  clear H'
  try clear p2
  obtain ⟨x3_1, x11_1, rfl, HA, HK1, HO_3, HB⟩ := hrel
  cases gk with
  | zero => exact absurd HA.out (by simp [hello_texts.l0])
  | succ k1 =>
   have H := HA.out
   clear HA
   simp only [hello_texts.l0] at H
   by_cases c4 : x11_1 < (l0.length : Int)
   ·rw [if_pos c4] at H
    have c4b0 : decide (x11_1 < (l0.length : Int)) = true := decide_eq_true c4
    clear c4
    by_cases c5 : 0 <= x11_1
    ·rw [if_pos c5] at H
     have c5b0 : decide (0 <= x11_1) = true := decide_eq_true c5
     clear c5
     by_cases c6 : x11_1 < (l0.length : Int)
     ·rw [if_pos c6] at H
      have c6b0 : decide (x11_1 < (l0.length : Int)) = true := decide_eq_true c6
      clear c6
      replace H := Option.bind_eq_some_iff.mp H
      obtain ⟨⟨t161, t162⟩, A70, H⟩ := H
      replace H : (if x11_1 = (wrap64 ((l0.length : Int) - 1)) then (hello_texts.j1 k1 l0 x3_1 t161 t162 l0 (l0.length : Int) x11_1 (((rd_T49 l0 x11_1).f0) && ((((rd_T49 l0 x11_1).f1).toList) == ([] : List UInt8))) ((rd_T49 l0 x11_1).f0) ((rd_T49 l0 x11_1).f1)) else (hello_texts.j1 k1 l0 x3_1 t161 t162 l0 (l0.length : Int) x11_1 false ((rd_T49 l0 x11_1).f0) ((rd_T49 l0 x11_1).f1))) = some r := H
      have A7 := Asd.mk A70
      clear A70
      have HC8 := Asd.mk H
      clear H
      have p159 : 0 <= (x11_1 : Int) := of_decide_eq_true (by first | (with_reducible assumption) | assumption)
      have q159 : x11_1 < (l0.length : Int) := of_decide_eq_true (by first | (with_reducible assumption) | assumption)
      obtain ⟨ad159, e159, hx159_0, hx159_1⟩ := at_T49 HR0.out x11_1 p159 q159
      cases e159
      replace hx159_0 := (HB.out.cell (World.block_lt_of_cell? w _ hx159_0)).trans hx159_0
      replace hx159_1 := (HB.out.cell (World.block_lt_of_cell? w _ hx159_1)).trans hx159_1
      replace p159 := eq_true p159
      replace q159 := eq_true q159
      go_upto_region 6 with (first | ((with_reducible refine gate_dst (N := 5) rfl ?_); refine box_event ?hg (N := 5) ?hd (cs := #[.bool false, .string (⟨#[]⟩ : ByteArray)]) (t := 49) ?hr ?_; (case hd => rfl); (case hg => rfl); (case hr => first | (go_simp; done) | (go_simp; rfl)); intro gb160 hg w9 hbox hb; have n0_ := Asd.mk (Kd.R_below (by (with_reducible repeat (first | apply Kd.R_alloc | apply Kd.R_drewN | apply Kd.R_drew)); exact HO_3.out) hb); have n1_ := Asd.mk (below_step (by repeat (first | (with_reducible first | exact HB.out | apply bal | apply pbN | apply bd1) | exact HB.out)) hb); have n2_ := Asd.mk (hbox); have n3_ := Asd.mk ((by rw [hg]; exact (below_size (by repeat (first | (with_reducible first | exact HB.out | apply bal | apply pbN | apply bd1) | exact HB.out))) : w.heap.size <= gb160)); have n4_ := Asd.mk ((by rw [hg]; exact (below_size (by repeat (first | (with_reducible first | exact HB.out | apply bal | apply pbN | apply bd1) | exact HB.out))) : w.heap.size <= gb160)); clear HO_3; clear HB; have HO_3 := n0_; have HB := n1_; have BK160 := n2_; have GW160 := n3_; have GE160 := n4_; clear n0_ n1_ n2_ n3_ n4_; clear hb hbox hg; have hcz10_0 : w9.cell? ⟨gb160, 0, none⟩ = some (.bool false) := (blk_cell BK160.out 0).trans rfl; have hcz10_1 : w9.cell? ⟨gb160, 1, none⟩ = some (.string (⟨#[]⟩ : ByteArray)) := (blk_cell BK160.out 1).trans rfl; have hfz10_0 := blk_frozen BK160.out 0; have hfz10_1 := blk_frozen BK160.out 1) | ((with_reducible refine gate_callee (f := 68) rfl ?_); refine goesL_ (some 19) rfl rfl Tryd.func68 (by kernel_rfl) rfl #[.string ((rd_T49 l0 x11_1).f1), .string (⟨#[10]⟩ : ByteArray)] rfl (by (try simp only [List.map_toArray, List.map_cons, List.map_nil]); first | done | rfl | (simp only [List.length_drop, List.length_take]; rfl)) ?_; (with_reducible refine (strings_CutSuffix.calls ((rd_T49 l0 x11_1).f1) (⟨#[10]⟩ : ByteArray) t161 t162 _ A7.out).mono ?_); rintro e w' ⟨rfl, ⟨nd, rfl⟩⟩; refine ⟨_, rfl, ?_⟩))
      (try simp only [Act.put, zA, zB, zC])
      go_cut [22] (fun v22 wc => ∃ (kq : Nat) (x22_7 : Bool), v22 = .bool x22_7 /\ Asd (hello_texts.j1 kq l0 x3_1 t161 t162 l0 (l0.length : Int) x11_1 x22_7 ((rd_T49 l0 x11_1).f0) ((rd_T49 l0 x11_1).f1) = some r) /\ Asd (kq <= k1) /\ Asd (Kd.R Kd.string 9 wc w.heap.size (fun _ => True) u3 x3_1) /\ Asd (wc.heap[gb160]? = some (.cells #[.bool ((rd_T49 l0 x11_1).f0), .string ((rd_T49 l0 x11_1).f1)] 49 (0, 0))) /\ Asd (Below w.heap.size w wc))
      case first =>
       have H := HC8.out
       clear HC8
       by_cases c11 : x11_1 = (wrap64 ((l0.length : Int) - 1))
       ·rw [if_pos c11] at H
        have c11b0 : (x11_1 == (wrap64 ((l0.length : Int) - 1))) = true := beq_iff_eq.mpr c11
        have c11b1 : (x11_1 != (wrap64 ((l0.length : Int) - 1))) = false := bne_eq_false_iff_eq.mpr c11
        clear c11
        (first | rw [c11b0] | (simp only [i64_w, i32_w]; rw [c11b0]) | skip)
        have H' := Asd.mk H
        clear H
        have hcz12_0 : w9.cell? ⟨gb160, 0, none⟩ = some (.bool false) := (blk_cell BK160.out 0).trans rfl
        have hcz12_1 : w9.cell? ⟨gb160, 1, none⟩ = some (.string (⟨#[]⟩ : ByteArray)) := (blk_cell BK160.out 1).trans rfl
        have hfz12_0 := blk_frozen BK160.out 0
        have hfz12_1 := blk_frozen BK160.out 1
        go_wp2
        go_meet
        case rel => exact ⟨_, ((((rd_T49 l0 x11_1).f0) && ((((rd_T49 l0 x11_1).f1).toList) == ([] : List UInt8)))), (by first | rfl | (simp; done) | (simp [*]; done)), H', ⟨by have := HK1.out; first | omega | exact Nat.le_refl _⟩, ⟨by (with_reducible repeat (first | apply Kd.R_alloc | apply Kd.R_drewN | apply Kd.R_drew)); exact Kd.R_mono (Kd.R_far (p := ⟨gb160, 1, none⟩) (Kd.R_far (p := ⟨gb160, 0, none⟩) (Kd.R_types HO_3.out BK160.out (by decide)) (fun _ hk => hk.2) (.bool ((rd_T49 l0 x11_1).f0))) (fun _ hk => hk.2) (.string ((rd_T49 l0 x11_1).f1))) (fun _ hk => trivial)⟩, ⟨by (with_reducible repeat (first | refine blk_drewN ?_ _ | refine blk_drew ?_ | refine blk_alloc ?_ _)); refine blk_put (cs := #[.bool ((rd_T49 l0 x11_1).f0), .string (⟨#[]⟩ : ByteArray)]) ?_ 1 _ rfl; (with_reducible repeat (first | refine blk_drewN ?_ _ | refine blk_drew ?_ | refine blk_alloc ?_ _)); refine blk_put (cs := #[.bool false, .string (⟨#[]⟩ : ByteArray)]) ?_ 0 _ rfl; (with_reducible repeat (first | refine blk_drewN ?_ _ | refine blk_drew ?_ | refine blk_alloc ?_ _)); exact BK160.out⟩, ⟨by repeat (first | (with_reducible first | exact HB.out | apply bal | apply pbN | apply bd1 | refine below_set ?_ GE160.out) | exact HB.out)⟩⟩
       ·rw [if_neg c11] at H
        have c11b0 : (x11_1 == (wrap64 ((l0.length : Int) - 1))) = false := beq_eq_false_iff_ne.mpr c11
        have c11b1 : (x11_1 != (wrap64 ((l0.length : Int) - 1))) = true := bne_iff_ne.mpr c11
        (first | rw [c11b0] | (simp only [i64_w, i32_w]; rw [c11b0]) | skip)
        have H' := Asd.mk H
        clear H
        go_wp2
        go_meet
        case rel => exact ⟨_, (false), (by first | rfl | (simp; done) | (simp [*]; done)), H', ⟨by have := HK1.out; first | omega | exact Nat.le_refl _⟩, ⟨by (with_reducible repeat (first | apply Kd.R_alloc | apply Kd.R_drewN | apply Kd.R_drew)); exact Kd.R_mono (Kd.R_far (p := ⟨gb160, 1, none⟩) (Kd.R_far (p := ⟨gb160, 0, none⟩) (Kd.R_types HO_3.out BK160.out (by decide)) (fun _ hk => hk.2) (.bool ((rd_T49 l0 x11_1).f0))) (fun _ hk => hk.2) (.string ((rd_T49 l0 x11_1).f1))) (fun _ hk => trivial)⟩, ⟨by (with_reducible repeat (first | refine blk_drewN ?_ _ | refine blk_drew ?_ | refine blk_alloc ?_ _)); refine blk_put (cs := #[.bool ((rd_T49 l0 x11_1).f0), .string (⟨#[]⟩ : ByteArray)]) ?_ 1 _ rfl; (with_reducible repeat (first | refine blk_drewN ?_ _ | refine blk_drew ?_ | refine blk_alloc ?_ _)); refine blk_put (cs := #[.bool false, .string (⟨#[]⟩ : ByteArray)]) ?_ 0 _ rfl; (with_reducible repeat (first | refine blk_drewN ?_ _ | refine blk_drew ?_ | refine blk_alloc ?_ _)); exact BK160.out⟩, ⟨by repeat (first | (with_reducible first | exact HB.out | apply bal | apply pbN | apply bd1 | refine below_set ?_ GE160.out) | exact HB.out)⟩⟩
      case rest =>
       clear HC8
       try clear c1
       try clear p1
       try clear q1
       try clear hx1
       try clear p2
       try clear c4
       try clear c4b0
       try clear c5
       try clear c5b0
       try clear c6
       try clear c6b0
       try clear p6
       try clear c11
       try clear c11b0
       try clear c11b1
       try clear hcz10_0
       try clear hcz10_1
       try clear hcz12_0
       try clear hcz12_1
       try clear hfz10_0
       try clear hfz10_1
       try clear hfz12_0
       try clear hfz12_1
       try clear hx159_0
       try clear hx159_1
       try clear p159
       try clear p2
       try clear q159
       obtain ⟨kq, x22_7, rfl, HA, HJ7, HO_3, BK160, HB⟩ := hcut
       cases kq with
       | zero => exact absurd HA.out (by simp [hello_texts.j1])
       | succ kj7 =>
        have H := HA.out
        clear HA
        simp only [hello_texts.j1] at H
        by_cases c13 : x22_7 = true
        ·subst c13
         have H1 : (some x3_1) = some r := by rw [if_pos rfl] at H; exact H
         clear H
         have H := H1
         clear H1
         obtain rfl := Option.some.inj H
         go_wp2
         go_ret
         exact ⟨_, by first | rfl | (simp [errW_none, errW_some] <;> rfl) | (simp [*, errW_none, errW_some] <;> rfl), by (with_reducible repeat (first | apply Kd.R_alloc | apply Kd.R_drewN | apply Kd.R_drew)); exact HO_3.out, by repeat (first | (with_reducible first | exact HB.out | apply bal | apply pbN | apply bd1 | refine below_set ?_ GE160.out) | exact HB.out)⟩
        ·replace c13 := Bool.eq_false_iff.mpr c13
         subst c13
         have H1 : (if t162 = true then (if ((rd_T49 l0 x11_1).f0) = true then (some ([] : List ByteArray)) else (if x3_1.length < 8796093022208 then (hello_texts.l0 kj7 l0 (x3_1 ++ [t161]) l0 (l0.length : Int) (wrap64 (x11_1 + 1))) else (none))) else (some ([] : List ByteArray))) = some r := by rw [if_neg (show ¬ (false = true) by decide)] at H; exact H
         clear H
         have H := H1
         clear H1
         by_cases c14 : t162 = true
         ·subst c14
          have H1 : (if ((rd_T49 l0 x11_1).f0) = true then (some ([] : List ByteArray)) else (if x3_1.length < 8796093022208 then (hello_texts.l0 kj7 l0 (x3_1 ++ [t161]) l0 (l0.length : Int) (wrap64 (x11_1 + 1))) else (none))) = some r := by rw [if_pos rfl] at H; exact H
          clear H
          have H := H1
          clear H1
          by_cases c15 : ((rd_T49 l0 x11_1).f0) = true
          ·rw [if_pos c15] at H
           have c15b0 : ((rd_T49 l0 x11_1).f0) = true := c15
           clear c15
           obtain rfl := Option.some.inj H
           have hcz16_0 : wc.cell? ⟨gb160, 0, none⟩ = some (.bool ((rd_T49 l0 x11_1).f0)) := (blk_cell BK160.out 0).trans rfl
           have hcz16_1 : wc.cell? ⟨gb160, 1, none⟩ = some (.string ((rd_T49 l0 x11_1).f1)) := (blk_cell BK160.out 1).trans rfl
           have hfz16_0 := blk_frozen BK160.out 0
           have hfz16_1 := blk_frozen BK160.out 1
           go_wp2
           go_ret
           exact ⟨_, by first | rfl | (simp [errW_none, errW_some] <;> rfl) | (simp [*, errW_none, errW_some] <;> rfl), by first | exact Kd.R_nil _ _ _ _ _ | exact Kd.N_nil _ _ _ _ _ | exact Kd.V_nil _ _ _ _ _ | exact Kd.Q_nil _ _ _ _ _ | exact Kd.S_nil _ _ _ _ _, by repeat (first | (with_reducible first | exact HB.out | apply bal | apply pbN | apply bd1 | refine below_set ?_ GE160.out) | exact HB.out)⟩
          ·rw [if_neg c15] at H
           have c15b0 : ((rd_T49 l0 x11_1).f0) = false := by simpa using c15
           clear c15
           by_cases c17 : x3_1.length < 8796093022208
           ·rw [if_pos c17] at H
            have LMc17 := Asd.mk c17
            clear c17
            obtain ⟨y163, hy163⟩ : ∃ y_ : List ByteArray, y_ = (x3_1 ++ [t161]) := ⟨_, rfl⟩
            replace H : (hello_texts.l0 kj7 l0 y163 l0 (l0.length : Int) (wrap64 (x11_1 + 1))) = some r := by first | (rw [hy163]; with_reducible exact H) | (have H2_ := (Option.bind_some _ _).symm.trans H; rw [hy163]; with_reducible exact H2_) | (have H2_ := (Option.bind_some _ _).symm.trans H; with_reducible exact H2_) | with_reducible exact H | (rw [hy163]; exact H) | exact H
            have Ny163 := Asd.mk hy163
            clear hy163
            have H' := Asd.mk H
            clear H
            have hcz18_0 : wc.cell? ⟨gb160, 0, none⟩ = some (.bool ((rd_T49 l0 x11_1).f0)) := (blk_cell BK160.out 0).trans rfl
            have hcz18_1 : wc.cell? ⟨gb160, 1, none⟩ = some (.string ((rd_T49 l0 x11_1).f1)) := (blk_cell BK160.out 1).trans rfl
            have hfz18_0 := blk_frozen BK160.out 0
            have hfz18_1 := blk_frozen BK160.out 1
            go_wp2_with (first | ((with_reducible refine gate_builtin (b := .append) (xs := #[.tmp 39, .tmp 41]) rfl ?_); at_builtin; refine Kd.R_append Kd.string (w0 := w) w.heap.size rfl (.tmp 39) (.tmp 41) 23 9 (.string ⟨#[]⟩) 16 rfl Tryd.underlying23 info9 rfl (by decide) (by omega) u3 x3_1 t161 [.string t161] (fun _ => True) (fun _ => False) rfl rfl ?aP (fun _ hk => hk.elim) ?aF ?aO ?aB ?aS ?aL ?_; (case aP => exact rfl); (case aB => exact (by repeat (first | (with_reducible first | exact HB.out | apply bal | apply pbN | apply bd1 | refine below_set ?_ GE160.out) | exact HB.out))); (case aF => exact (fun _ _ => trivial)); (case aO => exact (by (with_reducible repeat (first | apply Kd.R_alloc | apply Kd.R_drewN | apply Kd.R_drew)); exact HO_3.out)); (case aS => exact (below_size (by repeat (first | (with_reducible first | exact HB.out | apply bal | apply pbN | apply bd1 | refine below_set ?_ GE160.out) | exact HB.out)))); (case aL => have := LMc17.out; omega); intro v164 w19 ho hb hg hat; rw [<- Ny163.out] at ho; have n0_ := Asd.mk (blk_grown (g := gb160) (o := .cells #[.bool ((rd_T49 l0 x11_1).f0), .string ((rd_T49 l0 x11_1).f1)] 49 (0, 0)) (by (with_reducible repeat (first | refine blk_drewN ?_ _ | refine blk_drew ?_ | refine blk_alloc ?_ _)); exact BK160.out) hg (Kd.R_ne HO_3.out BK160.out (by decide))); have n1_ := Asd.mk (hb); have n2_ := Asd.mk (ho); clear BK160; clear HB; clear HO_3; have BK160 := n0_; have HB := n1_; have HO165 := n2_; clear n0_ n1_ n2_; clear ho hb hg hat))
            go_roundg kj7
            case measure => have := HK1.out; have := HJ7.out; omega
            case rel => exact ⟨(y163), (wrap64 (x11_1 + 1)), (by first | rfl | (simp; done) | (simp [*]; done)), H', ⟨by have := HK1.out; have := HJ7.out; omega⟩, ⟨by (with_reducible repeat (first | apply Kd.R_alloc | apply Kd.R_drewN | apply Kd.R_drew)); exact HO165.out⟩, ⟨by repeat (first | (with_reducible first | exact HB.out | apply bal | apply pbN | apply bd1 | refine below_set ?_ GE160.out) | exact HB.out)⟩⟩
           ·rw [if_neg c17] at H
            exact absurd H (by simp)
         ·replace c14 := Bool.eq_false_iff.mpr c14
          subst c14
          have H1 : (some ([] : List ByteArray)) = some r := by rw [if_neg (show ¬ (false = true) by decide)] at H; exact H
          clear H
          have H := H1
          clear H1
          obtain rfl := Option.some.inj H
          go_wp2
          go_ret
          exact ⟨_, by first | rfl | (simp [errW_none, errW_some] <;> rfl) | (simp [*, errW_none, errW_some] <;> rfl), by first | exact Kd.R_nil _ _ _ _ _ | exact Kd.N_nil _ _ _ _ _ | exact Kd.V_nil _ _ _ _ _ | exact Kd.Q_nil _ _ _ _ _ | exact Kd.S_nil _ _ _ _ _, by repeat (first | (with_reducible first | exact HB.out | apply bal | apply pbN | apply bd1 | refine below_set ?_ GE160.out) | exact HB.out)⟩
     ·rw [if_neg c6] at H
      exact absurd H (by simp)
    ·rw [if_neg c5] at H
     exact absurd H (by simp)
   ·rw [if_neg c4] at H
    have c4b0 : decide (x11_1 < (l0.length : Int)) = false := decide_eq_false c4
    clear c4
    obtain rfl := Option.some.inj H
    go_wp2
    go_ret
    exact ⟨_, by first | rfl | (simp [errW_none, errW_some] <;> rfl) | (simp [*, errW_none, errW_some] <;> rfl), by first | exact Kd.R_nil _ _ _ _ _ | exact Kd.N_nil _ _ _ _ _ | exact Kd.V_nil _ _ _ _ _ | exact Kd.Q_nil _ _ _ _ _ | exact Kd.S_nil _ _ _ _ _, by repeat (first | (with_reducible first | exact HB.out | apply bal | apply pbN | apply bd1) | exact HB.out)⟩
def sl_TrimPrefix.f (a0 : ByteArray) (a1 : ByteArray) : Option (ByteArray) := (sl_HasPrefix.f a0 a1).bind fun t166 => (if t166 = true then (if 0 <= (a1.size : Int) then (if (a1.size : Int) <= (a0.size : Int) then (some (a0.extract ((a1.size : Int) : Int).toNat a0.size)) else (none)) else (none)) else (some a0))
set_option maxHeartbeats 8000000 in
set_option maxRecDepth 100000 in
theorem sl_TrimPrefix.calls (a0 : ByteArray) (a1 : ByteArray) (r : ByteArray) (w : World) (h : sl_TrimPrefix.f a0 a1 = some r) :
  Calls Tryd.prog 69 #[.string a0, .string a1] w fun e w' => e = .returned (.string r) /\ Drawn0 w w' := by
 have H : ((sl_HasPrefix.f a0 a1).bind fun t166 => (if t166 = true then (if 0 <= (a1.size : Int) then (if (a1.size : Int) <= (a0.size : Int) then (some (a0.extract ((a1.size : Int) : Int).toNat a0.size)) else (none)) else (none)) else (some a0))) = some r := h
 clear h
 replace H := Option.bind_eq_some_iff.mp H
 obtain ⟨t166, A30, H⟩ := H
 replace H : (if t166 = true then (if 0 <= (a1.size : Int) then (if (a1.size : Int) <= (a0.size : Int) then (some (a0.extract ((a1.size : Int) : Int).toNat a0.size)) else (none)) else (none)) else (some a0)) = some r := H
 have A3 := Asd.mk A30
 clear A30
 by_cases c4 : t166 = true
 ·subst c4
  have H1 : (if 0 <= (a1.size : Int) then (if (a1.size : Int) <= (a0.size : Int) then (some (a0.extract ((a1.size : Int) : Int).toNat a0.size)) else (none)) else (none)) = some r := by rw [if_pos rfl] at H; exact H
  clear H
  have H := H1
  clear H1
  by_cases c5 : 0 <= (a1.size : Int)
  ·rw [if_pos c5] at H
   have c5b0 := eq_true c5
   have c5b1 : decide (0 <= (a1.size : Int)) = true := decide_eq_true c5
   clear c5
   by_cases c6 : (a1.size : Int) <= (a0.size : Int)
   ·rw [if_pos c6] at H
    have c6b0 := eq_true c6
    have c6b1 : decide ((a1.size : Int) <= (a0.size : Int)) = true := decide_eq_true c6
    clear c6
    obtain rfl := Option.some.inj H
    go_enter Tryd.func69, Tryd.ntmps69
    go_wp2_with (first | ((with_reducible refine gate_callee (f := 78) rfl ?_); refine goesL_ (some 7) rfl rfl Tryd.func78 (by kernel_rfl) rfl #[.string a0, .string a1] rfl (by (try simp only [List.map_toArray, List.map_cons, List.map_nil]); first | done | rfl | (simp only [List.length_drop, List.length_take]; rfl)) ?_; (with_reducible refine (sl_HasPrefix.calls a0 a1 true _ A3.out).mono ?_); rintro e w' ⟨rfl, ⟨nd, rfl⟩⟩; refine ⟨_, rfl, ?_⟩))
    go_ret
    exact ⟨by first | rfl | (simp; done) | (simp [*]; done), by repeat (first | exact Drawn0.refl _ | apply Drawn0.step)⟩
   ·rw [if_neg c6] at H
    exact absurd H (by simp)
  ·rw [if_neg c5] at H
   exact absurd H (by simp)
 ·replace c4 := Bool.eq_false_iff.mpr c4
  subst c4
  have H1 : (some a0) = some r := by rw [if_neg (show ¬ (false = true) by decide)] at H; exact H
  clear H
  have H := H1
  clear H1
  obtain rfl := Option.some.inj H
  go_enter Tryd.func69, Tryd.ntmps69
  go_wp2_with (first | ((with_reducible refine gate_callee (f := 78) rfl ?_); refine goesL_ (some 7) rfl rfl Tryd.func78 (by kernel_rfl) rfl #[.string a0, .string a1] rfl (by (try simp only [List.map_toArray, List.map_cons, List.map_nil]); first | done | rfl | (simp only [List.length_drop, List.length_take]; rfl)) ?_; (with_reducible refine (sl_HasPrefix.calls a0 a1 false _ A3.out).mono ?_); rintro e w' ⟨rfl, ⟨nd, rfl⟩⟩; refine ⟨_, rfl, ?_⟩))
  go_ret
  exact ⟨by first | rfl | (simp; done) | (simp [*]; done), by repeat (first | exact Drawn0.refl _ | apply Drawn0.step)⟩
def strings_TrimPrefix.f (a0 : ByteArray) (a1 : ByteArray) : Option (ByteArray) := (sl_TrimPrefix.f a0 a1).bind fun t167 => (some t167)
set_option maxHeartbeats 8000000 in
set_option maxRecDepth 100000 in
theorem strings_TrimPrefix.calls (a0 : ByteArray) (a1 : ByteArray) (r : ByteArray) (w : World) (h : strings_TrimPrefix.f a0 a1 = some r) :
  Calls Tryd.prog 47 #[.string a0, .string a1] w fun e w' => e = .returned (.string r) /\ Drawn0 w w' := by
 have H : ((sl_TrimPrefix.f a0 a1).bind fun t167 => (some t167)) = some r := h
 clear h
 replace H := Option.bind_eq_some_iff.mp H
 obtain ⟨t167, A30, H⟩ := H
 replace H : (some t167) = some r := H
 have A3 := Asd.mk A30
 clear A30
 obtain rfl := Option.some.inj H
 go_enter Tryd.func47, Tryd.ntmps47
 go_wp2_with (first | ((with_reducible refine gate_callee (f := 69) rfl ?_); refine goesL_ (some 7) rfl rfl Tryd.func69 (by kernel_rfl) rfl #[.string a0, .string a1] rfl (by (try simp only [List.map_toArray, List.map_cons, List.map_nil]); first | done | rfl | (simp only [List.length_drop, List.length_take]; rfl)) ?_; (with_reducible refine (sl_TrimPrefix.calls a0 a1 t167 _ A3.out).mono ?_); rintro e w' ⟨rfl, ⟨nd, rfl⟩⟩; refine ⟨_, rfl, ?_⟩))
 go_ret
 exact ⟨by first | rfl | (simp; done) | (simp [*]; done), by repeat (first | exact Drawn0.refl _ | apply Drawn0.step)⟩
def sl_Index.f (a0 : ByteArray) (a1 : ByteArray) : Option (Int) := if a1.size = 1 then some (Lib.indexByte a0.data.toList (a1.data.getD 0 0)) else none
theorem one_byte {s : ByteArray} (h : s.size = 1) : s = ⟨#[s.data.getD 0 0]⟩ := by
 obtain ⟨⟨l⟩⟩ := s
 match l, h with
 | [c], _ => rfl
theorem sl_Index.calls (a0 : ByteArray) (a1 : ByteArray) (r : Int) (w : World) (h : sl_Index.f a0 a1 = some r) :
  Calls Tryd.prog 79 #[.string a0, .string a1] w fun e w' => e = .returned (.int .i64 r) /\ Drawn0 w w' := by
 unfold sl_Index.f at h
 split at h
 case isFalse => cases h
 case isTrue hlen =>
 obtain rfl := Option.some.inj h
 rw [one_byte hlen]
 refine (Go.Proofs.Tryd.stringslite_Index_one a0 (a1.data.getD 0 0) w).mono ?_
 rintro e w' ⟨rfl, rfl⟩
 exact ⟨rfl, Drawn0.refl _⟩
def sl_Cut.f (a0 : ByteArray) (a1 : ByteArray) : Option (ByteArray × ByteArray × Bool) := (sl_Index.f a0 a1).bind fun t168 => (if t168 >= 0 then (if 0 <= t168 then (if t168 <= (a0.size : Int) then (if 0 <= (wrap64 (t168 + (a1.size : Int))) then (if (wrap64 (t168 + (a1.size : Int))) <= (a0.size : Int) then (some (a0.extract 0 (t168 : Int).toNat, a0.extract ((wrap64 (t168 + (a1.size : Int))) : Int).toNat a0.size, true)) else (none)) else (none)) else (none)) else (none)) else (some (a0, (⟨#[]⟩ : ByteArray), false)))
set_option maxHeartbeats 8000000 in
set_option maxRecDepth 100000 in
theorem sl_Cut.calls (a0 : ByteArray) (a1 : ByteArray) (r1 : ByteArray) (r2 : ByteArray) (r3 : Bool) (w : World) (h : sl_Cut.f a0 a1 = some (r1, r2, r3)) :
  Calls Tryd.prog 70 #[.string a0, .string a1] w fun e w' => e = .returned (.tuple #[.string r1, .string r2, .bool r3]) /\ Drawn0 w w' := by
 have H : ((sl_Index.f a0 a1).bind fun t168 => (if t168 >= 0 then (if 0 <= t168 then (if t168 <= (a0.size : Int) then (if 0 <= (wrap64 (t168 + (a1.size : Int))) then (if (wrap64 (t168 + (a1.size : Int))) <= (a0.size : Int) then (some (a0.extract 0 (t168 : Int).toNat, a0.extract ((wrap64 (t168 + (a1.size : Int))) : Int).toNat a0.size, true)) else (none)) else (none)) else (none)) else (none)) else (some (a0, (⟨#[]⟩ : ByteArray), false)))) = some (r1, r2, r3) := h
 clear h
 replace H := Option.bind_eq_some_iff.mp H
 obtain ⟨t168, A30, H⟩ := H
 replace H : (if t168 >= 0 then (if 0 <= t168 then (if t168 <= (a0.size : Int) then (if 0 <= (wrap64 (t168 + (a1.size : Int))) then (if (wrap64 (t168 + (a1.size : Int))) <= (a0.size : Int) then (some (a0.extract 0 (t168 : Int).toNat, a0.extract ((wrap64 (t168 + (a1.size : Int))) : Int).toNat a0.size, true)) else (none)) else (none)) else (none)) else (none)) else (some (a0, (⟨#[]⟩ : ByteArray), false))) = some (r1, r2, r3) := H
 have A3 := Asd.mk A30
 clear A30
 by_cases c4 : t168 >= 0
 ·rw [if_pos c4] at H
  have c4b0 : decide (0 <= t168) = true := decide_eq_true c4
  clear c4
  by_cases c5 : 0 <= t168
  ·rw [if_pos c5] at H
   have c5b0 := eq_true c5
   have c5b1 : decide (0 <= t168) = true := decide_eq_true c5
   clear c5
   by_cases c6 : t168 <= (a0.size : Int)
   ·rw [if_pos c6] at H
    have c6b0 := eq_true c6
    have c6b1 : decide (t168 <= (a0.size : Int)) = true := decide_eq_true c6
    clear c6
    obtain ⟨ji7, hji7⟩ : ∃ j_ : Int, (wrap64 (t168 + (a1.size : Int))) = j_ := ⟨_, rfl⟩
    replace H : (if 0 <= (ji7) then (if (ji7) <= (a0.size : Int) then (some (a0.extract 0 (t168 : Int).toNat, a0.extract ((ji7) : Int).toNat a0.size, true)) else (none)) else (none)) = some (r1, r2, r3) := by first | (rw [hji7] at H; exact H) | (simp only [hji7] at H ⊢; exact H)
    (try rw [hji7] at A3)
    have hji7w : (IntKind.i64.wrap (t168 + (a1.size : Int))) = ji7 := (i64_w _).trans hji7
    by_cases c8 : 0 <= (ji7)
    ·rw [if_pos c8] at H
     have c8b0 := eq_true c8
     have c8b1 : decide (0 <= (ji7)) = true := decide_eq_true c8
     clear c8
     by_cases c9 : (ji7) <= (a0.size : Int)
     ·rw [if_pos c9] at H
      have c9b0 := eq_true c9
      have c9b1 : decide ((ji7) <= (a0.size : Int)) = true := decide_eq_true c9
      clear c9
      simp only [Option.some.injEq, Prod.mk.injEq] at H
      obtain ⟨rfl, rfl, rfl⟩ := H
      go_enter Tryd.func70, Tryd.ntmps70
      go_wp2_with (first | (go_at_call 79; (with_reducible refine (sl_Index.calls a0 a1 t168 _ A3.out).mono ?_); rintro e w' ⟨rfl, ⟨nd, rfl⟩⟩; (try first | exact ⟨rfl, _, World.drewN_drewN _ _ _⟩ | exact ⟨rfl, _, Eq.trans (World.drewN_drewN _ _ _) (congrArg (World.drewN _) (Nat.add_assoc _ _ _))⟩)))
      repeat (go_quiet (first | (go_at_call 79; (with_reducible refine (sl_Index.calls a0 a1 t168 _ A3.out).mono ?_); rintro e w' ⟨rfl, ⟨nd, rfl⟩⟩; (try first | exact ⟨rfl, _, World.drewN_drewN _ _ _⟩ | exact ⟨rfl, _, Eq.trans (World.drewN_drewN _ _ _) (congrArg (World.drewN _) (Nat.add_assoc _ _ _))⟩))); try go_wp2_with (first | (go_at_call 79; (with_reducible refine (sl_Index.calls a0 a1 t168 _ A3.out).mono ?_); rintro e w' ⟨rfl, ⟨nd, rfl⟩⟩; (try first | exact ⟨rfl, _, World.drewN_drewN _ _ _⟩ | exact ⟨rfl, _, Eq.trans (World.drewN_drewN _ _ _) (congrArg (World.drewN _) (Nat.add_assoc _ _ _))⟩))))
      go_ret3
      exact ⟨by first | rfl | (simp; done) | (simp only [<- hji7] <;> (first | rfl | simp)) | (simp [*]; done), by repeat (first | exact Drawn0.refl _ | apply Drawn0.step)⟩
     ·rw [if_neg c9] at H
      exact absurd H (by simp)
    ·rw [if_neg c8] at H
     exact absurd H (by simp)
   ·rw [if_neg c6] at H
    exact absurd H (by simp)
  ·rw [if_neg c5] at H
   exact absurd H (by simp)
 ·rw [if_neg c4] at H
  have c4b0 : decide (0 <= t168) = false := decide_eq_false c4
  clear c4
  simp only [Option.some.injEq, Prod.mk.injEq] at H
  obtain ⟨rfl, rfl, rfl⟩ := H
  go_enter Tryd.func70, Tryd.ntmps70
  go_wp2_with (first | (go_at_call 79; (with_reducible refine (sl_Index.calls a0 a1 t168 _ A3.out).mono ?_); rintro e w' ⟨rfl, ⟨nd, rfl⟩⟩; (try first | exact ⟨rfl, _, World.drewN_drewN _ _ _⟩ | exact ⟨rfl, _, Eq.trans (World.drewN_drewN _ _ _) (congrArg (World.drewN _) (Nat.add_assoc _ _ _))⟩)))
  repeat (go_quiet (first | (go_at_call 79; (with_reducible refine (sl_Index.calls a0 a1 t168 _ A3.out).mono ?_); rintro e w' ⟨rfl, ⟨nd, rfl⟩⟩; (try first | exact ⟨rfl, _, World.drewN_drewN _ _ _⟩ | exact ⟨rfl, _, Eq.trans (World.drewN_drewN _ _ _) (congrArg (World.drewN _) (Nat.add_assoc _ _ _))⟩))); try go_wp2_with (first | (go_at_call 79; (with_reducible refine (sl_Index.calls a0 a1 t168 _ A3.out).mono ?_); rintro e w' ⟨rfl, ⟨nd, rfl⟩⟩; (try first | exact ⟨rfl, _, World.drewN_drewN _ _ _⟩ | exact ⟨rfl, _, Eq.trans (World.drewN_drewN _ _ _) (congrArg (World.drewN _) (Nat.add_assoc _ _ _))⟩))))
  go_ret3
  exact ⟨by first | rfl | (simp; done) | (simp [*]; done), by repeat (first | exact Drawn0.refl _ | apply Drawn0.step)⟩
def strings_Cut.f (a0 : ByteArray) (a1 : ByteArray) : Option (ByteArray × ByteArray × Bool) := (sl_Cut.f a0 a1).bind fun bt169 => (some (bt169.1, bt169.2.1, bt169.2.2))
set_option maxHeartbeats 8000000 in
set_option maxRecDepth 100000 in
theorem strings_Cut.calls (a0 : ByteArray) (a1 : ByteArray) (r1 : ByteArray) (r2 : ByteArray) (r3 : Bool) (w : World) (h : strings_Cut.f a0 a1 = some (r1, r2, r3)) :
  Calls Tryd.prog 48 #[.string a0, .string a1] w fun e w' => e = .returned (.tuple #[.string r1, .string r2, .bool r3]) /\ Drawn0 w w' := by
 have H : ((sl_Cut.f a0 a1).bind fun bt169 => (some (bt169.1, bt169.2.1, bt169.2.2))) = some (r1, r2, r3) := h
 clear h
 replace H := Option.bind_eq_some_iff.mp H
 obtain ⟨⟨t169, t170, t171⟩, A30, H⟩ := H
 replace H : (some (t169, t170, t171)) = some (r1, r2, r3) := H
 have A3 := Asd.mk A30
 clear A30
 simp only [Option.some.injEq, Prod.mk.injEq] at H
 obtain ⟨rfl, rfl, rfl⟩ := H
 go_enter Tryd.func48, Tryd.ntmps48
 go_wp2_with (first | ((with_reducible refine gate_callee (f := 70) rfl ?_); refine goesL_ (some 9) rfl rfl Tryd.func70 (by kernel_rfl) rfl #[.string a0, .string a1] rfl (by (try simp only [List.map_toArray, List.map_cons, List.map_nil]); first | done | rfl | (simp only [List.length_drop, List.length_take]; rfl)) ?_; (with_reducible refine (sl_Cut.calls a0 a1 t169 t170 t171 _ A3.out).mono ?_); rintro e w' ⟨rfl, ⟨nd, rfl⟩⟩; refine ⟨_, rfl, ?_⟩))
 go_ret3
 exact ⟨by first | rfl | (simp; done) | (simp [*]; done), by repeat (first | exact Drawn0.refl _ | apply Drawn0.step)⟩
def api_Line.l0 : Nat -> List (S49) -> List (S49) -> Int -> Int -> Option (Bool)
 | 0, _, _, _, _ => none
 | k + 1, x0, x1, x12, x13 => if x13 < x12 then (if 0 <= x13 then (if x13 < (x0.length : Int) then (if x13 < (x1.length : Int) then (if (!(((rd_T49 x0 x13).f0) == ((rd_T49 x1 x13).f0)) || (!((((rd_T49 x0 x13).f1).toList) == (((rd_T49 x1 x13).f1).toList)))) = true then (some false) else (api_Line.l0 k x0 x1 x12 (wrap64 (x13 + 1)))) else (none)) else (none)) else (none)) else (some true)
def api_Line.f (k : Nat) (l0 : List (S49)) (l1 : List (S49)) : Option (Bool) := if (l0.length : Int) = (l1.length : Int) then (api_Line.l0 k l0 l1 (l0.length : Int) 0) else (some false)
set_option maxHeartbeats 8000000 in
set_option maxRecDepth 100000 in
theorem api_Line.calls (k : Nat) (A0 : Option Addr) (c0 : Nat) (l0 : List (S49)) (A1 : Option Addr) (c1 : Nat) (l1 : List (S49)) (r : Bool) (w : World) (hr0 : Kd.C k49 w A0 l0.length l0) (hc0 : l0.length <= c0) (hr1 : Kd.C k49 w A1 l1.length l1) (hc1 : l1.length <= c1) (h : api_Line.f k l0 l1 = some r) :
  Calls Tryd.prog 71 #[.slice A0 l0.length c0, .slice A1 l1.length c1] w fun e w' => e = .returned (.bool r) /\ Drawn0 w w' := by
 have hu49 := Tryd.underlying49
 have HR0 := Asd.mk hr0
 have HC0 := Asd.mk hc0
 clear hr0 hc0
 have HR1 := Asd.mk hr1
 have HC1 := Asd.mk hc1
 clear hr1 hc1
 have H : (if (l0.length : Int) = (l1.length : Int) then (api_Line.l0 k l0 l1 (l0.length : Int) 0) else (some false)) = some r := h
 clear h
 by_cases c3 : (l0.length : Int) = (l1.length : Int)
 ·rw [if_pos c3] at H
  have c3b0 : ((l0.length : Int) == (l1.length : Int)) = true := beq_iff_eq.mpr c3
  have c3b1 : ((l0.length : Int) != (l1.length : Int)) = false := bne_eq_false_iff_eq.mpr c3
  have c3b2 : (l0.length == l1.length) = true := by first | simpa using c3 | (simp at c3 ⊢; omega)
  clear c3
  have H' := Asd.mk H
  clear H
  go_enter Tryd.func71, Tryd.ntmps71
  go_wp2
  repeat (go_quiet (fail); try go_wp2)
  go_loopg [13] k (fun kq v13 w' => ∃ (x13_1 : Int), v13 = .int .i64 x13_1 /\ Asd (api_Line.l0 kq l0 l1 (l0.length : Int) x13_1 = some r) /\ Asd (kq <= k) /\ Drawn0 w w')
  case atStart => exact ⟨(0), (by first | rfl | (simp; done) | (simp [*]; done)), H', ⟨Nat.le_refl _⟩, by repeat (first | exact Drawn0.refl _ | apply Drawn0.step)⟩
  case round =>
   clear H'
   try clear c1
   try clear p2
   try clear c3
   try clear c3b0
   try clear c3b1
   try clear c3b2
   obtain ⟨x13_1, rfl, HA, HK1, ⟨m1, rfl⟩⟩ := hrel
   cases gk with
   | zero => exact absurd HA.out (by simp [api_Line.l0])
   | succ k1 =>
    have H := HA.out
    clear HA
    simp only [api_Line.l0] at H
    by_cases c4 : x13_1 < (l0.length : Int)
    ·rw [if_pos c4] at H
     have c4b0 : decide (x13_1 < (l0.length : Int)) = true := decide_eq_true c4
     clear c4
     by_cases c5 : 0 <= x13_1
     ·rw [if_pos c5] at H
      have c5b0 : decide (0 <= x13_1) = true := decide_eq_true c5
      clear c5
      by_cases c6 : x13_1 < (l0.length : Int)
      ·rw [if_pos c6] at H
       have c6b0 : decide (x13_1 < (l0.length : Int)) = true := decide_eq_true c6
       clear c6
       by_cases c7 : x13_1 < (l1.length : Int)
       ·rw [if_pos c7] at H
        have c7b0 : decide (x13_1 < (l1.length : Int)) = true := decide_eq_true c7
        clear c7
        by_cases c8 : (!(((rd_T49 l0 x13_1).f0) == ((rd_T49 l1 x13_1).f0)) || (!((((rd_T49 l0 x13_1).f1).toList) == (((rd_T49 l1 x13_1).f1).toList)))) = true
        ·rw [if_pos c8] at H
         have c8b0 : (!(((rd_T49 l0 x13_1).f0) == ((rd_T49 l1 x13_1).f0)) || (!((((rd_T49 l0 x13_1).f1).toList) == (((rd_T49 l1 x13_1).f1).toList)))) = true := c8
         clear c8
         obtain rfl := Option.some.inj H
         have p172 : 0 <= (x13_1 : Int) := of_decide_eq_true (by first | (with_reducible assumption) | assumption)
         have q172 : x13_1 < (l0.length : Int) := of_decide_eq_true (by first | (with_reducible assumption) | assumption)
         obtain ⟨ad172, e172, hx172_0, hx172_1⟩ := at_T49 HR0.out x13_1 p172 q172
         cases e172
         replace p172 := eq_true p172
         replace q172 := eq_true q172
         have p173 : 0 <= (x13_1 : Int) := of_decide_eq_true (by first | (with_reducible assumption) | assumption)
         have q173 : x13_1 < (l1.length : Int) := of_decide_eq_true (by first | (with_reducible assumption) | assumption)
         obtain ⟨ad173, e173, hx173_0, hx173_1⟩ := at_T49 HR1.out x13_1 p173 q173
         cases e173
         replace p173 := eq_true p173
         replace q173 := eq_true q173
         go_wp2
         repeat (go_quiet (fail); try go_wp2)
         go_ret
         exact ⟨by first | rfl | (simp; done) | (simp [*]; done), by repeat (first | exact Drawn0.refl _ | apply Drawn0.step)⟩
        ·rw [if_neg c8] at H
         have c8b0 : (!(((rd_T49 l0 x13_1).f0) == ((rd_T49 l1 x13_1).f0)) || (!((((rd_T49 l0 x13_1).f1).toList) == (((rd_T49 l1 x13_1).f1).toList)))) = false := by simpa using c8
         clear c8
         have H' := Asd.mk H
         clear H
         have p172 : 0 <= (x13_1 : Int) := of_decide_eq_true (by first | (with_reducible assumption) | assumption)
         have q172 : x13_1 < (l0.length : Int) := of_decide_eq_true (by first | (with_reducible assumption) | assumption)
         obtain ⟨ad172, e172, hx172_0, hx172_1⟩ := at_T49 HR0.out x13_1 p172 q172
         cases e172
         replace p172 := eq_true p172
         replace q172 := eq_true q172
         have p173 : 0 <= (x13_1 : Int) := of_decide_eq_true (by first | (with_reducible assumption) | assumption)
         have q173 : x13_1 < (l1.length : Int) := of_decide_eq_true (by first | (with_reducible assumption) | assumption)
         obtain ⟨ad173, e173, hx173_0, hx173_1⟩ := at_T49 HR1.out x13_1 p173 q173
         cases e173
         replace p173 := eq_true p173
         replace q173 := eq_true q173
         go_wp2
         repeat (go_quiet (fail); try go_wp2)
         go_roundg k1
         case measure => have := HK1.out; omega
         case rel => exact ⟨(wrap64 (x13_1 + 1)), (by first | rfl | (simp; done) | (simp [*]; done)), H', ⟨by have := HK1.out; omega⟩, by repeat (first | exact Drawn0.refl _ | apply Drawn0.step)⟩
       ·rw [if_neg c7] at H
        exact absurd H (by simp)
      ·rw [if_neg c6] at H
       exact absurd H (by simp)
     ·rw [if_neg c5] at H
      exact absurd H (by simp)
    ·rw [if_neg c4] at H
     have c4b0 : decide (x13_1 < (l0.length : Int)) = false := decide_eq_false c4
     clear c4
     obtain rfl := Option.some.inj H
     go_wp2
     repeat (go_quiet (fail); try go_wp2)
     go_ret
     exact ⟨by first | rfl | (simp; done) | (simp [*]; done), by repeat (first | exact Drawn0.refl _ | apply Drawn0.step)⟩
 ·rw [if_neg c3] at H
  have c3b0 : ((l0.length : Int) == (l1.length : Int)) = false := beq_eq_false_iff_ne.mpr c3
  have c3b1 : ((l0.length : Int) != (l1.length : Int)) = true := bne_iff_ne.mpr c3
  have c3b2 : (l0.length == l1.length) = false := by first | simpa using c3 | (simp at c3 ⊢; omega)
  obtain rfl := Option.some.inj H
  go_enter Tryd.func71, Tryd.ntmps71
  go_wp2
  repeat (go_quiet (fail); try go_wp2)
  go_ret
  exact ⟨by first | rfl | (simp; done) | (simp [*]; done), by repeat (first | exact Drawn0.refl _ | apply Drawn0.step)⟩
def hello_again.f (k : Nat) (l0 : List (S49)) (a1 : Bool) (l2 : List (S49)) : Option (Bool) := if a1 = true then ((api_Line.f k l0 l2).bind fun t174 => (some t174)) else (some false)
set_option maxHeartbeats 8000000 in
set_option maxRecDepth 100000 in
theorem hello_again.calls (k : Nat) (A0 : Option Addr) (c0 : Nat) (l0 : List (S49)) (a1 : Bool) (A2 : Option Addr) (c2 : Nat) (l2 : List (S49)) (r : Bool) (w : World) (hr0 : Kd.C k49 w A0 l0.length l0) (hc0 : l0.length <= c0) (hr2 : Kd.C k49 w A2 l2.length l2) (hc2 : l2.length <= c2) (h : hello_again.f k l0 a1 l2 = some r) :
  Calls Tryd.prog 49 #[.slice A0 l0.length c0, .bool a1, .slice A2 l2.length c2] w fun e w' => e = .returned (.bool r) /\ Drawn0 w w' := by
 have HR0 := Asd.mk hr0
 have HC0 := Asd.mk hc0
 clear hr0 hc0
 have HR2 := Asd.mk hr2
 have HC2 := Asd.mk hc2
 clear hr2 hc2
 have H : (if a1 = true then ((api_Line.f k l0 l2).bind fun t174 => (some t174)) else (some false)) = some r := h
 clear h
 by_cases c4 : a1 = true
 ·subst c4
  have H1 : ((api_Line.f k l0 l2).bind fun t174 => (some t174)) = some r := by rw [if_pos rfl] at H; exact H
  clear H
  have H := H1
  clear H1
  replace H := Option.bind_eq_some_iff.mp H
  obtain ⟨t174, A50, H⟩ := H
  replace H : (some t174) = some r := H
  have A5 := Asd.mk A50
  clear A50
  obtain rfl := Option.some.inj H
  go_enter Tryd.func49, Tryd.ntmps49
  go_wp2_with (first | (go_at_call 71; (with_reducible refine (api_Line.calls k _ _ l0 _ _ l2 t174 _ ?side1 ?side2 ?side3 ?side4 A5.out).mono ?_); (case side1 => repeat (first | exact HR0.out | (with_reducible refine Kd.C_alloc ?_ _) | (with_reducible refine Kd.C_drewN ?_ _) | (with_reducible refine Kd.C_drew ?_))); (case side2 => exact HC0.out); (case side3 => repeat (first | exact HR2.out | (with_reducible refine Kd.C_alloc ?_ _) | (with_reducible refine Kd.C_drewN ?_ _) | (with_reducible refine Kd.C_drew ?_))); (case side4 => exact HC2.out); rintro e w' ⟨rfl, ⟨nd, rfl⟩⟩))
  go_ret
  exact ⟨by first | rfl | (simp; done) | (simp [*]; done), by repeat (first | exact Drawn0.refl _ | apply Drawn0.step)⟩
 ·replace c4 := Bool.eq_false_iff.mpr c4
  subst c4
  have H1 : (some false) = some r := by rw [if_neg (show ¬ (false = true) by decide)] at H; exact H
  clear H
  have H := H1
  clear H1
  obtain rfl := Option.some.inj H
  go_enter Tryd.func49, Tryd.ntmps49
  go_wp2
  go_ret
  exact ⟨by first | rfl | (simp; done) | (simp [*]; done), by repeat (first | exact Drawn0.refl _ | apply Drawn0.step)⟩
def hello_Heard.l0 : Nat -> List (S49) -> List (S63) -> ByteArray -> List ByteArray -> Int -> Int -> Option (ByteArray × (List (S63)) × Bool)
 | 0, _, _, _, _, _, _ => none
 | k + 1, x0, x5, x6, x15, x16, x17 => if x17 < x16 then (if 0 <= x17 then (if x17 < (x15.length : Int) then (if x17 = 0 then ((strings_TrimPrefix.f (rdOf ByteArray.empty x15 x17) (⟨#[115, 97, 99, 114, 105, 115, 116, 121, 32, 104, 101, 97, 100, 32]⟩ : ByteArray)).bind fun t179 => (hello_Heard.l0 k x0 x5 t179 x15 x16 (wrap64 (x17 + 1)))) else ((strings_Cut.f (rdOf ByteArray.empty x15 x17) (⟨#[32]⟩ : ByteArray)).bind fun bt180 => (if x5.length < 4398046511104 then (hello_Heard.l0 k x0 (x5 ++ [(⟨bt180.2.1, bt180.1⟩ : S63)]) x6 x15 x16 (wrap64 (x17 + 1))) else (none)))) else (none)) else (none)) else ((hello_Told.f k x6 x5).bind fun bt186 => ((hello_again.f k bt186.1 bt186.2 x0).bind fun t190 => (if t190 = true then (some (x6, x5, true)) else (some ((⟨#[]⟩ : ByteArray), ([] : List (S63)), false)))))
def hello_Heard.f (k : Nat) (l0 : List (S49)) : Option (ByteArray × (List (S63)) × Bool) := (hello_texts.f k l0).bind fun t175 => (hello_Heard.l0 k l0 ([] : List (S63)) (⟨#[]⟩ : ByteArray) t175 (t175.length : Int) 0)
set_option maxHeartbeats 8000000 in
set_option maxRecDepth 100000 in
theorem hello_Heard.calls (k : Nat) (A0 : Option Addr) (c0 : Nat) (l0 : List (S49)) (r1 : ByteArray) (r2 : List (S63)) (r3 : Bool) (w : World) (hr0 : Kd.C k49 w A0 l0.length l0) (hc0 : l0.length <= c0) (h : hello_Heard.f k l0 = some (r1, r2, r3)) :
  Calls Tryd.prog 20 #[.slice A0 l0.length c0] w fun e w' => ∃ v1_ : Value, e = .returned (.tuple #[.string r1, v1_, .bool r3]) /\ Kd.R k63 63 w' w.heap.size (fun _ => True) v1_ r2 /\ Below w.heap.size w w' := by
 have hu63 := Tryd.underlying63
 have HR0 := Asd.mk hr0
 have HC0 := Asd.mk hc0
 clear hr0 hc0
 have HB := Asd.mk (Below.refl w.heap.size w)
 have H : ((hello_texts.f k l0).bind fun t175 => (hello_Heard.l0 k l0 ([] : List (S63)) (⟨#[]⟩ : ByteArray) t175 (t175.length : Int) 0)) = some (r1, r2, r3) := h
 clear h
 replace H := Option.bind_eq_some_iff.mp H
 obtain ⟨t175, A20, H⟩ := H
 replace H : (hello_Heard.l0 k l0 ([] : List (S63)) (⟨#[]⟩ : ByteArray) t175 (t175.length : Int) 0) = some (r1, r2, r3) := H
 have A2 := Asd.mk A20
 clear A20
 have H' := Asd.mk H
 clear H
 go_enter Tryd.func20, Tryd.ntmps20
 go_wp2_with (first | ((with_reducible refine gate_callee (f := 46) rfl ?_); refine goesL_ (some 15) rfl rfl Tryd.func46 (by kernel_rfl) rfl #[.slice A0 l0.length c0] rfl (by (try simp only [List.map_toArray, List.map_cons, List.map_nil]); first | done | rfl | (simp only [List.length_drop, List.length_take]; rfl)) ?_; (with_reducible refine (hello_texts.calls k _ _ l0 t175 _ ?side1 ?side2 A2.out).mono ?_); (case side1 => repeat (first | exact HR0.out | (with_reducible refine Kd.C_alloc ?_ _) | (with_reducible refine Kd.C_drewN ?_ _) | (with_reducible refine Kd.C_drew ?_))); (case side2 => exact HC0.out); rintro e w3 ⟨v176, rfl, ho0, hb⟩; refine ⟨_, rfl, ?_⟩; have n0_ := Asd.mk (Kd.R_lower ho0 (below_size (by repeat (first | (with_reducible first | exact HB.out | apply bal | apply pbN | apply bd1) | exact HB.out)))); have n1_ := Asd.mk (below_step (by repeat (first | (with_reducible first | exact HB.out | apply bal | apply pbN | apply bd1) | exact HB.out)) hb); clear HB; have HO177 := n0_; have HB := n1_; clear n0_ n1_; (try clear hb); (try clear hb2); (try clear hk); (try clear hi); (try clear ho0); obtain ⟨Ao4, co4, eo4⟩ := Kd.R_slice HO177.out; subst eo4))
 go_loopg [5, 6, 17] k (fun kq v5 v6 v17 w' => ∃ (x5_1 : List (S63)) (x6_1 : ByteArray) (x17_1 : Int), v6 = .string x6_1 /\ v17 = .int .i64 x17_1 /\ Asd (hello_Heard.l0 kq l0 x5_1 x6_1 t175 (t175.length : Int) x17_1 = some (r1, r2, r3)) /\ Asd (kq <= k) /\ Asd (Kd.R k63 63 w' w.heap.size (fun _ => True) v5 x5_1) /\ Asd (Kd.R Kd.string 9 w' w.heap.size (fun _ => True) (.slice Ao4 t175.length co4) t175) /\ Asd (Below w.heap.size w w'))
 case atStart => exact ⟨(([] : List (S63))), ((⟨#[]⟩ : ByteArray)), (0), (by first | rfl | (simp; done) | (simp [*]; done)), (by first | rfl | (simp; done) | (simp [*]; done)), H', ⟨Nat.le_refl _⟩, ⟨by first | exact Kd.R_nil _ _ _ _ _ | exact Kd.N_nil _ _ _ _ _ | exact Kd.V_nil _ _ _ _ _ | exact Kd.Q_nil _ _ _ _ _ | exact Kd.S_nil _ _ _ _ _⟩, ⟨by (with_reducible repeat (first | apply Kd.R_alloc | apply Kd.R_drewN | apply Kd.R_drew)); exact HO177.out⟩, ⟨by repeat (first | (with_reducible first | exact HB.out | apply bal | apply pbN | apply bd1) | exact HB.out)⟩⟩
 case round =>
  clear H'
  try clear c2
  try clear p2
  try clear c4
  obtain ⟨x5_1, x6_1, x17_1, rfl, rfl, HA, HK1, HO_5, HO_15, HB⟩ := hrel
  cases gk with
  | zero => exact absurd HA.out (by simp [hello_Heard.l0])
  | succ k1 =>
   have H := HA.out
   clear HA
   simp only [hello_Heard.l0] at H
   by_cases c5 : x17_1 < (t175.length : Int)
   ·rw [if_pos c5] at H
    have c5b0 : decide (x17_1 < (t175.length : Int)) = true := decide_eq_true c5
    clear c5
    by_cases c6 : 0 <= x17_1
    ·rw [if_pos c6] at H
     have c6b0 : decide (0 <= x17_1) = true := decide_eq_true c6
     clear c6
     by_cases c7 : x17_1 < (t175.length : Int)
     ·rw [if_pos c7] at H
      have c7b0 : decide (x17_1 < (t175.length : Int)) = true := decide_eq_true c7
      clear c7
      by_cases c8 : x17_1 = 0
      ·rw [if_pos c8] at H
       have c8b0 : (x17_1 == 0) = true := beq_iff_eq.mpr c8
       have c8b1 : (x17_1 != 0) = false := bne_eq_false_iff_eq.mpr c8
       clear c8
       replace H := Option.bind_eq_some_iff.mp H
       obtain ⟨t179, A90, H⟩ := H
       replace H : (hello_Heard.l0 k1 l0 x5_1 t179 t175 (t175.length : Int) (wrap64 (x17_1 + 1))) = some (r1, r2, r3) := H
       have A9 := Asd.mk A90
       clear A90
       have H' := Asd.mk H
       clear H
       have p178 : 0 <= (x17_1 : Int) := of_decide_eq_true (by first | (with_reducible assumption) | assumption)
       have q178 : x17_1 < (t175.length : Int) := of_decide_eq_true (by first | (with_reducible assumption) | assumption)
       obtain ⟨ad178, e178, hx178_0⟩ := Kd.at_string (Kd.R_reads' HO_15.out).2.2 x17_1 p178 q178
       cases e178
       replace p178 := eq_true p178
       replace q178 := eq_true q178
       go_wp2_with (first | ((with_reducible refine gate_callee (f := 47) rfl ?_); refine goesL_ (some 25) rfl rfl Tryd.func47 (by kernel_rfl) rfl #[.string (rdOf ByteArray.empty t175 x17_1), .string (⟨#[115, 97, 99, 114, 105, 115, 116, 121, 32, 104, 101, 97, 100, 32]⟩ : ByteArray)] rfl (by (try simp only [List.map_toArray, List.map_cons, List.map_nil]); first | done | rfl | (simp only [List.length_drop, List.length_take]; rfl)) ?_; (with_reducible refine (strings_TrimPrefix.calls (rdOf ByteArray.empty t175 x17_1) (⟨#[115, 97, 99, 114, 105, 115, 116, 121, 32, 104, 101, 97, 100, 32]⟩ : ByteArray) t179 _ A9.out).mono ?_); rintro e w' ⟨rfl, ⟨nd, rfl⟩⟩; refine ⟨_, rfl, ?_⟩))
       go_roundg k1
       case measure => have := HK1.out; omega
       case rel => exact ⟨(x5_1), (t179), (wrap64 (x17_1 + 1)), (by first | rfl | (simp; done) | (simp [*]; done)), (by first | rfl | (simp; done) | (simp [*]; done)), H', ⟨by have := HK1.out; omega⟩, ⟨by (with_reducible repeat (first | apply Kd.R_alloc | apply Kd.R_drewN | apply Kd.R_drew)); exact HO_5.out⟩, ⟨by (with_reducible repeat (first | apply Kd.R_alloc | apply Kd.R_drewN | apply Kd.R_drew)); exact HO_15.out⟩, ⟨by repeat (first | (with_reducible first | exact HB.out | apply bal | apply pbN | apply bd1) | exact HB.out)⟩⟩
      ·rw [if_neg c8] at H
       have c8b0 : (x17_1 == 0) = false := beq_eq_false_iff_ne.mpr c8
       have c8b1 : (x17_1 != 0) = true := bne_iff_ne.mpr c8
       replace H := Option.bind_eq_some_iff.mp H
       obtain ⟨⟨t180, t181, t182⟩, A100, H⟩ := H
       replace H : (if x5_1.length < 4398046511104 then (hello_Heard.l0 k1 l0 (x5_1 ++ [(⟨t181, t180⟩ : S63)]) x6_1 t175 (t175.length : Int) (wrap64 (x17_1 + 1))) else (none)) = some (r1, r2, r3) := H
       have A10 := Asd.mk A100
       clear A100
       by_cases c11 : x5_1.length < 4398046511104
       ·rw [if_pos c11] at H
        have LMc11 := Asd.mk c11
        clear c11
        obtain ⟨y183, hy183⟩ : ∃ y_ : List (S63), y_ = (x5_1 ++ [(⟨t181, t180⟩ : S63)]) := ⟨_, rfl⟩
        replace H : (hello_Heard.l0 k1 l0 y183 x6_1 t175 (t175.length : Int) (wrap64 (x17_1 + 1))) = some (r1, r2, r3) := by first | (rw [hy183]; with_reducible exact H) | (have H2_ := (Option.bind_some _ _).symm.trans H; rw [hy183]; with_reducible exact H2_) | (have H2_ := (Option.bind_some _ _).symm.trans H; with_reducible exact H2_) | with_reducible exact H | (rw [hy183]; exact H) | exact H
        have Ny183 := Asd.mk hy183
        clear hy183
        have H' := Asd.mk H
        clear H
        have p178 : 0 <= (x17_1 : Int) := of_decide_eq_true (by first | (with_reducible assumption) | assumption)
        have q178 : x17_1 < (t175.length : Int) := of_decide_eq_true (by first | (with_reducible assumption) | assumption)
        obtain ⟨ad178, e178, hx178_0⟩ := Kd.at_string (Kd.R_reads' HO_15.out).2.2 x17_1 p178 q178
        cases e178
        replace p178 := eq_true p178
        replace q178 := eq_true q178
        go_wp2_with (first | ((with_reducible refine gate_callee (f := 48) rfl ?_); refine goesL_ (some 28) rfl rfl Tryd.func48 (by kernel_rfl) rfl #[.string (rdOf ByteArray.empty t175 x17_1), .string (⟨#[32]⟩ : ByteArray)] rfl (by (try simp only [List.map_toArray, List.map_cons, List.map_nil]); first | done | rfl | (simp only [List.length_drop, List.length_take]; rfl)) ?_; (with_reducible refine (strings_Cut.calls (rdOf ByteArray.empty t175 x17_1) (⟨#[32]⟩ : ByteArray) t180 t181 t182 _ A10.out).mono ?_); rintro e w' ⟨rfl, ⟨nd, rfl⟩⟩; refine ⟨_, rfl, ?_⟩) | ((with_reducible refine gate_builtin (b := .append) (xs := #[.tmp 32, .tmp 36]) rfl ?_); at_builtin; refine Kd.R_append k63 (w0 := w) w.heap.size rfl (.tmp 32) (.tmp 36) 22 63 (.agg #[(.string ⟨#[]⟩), (.string ⟨#[]⟩)]) 32 rfl Tryd.underlying22 info63 rfl (by decide) (by omega) u5 x5_1 (⟨t181, t180⟩ : S63) [.string t181, .string t180] (fun _ => True) (fun _ => False) rfl rfl ?aP (fun _ hk => hk.elim) ?aF ?aO ?aB ?aS ?aL ?_; (case aP => exact k63_mkM _ _ _ (⟨t181, t180⟩ : S63)); (case aB => exact (by repeat (first | (with_reducible first | exact HB.out | apply bal | apply pbN | apply bd1) | exact HB.out))); (case aF => exact (fun _ _ => trivial)); (case aO => exact (by (with_reducible repeat (first | apply Kd.R_alloc | apply Kd.R_drewN | apply Kd.R_drew)); exact HO_5.out)); (case aS => exact (below_size (by repeat (first | (with_reducible first | exact HB.out | apply bal | apply pbN | apply bd1) | exact HB.out)))); (case aL => have := LMc11.out; omega); intro v184 w12 ho hb hg hat; rw [<- Ny183.out] at ho; have n0_ := Asd.mk (Kd.R_over' (by (with_reducible repeat (first | apply Kd.R_alloc | apply Kd.R_drewN | apply Kd.R_drew)); exact HO_15.out) (Kd.R_typed (by (with_reducible repeat (first | apply Kd.R_alloc | apply Kd.R_drewN | apply Kd.R_drew)); exact HO_5.out)) (by decide) hg); have n1_ := Asd.mk (hb); have n2_ := Asd.mk (ho); clear HO_15; clear HB; clear HO_5; have HO_15 := n0_; have HB := n1_; have HO185 := n2_; clear n0_ n1_ n2_; clear ho hb hg hat))
        go_roundg k1
        case measure => have := HK1.out; omega
        case rel => exact ⟨(y183), (x6_1), (wrap64 (x17_1 + 1)), (by first | rfl | (simp; done) | (simp [*]; done)), (by first | rfl | (simp; done) | (simp [*]; done)), H', ⟨by have := HK1.out; omega⟩, ⟨by (with_reducible repeat (first | apply Kd.R_alloc | apply Kd.R_drewN | apply Kd.R_drew)); exact HO185.out⟩, ⟨by (with_reducible repeat (first | apply Kd.R_alloc | apply Kd.R_drewN | apply Kd.R_drew)); exact HO_15.out⟩, ⟨by repeat (first | (with_reducible first | exact HB.out | apply bal | apply pbN | apply bd1) | exact HB.out)⟩⟩
       ·rw [if_neg c11] at H
        exact absurd H (by simp)
     ·rw [if_neg c7] at H
      exact absurd H (by simp)
    ·rw [if_neg c6] at H
     exact absurd H (by simp)
   ·rw [if_neg c5] at H
    have c5b0 : decide (x17_1 < (t175.length : Int)) = false := decide_eq_false c5
    clear c5
    replace H := Option.bind_eq_some_iff.mp H
    obtain ⟨⟨t186, t187⟩, A130, H⟩ := H
    replace H : ((hello_again.f k1 t186 t187 l0).bind fun t190 => (if t190 = true then (some (x6_1, x5_1, true)) else (some ((⟨#[]⟩ : ByteArray), ([] : List (S63)), false)))) = some (r1, r2, r3) := H
    have A13 := Asd.mk A130
    clear A130
    replace H := Option.bind_eq_some_iff.mp H
    obtain ⟨t190, A140, H⟩ := H
    replace H : (if t190 = true then (some (x6_1, x5_1, true)) else (some ((⟨#[]⟩ : ByteArray), ([] : List (S63)), false))) = some (r1, r2, r3) := H
    have A14 := Asd.mk A140
    clear A140
    by_cases c15 : t190 = true
    ·subst c15
     have H1 : (some (x6_1, x5_1, true)) = some (r1, r2, r3) := by rw [if_pos rfl] at H; exact H
     clear H
     have H := H1
     clear H1
     simp only [Option.some.injEq, Prod.mk.injEq] at H
     obtain ⟨rfl, rfl, rfl⟩ := H
     obtain ⟨Ao16, co16, eo16⟩ := Kd.R_slice HO_5.out
     subst eo16
     go_wp2_with (first | ((with_reducible refine gate_callee (f := 13) rfl ?_); refine goesL_ (some 42) rfl rfl Tryd.func13 (by kernel_rfl) rfl #[.string x6_1, .slice Ao16 x5_1.length co16] rfl (by (try simp only [List.map_toArray, List.map_cons, List.map_nil]); first | done | rfl | (simp only [List.length_drop, List.length_take]; rfl)) ?_; (with_reducible refine (hello_Told.calls k1 x6_1 _ _ x5_1 t186 t187 _ ?side1 ?side2 A13.out).mono ?_); (case side1 => repeat (first | exact (Kd.R_reads' HO_5.out).2.2 | (with_reducible refine Kd.C_alloc ?_ _) | (with_reducible refine Kd.C_drewN ?_ _) | (with_reducible refine Kd.C_drew ?_))); (case side2 => exact (Kd.R_reads' HO_5.out).2.1); rintro e w17 ⟨v188, rfl, ho0, hb⟩; refine ⟨_, rfl, ?_⟩; have n0_ := Asd.mk (Kd.R_below (by (with_reducible repeat (first | apply Kd.R_alloc | apply Kd.R_drewN | apply Kd.R_drew)); exact HO_5.out) hb); have n1_ := Asd.mk (Kd.R_below (by (with_reducible repeat (first | apply Kd.R_alloc | apply Kd.R_drewN | apply Kd.R_drew)); exact HO_15.out) hb); have n2_ := Asd.mk (Kd.R_lower ho0 (below_size (by repeat (first | (with_reducible first | exact HB.out | apply bal | apply pbN | apply bd1) | exact HB.out)))); have n3_ := Asd.mk (below_step (by repeat (first | (with_reducible first | exact HB.out | apply bal | apply pbN | apply bd1) | exact HB.out)) hb); clear HO_5; clear HO_15; clear HB; have HO_5 := n0_; have HO_15 := n1_; have HO189 := n2_; have HB := n3_; clear n0_ n1_ n2_ n3_; (try clear hb); (try clear hb2); (try clear hk); (try clear hi); (try clear ho0); obtain ⟨Ao18, co18, eo18⟩ := Kd.R_slice HO189.out; subst eo18) | ((with_reducible refine gate_callee (f := 49) rfl ?_); refine goesL_ (some 48) rfl rfl Tryd.func49 (by kernel_rfl) rfl #[.slice Ao18 t186.length co18, .bool t187, .slice A0 l0.length c0] rfl (by (try simp only [List.map_toArray, List.map_cons, List.map_nil]); first | done | rfl | (simp only [List.length_drop, List.length_take]; rfl)) ?_; (with_reducible refine (hello_again.calls k1 _ _ t186 t187 _ _ l0 true _ ?side1 ?side2 ?side3 ?side4 A14.out).mono ?_); (case side1 => repeat (first | exact (Kd.R_reads' HO189.out).2.2 | (with_reducible refine Kd.C_alloc ?_ _) | (with_reducible refine Kd.C_drewN ?_ _) | (with_reducible refine Kd.C_drew ?_))); (case side2 => exact (Kd.R_reads' HO189.out).2.1); (case side3 => repeat (first | exact (Kd.C_below HR0.out HB.out) | (with_reducible refine Kd.C_alloc ?_ _) | (with_reducible refine Kd.C_drewN ?_ _) | (with_reducible refine Kd.C_drew ?_))); (case side4 => exact HC0.out); rintro e w' ⟨rfl, ⟨nd, rfl⟩⟩; refine ⟨_, rfl, ?_⟩))
     go_ret3
     exact ⟨_, by first | rfl | (simp [errW_none, errW_some] <;> rfl) | (simp [*, errW_none, errW_some] <;> rfl), by (with_reducible repeat (first | apply Kd.R_alloc | apply Kd.R_drewN | apply Kd.R_drew)); exact HO_5.out, by repeat (first | (with_reducible first | exact HB.out | apply bal | apply pbN | apply bd1) | exact HB.out)⟩
    ·replace c15 := Bool.eq_false_iff.mpr c15
     subst c15
     have H1 : (some ((⟨#[]⟩ : ByteArray), ([] : List (S63)), false)) = some (r1, r2, r3) := by rw [if_neg (show ¬ (false = true) by decide)] at H; exact H
     clear H
     have H := H1
     clear H1
     simp only [Option.some.injEq, Prod.mk.injEq] at H
     obtain ⟨rfl, rfl, rfl⟩ := H
     obtain ⟨Ao19, co19, eo19⟩ := Kd.R_slice HO_5.out
     subst eo19
     go_wp2_with (first | ((with_reducible refine gate_callee (f := 13) rfl ?_); refine goesL_ (some 42) rfl rfl Tryd.func13 (by kernel_rfl) rfl #[.string x6_1, .slice Ao19 x5_1.length co19] rfl (by (try simp only [List.map_toArray, List.map_cons, List.map_nil]); first | done | rfl | (simp only [List.length_drop, List.length_take]; rfl)) ?_; (with_reducible refine (hello_Told.calls k1 x6_1 _ _ x5_1 t186 t187 _ ?side1 ?side2 A13.out).mono ?_); (case side1 => repeat (first | exact (Kd.R_reads' HO_5.out).2.2 | (with_reducible refine Kd.C_alloc ?_ _) | (with_reducible refine Kd.C_drewN ?_ _) | (with_reducible refine Kd.C_drew ?_))); (case side2 => exact (Kd.R_reads' HO_5.out).2.1); rintro e w20 ⟨v188, rfl, ho0, hb⟩; refine ⟨_, rfl, ?_⟩; have n0_ := Asd.mk (Kd.R_below (by (with_reducible repeat (first | apply Kd.R_alloc | apply Kd.R_drewN | apply Kd.R_drew)); exact HO_5.out) hb); have n1_ := Asd.mk (Kd.R_below (by (with_reducible repeat (first | apply Kd.R_alloc | apply Kd.R_drewN | apply Kd.R_drew)); exact HO_15.out) hb); have n2_ := Asd.mk (Kd.R_lower ho0 (below_size (by repeat (first | (with_reducible first | exact HB.out | apply bal | apply pbN | apply bd1) | exact HB.out)))); have n3_ := Asd.mk (below_step (by repeat (first | (with_reducible first | exact HB.out | apply bal | apply pbN | apply bd1) | exact HB.out)) hb); clear HO_5; clear HO_15; clear HB; have HO_5 := n0_; have HO_15 := n1_; have HO189 := n2_; have HB := n3_; clear n0_ n1_ n2_ n3_; (try clear hb); (try clear hb2); (try clear hk); (try clear hi); (try clear ho0); obtain ⟨Ao21, co21, eo21⟩ := Kd.R_slice HO189.out; subst eo21) | ((with_reducible refine gate_callee (f := 49) rfl ?_); refine goesL_ (some 48) rfl rfl Tryd.func49 (by kernel_rfl) rfl #[.slice Ao21 t186.length co21, .bool t187, .slice A0 l0.length c0] rfl (by (try simp only [List.map_toArray, List.map_cons, List.map_nil]); first | done | rfl | (simp only [List.length_drop, List.length_take]; rfl)) ?_; (with_reducible refine (hello_again.calls k1 _ _ t186 t187 _ _ l0 false _ ?side1 ?side2 ?side3 ?side4 A14.out).mono ?_); (case side1 => repeat (first | exact (Kd.R_reads' HO189.out).2.2 | (with_reducible refine Kd.C_alloc ?_ _) | (with_reducible refine Kd.C_drewN ?_ _) | (with_reducible refine Kd.C_drew ?_))); (case side2 => exact (Kd.R_reads' HO189.out).2.1); (case side3 => repeat (first | exact (Kd.C_below HR0.out HB.out) | (with_reducible refine Kd.C_alloc ?_ _) | (with_reducible refine Kd.C_drewN ?_ _) | (with_reducible refine Kd.C_drew ?_))); (case side4 => exact HC0.out); rintro e w' ⟨rfl, ⟨nd, rfl⟩⟩; refine ⟨_, rfl, ?_⟩))
     go_ret3
     exact ⟨_, by first | rfl | (simp [errW_none, errW_some] <;> rfl) | (simp [*, errW_none, errW_some] <;> rfl), by first | exact Kd.R_nil _ _ _ _ _ | exact Kd.N_nil _ _ _ _ _ | exact Kd.V_nil _ _ _ _ _ | exact Kd.Q_nil _ _ _ _ _ | exact Kd.S_nil _ _ _ _ _, by repeat (first | (with_reducible first | exact HB.out | apply bal | apply pbN | apply bd1) | exact HB.out)⟩
end Go.Proofs.YtmmionafcmnfoaaDoor.Print
