/- Functions of the program as plain functions, and proofs that the program's calls tell what these tell. Written by a program. -/
import Derived.Test.YtlfenakgphmepaaGreatDoorPrint0
import Derived.Test.YtlfenakgphmepaaGreatDoorPrint2
import Derived.Test.YtlfenakgphmepaaGreatDoorPrint3
namespace Go.Proofs.YtlfenakgphmepaaGreatDoor.Print
open Go.RowKit YtlfenakgphmepaaGreatDoorW.PrintWords YtlfenakgphmepaaGreatDoorW.PrintLast YtlfenakgphmepaaGreatDoorW.PrintMore YtlfenakgphmepaaGreatDoor.Conv
attribute [local go_sem] max2_int min2_int max_two min_two max_three min_three max_four min_four
set_option linter.unusedVariables false
set_option linter.unusedSimpArgs false
def refs_Right_1.f (x : ByteArray) : List S83 -> Option (Bool)
 | [] => some false
 | y :: t => (refs_above.f y.f0 x).bind fun b => if b = true then some true else refs_Right_1.f x t
theorem refs_Right_1.one (x : ByteArray) (y : S83) (b : Bool) (W : World) (g : Nat) (hg : g < W.heap.size) (hc : W.cell? ⟨g, 0, none⟩ = some (.string x)) (h : refs_above.f y.f0 x = some b) :
  Calls Tryz.prog 73 #[.agg #[.string y.f0, .string y.f1], .pointer (some ⟨g, 0, none⟩)] W fun e w' => e = .returned (.bool b) /\ Below W.heap.size W w' := by
 have H := am h
 clear h
 have hc2 : (W.alloc (.cells #[.string y.f0, .string y.f1] 83)).cell? ⟨g, 0, none⟩ = some (.string x) := by rw [World.cell?_alloc_lt _ _ _ hg]; exact hc
 go_enter Tryz.func73, Tryz.ntmps73
 go_wp2_with (go_at_call 74; refine (refs_above.calls y.f0 x b _ H.out).mono ?_; rintro e w' ⟨rfl, ⟨nd, rfl⟩⟩)
 go_ret
 exact ⟨rfl, pbN (bal (Below.refl _ _) _) _⟩
theorem refs_Right_1.index (x : ByteArray) (g : Nat) (A0 : Option Addr) (c0 : Nat) (l0 : List S83) (r : Bool) (w : World) (hr0 : Kd.C k83 w A0 l0.length l0) (hc0 : l0.length <= c0) (hg : g < w.heap.size) (hx : w.cell? ⟨g, 0, none⟩ = some (.string x)) (h : refs_Right_1.f x l0 = some r) :
  Calls Tryz.prog 89 #[.slice A0 l0.length c0, .func (.func 73) #[] #[.pointer (some ⟨g, 0, none⟩)]] w fun e w' => ∃ j : Int, e = .returned (.int .i64 j) /\ decide (0 <= j) = r /\ Below w.heap.size w w' := by
 have HR := am hr0
 have HX := am hx
 have hmax : l0.length <= 9223372036854775807 := hr0.2.1
 have HF := am h
 clear hr0 h hx
 go_enter Tryz.func89, Tryz.ntmps89
 go_wp2
 go_loopg [5, 8] l0.length (fun gg _ s8 wr => ∃ kk : Nat, kk <= l0.length /\ l0.length - kk <= gg /\ s8 = .int .i64 kk /\ Asd (Below w.heap.size w wr) /\ Asd (refs_Right_1.f x (l0.drop kk) = some r))
 case atStart => exact ⟨0, Nat.zero_le _, by omega, rfl, ⟨Below.refl _ _⟩, HF⟩
 case round =>
  obtain ⟨kk, hkk, hgg, rfl, BW, ⟨A⟩⟩ := hrel
  by_cases hlt : kk < l0.length
  ·have hltz : (kk : Int) < (l0.length : Int) := by omega
   obtain ⟨ad, rfl, hc1, hc2⟩ := at_T83 (Kd.C_below HR.out BW.out) (kk : Int) (by omega) (by omega)
   have hrd : rd_T83 l0 (kk : Int) = l0[kk] := by
    unfold rd_T83
    rw [Int.toNat_natCast, List.getD_eq_getElem?_getD, List.getElem?_eq_getElem hlt]; rfl
   rw [hrd, Int.toNat_natCast] at hc1 hc2
   have hgw := am (Nat.lt_of_lt_of_le hg (qZ BW.out))
   have hxw := am ((BW.out.cell (p := ⟨g, 0, none⟩) hg).trans HX.out)
   rw [List.drop_eq_getElem_cons hlt] at A
   simp only [refs_Right_1.f] at A
   obtain ⟨b, hb, A⟩ := Option.bind_eq_some_iff.1 A
   clear hrd
   generalize l0[kk] = y at hc1 hc2 hb
   have HB := am hb
   have HA := am A
   clear hb A
   cases b with
   | false =>
    go_wp2_with (go_at_call 73; refine (refs_Right_1.one x y false _ g hgw.out hxw.out HB.out).mono ?_; rintro e w' ⟨rfl, hb'⟩; have BW' := am (qW BW.out hb'); clear hb')
    go_roundg (l0.length - (kk + 1))
    case measure => omega
    case rel => exact ⟨kk + 1, by omega, by omega, by go_num, BW', ⟨by simpa using HA.out⟩⟩
   | true =>
    go_wp2_with (go_at_call 73; refine (refs_Right_1.one x y true _ g hgw.out hxw.out HB.out).mono ?_; rintro e w' ⟨rfl, hb'⟩; have BW' := am (qW BW.out hb'); clear hb')
    go_ret
    exact ⟨kk, rfl, by have := HA.out; simp at this; rw [this]; simp, BW'.out⟩
  ·have hltz : ¬ (kk : Int) < (l0.length : Int) := by omega
   obtain rfl : kk = l0.length := by omega
   rw [List.drop_length] at A
   have hr : false = r := Option.some.inj A
   subst hr
   go_wp2
   go_ret
   exact ⟨-1, rfl, by decide, BW.out⟩
theorem refs_Right_1.calls (x : ByteArray) (g : Nat) (A0 : Option Addr) (c0 : Nat) (l0 : List S83) (r : Bool) (w : World) (hr0 : Kd.C k83 w A0 l0.length l0) (hc0 : l0.length <= c0) (hg : g < w.heap.size) (hx : w.cell? ⟨g, 0, none⟩ = some (.string x)) (h : refs_Right_1.f x l0 = some r) :
  Calls Tryz.prog 72 #[.slice A0 l0.length c0, .func (.func 73) #[] #[.pointer (some ⟨g, 0, none⟩)]] w fun e w' => e = .returned (.bool r) /\ Below w.heap.size w w' := by
 have C := am (refs_Right_1.index x g A0 c0 l0 r w hr0 hc0 hg hx h)
 clear hr0 h hx
 go_enter Tryz.func72, Tryz.ntmps72
 go_wp2_with (go_at_call 89; refine C.out.mono ?_; rintro e w' ⟨j, rfl, hj, hb⟩; have HB := am hb; clear hb)
 go_ret
 exact ⟨by rw [<- hj]; rfl, HB.out⟩
def rightT.T4 : Bool × List (List Nat × List Nat) := (true, [([], []), ([0], [0]), ([1], [1]), ([2], [2]), ([3, 2], [3]), ([4], [4]), ([5, 4], [4, 5]), ([6, 4, 4], [4, 6]), ([7, 4], [4, 7]), ([4, 8], [4, 8]), ([9, 7], [9]), ([10], [10]), ([11, 10], [10, 11]), ([12, 10, 10], [10, 12]), ([13], [13]), ([13], [13]), ([15, 13], [13, 15]), ([14, 16, 13], [13, 14, 16]), ([17, 13], [13, 17]), ([18, 13], [13, 18]), ([13], [13]), ([20, 13], [13, 20]), ([19, 21, 13], [13, 19, 21]), ([13, 22, 10], [10, 13, 22]), ([10, 23], [10, 23])])
def rightT.B4 : List Nat := [0, 1, 3, 7, 15, 31, 63, 127, 255, 511, 1023, 2047, 4095, 8191, 16383, 16383, 49151, 131071, 262143, 524287, 16383, 1064959, 4194303, 8388607, 16777215]
theorem rightT.tab4 : rtab .any (opsOf Tryz.f54 4) = rightT.T4 := by kernel_rfl
theorem rightT.bits4 : waitsOk rightT.T4.2 rightT.B4 = true := by kernel_rfl
def prevOf (l : List S83) : Nat -> Option ByteArray
 | 0 => none
 | j + 1 => (l[j]?).map (·.f0)
def notAbove : Option ByteArray -> ByteArray -> Bool
 | none, _ => false
 | some q, x => !(Op.bytesLess q.toList x.toList)
def refs_Right.go (k : Nat) (l : List S83) : List S83 -> Option ByteArray -> Option (Bool)
 | [], _ => some (decide ((l.length : Int) <= 64))
 | y :: t, p => (refs_Named.f k y.f0).bind fun a => if a = true then ((digest_Named.f k y.f1).bind fun b => if b = true then (if notAbove p y.f0 = true then some false else ((refs_Right_1.f y.f0 l).bind fun c => if c = true then some false else refs_Right.go k l t (some y.f0))) else some false) else some false
def refs_Right.f (k : Nat) (l0 : List S83) : Option (Bool) := refs_Right.go k l0 l0 none
set_option maxHeartbeats 8000000 in
set_option maxRecDepth 100000 in
theorem refs_Right.calls (k : Nat) (A0 : Option Addr) (c0 : Nat) (l0 : List S83) (r : Bool) (w : World) (hr0 : Kd.C k83 w A0 l0.length l0) (hc0 : l0.length <= c0) (h : refs_Right.f k l0 = some r) :
  Calls Tryz.prog 54 #[.slice A0 l0.length c0] w fun e w' => e = .returned (.bool r) /\ Below w.heap.size w w' := by
 have HR := am hr0
 have hmax : l0.length <= 9223372036854775807 := hr0.2.1
 have HF := am h
 clear hr0 h
 go_enter Tryz.func54, Tryz.ntmps54
 go_wp2
 go_loopg [3, 4, 7] l0.length (fun gg _ _ s7 wr => ∃ kk : Nat, kk <= l0.length /\ l0.length - kk <= gg /\ s7 = .int .i64 kk /\ Asd (Below w.heap.size w wr) /\ Asd (refs_Right.go k l0 (l0.drop kk) (prevOf l0 kk) = some r))
 case atStart => exact ⟨0, Nat.zero_le _, by omega, rfl, ⟨Below.refl _ _⟩, HF⟩
 case round =>
  obtain ⟨kk, hkk, hgg, rfl, BW, ⟨A⟩⟩ := hrel
  by_cases hlt : kk < l0.length
  ·have hltz : (kk : Int) < (l0.length : Int) := by omega
   obtain ⟨ad, rfl, hc1, hc2⟩ := at_T83 (Kd.C_below HR.out BW.out) (kk : Int) (by omega) (by omega)
   have hrd : rd_T83 l0 (kk : Int) = l0[kk] := by
    unfold rd_T83
    rw [Int.toNat_natCast, List.getD_eq_getElem?_getD, List.getElem?_eq_getElem hlt]; rfl
   rw [hrd, Int.toNat_natCast] at hc1 hc2
   rw [List.drop_eq_getElem_cons hlt] at A
   simp only [refs_Right.go] at A
   have hy : Asd (prevOf l0 (kk + 1) = some l0[kk].f0) := ⟨show (l0[kk]?).map (·.f0) = some l0[kk].f0 from by rw [List.getElem?_eq_getElem hlt]; rfl⟩
   clear hrd
   generalize l0[kk] = y at hc1 hc2 A hy
   have HA := A
   clear A
   have HA0 := am HA
   clear HA
   go_upto_region 4 with (fail)
   have BW0 := am (bal BW.out (.cells #[.string y.f0, .string y.f1] 83))
   have hb0 := am (show (wr.alloc (.cells #[.string y.f0, .string y.f1] 83)).cell? ⟨wr.heap.size, 0, none⟩ = some (.string y.f0) from by rw [cell_of_row _ _ 0 _ _ _ (heap_alloc_new wr _)]; rfl)
   have hb1 := am (show (wr.alloc (.cells #[.string y.f0, .string y.f1] 83)).cell? ⟨wr.heap.size, 1, none⟩ = some (.string y.f1) from by rw [cell_of_row _ _ 1 _ _ _ (heap_alloc_new wr _)]; rfl)
   have hg0 := am (show wr.heap.size < (wr.alloc (.cells #[.string y.f0, .string y.f1] 83)).heap.size from by show _ < (wr.heap.push _).size; rw [Array.size_push]; exact Nat.lt_succ_self _)
   have HC0 := am (Kd.C_below HR.out BW0.out)
   generalize wr.alloc (.cells #[.string y.f0, .string y.f1] 83) = W0 at BW0 hb0 hb1 hg0 HC0 ⊢
   generalize wr.heap.size = g at hb0 hb1 hg0 ⊢
   have HA := HA0.out
   clear HA0 hc1 hc2
   obtain ⟨a, ha, HA⟩ := Option.bind_eq_some_iff.1 HA
   have HN := am ha
   clear ha
   cases a with
   | false =>
    have hr : false = r := Option.some.inj (by simpa using HA)
    subst hr
    refine start_ (n := 25) (S := fun w' => Below W0.heap.size W0 w') (ds := []) (bA 25 0) (by kernel_rfl) rfl rfl (bd1 (Below.refl _ _)) (fun hHeld => ?_)
    refine with_tabW rightT.tab4 rightT.bits4 (fun HT_ HW_ => ?_)
    generalize W0.drew = W at hHeld ⊢
    refine py_ 0 12 (bA 25 1) HT_.out ?_
    refine take_ (i := 1) (N := some 13) (v := .string y.f0) (a' := ?_) (bA 25 3) rfl rfl (take_ofW HT_.out HW_.out (by kernel_rfl)) (fun _ _ _ h => h) (Or.inl ⟨by rfl, fun w' hS' => ?_⟩) hHeld ?_ ?_
    ·have hcell := (hS'.cell (p := ⟨g, 0, none⟩) hg0.out).trans hb0.out
     go_simp
    rotate_left
    ·simp only [Act.put, zA, zB, zC, i64_w, i32_w]
     rfl
    refine oz_ 2 14 (bA 25 7) HT_.out (fun K hK => ?_)
    refine goes_ Tryz.func62 (by kernel_rfl) rfl #[.string y.f0] (by rfl) rfl rfl (by (try simp only [List.map_toArray, List.map_cons, List.map_nil]); first | done | rfl) ?_
    refine (refs_Named.calls k y.f0 false _ HN.out).mono ?_
    rintro e Wa ⟨rfl, hb⟩
    refine ⟨_, rfl, ?_⟩
    refine hK.out _ _ (qW hHeld hb) (fun hHeld => ?_)
    clear hK K
    refine nz_ 14 ?_
    refine py_ 3 15 (bA 25 15) HT_.out ?_
    refine py_ 4 16 (bA 25 31) HT_.out ?_
    refine pw_ 5 17 (bA 25 63) HT_.out ?_
    refine pw_ 6 18 (bA 25 127) HT_.out ?_
    refine pw_ 7 19 (bA 25 255) HT_.out ?_
    refine pw_ 8 20 (bA 25 511) HT_.out ?_
    refine py_ 9 21 (bA 25 1023) HT_.out ?_
    refine py_ 10 22 (bA 25 2047) HT_.out ?_
    refine pw_ 11 23 (bA 25 4095) HT_.out ?_
    refine pw_ 12 24 (bA 25 8191) HT_.out ?_
    refine pw_ 13 25 (bA 25 16383) HT_.out ?_
    refine pw_ 14 26 (bA 25 32767) HT_.out ?_
    refine pw_ 15 27 (bA 25 65535) HT_.out ?_
    refine pw_ 16 28 (bA 25 131071) HT_.out ?_
    refine pw_ 17 29 (bA 25 262143) HT_.out ?_
    refine pw_ 18 30 (bA 25 524287) HT_.out ?_
    refine pw_ 19 31 (bA 25 1048575) HT_.out ?_
    refine pw_ 20 32 (bA 25 2097151) HT_.out ?_
    refine pw_ 21 33 (bA 25 4194303) HT_.out ?_
    refine pw_ 22 34 (bA 25 8388607) HT_.out ?_
    refine pw_ 23 35 (bA 25 16777215) HT_.out ?_
    refine py_ 24 36 (bA 25 33554431) HT_.out ?_
    refine done_ (done_of HT_.out (by kernel_rfl)) ?_
    go_wp2
    go_ret
    exact ⟨rfl, qW BW0.out hHeld⟩
   | true =>
   rw [if_pos rfl] at HA
   obtain ⟨b, hbb, HA⟩ := Option.bind_eq_some_iff.1 HA
   have HD := am hbb
   clear hbb
   cases b with
   | false =>
    have hr : false = r := Option.some.inj (by simpa using HA)
    subst hr
    refine start_ (n := 25) (S := fun w' => Below W0.heap.size W0 w') (ds := []) (bA 25 0) (by kernel_rfl) rfl rfl (bd1 (Below.refl _ _)) (fun hHeld => ?_)
    refine with_tabW rightT.tab4 rightT.bits4 (fun HT_ HW_ => ?_)
    generalize W0.drew = W at hHeld ⊢
    refine py_ 0 12 (bA 25 1) HT_.out ?_
    refine take_ (i := 1) (N := some 13) (v := .string y.f0) (a' := ?_) (bA 25 3) rfl rfl (take_ofW HT_.out HW_.out (by kernel_rfl)) (fun _ _ _ h => h) (Or.inl ⟨by rfl, fun w' hS' => ?_⟩) hHeld ?_ ?_
    ·have hcell := (hS'.cell (p := ⟨g, 0, none⟩) hg0.out).trans hb0.out
     go_simp
    rotate_left
    ·simp only [Act.put, zA, zB, zC, i64_w, i32_w]
     rfl
    refine oz_ 2 14 (bA 25 7) HT_.out (fun K hK => ?_)
    refine goes_ Tryz.func62 (by kernel_rfl) rfl #[.string y.f0] (by rfl) rfl rfl (by (try simp only [List.map_toArray, List.map_cons, List.map_nil]); first | done | rfl) ?_
    refine (refs_Named.calls k y.f0 true _ HN.out).mono ?_
    rintro e Wa ⟨rfl, hb⟩
    refine ⟨_, rfl, ?_⟩
    refine hK.out _ _ (qW hHeld hb) (fun hHeld => ?_)
    clear hK K
    refine nz_ 14 ?_
    refine py_ 3 15 (bA 25 15) HT_.out ?_
    refine py_ 4 16 (bA 25 31) HT_.out ?_
    refine py_ 5 17 (bA 25 63) HT_.out ?_
    refine take_ (i := 6) (N := some 18) (v := .string y.f1) (a' := ?_) (bA 25 127) rfl rfl (take_ofW HT_.out HW_.out (by kernel_rfl)) (fun _ _ _ h => h) (Or.inl ⟨by rfl, fun w' hS' => ?_⟩) hHeld ?_ ?_
    ·have hcell := (hS'.cell (p := ⟨g, 1, none⟩) hg0.out).trans hb1.out
     go_simp
    rotate_left
    ·simp only [Act.put, zA, zB, zC, i64_w, i32_w]
     rfl
    refine oz_ 7 19 (bA 25 255) HT_.out (fun K hK => ?_)
    refine goes_ Tryz.func64 (by kernel_rfl) rfl #[.string y.f1] (by rfl) rfl rfl (by (try simp only [List.map_toArray, List.map_cons, List.map_nil]); first | done | rfl) ?_
    refine (digest_Named.calls k y.f1 false _ HD.out).mono ?_
    rintro e w' ⟨rfl, ⟨nd2, rfl⟩⟩
    refine ⟨_, rfl, ?_⟩
    refine hK.out _ _ (pbN hHeld nd2) (fun hHeld => ?_)
    clear hK K
    refine nz_ 19 ?_
    refine py_ 8 20 (bA 25 511) HT_.out ?_
    refine py_ 9 21 (bA 25 1023) HT_.out ?_
    refine py_ 10 22 (bA 25 2047) HT_.out ?_
    refine pw_ 11 23 (bA 25 4095) HT_.out ?_
    refine pw_ 12 24 (bA 25 8191) HT_.out ?_
    refine pw_ 13 25 (bA 25 16383) HT_.out ?_
    refine pw_ 14 26 (bA 25 32767) HT_.out ?_
    refine pw_ 15 27 (bA 25 65535) HT_.out ?_
    refine pw_ 16 28 (bA 25 131071) HT_.out ?_
    refine pw_ 17 29 (bA 25 262143) HT_.out ?_
    refine pw_ 18 30 (bA 25 524287) HT_.out ?_
    refine pw_ 19 31 (bA 25 1048575) HT_.out ?_
    refine pw_ 20 32 (bA 25 2097151) HT_.out ?_
    refine pw_ 21 33 (bA 25 4194303) HT_.out ?_
    refine pw_ 22 34 (bA 25 8388607) HT_.out ?_
    refine pw_ 23 35 (bA 25 16777215) HT_.out ?_
    refine py_ 24 36 (bA 25 33554431) HT_.out ?_
    refine done_ (done_of HT_.out (by kernel_rfl)) ?_
    go_wp2
    go_ret
    exact ⟨rfl, qW BW0.out hHeld⟩
   | true =>
   rw [if_pos rfl] at HA
   cases kk with
   | zero =>
    have z0_ : decide ((0 : Int) < ((0 : Nat) : Int)) = false := by decide
    skip
    rw [if_neg (show ¬ (notAbove (prevOf l0 0) y.f0 = true) from by show ¬ (false = true); decide)] at HA
    obtain ⟨c, hc, HA⟩ := Option.bind_eq_some_iff.1 HA
    have HCc := am hc
    clear hc
    cases c with
    | true =>
     have hr : false = r := Option.some.inj (by simpa using HA)
     subst hr
     refine start_ (n := 25) (S := fun w' => Below W0.heap.size W0 w') (ds := []) (bA 25 0) (by kernel_rfl) rfl rfl (bd1 (Below.refl _ _)) (fun hHeld => ?_)
     refine with_tabW rightT.tab4 rightT.bits4 (fun HT_ HW_ => ?_)
     generalize W0.drew = W at hHeld ⊢
     refine py_ 0 12 (bA 25 1) HT_.out ?_
     refine take_ (i := 1) (N := some 13) (v := .string y.f0) (a' := ?_) (bA 25 3) rfl rfl (take_ofW HT_.out HW_.out (by kernel_rfl)) (fun _ _ _ h => h) (Or.inl ⟨by rfl, fun w' hS' => ?_⟩) hHeld ?_ ?_
     ·have hcell := (hS'.cell (p := ⟨g, 0, none⟩) hg0.out).trans hb0.out
      go_simp
     rotate_left
     ·simp only [Act.put, zA, zB, zC, i64_w, i32_w]
      rfl
     refine oz_ 2 14 (bA 25 7) HT_.out (fun K hK => ?_)
     refine goes_ Tryz.func62 (by kernel_rfl) rfl #[.string y.f0] (by rfl) rfl rfl (by (try simp only [List.map_toArray, List.map_cons, List.map_nil]); first | done | rfl) ?_
     refine (refs_Named.calls k y.f0 true _ HN.out).mono ?_
     rintro e Wa ⟨rfl, hb⟩
     refine ⟨_, rfl, ?_⟩
     refine hK.out _ _ (qW hHeld hb) (fun hHeld => ?_)
     clear hK K
     refine nz_ 14 ?_
     refine py_ 3 15 (bA 25 15) HT_.out ?_
     refine py_ 4 16 (bA 25 31) HT_.out ?_
     refine py_ 5 17 (bA 25 63) HT_.out ?_
     refine take_ (i := 6) (N := some 18) (v := .string y.f1) (a' := ?_) (bA 25 127) rfl rfl (take_ofW HT_.out HW_.out (by kernel_rfl)) (fun _ _ _ h => h) (Or.inl ⟨by rfl, fun w' hS' => ?_⟩) hHeld ?_ ?_
     ·have hcell := (hS'.cell (p := ⟨g, 1, none⟩) hg0.out).trans hb1.out
      go_simp
     rotate_left
     ·simp only [Act.put, zA, zB, zC, i64_w, i32_w]
      rfl
     refine oz_ 7 19 (bA 25 255) HT_.out (fun K hK => ?_)
     refine goes_ Tryz.func64 (by kernel_rfl) rfl #[.string y.f1] (by rfl) rfl rfl (by (try simp only [List.map_toArray, List.map_cons, List.map_nil]); first | done | rfl) ?_
     refine (digest_Named.calls k y.f1 true _ HD.out).mono ?_
     rintro e w' ⟨rfl, ⟨nd2, rfl⟩⟩
     refine ⟨_, rfl, ?_⟩
     refine hK.out _ _ (pbN hHeld nd2) (fun hHeld => ?_)
     clear hK K
     refine nz_ 19 ?_
     refine py_ 8 20 (bA 25 511) HT_.out ?_
     refine py_ 9 21 (bA 25 1023) HT_.out ?_
     refine py_ 10 22 (bA 25 2047) HT_.out ?_
     refine py_ 11 23 (bA 25 4095) HT_.out ?_
     refine pure_ (i := 12) (N := some 24) (v := .bool false) (a' := ?_) (bA 25 8191) rfl rfl (qo HT_.out (by kernel_rfl)) (fun _ _ _ h => h) (Or.inl ⟨by rfl, ?_⟩) ?_ ?_
     ·intro w'
      go_simp
      first | done | (simp; done) | (simp; omega)
     rotate_left
     ·simp only [Act.put, zA, zB, zC, i64_w, i32_w]
      rfl
     refine py_ 13 25 (bA 25 16383) HT_.out ?_
     refine pw_ 14 26 (bA 25 32767) HT_.out ?_
     refine pw_ 15 27 (bA 25 65535) HT_.out ?_
     refine pw_ 16 28 (bA 25 131071) HT_.out ?_
     refine pw_ 17 29 (bA 25 262143) HT_.out ?_
     refine pw_ 18 30 (bA 25 524287) HT_.out ?_
     refine pw_ 19 31 (bA 25 1048575) HT_.out ?_
     refine pw_ 20 32 (bA 25 2097151) HT_.out ?_
     refine pw_ 21 33 (bA 25 4194303) HT_.out ?_
     refine pw_ 22 34 (bA 25 8388607) HT_.out ?_
     refine py_ 23 35 (bA 25 16777215) HT_.out ?_
     refine py_ 24 36 (bA 25 33554431) HT_.out ?_
     refine done_ (done_of HT_.out (by kernel_rfl)) ?_
     go_wp2_with (go_at_call 72; refine (refs_Right_1.calls y.f0 g _ c0 l0 true _ (Kd.C_below HC0.out hHeld) hc0 (Nat.lt_of_lt_of_le hg0.out (qZ hHeld)) ((hHeld.cell (p := ⟨g, 0, none⟩) hg0.out).trans hb0.out) HCc.out).mono ?_; rintro e w' ⟨rfl, hb'⟩; have BW' := am (qW BW0.out (qW hHeld hb')); clear hb')
     go_ret
     exact ⟨rfl, BW'.out⟩
    | false =>
     have HA' := am (show refs_Right.go k l0 (l0.drop (0 + 1)) (some y.f0) = some r from by simpa using HA)
     clear HA
     refine start_ (n := 25) (S := fun w' => Below W0.heap.size W0 w') (ds := []) (bA 25 0) (by kernel_rfl) rfl rfl (bd1 (Below.refl _ _)) (fun hHeld => ?_)
     refine with_tabW rightT.tab4 rightT.bits4 (fun HT_ HW_ => ?_)
     generalize W0.drew = W at hHeld ⊢
     refine py_ 0 12 (bA 25 1) HT_.out ?_
     refine take_ (i := 1) (N := some 13) (v := .string y.f0) (a' := ?_) (bA 25 3) rfl rfl (take_ofW HT_.out HW_.out (by kernel_rfl)) (fun _ _ _ h => h) (Or.inl ⟨by rfl, fun w' hS' => ?_⟩) hHeld ?_ ?_
     ·have hcell := (hS'.cell (p := ⟨g, 0, none⟩) hg0.out).trans hb0.out
      go_simp
     rotate_left
     ·simp only [Act.put, zA, zB, zC, i64_w, i32_w]
      rfl
     refine oz_ 2 14 (bA 25 7) HT_.out (fun K hK => ?_)
     refine goes_ Tryz.func62 (by kernel_rfl) rfl #[.string y.f0] (by rfl) rfl rfl (by (try simp only [List.map_toArray, List.map_cons, List.map_nil]); first | done | rfl) ?_
     refine (refs_Named.calls k y.f0 true _ HN.out).mono ?_
     rintro e Wa ⟨rfl, hb⟩
     refine ⟨_, rfl, ?_⟩
     refine hK.out _ _ (qW hHeld hb) (fun hHeld => ?_)
     clear hK K
     refine nz_ 14 ?_
     refine py_ 3 15 (bA 25 15) HT_.out ?_
     refine py_ 4 16 (bA 25 31) HT_.out ?_
     refine py_ 5 17 (bA 25 63) HT_.out ?_
     refine take_ (i := 6) (N := some 18) (v := .string y.f1) (a' := ?_) (bA 25 127) rfl rfl (take_ofW HT_.out HW_.out (by kernel_rfl)) (fun _ _ _ h => h) (Or.inl ⟨by rfl, fun w' hS' => ?_⟩) hHeld ?_ ?_
     ·have hcell := (hS'.cell (p := ⟨g, 1, none⟩) hg0.out).trans hb1.out
      go_simp
     rotate_left
     ·simp only [Act.put, zA, zB, zC, i64_w, i32_w]
      rfl
     refine oz_ 7 19 (bA 25 255) HT_.out (fun K hK => ?_)
     refine goes_ Tryz.func64 (by kernel_rfl) rfl #[.string y.f1] (by rfl) rfl rfl (by (try simp only [List.map_toArray, List.map_cons, List.map_nil]); first | done | rfl) ?_
     refine (digest_Named.calls k y.f1 true _ HD.out).mono ?_
     rintro e w' ⟨rfl, ⟨nd2, rfl⟩⟩
     refine ⟨_, rfl, ?_⟩
     refine hK.out _ _ (pbN hHeld nd2) (fun hHeld => ?_)
     clear hK K
     refine nz_ 19 ?_
     refine py_ 8 20 (bA 25 511) HT_.out ?_
     refine py_ 9 21 (bA 25 1023) HT_.out ?_
     refine py_ 10 22 (bA 25 2047) HT_.out ?_
     refine py_ 11 23 (bA 25 4095) HT_.out ?_
     refine pure_ (i := 12) (N := some 24) (v := .bool false) (a' := ?_) (bA 25 8191) rfl rfl (qo HT_.out (by kernel_rfl)) (fun _ _ _ h => h) (Or.inl ⟨by rfl, ?_⟩) ?_ ?_
     ·intro w'
      go_simp
      first | done | (simp; done) | (simp; omega)
     rotate_left
     ·simp only [Act.put, zA, zB, zC, i64_w, i32_w]
      rfl
     refine py_ 13 25 (bA 25 16383) HT_.out ?_
     refine pw_ 14 26 (bA 25 32767) HT_.out ?_
     refine pw_ 15 27 (bA 25 65535) HT_.out ?_
     refine pw_ 16 28 (bA 25 131071) HT_.out ?_
     refine pw_ 17 29 (bA 25 262143) HT_.out ?_
     refine pw_ 18 30 (bA 25 524287) HT_.out ?_
     refine pw_ 19 31 (bA 25 1048575) HT_.out ?_
     refine pw_ 20 32 (bA 25 2097151) HT_.out ?_
     refine pw_ 21 33 (bA 25 4194303) HT_.out ?_
     refine pw_ 22 34 (bA 25 8388607) HT_.out ?_
     refine py_ 23 35 (bA 25 16777215) HT_.out ?_
     refine py_ 24 36 (bA 25 33554431) HT_.out ?_
     refine done_ (done_of HT_.out (by kernel_rfl)) ?_
     go_wp2_with (go_at_call 72; refine (refs_Right_1.calls y.f0 g _ c0 l0 false _ (Kd.C_below HC0.out hHeld) hc0 (Nat.lt_of_lt_of_le hg0.out (qZ hHeld)) ((hHeld.cell (p := ⟨g, 0, none⟩) hg0.out).trans hb0.out) HCc.out).mono ?_; rintro e w' ⟨rfl, hb'⟩; have BW' := am (qW BW0.out (qW hHeld hb')); clear hb')
     go_roundg (l0.length - (0 + 1))
     case measure => omega
     case rel => exact ⟨0 + 1, by omega, by omega, by go_num, BW', ⟨by rw [show prevOf l0 (0 + 1) = some y.f0 from hy.out]; exact HA'.out⟩⟩
   | succ j =>
    have hj : j < l0.length := by omega
    obtain ⟨ad', he', hz, hz2⟩ := at_T83 HC0.out (j : Int) (by omega) (by omega)
    cases he'
    have hrd : rd_T83 l0 (j : Int) = l0[j] := by
     unfold rd_T83
     rw [Int.toNat_natCast, List.getD_eq_getElem?_getD, List.getElem?_eq_getElem hj]; rfl
    rw [hrd, Int.toNat_natCast] at hz
    have hpv : prevOf l0 (j + 1) = some l0[j].f0 := show (l0[j]?).map (·.f0) = some l0[j].f0 from by rw [List.getElem?_eq_getElem hj]; rfl
    rw [hpv] at HA
    clear hz2 hrd hpv
    generalize l0[j] = z at hz HA
    have hgz := am (World.block_lt_of_cell? _ _ hz)
    replace hz := am hz
    have p1_ : decide ((0 : Int) < ((j + 1 : Nat) : Int)) = true := dt (by omega)
    have p2_ : (0 <= (j : Int)) = True := eq_true (by omega)
    have p3_ : ((j : Int) < (l0.length : Int)) = True := eq_true (by omega)
    cases hl : Op.bytesLess z.f0.toList y.f0.toList with
    | false =>
     have hn : notAbove (some z.f0) y.f0 = true := by show (!(Op.bytesLess z.f0.toList y.f0.toList)) = true; rw [hl]; rfl
     rw [if_pos hn] at HA
     have hr : false = r := Option.some.inj HA
     clear hn
     subst hr
     refine start_ (n := 25) (S := fun w' => Below W0.heap.size W0 w') (ds := []) (bA 25 0) (by kernel_rfl) rfl rfl (bd1 (Below.refl _ _)) (fun hHeld => ?_)
     refine with_tabW rightT.tab4 rightT.bits4 (fun HT_ HW_ => ?_)
     generalize W0.drew = W at hHeld ⊢
     refine py_ 0 12 (bA 25 1) HT_.out ?_
     refine take_ (i := 1) (N := some 13) (v := .string y.f0) (a' := ?_) (bA 25 3) rfl rfl (take_ofW HT_.out HW_.out (by kernel_rfl)) (fun _ _ _ h => h) (Or.inl ⟨by rfl, fun w' hS' => ?_⟩) hHeld ?_ ?_
     ·have hcell := (hS'.cell (p := ⟨g, 0, none⟩) hg0.out).trans hb0.out
      go_simp
     rotate_left
     ·simp only [Act.put, zA, zB, zC, i64_w, i32_w]
      rfl
     refine oz_ 2 14 (bA 25 7) HT_.out (fun K hK => ?_)
     refine goes_ Tryz.func62 (by kernel_rfl) rfl #[.string y.f0] (by rfl) rfl rfl (by (try simp only [List.map_toArray, List.map_cons, List.map_nil]); first | done | rfl) ?_
     refine (refs_Named.calls k y.f0 true _ HN.out).mono ?_
     rintro e Wa ⟨rfl, hb⟩
     refine ⟨_, rfl, ?_⟩
     refine hK.out _ _ (qW hHeld hb) (fun hHeld => ?_)
     clear hK K
     refine nz_ 14 ?_
     refine py_ 3 15 (bA 25 15) HT_.out ?_
     refine py_ 4 16 (bA 25 31) HT_.out ?_
     refine py_ 5 17 (bA 25 63) HT_.out ?_
     refine take_ (i := 6) (N := some 18) (v := .string y.f1) (a' := ?_) (bA 25 127) rfl rfl (take_ofW HT_.out HW_.out (by kernel_rfl)) (fun _ _ _ h => h) (Or.inl ⟨by rfl, fun w' hS' => ?_⟩) hHeld ?_ ?_
     ·have hcell := (hS'.cell (p := ⟨g, 1, none⟩) hg0.out).trans hb1.out
      go_simp
     rotate_left
     ·simp only [Act.put, zA, zB, zC, i64_w, i32_w]
      rfl
     refine oz_ 7 19 (bA 25 255) HT_.out (fun K hK => ?_)
     refine goes_ Tryz.func64 (by kernel_rfl) rfl #[.string y.f1] (by rfl) rfl rfl (by (try simp only [List.map_toArray, List.map_cons, List.map_nil]); first | done | rfl) ?_
     refine (digest_Named.calls k y.f1 true _ HD.out).mono ?_
     rintro e w' ⟨rfl, ⟨nd2, rfl⟩⟩
     refine ⟨_, rfl, ?_⟩
     refine hK.out _ _ (pbN hHeld nd2) (fun hHeld => ?_)
     clear hK K
     refine nz_ 19 ?_
     refine py_ 8 20 (bA 25 511) HT_.out ?_
     refine py_ 9 21 (bA 25 1023) HT_.out ?_
     refine py_ 10 22 (bA 25 2047) HT_.out ?_
     refine py_ 11 23 (bA 25 4095) HT_.out ?_
     refine pure_ (i := 12) (N := some 24) (v := .bool true) (a' := ?_) (bA 25 8191) rfl rfl (qo HT_.out (by kernel_rfl)) (fun _ _ _ h => h) (Or.inl ⟨by rfl, ?_⟩) ?_ ?_
     ·intro w'
      go_simp
      first | done | (simp; done) | (simp; omega)
     rotate_left
     ·simp only [Act.put, zA, zB, zC, i64_w, i32_w]
      rfl
     refine py_ 13 25 (bA 25 16383) HT_.out ?_
     refine py_ 14 26 (bA 25 32767) HT_.out ?_
     refine py_ 15 27 (bA 25 65535) HT_.out ?_
     refine pure_ (i := 16) (N := some 28) (v := .int .i64 (j : Int)) (a' := ?_) (bA 25 131071) rfl rfl (qo HT_.out (by kernel_rfl)) (fun _ _ _ h => h) (Or.inl ⟨by rfl, ?_⟩) ?_ ?_
     ·intro w'
      go_simp
      first | done | (simp; done) | (refine congrArg (Value.int .i64) ?_; rw [IntKind.wrap_i64]; omega) | (refine congrArg (Value.int .i64) ?_; omega) | (rw [IntKind.wrap_i64]; omega)
     rotate_left
     ·simp only [Act.put, zA, zB, zC, i64_w, i32_w]
      rfl
     refine py_ 17 29 (bA 25 262143) HT_.out ?_
     refine py_ 18 30 (bA 25 524287) HT_.out ?_
     refine take_ (i := 19) (N := some 31) (v := .string z.f0) (a' := ?_) (bA 25 1048575) rfl rfl (take_ofW HT_.out HW_.out (by kernel_rfl)) (fun _ _ _ h => h) (Or.inl ⟨by rfl, fun w' hS' => ?_⟩) hHeld ?_ ?_
     ·have hcell := (hS'.cell (p := ad.add (j * 2)) hgz.out).trans hz.out
      go_simp
     rotate_left
     ·simp only [Act.put, zA, zB, zC, i64_w, i32_w]
      rfl
     refine py_ 20 32 (bA 25 2097151) HT_.out ?_
     refine take_ (i := 21) (N := some 33) (v := .string y.f0) (a' := ?_) (bA 25 4194303) rfl rfl (take_ofW HT_.out HW_.out (by kernel_rfl)) (fun _ _ _ h => h) (Or.inl ⟨by rfl, fun w' hS' => ?_⟩) hHeld ?_ ?_
     ·have hcell := (hS'.cell (p := ⟨g, 0, none⟩) hg0.out).trans hb0.out
      go_simp
     rotate_left
     ·simp only [Act.put, zA, zB, zC, i64_w, i32_w]
      rfl
     refine py_ 22 34 (bA 25 8388607) HT_.out ?_
     refine py_ 23 35 (bA 25 16777215) HT_.out ?_
     refine py_ 24 36 (bA 25 33554431) HT_.out ?_
     refine done_ (done_of HT_.out (by kernel_rfl)) ?_
     go_wp2
     go_ret
     exact ⟨rfl, qW BW0.out hHeld⟩
    | true =>
     have hn : notAbove (some z.f0) y.f0 = false := by show (!(Op.bytesLess z.f0.toList y.f0.toList)) = false; rw [hl]; rfl
     rw [if_neg (by rw [hn]; decide)] at HA; clear hn
     obtain ⟨c, hc, HA⟩ := Option.bind_eq_some_iff.1 HA
     have HCc := am hc
     clear hc
     cases c with
     | true =>
      have hr : false = r := Option.some.inj (by simpa using HA)
      subst hr
      refine start_ (n := 25) (S := fun w' => Below W0.heap.size W0 w') (ds := []) (bA 25 0) (by kernel_rfl) rfl rfl (bd1 (Below.refl _ _)) (fun hHeld => ?_)
      refine with_tabW rightT.tab4 rightT.bits4 (fun HT_ HW_ => ?_)
      generalize W0.drew = W at hHeld ⊢
      refine py_ 0 12 (bA 25 1) HT_.out ?_
      refine take_ (i := 1) (N := some 13) (v := .string y.f0) (a' := ?_) (bA 25 3) rfl rfl (take_ofW HT_.out HW_.out (by kernel_rfl)) (fun _ _ _ h => h) (Or.inl ⟨by rfl, fun w' hS' => ?_⟩) hHeld ?_ ?_
      ·have hcell := (hS'.cell (p := ⟨g, 0, none⟩) hg0.out).trans hb0.out
       go_simp
      rotate_left
      ·simp only [Act.put, zA, zB, zC, i64_w, i32_w]
       rfl
      refine oz_ 2 14 (bA 25 7) HT_.out (fun K hK => ?_)
      refine goes_ Tryz.func62 (by kernel_rfl) rfl #[.string y.f0] (by rfl) rfl rfl (by (try simp only [List.map_toArray, List.map_cons, List.map_nil]); first | done | rfl) ?_
      refine (refs_Named.calls k y.f0 true _ HN.out).mono ?_
      rintro e Wa ⟨rfl, hb⟩
      refine ⟨_, rfl, ?_⟩
      refine hK.out _ _ (qW hHeld hb) (fun hHeld => ?_)
      clear hK K
      refine nz_ 14 ?_
      refine py_ 3 15 (bA 25 15) HT_.out ?_
      refine py_ 4 16 (bA 25 31) HT_.out ?_
      refine py_ 5 17 (bA 25 63) HT_.out ?_
      refine take_ (i := 6) (N := some 18) (v := .string y.f1) (a' := ?_) (bA 25 127) rfl rfl (take_ofW HT_.out HW_.out (by kernel_rfl)) (fun _ _ _ h => h) (Or.inl ⟨by rfl, fun w' hS' => ?_⟩) hHeld ?_ ?_
      ·have hcell := (hS'.cell (p := ⟨g, 1, none⟩) hg0.out).trans hb1.out
       go_simp
      rotate_left
      ·simp only [Act.put, zA, zB, zC, i64_w, i32_w]
       rfl
      refine oz_ 7 19 (bA 25 255) HT_.out (fun K hK => ?_)
      refine goes_ Tryz.func64 (by kernel_rfl) rfl #[.string y.f1] (by rfl) rfl rfl (by (try simp only [List.map_toArray, List.map_cons, List.map_nil]); first | done | rfl) ?_
      refine (digest_Named.calls k y.f1 true _ HD.out).mono ?_
      rintro e w' ⟨rfl, ⟨nd2, rfl⟩⟩
      refine ⟨_, rfl, ?_⟩
      refine hK.out _ _ (pbN hHeld nd2) (fun hHeld => ?_)
      clear hK K
      refine nz_ 19 ?_
      refine py_ 8 20 (bA 25 511) HT_.out ?_
      refine py_ 9 21 (bA 25 1023) HT_.out ?_
      refine py_ 10 22 (bA 25 2047) HT_.out ?_
      refine py_ 11 23 (bA 25 4095) HT_.out ?_
      refine pure_ (i := 12) (N := some 24) (v := .bool true) (a' := ?_) (bA 25 8191) rfl rfl (qo HT_.out (by kernel_rfl)) (fun _ _ _ h => h) (Or.inl ⟨by rfl, ?_⟩) ?_ ?_
      ·intro w'
       go_simp
       first | done | (simp; done) | (simp; omega)
      rotate_left
      ·simp only [Act.put, zA, zB, zC, i64_w, i32_w]
       rfl
      refine py_ 13 25 (bA 25 16383) HT_.out ?_
      refine py_ 14 26 (bA 25 32767) HT_.out ?_
      refine py_ 15 27 (bA 25 65535) HT_.out ?_
      refine pure_ (i := 16) (N := some 28) (v := .int .i64 (j : Int)) (a' := ?_) (bA 25 131071) rfl rfl (qo HT_.out (by kernel_rfl)) (fun _ _ _ h => h) (Or.inl ⟨by rfl, ?_⟩) ?_ ?_
      ·intro w'
       go_simp
       first | done | (simp; done) | (refine congrArg (Value.int .i64) ?_; rw [IntKind.wrap_i64]; omega) | (refine congrArg (Value.int .i64) ?_; omega) | (rw [IntKind.wrap_i64]; omega)
      rotate_left
      ·simp only [Act.put, zA, zB, zC, i64_w, i32_w]
       rfl
      refine py_ 17 29 (bA 25 262143) HT_.out ?_
      refine py_ 18 30 (bA 25 524287) HT_.out ?_
      refine take_ (i := 19) (N := some 31) (v := .string z.f0) (a' := ?_) (bA 25 1048575) rfl rfl (take_ofW HT_.out HW_.out (by kernel_rfl)) (fun _ _ _ h => h) (Or.inl ⟨by rfl, fun w' hS' => ?_⟩) hHeld ?_ ?_
      ·have hcell := (hS'.cell (p := ad.add (j * 2)) hgz.out).trans hz.out
       go_simp
      rotate_left
      ·simp only [Act.put, zA, zB, zC, i64_w, i32_w]
       rfl
      refine py_ 20 32 (bA 25 2097151) HT_.out ?_
      refine take_ (i := 21) (N := some 33) (v := .string y.f0) (a' := ?_) (bA 25 4194303) rfl rfl (take_ofW HT_.out HW_.out (by kernel_rfl)) (fun _ _ _ h => h) (Or.inl ⟨by rfl, fun w' hS' => ?_⟩) hHeld ?_ ?_
      ·have hcell := (hS'.cell (p := ⟨g, 0, none⟩) hg0.out).trans hb0.out
       go_simp
      rotate_left
      ·simp only [Act.put, zA, zB, zC, i64_w, i32_w]
       rfl
      refine py_ 22 34 (bA 25 8388607) HT_.out ?_
      refine py_ 23 35 (bA 25 16777215) HT_.out ?_
      refine py_ 24 36 (bA 25 33554431) HT_.out ?_
      refine done_ (done_of HT_.out (by kernel_rfl)) ?_
      go_wp2_with (go_at_call 72; refine (refs_Right_1.calls y.f0 g _ c0 l0 true _ (Kd.C_below HC0.out hHeld) hc0 (Nat.lt_of_lt_of_le hg0.out (qZ hHeld)) ((hHeld.cell (p := ⟨g, 0, none⟩) hg0.out).trans hb0.out) HCc.out).mono ?_; rintro e w' ⟨rfl, hb'⟩; have BW' := am (qW BW0.out (qW hHeld hb')); clear hb')
      go_ret
      exact ⟨rfl, BW'.out⟩
     | false =>
      have HA' := am (show refs_Right.go k l0 (l0.drop (j + 1 + 1)) (some y.f0) = some r from by simpa using HA)
      clear HA
      refine start_ (n := 25) (S := fun w' => Below W0.heap.size W0 w') (ds := []) (bA 25 0) (by kernel_rfl) rfl rfl (bd1 (Below.refl _ _)) (fun hHeld => ?_)
      refine with_tabW rightT.tab4 rightT.bits4 (fun HT_ HW_ => ?_)
      generalize W0.drew = W at hHeld ⊢
      refine py_ 0 12 (bA 25 1) HT_.out ?_
      refine take_ (i := 1) (N := some 13) (v := .string y.f0) (a' := ?_) (bA 25 3) rfl rfl (take_ofW HT_.out HW_.out (by kernel_rfl)) (fun _ _ _ h => h) (Or.inl ⟨by rfl, fun w' hS' => ?_⟩) hHeld ?_ ?_
      ·have hcell := (hS'.cell (p := ⟨g, 0, none⟩) hg0.out).trans hb0.out
       go_simp
      rotate_left
      ·simp only [Act.put, zA, zB, zC, i64_w, i32_w]
       rfl
      refine oz_ 2 14 (bA 25 7) HT_.out (fun K hK => ?_)
      refine goes_ Tryz.func62 (by kernel_rfl) rfl #[.string y.f0] (by rfl) rfl rfl (by (try simp only [List.map_toArray, List.map_cons, List.map_nil]); first | done | rfl) ?_
      refine (refs_Named.calls k y.f0 true _ HN.out).mono ?_
      rintro e Wa ⟨rfl, hb⟩
      refine ⟨_, rfl, ?_⟩
      refine hK.out _ _ (qW hHeld hb) (fun hHeld => ?_)
      clear hK K
      refine nz_ 14 ?_
      refine py_ 3 15 (bA 25 15) HT_.out ?_
      refine py_ 4 16 (bA 25 31) HT_.out ?_
      refine py_ 5 17 (bA 25 63) HT_.out ?_
      refine take_ (i := 6) (N := some 18) (v := .string y.f1) (a' := ?_) (bA 25 127) rfl rfl (take_ofW HT_.out HW_.out (by kernel_rfl)) (fun _ _ _ h => h) (Or.inl ⟨by rfl, fun w' hS' => ?_⟩) hHeld ?_ ?_
      ·have hcell := (hS'.cell (p := ⟨g, 1, none⟩) hg0.out).trans hb1.out
       go_simp
      rotate_left
      ·simp only [Act.put, zA, zB, zC, i64_w, i32_w]
       rfl
      refine oz_ 7 19 (bA 25 255) HT_.out (fun K hK => ?_)
      refine goes_ Tryz.func64 (by kernel_rfl) rfl #[.string y.f1] (by rfl) rfl rfl (by (try simp only [List.map_toArray, List.map_cons, List.map_nil]); first | done | rfl) ?_
      refine (digest_Named.calls k y.f1 true _ HD.out).mono ?_
      rintro e w' ⟨rfl, ⟨nd2, rfl⟩⟩
      refine ⟨_, rfl, ?_⟩
      refine hK.out _ _ (pbN hHeld nd2) (fun hHeld => ?_)
      clear hK K
      refine nz_ 19 ?_
      refine py_ 8 20 (bA 25 511) HT_.out ?_
      refine py_ 9 21 (bA 25 1023) HT_.out ?_
      refine py_ 10 22 (bA 25 2047) HT_.out ?_
      refine py_ 11 23 (bA 25 4095) HT_.out ?_
      refine pure_ (i := 12) (N := some 24) (v := .bool true) (a' := ?_) (bA 25 8191) rfl rfl (qo HT_.out (by kernel_rfl)) (fun _ _ _ h => h) (Or.inl ⟨by rfl, ?_⟩) ?_ ?_
      ·intro w'
       go_simp
       first | done | (simp; done) | (simp; omega)
      rotate_left
      ·simp only [Act.put, zA, zB, zC, i64_w, i32_w]
       rfl
      refine py_ 13 25 (bA 25 16383) HT_.out ?_
      refine py_ 14 26 (bA 25 32767) HT_.out ?_
      refine py_ 15 27 (bA 25 65535) HT_.out ?_
      refine pure_ (i := 16) (N := some 28) (v := .int .i64 (j : Int)) (a' := ?_) (bA 25 131071) rfl rfl (qo HT_.out (by kernel_rfl)) (fun _ _ _ h => h) (Or.inl ⟨by rfl, ?_⟩) ?_ ?_
      ·intro w'
       go_simp
       first | done | (simp; done) | (refine congrArg (Value.int .i64) ?_; rw [IntKind.wrap_i64]; omega) | (refine congrArg (Value.int .i64) ?_; omega) | (rw [IntKind.wrap_i64]; omega)
      rotate_left
      ·simp only [Act.put, zA, zB, zC, i64_w, i32_w]
       rfl
      refine py_ 17 29 (bA 25 262143) HT_.out ?_
      refine py_ 18 30 (bA 25 524287) HT_.out ?_
      refine take_ (i := 19) (N := some 31) (v := .string z.f0) (a' := ?_) (bA 25 1048575) rfl rfl (take_ofW HT_.out HW_.out (by kernel_rfl)) (fun _ _ _ h => h) (Or.inl ⟨by rfl, fun w' hS' => ?_⟩) hHeld ?_ ?_
      ·have hcell := (hS'.cell (p := ad.add (j * 2)) hgz.out).trans hz.out
       go_simp
      rotate_left
      ·simp only [Act.put, zA, zB, zC, i64_w, i32_w]
       rfl
      refine py_ 20 32 (bA 25 2097151) HT_.out ?_
      refine take_ (i := 21) (N := some 33) (v := .string y.f0) (a' := ?_) (bA 25 4194303) rfl rfl (take_ofW HT_.out HW_.out (by kernel_rfl)) (fun _ _ _ h => h) (Or.inl ⟨by rfl, fun w' hS' => ?_⟩) hHeld ?_ ?_
      ·have hcell := (hS'.cell (p := ⟨g, 0, none⟩) hg0.out).trans hb0.out
       go_simp
      rotate_left
      ·simp only [Act.put, zA, zB, zC, i64_w, i32_w]
       rfl
      refine py_ 22 34 (bA 25 8388607) HT_.out ?_
      refine py_ 23 35 (bA 25 16777215) HT_.out ?_
      refine py_ 24 36 (bA 25 33554431) HT_.out ?_
      refine done_ (done_of HT_.out (by kernel_rfl)) ?_
      go_wp2_with (go_at_call 72; refine (refs_Right_1.calls y.f0 g _ c0 l0 false _ (Kd.C_below HC0.out hHeld) hc0 (Nat.lt_of_lt_of_le hg0.out (qZ hHeld)) ((hHeld.cell (p := ⟨g, 0, none⟩) hg0.out).trans hb0.out) HCc.out).mono ?_; rintro e w' ⟨rfl, hb'⟩; have BW' := am (qW BW0.out (qW hHeld hb')); clear hb')
      go_roundg (l0.length - (j + 1 + 1))
      case measure => omega
      case rel => exact ⟨j + 1 + 1, by omega, by omega, by go_num, BW', ⟨by rw [show prevOf l0 (j + 1 + 1) = some y.f0 from hy.out]; exact HA'.out⟩⟩
  ·have hltz : ¬ (kk : Int) < (l0.length : Int) := by omega
   obtain rfl : kk = l0.length := by omega
   rw [List.drop_length] at A
   simp only [refs_Right.go] at A
   have hr := Option.some.inj A
   subst hr
   go_wp2
   go_ret
   exact ⟨rfl, BW.out⟩
end Go.Proofs.YtlfenakgphmepaaGreatDoor.Print
