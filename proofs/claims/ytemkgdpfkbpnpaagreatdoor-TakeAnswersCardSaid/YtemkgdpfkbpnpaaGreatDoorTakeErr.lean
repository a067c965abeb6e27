/- Parts of the proof. -/
import Derived.Test.YtemkgdpfkbpnpaaGreatDoorTakeC
import Derived.Lib.AppendIntMem
section
namespace Go.Proofs.YtemkgdpfkbpnpaaGreatDoor.Take
open Go.RowKit Go.Proofs.YtemkgdpfkbpnpaaGreatDoorW.PrintWords Go.Proofs.YtemkgdpfkbpnpaaGreatDoorW.PrintLast Go.Proofs.YtemkgdpfkbpnpaaGreatDoorW.PrintMore Go.Proofs.YtemkgdpfkbpnpaaGreatDoor.Conv Go.Proofs.YtemkgdpfkbpnpaaGreatDoor.Print
set_option linter.unusedVariables false
set_option linter.unusedSimpArgs false
def Tb (W : World) : Prop := Lib.TabBelow Tryz.prog W.heap.size W "internal/strconv.uint64pow10" .u64 Lib.pow10Tab
theorem Tb.below {W W' : World} (h : Tb W) (hb : Below W.heap.size W W') : Tb W' := fun w' h' => h w' (below_step hb h')
def itoaB (n : Int) : ByteArray := ⟨(Lib.itoa n).toArray⟩
theorem text_big (n : Int) (h0 : 0 <= n) (h1 : n <= 9223372036854775807) {W : World} (hT : Tb W) : Calls Tryz.prog 44 #[.int .i64 n] W fun e w' => e = .returned (.string (itoaB n)) /\ Below W.heap.size W w' := by
 have HT := Asd.mk hT
 have hn : ¬ n < 0 := by omega
 have hd : decide (n < 0) = false := decide_eq_false hn
 clear hT
 go_enter Tryz.func44, Tryz.ntmps44
 go_wp2_with (go_at_call 68; refine (Go.Proofs.Tryz.strconv_Itoa n (by omega) h1 _ HT.out.here).mono ?_; rintro e w' ⟨rfl, k, os, rfl⟩)
 go_ret
 exact ⟨rfl, Lib.below_grow _ _ (Nat.le_refl _) _ _⟩
def dec0 : Nat -> ByteArray -> Int -> Int -> Option Int
 | 0, _, _, _ => none
 | k + 1, s, x, i => if 0 <= x /\ x <= 100000 /\ 0 <= i then (if i < (s.size : Int) then (if 48 <= bt s i /\ bt s i <= 57 /\ i < 13 then dec0 k s (10 * x + (bt s i - 48)) (i + 1) else none) else some x) else none
set_option maxHeartbeats 8000000 in
set_option maxRecDepth 100000 in
theorem decimal_big (k : Nat) (n : Int) (hd : dec0 k (itoaB n) 0 0 = some n) {W : World} (hT : Tb W) :
  Calls Tryz.prog 51 #[.string (itoaB n)] W fun e w' => e = .returned (.tuple #[.int .i64 n, .bool true]) /\ Below W.heap.size W w' := by
 have HT := Asd.mk hT
 have H' := Asd.mk hd
 obtain ⟨a0, ha⟩ : ∃ a0, a0 = itoaB n := ⟨_, rfl⟩
 rw [<- ha] at H' ⊢
 have HA0 := Asd.mk ha
 clear hT hd ha
 go_enter Tryz.func51, Tryz.ntmps51
 go_wp2
 go_loopg [4, 8] k (fun kq v4 v8 w' => ∃ (x4_1 : Int) (x8_1 : Int), v4 = .int .i64 x4_1 /\ v8 = .int .i64 x8_1 /\ Asd (dec0 kq a0 x4_1 x8_1 = some n) /\ Asd (kq <= k) /\ Drawn0 W w')
 case atStart => exact ⟨(0), (0), (by first | rfl | (simp; done) | (simp [*]; done)), (by first | rfl | (simp; done) | (simp [*]; done)), H', ⟨Nat.le_refl _⟩, by repeat (first | exact Drawn0.refl _ | apply Drawn0.step)⟩
 case round =>
  clear H'
  obtain ⟨x4_1, x8_1, rfl, rfl, HA, HK1, ⟨m1, rfl⟩⟩ := hrel
  cases gk with
  | zero => exact absurd HA.out (by simp [dec0])
  | succ k1 =>
   have H := HA.out
   clear HA
   simp only [dec0] at H
   split at H
   case isFalse => cases H
   case isTrue hx =>
   by_cases c2 : x8_1 < (a0.size : Int)
   ·rw [if_pos c2] at H
    split at H
    case isFalse => cases H
    case isTrue hy =>
    have H' := Asd.mk H
    have c2b0 : decide (x8_1 < (a0.size : Int)) = true := decide_eq_true c2
    have c6b0 : decide ((bt a0 x8_1) < 48) = false := decide_eq_false (by omega)
    have c8b0 : decide (57 < (bt a0 x8_1)) = false := decide_eq_false (by omega)
    have c9b0 : (x8_1 == 13) = false := beq_eq_false_iff_ne.mpr (by omega)
    have c9b1 : (x8_1 != 13) = true := bne_iff_ne.mpr (by omega)
    have e1 : wrap64 ((wrap64 (10 * x4_1)) + (((bt a0 x8_1) - 48) % 256)) = 10 * x4_1 + (bt a0 x8_1 - 48) := by
     rw [Line.w64 (x := 10 * x4_1) (by omega) (by omega), Int.emod_eq_of_lt (by omega) (by omega), Line.w64 (by omega) (by omega)]
    have e2 : wrap64 (x8_1 + 1) = x8_1 + 1 := Line.w64 (by omega) (by omega)
    have E1 := Asd.mk e1
    have E2 := Asd.mk e2
    have p5 : 0 <= (x8_1 : Int) := hx.2.2
    have q5 : x8_1 < (a0.size : Int) := c2
    have hx5 := bt_at a0 x8_1
    replace p5 := eq_true p5
    replace q5 := eq_true q5
    clear H e1 e2 hx hy c2
    go_wp2
    go_roundg k1
    case measure => have := HK1.out; omega
    case rel =>
     refine ⟨(wrap64 ((wrap64 (10 * x4_1)) + (((bt a0 x8_1) - 48) % 256))), (wrap64 (x8_1 + 1)), (by first | rfl | (simp; done) | (simp [*]; done)), (by first | rfl | (simp; done) | (simp [*]; done)), ?_, ⟨by have := HK1.out; omega⟩, by repeat (first | exact Drawn0.refl _ | apply Drawn0.step)⟩
     rw [E1.out, E2.out]
     exact H'
   ·rw [if_neg c2] at H
    have c2b0 : decide (x8_1 < (a0.size : Int)) = false := decide_eq_false c2
    have hn : x4_1 = n := Option.some.inj H
    subst hn
    have c11b0 : decide (1099511627776 < x4_1) = false := decide_eq_false (by omega)
    have h0 := hx.1
    have h1 := hx.2.1
    have HB := Asd.mk (pbN (Below.refl W.heap.size W) m1)
    have HTX := Asd.mk (text_big x4_1 h0 (by omega) (HT.out.below HB.out))
    clear H hx c2 h0 h1
    go_wp2_with (go_at_call 44; (with_reducible refine HTX.out.mono ?_); rintro e w' ⟨rfl, hb⟩; have HB2 := Asd.mk hb; clear hb; have c13b0 : ((itoaB x4_1).toList == a0.toList) = true := beq_iff_eq.mpr (by rw [HA0.out]); have c13b1 : ((itoaB x4_1).toList != a0.toList) = false := bne_eq_false_iff_eq.mpr (by rw [HA0.out]))
    go_ret2
    exact ⟨by first | rfl | (simp; done) | (simp [*]; done), below_step HB.out HB2.out⟩
def okNum (n : Nat) : Bool := decide ((itoaB n).size <= 3) && dec0 100 (itoaB n) 0 0 == some (n : Int) && (itoaB n).data.toList.all fun c => !(c == 32)
theorem okNum_all : ((List.range 256).all fun i => okNum i) = true := by kernel_rfl
theorem okNum_at {n : Int} (h0 : 0 <= n) (h1 : n <= 255) : okNum n.toNat = true := List.all_eq_true.1 okNum_all n.toNat (List.mem_range.2 (by omega))
structure Nums (n : Int) (t : ByteArray) : Prop where
 size : t.size <= 3
 text : ∀ {W : World}, Tb W -> Calls Tryz.prog 44 #[.int .i64 n] W fun e w' => e = .returned (.string t) /\ Below W.heap.size W w'
 dec : ∀ {W : World}, Tb W -> Calls Tryz.prog 51 #[.string t] W fun e w' => e = .returned (.tuple #[.int .i64 n, .bool true]) /\ Below W.heap.size W w'
 plain : Hello.plainT t
theorem nums_big {n : Int} (h0 : 0 <= n) (h1 : n <= 255) : Nums n (itoaB n) := by
 have h := okNum_at h0 h1
 unfold okNum at h
 rw [show ((n.toNat : Nat) : Int) = n by omega] at h
 simp only [Bool.and_eq_true, beq_iff_eq, decide_eq_true_eq] at h
 refine ⟨by omega, fun hT => text_big n (by omega) (by omega) hT, fun hT => decimal_big 100 n h.1.2 hT, ?_⟩
 have h2 := h.2
 unfold Hello.plainT
 intro hc
 have h3 := List.all_eq_true.1 h2 32 hc
 simp at h3
theorem dec_no (s : ByteArray) (hz : s.size <= 1000) : ∀ (d i k : Nat) (x : Int), i + d < s.size -> (bt s ((i + d : Nat) : Int) < 48 ∨ bt s ((i + d : Nat) : Int) > 57) -> d + 1 <= k -> num_Decimal.l0 k s x (s.size : Int) (i : Int) = some (0, false) := by
 intro d
 induction d with
 | zero =>
  intro i k x hi hb hk
  obtain ⟨k, rfl⟩ : ∃ q, k = q + 1 := ⟨k - 1, by omega⟩
  rw [Nat.add_zero] at hi hb
  simp only [num_Decimal.l0]
  rw [if_pos (by omega), if_pos (by omega), if_pos (by omega)]
  by_cases c : bt s (i : Int) < 48
  ·rw [if_pos c]
  ·rw [if_neg c, if_pos (by omega)]
 | succ d ih =>
  intro i k x hi hb hk
  obtain ⟨k, rfl⟩ : ∃ q, k = q + 1 := ⟨k - 1, by omega⟩
  simp only [num_Decimal.l0]
  rw [if_pos (by omega), if_pos (by omega), if_pos (by omega)]
  by_cases c : bt s (i : Int) < 48
  ·rw [if_pos c]
  ·rw [if_neg c]
   by_cases c2 : bt s (i : Int) > 57
   ·rw [if_pos c2]
   ·rw [if_neg c2]
    by_cases c3 : (i : Int) = 13
    ·rw [if_pos c3]
    ·rw [if_neg c3, Line.w64 (x := (i : Int) + 1) (by omega) (by omega), show (i : Int) + 1 = ((i + 1 : Nat) : Int) by omega]
     exact ih (i + 1) k _ (by omega) (by rw [show i + 1 + d = i + (d + 1) by omega]; exact hb) (by omega)
end Go.Proofs.YtemkgdpfkbpnpaaGreatDoor.Take
end
section
namespace Go.Proofs.YtemkgdpfkbpnpaaGreatDoor.Take
open Go.RowKit Go.Proofs.YtemkgdpfkbpnpaaGreatDoorW.PrintWords Go.Proofs.YtemkgdpfkbpnpaaGreatDoorW.PrintLast Go.Proofs.YtemkgdpfkbpnpaaGreatDoorW.PrintMore Go.Proofs.YtemkgdpfkbpnpaaGreatDoor.Conv Go.Proofs.YtemkgdpfkbpnpaaGreatDoor.Print
set_option linter.unusedVariables false
set_option linter.unusedSimpArgs false
theorem first_byte {s p : ByteArray} {n : Nat} {c : UInt8} {t : List UInt8} (h : s.extract 0 n = p) (hp : p.toList = c :: t) : 0 < s.size /\ bt s 0 = (c.toNat : Int) := by
 have h1 : (s.extract 0 n).data.toList = c :: t := by rw [h, <- Lib.toList_data]; exact hp
 have h2 : (s.extract 0 n).data.toList = (s.data.toList.take n) := by
  rw [ByteArray.data_extract]
  simp
 rw [h2] at h1
 cases e : s.data.toList with
 | nil => rw [e] at h1; simp at h1
 | cons b r =>
  rw [e] at h1
  cases n with
  | zero => simp at h1
  | succ n =>
   rw [List.take_succ_cons] at h1
   have h3 : b = c := (List.cons.inj h1).1
   have hs : 0 < s.data.size := by rw [<- Array.length_toList, e]; simp
   have hs2 : 0 < s.size := hs
   refine ⟨hs2, ?_⟩
   have h5 := bt_at s 0 (by show 0 < s.size; exact hs2)
   rw [<- h5]
   have h6 : s.data[0]'hs = b := by
    have h7 : s.data.toList[0]? = some b := by rw [e]; rfl
    rw [Array.getElem?_toList, Array.getElem?_eq_getElem hs] at h7
    exact Option.some.inj h7
   show ((s.data[0]'hs).toNat : Int) = _
   rw [h6, h3]
theorem name_byte {s : ByteArray} (h : Hello.namedF s = true) : 0 < s.size /\ bt s 0 > 57 := by
 unfold Hello.namedF at h
 rw [Bool.and_eq_true, Bool.and_eq_true] at h
 obtain ⟨h1, h2, _⟩ := h
 have h1 := (of_decide_eq_true h1).2.1
 unfold Hello.piecesF at h1 h2
 cases hk : Lib.countB s ⟨#[47]⟩ with
 | zero => rw [hk] at h1; simp [Lib.splitB] at h1
 | succ k =>
  rw [hk] at h1 h2
  unfold Lib.splitB at h1 h2
  split at h1
  ·simp at h1
  ·rename_i c
   rw [if_neg c] at h2
   have h3 : Hello.firstF (s.extract 0 ((Lib.indexB s ⟨#[47]⟩).toNat + 0)) = true := h2
   unfold Hello.firstF at h3
   rcases of_decide_eq_true h3 with h4 | h4
   ·have h5 := first_byte rfl h4
    exact ⟨h5.1, by rw [h5.2]; decide⟩
   ·have h5 := first_byte rfl h4
    exact ⟨h5.1, by rw [h5.2]; decide⟩
theorem dec_name {s : ByteArray} (h : Hello.namedF s = true) : num_Decimal.f 2000 s = some (0, false) := by
 have h1 := name_byte h
 have h2 := Hello.named_size h
 exact dec_no s (by omega) 0 0 2000 0 (by omega) (Or.inr h1.2) (by omega)
theorem pre_no (s : ByteArray) (h : s.size <= 1000) : strings_CutPrefix.f (okLn s).f1 (⟨#[101, 114, 114, 111, 114, 32]⟩ : ByteArray) = some ((okLn s).f1, false) := by
 have hz := okLn_size s
 have e6 : (⟨#[101, 114, 114, 111, 114, 32]⟩ : ByteArray).size = 6 := rfl
 unfold strings_CutPrefix.f sl_CutPrefix.f sl_HasPrefix.f
 rw [e6]
 by_cases c : ((okLn s).f1.size : Int) >= ((6 : Nat) : Int)
 ·rw [if_pos c, if_pos (by omega), if_pos c]
  have hne : (((okLn s).f1.extract 0 (((6 : Nat) : Int)).toNat).toList == (⟨#[101, 114, 114, 111, 114, 32]⟩ : ByteArray).toList) = false := by
   refine beq_eq_false_iff_ne.2 (fun e => ?_)
   rw [Lib.toList_data, Lib.toList_data] at e
   have h3 : (okLn s).f1.data.toList = [111, 107, 32] ++ s.data.toList ++ [10] := by
    show (((⟨#[111, 107, 32]⟩ : ByteArray) ++ s) ++ (⟨#[10]⟩ : ByteArray)).data.toList = _
    simp [ByteArray.data_append]
   rw [ByteArray.data_extract, Array.toList_extract, h3] at e
   simp at e
  simp only [Option.bind_some, hne]
  rfl
 ·rw [if_neg c]
  rfl
theorem refused_name {s : ByteArray} (h : Hello.namedF s = true) : take_refused.f 2000 (okLn s).f1 = some (0, 0, false) := by
 have hz := Hello.named_size h
 have hl := okLn_size s
 have e1 : (okLn s).f1 = ((⟨#[111, 107]⟩ : ByteArray) ++ (⟨#[32]⟩ : ByteArray) ++ s) ++ (⟨#[10]⟩ : ByteArray) := rfl
 have hcut : Hello.cutF ((⟨#[111, 107]⟩ : ByteArray) ++ (⟨#[32]⟩ : ByteArray) ++ s) = (⟨#[111, 107]⟩, s) := Hello.cutF_app _ _ (by unfold Hello.plainT; decide)
 obtain ⟨b, hb⟩ := Hello.cut_eq ((⟨#[111, 107]⟩ : ByteArray) ++ (⟨#[32]⟩ : ByteArray) ++ s) (by rw [ByteArray.size_append]; show 3 + s.size <= _; omega)
 rw [hcut] at hb
 have hsuf : strings_CutSuffix.f (okLn s).f1 (⟨#[10]⟩ : ByteArray) = some ((⟨#[111, 107]⟩ : ByteArray) ++ (⟨#[32]⟩ : ByteArray) ++ s, true) := by
  rw [Hello.cutSuffix_eq _ (by omega), e1, Hello.sufF_line]
 have hok : num_Decimal.f 2000 (⟨#[111, 107]⟩ : ByteArray) = some (0, false) := dec_no (⟨#[111, 107]⟩ : ByteArray) (by decide) 0 0 2000 0 (by decide) (Or.inr (by decide)) (by omega)
 unfold take_refused.f
 rw [pre_no s (by omega)]
 simp only [Option.bind_some, hsuf, hb, hok, dec_name h]
 rfl
end Go.Proofs.YtemkgdpfkbpnpaaGreatDoor.Take
end
section
namespace Go.Proofs.YtemkgdpfkbpnpaaGreatDoor.Take
open Go.RowKit Go.Proofs.YtemkgdpfkbpnpaaGreatDoorW.PrintWords Go.Proofs.YtemkgdpfkbpnpaaGreatDoorW.PrintLast Go.Proofs.YtemkgdpfkbpnpaaGreatDoorW.PrintMore Go.Proofs.YtemkgdpfkbpnpaaGreatDoor.Conv Go.Proofs.YtemkgdpfkbpnpaaGreatDoor.Print Go.Proofs.YtemkgdpfkbpnpaaGreatDoor.Line
open Go.Proofs.YtemkgdpfkbpnpaaGreatDoor.Hello hiding Ln cutF cut_eq
set_option linter.unusedVariables false
set_option linter.unusedSimpArgs false
set_option maxHeartbeats 8000000 in
set_option maxRecDepth 100000 in
theorem refused_big {n m : Int} {t u : ByteArray} (h : Nums n t) (h2 : Nums m u) (h0 : n ≠ 0) {W : World} (hT : Tb W) :
  Calls Tryz.prog 31 #[.string (errL t u).f1] W fun e w' => e = .returned (.tuple #[.int .i64 n, .int .i64 m, .bool true]) /\ Below W.heap.size W w' := by
 have hz1 := h.size
 have hz2 := h2.size
 have H := Asd.mk h
 have H2 := Asd.mk h2
 have HT := Asd.mk hT
 obtain ⟨a0, ha⟩ : ∃ a0, a0 = (errL t u).f1 := ⟨_, rfl⟩
 have hzz : ((t ++ (⟨#[32]⟩ : ByteArray)) ++ u).size = t.size + 1 + u.size := by rw [ByteArray.size_append, ByteArray.size_append]; rfl
 have HP := Asd.mk (show strings_CutPrefix.f a0 (⟨#[101, 114, 114, 111, 114, 32]⟩ : ByteArray) = some (((t ++ (⟨#[32]⟩ : ByteArray)) ++ u) ++ (⟨#[10]⟩ : ByteArray), true) by
  rw [ha, show (errL t u).f1 = (⟨#[101, 114, 114, 111, 114, 32]⟩ : ByteArray) ++ (((t ++ (⟨#[32]⟩ : ByteArray)) ++ u) ++ (⟨#[10]⟩ : ByteArray)) from by unfold errL; simp only [ByteArray.append_assoc]]
  exact pre_line _ _ (by rw [ByteArray.size_append, hzz]; show 6 + (t.size + 1 + u.size + 1) <= _; omega))
 have HS := Asd.mk (show strings_CutSuffix.f (((t ++ (⟨#[32]⟩ : ByteArray)) ++ u) ++ (⟨#[10]⟩ : ByteArray)) (⟨#[10]⟩ : ByteArray) = some ((t ++ (⟨#[32]⟩ : ByteArray)) ++ u, true) by
  rw [Hello.cutSuffix_eq _ (by rw [ByteArray.size_append, hzz]; show t.size + 1 + u.size + 1 <= _; omega), Hello.sufF_line])
 obtain ⟨b, hb⟩ := Hello.cut_eq ((t ++ (⟨#[32]⟩ : ByteArray)) ++ u) (by rw [hzz]; omega)
 rw [Hello.cutF_app t u h.plain] at hb
 have HCU := Asd.mk hb
 have hn : ¬ n = 0 := h0
 rw [<- ha]
 clear ha hb h h2 hT hz1 hz2 hzz h0
 generalize ((t ++ (⟨#[32]⟩ : ByteArray)) ++ u) ++ (⟨#[10]⟩ : ByteArray) = s1 at HP HS
 generalize (t ++ (⟨#[32]⟩ : ByteArray)) ++ u = s2 at HS HCU
 go_enter Tryz.func31, Tryz.ntmps31
 go_wp2_with (first
  | (go_at_call 32; with_reducible refine (strings_CutPrefix.calls _ _ _ _ _ HP.out).mono ?_; rintro e W1 ⟨rfl, hb⟩; have HB1 := Asd.mk hb.below; clear hb)
  | (go_at_call 33; with_reducible refine (strings_CutSuffix.calls _ _ _ _ _ HS.out).mono ?_; rintro e W2 ⟨rfl, hb⟩; have HB2 := Asd.mk (below_step HB1.out hb.below); clear hb)
  | (go_at_call 50; with_reducible refine (strings_Cut.calls _ _ _ _ _ _ HCU.out).mono ?_; rintro e W3 ⟨rfl, hb⟩; have HB3 := Asd.mk (below_step HB2.out hb.below); clear hb)
  | (go_at_call 51; with_reducible refine (H.out.dec (HT.out.below HB3.out)).mono ?_; rintro e W4 ⟨rfl, hb⟩; have HB4 := Asd.mk (below_step HB3.out hb); clear hb)
  | (go_at_call 51; with_reducible refine (H2.out.dec (HT.out.below HB4.out)).mono ?_; rintro e W5 ⟨rfl, hb⟩; have HB5 := Asd.mk (below_step HB4.out hb); clear hb))
 go_ret3
 exact ⟨rfl, HB5.out⟩
set_option maxRecDepth 100000 in
set_option maxHeartbeats 4000000 in
theorem got_big {W : World} {t u : ByteArray} {n m : Int} (h1 : Nums n t) (h2 : Nums m u) (h0 : n ≠ 0) (hT : Tb W) (A : Option Addr) (c : Nat) (hr : Kd.C (Kd.int .u8) W A (errB t u).length (errB t u)) (hc : (errB t u).length <= c) :
  Calls Tryz.prog 17 #[.slice A (errB t u).length c] W fun e w' => e = .returned (.tuple #[.slice none 0 0, .int .i64 n, .int .i64 m, .bool true]) /\ Below W.heap.size W w' := by
 have ht : t.size <= 1000 := Nat.le_trans h1.size (by decide)
 have hu : u.size <= 1000 := Nat.le_trans h2.size (by decide)
 have HCUT := Asd.mk (line_Cut.calls 400000 A c (errB t u) _ _ _ W hr hc (err_cut ht hu))
 have HF := Asd.mk (fun (W' : World) (h : Below W.heap.size W W') => refused_big h1 h2 h0 (hT.below h))
 obtain ⟨us, hus⟩ : ∃ us : List Ln, us = [errL t u, flushLn] := ⟨_, rfl⟩
 rw [<- hus] at HCUT
 have HUL := Asd.mk (show us.length = 2 by rw [hus]; rfl)
 have HIX := Asd.mk (show take_first.f us = some 1 by rw [hus]; rfl)
 have HRD := Asd.mk (show rd_T65 us 0 = errL t u by rw [hus]; rfl)
 clear hr hc ht hu hus h1 h2 h0 hT
 generalize errB t u = bs at HCUT ⊢
 go_enter Tryz.func17, Tryz.ntmps17
 go_upto_region 4 with (first
  | (go_at_call 26; with_reducible refine HCUT.out.mono ?_; rintro e W4 ⟨vu, vp, rfl, ho, ho', hb⟩; obtain ⟨Au, cu, rfl⟩ := Kd.R_slice ho; obtain ⟨Ap, cp, rfl⟩ := Kd.R_slice ho'; have HU := Asd.mk (Kd.R_reads' ho).2.2; have HUc := Asd.mk (Kd.R_reads' ho).2.1; have HB4 := Asd.mk hb; clear ho ho' hb; have hul := HUL.out)
  | (go_at_call 30; have hz := take_first.calls Au cu us 1 _ HU.out HUc.out HIX.out; rw [hul] at hz; with_reducible refine hz.mono ?_; clear hz; rintro e W5 ⟨rfl, hb⟩; have HB5 := Asd.mk (below_step HB4.out hb); replace HU := Asd.mk (Kd.C_below HU.out hb); clear hb))
 obtain ⟨ad, rfl, k0, k1⟩ := at_T65 HU.out 0 (by decide) (by rw [hul]; decide)
 rw [HRD.out] at k0 k1
 rw [show Int.toNat 0 * 2 = 0 from rfl, Hello.add0_block, Hello.add0_off] at k1
 go_wp2_with (go_at_call 31; with_reducible refine (HF.out _ HB5.out).mono ?_; rintro e W6 ⟨rfl, hb⟩; have HB6 := Asd.mk (below_step HB5.out hb); clear hb k0 k1)
 (try simp only [Exit.inBlock, Exit.then])
 refine bodyPost_ret (results_tmp4 rfl _ _ _) rfl ?_
 exact ⟨rfl, HB6.out⟩
end Go.Proofs.YtemkgdpfkbpnpaaGreatDoor.Take
end
