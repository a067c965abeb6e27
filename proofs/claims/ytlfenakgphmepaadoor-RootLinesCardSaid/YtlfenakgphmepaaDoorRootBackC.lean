/- The calls of RootBack answer true, whatever they are handed. -/
import Derived.Test.YtlfenakgphmepaaDoorRootSame
import Derived.Test.YtlfenakgphmepaaDoorRootHeadW
namespace Go.Proofs.YtlfenakgphmepaaDoor.Root
open Go.RowKit Go.Proofs.YtlfenakgphmepaaDoorW.PrintWords Go.Proofs.YtlfenakgphmepaaDoorW.PrintLast Go.Proofs.YtlfenakgphmepaaDoorW.PrintMore Go.Proofs.YtlfenakgphmepaaDoor.Conv Go.Proofs.YtlfenakgphmepaaDoor.Print Go.Proofs.YtlfenakgphmepaaDoor.Build
set_option linter.unusedVariables false
set_option linter.unusedSimpArgs false
theorem get_R_some (s : ByteArray) (hs : s.size <= 800000) {m : Int} {pl : List ByteArray} {fl : List Fk} (hg : getR s = some (m, pl, fl)) (A : Option Addr) (n c : Nat) (bs : List Int) (W : World) (hr : Kd.C (Kd.int .u8) W A n bs) (hbs : strOfNums bs = s) (hT : Tb W) :
  Calls Tryd.prog 12 #[.slice A n c] W fun r w' => Below W.heap.size W w' /\ ∃ Ap cp Af cf, r = .returned (.tuple #[.agg #[.int .i64 m, .slice Ap pl.length cp, .slice Af fl.length cf], .bool true]) /\ Kd.C Kd.string w' Ap pl.length pl /\ pl.length <= cp /\ Kd.C k40 w' Af fl.length fl /\ fl.length <= cf := by
 refine (get_R s hs A n c bs W hr hbs hT).mono ?_
 rintro r w' ⟨hb, ⟨m2, pl2, fl2, hg2, h⟩ | ⟨hg2, _⟩⟩
 ·rw [hg] at hg2
  obtain ⟨rfl, e⟩ := Prod.mk.inj (Option.some.inj hg2)
  obtain ⟨rfl, rfl⟩ := Prod.mk.inj e
  exact ⟨hb, h⟩
 ·rw [hg] at hg2
  cases hg2
theorem get_R_none (s : ByteArray) (hs : s.size <= 800000) (hg : getR s = none) (A : Option Addr) (n c : Nat) (bs : List Int) (W : World) (hr : Kd.C (Kd.int .u8) W A n bs) (hbs : strOfNums bs = s) (hT : Tb W) :
  Calls Tryd.prog 12 #[.slice A n c] W fun r w' => Below W.heap.size W w' /\ r = .returned (.tuple #[.agg #[.int .i64 0, .slice none 0 0, .slice none 0 0], .bool false]) := by
 refine (get_R s hs A n c bs W hr hbs hT).mono ?_
 rintro r w' ⟨hb, ⟨m2, pl2, fl2, hg2, h⟩ | ⟨hg2, h⟩⟩
 ·rw [hg] at hg2
  cases hg2
 ·exact ⟨hb, h⟩
theorem same_calls {n1 n2 : Int} {p1 p2 : List ByteArray} {a b : List Fk} (hL : LenR p1 a) (bo : Bool) (hb : bo = true <-> (n1, p1, a) = (n2, p2, b)) (A1 : Option Addr) (c1 : Nat) (A2 : Option Addr) (c2 : Nat) (B1 : Option Addr) (d1 : Nat) (B2 : Option Addr) (d2 : Nat) (W : World)
  (h1 : Kd.C Kd.string W A1 p1.length p1) (l1 : p1.length <= c1) (h2 : Kd.C k40 W A2 a.length a) (l2 : a.length <= c2) (h3 : Kd.C Kd.string W B1 p2.length p2) (l3 : p2.length <= d1) (h4 : Kd.C k40 W B2 b.length b) (l4 : b.length <= d2) :
  Calls Tryd.prog 13 #[.agg #[.int .i64 n1, .slice A1 p1.length c1, .slice A2 a.length c2], .agg #[.int .i64 n2, .slice B1 p2.length d1, .slice B2 b.length d2]] W fun e w' => e = .returned (.bool bo) /\ Below W.heap.size W w' := by
 obtain ⟨k, r, hr, hq⟩ := same_eq n1 n2 p1 p2 a b hL
 have e : r = bo := Bool.eq_iff_iff.2 (hq.trans hb.symm)
 subst e
 exact sacristyref10_Same.calls k n1 A1 c1 p1 A2 c2 a n2 B1 d1 p2 B2 d2 b r W h1 l1 h2 l2 h3 l3 h4 l4 hr
theorem str_size (l : List Int) : (strOfNums l).size = l.length := by simp [strOfNums, ByteArray.size]
end Go.Proofs.YtlfenakgphmepaaDoor.Root
