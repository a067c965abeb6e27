/- What a talk does from each of its states; numbers among the arguments. -/
import Derived.Test.YtaadhjpcdnbbeaaGreatDoorServeHead
namespace Go.Proofs.YtaadhjpcdnbbeaaGreatDoor.Serve
open Go.RowKit Go.Proofs.YtaadhjpcdnbbeaaGreatDoorW.PrintWords Go.Proofs.YtaadhjpcdnbbeaaGreatDoorW.PrintLast Go.Proofs.YtaadhjpcdnbbeaaGreatDoorW.PrintMore Go.Proofs.YtaadhjpcdnbbeaaGreatDoor.Conv Go.Proofs.YtaadhjpcdnbbeaaGreatDoor.Print
set_option linter.unusedVariables false
theorem bytes_of_wf {l : List Int} (h : ∀ x ∈ l, (Lit.int .u8 x).wf = true) : Line.Bytes l := by
 intro x hx
 have := h x hx
 simp [Lit.wf, IntKind.min, IntKind.max, IntKind.signed, IntKind.bits] at this
 exact ⟨by omega, by omega⟩
theorem u16_of_wf {x : Int} (h : (Lit.int .u16 x).wf = true) : 0 <= x /\ x <= 65535 := by
 simp [Lit.wf, IntKind.min, IntKind.max, IntKind.signed, IntKind.bits] at h
 exact ⟨by omega, by omega⟩
theorem u8_of_wf {x : Int} (h : (Lit.int .u8 x).wf = true) : 0 <= x /\ x <= 255 := by
 simp [Lit.wf, IntKind.min, IntKind.max, IntKind.signed, IntKind.bits] at h
 exact ⟨by omega, by omega⟩
section
variable (ask : List Line.Ln -> List ByteArray × List ByteArray × Bool) (err : Int -> List Int) (cm sd : List Int) (wa ha : List ByteArray)
theorem take_over (b : List Int) : takeS ask err ⟨cm, sd, wa, ha, 2⟩ b = ⟨cm ++ b, sd, wa, ha, 2⟩ := by
 unfold takeS
 rw [if_neg (by show ¬ (2 : Int) = 1; decide), if_neg (by show ¬ (2 : Int) = 0; decide)]
end
structure T2 (B W : World) (V : Nat -> Prop) (o1 : Nat -> Prop) (g1 : Nat) (s1 : St) (o2 : Nat -> Prop) (g2 : Nat) (s2 : St) : Prop where
 one : T B W o1 g1 s1
 two : T B W o2 g2 s2
 apart : ∀ k, o1 k -> ¬ o2 k
 v1 : ∀ k, o1 k -> ¬ V k
 v2 : ∀ k, o2 k -> ¬ V k
 lt : ∀ k, V k -> k < W.heap.size
theorem T2.below {B W W' : World} {V o1 o2 : Nat -> Prop} {g1 g2 : Nat} {s1 s2 : St} (h : T2 B W V o1 g1 s1 o2 g2 s2) (hb : Below W.heap.size W W') : T2 B W' V o1 g1 s1 o2 g2 s2 := ⟨h.one.below hb, h.two.below hb, h.apart, h.v1, h.v2, fun k e => Nat.lt_of_lt_of_le (h.lt k e) hb.size⟩
structure Same (B W1 : World) (V : Nat -> Prop) (W : World) : Prop where
 below : Below B.heap.size B W
 v : ∀ k, V k -> W.heap[k]? = W1.heap[k]?
theorem Same.step {B W1 W W' : World} {V : Nat -> Prop} (h : Same B W1 V W) (hb : Below W.heap.size W W') (hl : ∀ k, V k -> k < W.heap.size) : Same B W1 V W' := ⟨below_step h.below hb, fun k e => (hb.block k (hl k e)).trans (h.v k e)⟩
theorem Same.row {α : Type} {d : Kd α} {B W1 W : World} {V : Nat -> Prop} {A : Option Addr} {n : Nat} {xs : List α} (h : Same B W1 V W) (hr : Kd.F d W1 V A n xs) : d.C W A n xs := hr W (fun k e _ => h.v k e)
end Go.Proofs.YtaadhjpcdnbbeaaGreatDoor.Serve
