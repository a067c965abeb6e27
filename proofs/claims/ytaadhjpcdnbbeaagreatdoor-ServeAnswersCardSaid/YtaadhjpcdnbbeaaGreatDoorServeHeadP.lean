/- The live question of layer 17, its plain facts. -/
import Derived.Test.YtaadhjpcdnbbeaaGreatDoorServeGot
namespace Go.Proofs.YtaadhjpcdnbbeaaGreatDoor.Serve
open Go.RowKit Go.Proofs.YtaadhjpcdnbbeaaGreatDoorW.PrintWords Go.Proofs.YtaadhjpcdnbbeaaGreatDoorW.PrintLast Go.Proofs.YtaadhjpcdnbbeaaGreatDoorW.PrintMore Go.Proofs.YtaadhjpcdnbbeaaGreatDoor.Conv Go.Proofs.YtaadhjpcdnbbeaaGreatDoor.Print Go.Proofs.YtaadhjpcdnbbeaaGreatDoor.Line Go.Proofs.YtaadhjpcdnbbeaaGreatDoor.Hello
set_option linter.unusedVariables false
def mainT : ByteArray := ⟨#[104, 101, 97, 100, 115, 47, 109, 97, 105, 110]⟩
theorem named_main : namedF mainT = true := by kernel_rfl
theorem told_main : toldF mainT [] = (endsF (toldT mainT []), true) := if_pos ⟨named_main, rfl⟩
theorem named_none : namedF (⟨#[]⟩ : ByteArray) = false := by kernel_rfl
theorem told_none : toldF ⟨#[]⟩ [] = ([], false) := if_neg (fun e => by rw [named_none] at e; cases e.1)
theorem told_bytes : strOfNums (putF (toldF mainT []).1).1 = ⟨#[48, 48, 49, 100, 115, 97, 99, 114, 105, 115, 116, 121, 32, 104, 101, 97, 100, 32, 104, 101, 97, 100, 115, 47, 109, 97, 105, 110, 10, 48, 48, 48, 48]⟩ := by
 rw [told_main]
 kernel_rfl
theorem cut_z : cutF [122, 122, 122, 122] = ([], [], 3) := by kernel_rfl
theorem take_z (s : St) (h0 : s.st = 0) (hc : s.came = []) : takeS askR errT s [122, 122, 122, 122] = { s with came := [122, 122, 122, 122], send := s.send ++ errB ⟨#[51]⟩, st := 2 } := by
 have e1 : takeS askR errT s [122, 122, 122, 122] = hearS askR errT { s with came := [122, 122, 122, 122] } := by
  unfold takeS
  rw [if_neg (by rw [h0]; decide), if_pos h0, hc, List.nil_append]
 rw [e1]
 unfold hearS
 simp only [cut_z, flushF]
 rw [if_neg (by decide)]
 unfold endS
 rw [errT3]
theorem ends_ok {ts : List ByteArray} (h : ∀ t ∈ ts, t.size + 1 <= 300) : (endsF ts).all Line.okL = true := by
 unfold endsF
 rw [List.all_append, Bool.and_eq_true]
 refine ⟨List.all_eq_true.2 fun x hx => ?_, by decide⟩
 obtain ⟨t, ht, rfl⟩ := List.mem_map.1 hx
 have h1 := h t ht
 have hz : (Hello.lineOf t).f1.size = t.size + 1 := by show (t ++ (⟨#[10]⟩ : ByteArray)).size = _; rw [ByteArray.size_append]; rfl
 unfold Line.okL
 rw [hz, show (Hello.lineOf t).f0 = false from rfl, show (((t.size + 1 : Nat) : Int) == 0) = false from by simp; omega, decide_eq_false (by omega)]
 rfl
theorem flushF_ends : ∀ ts : List ByteArray, flushF (endsF ts) = some ((endsF ts).length - 1)
 | [] => rfl
 | t :: ts => by
  have e : endsF (t :: ts) = Hello.lineOf t :: endsF ts := rfl
  have hl := ends_len ts
  rw [e]
  simp only [flushF]
  rw [if_neg (by simp [Hello.lineOf]), flushF_ends ts, List.length_cons]
  show some ((endsF ts).length - 1 + 1) = some ((endsF ts).length + 1 - 1)
  congr 1
  omega
theorem asks_take {a b : List ByteArray} {x : List Line.Ln} (e : askF a b = (x, true)) (s : St) (h0 : s.st = 0) (hc : s.came = []) : takeS askR errT s (putF x).1 = { s with came := (putF x).1, wants := a, haves := b, st := 1 } := by
 have e1 := ask_first e
 have hok : x.all Line.okL = true := by
  rw [e1.1]
  exact ends_ok fun t ht => by have := asks_small e1.2.2.1 e1.2.2.2 t ht; omega
 have hf : flushF x = some (x.length - 1) := by rw [e1.1]; exact flushF_ends _
 have ha : askR x = (a, b, true) := by
  unfold askR
  rw [asked_back e (k := 6000000) (by omega)]
  rfl
 have hp : (putF x).1 = x.flatMap encL := by
  unfold putF
  rw [if_pos hok]
 have h := takeS_whole askR errT s x h0 hc hok hf (by rw [ha])
 rw [ha] at h
 rw [hp]
 exact h
theorem asks_early {a b : List ByteArray} {x : List Line.Ln} (e : askF a b = (x, true)) (s : St) (h0 : s.st = 0) (hc : s.came = []) (p q : List Int) (hpq : p ++ q = (putF x).1) (hq : q ≠ []) : (takeS askR errT s p).st ≠ 1 /\ Alike (takeS askR errT (takeS askR errT s p) q) { s with came := (putF x).1, wants := a, haves := b, st := 1 } := by
 have h := asks_take e s h0 hc
 rw [<- hpq] at h ⊢
 refine ⟨takeS_early askR errT s p q (Or.inl h0) hq (by rw [h]), ?_⟩
 rw [<- h]
 exact takeS_two askR errT s p q (Or.inl h0)
end Go.Proofs.YtaadhjpcdnbbeaaGreatDoor.Serve
