/- What one who fetched got, of bytes that tell an error. -/
import Derived.Test.YtaadhjpcdnbbeaaGreatDoorServeGive
namespace Go.Proofs.YtaadhjpcdnbbeaaGreatDoor.Serve
open Go.RowKit Go.Proofs.YtaadhjpcdnbbeaaGreatDoorW.PrintWords Go.Proofs.YtaadhjpcdnbbeaaGreatDoorW.PrintLast Go.Proofs.YtaadhjpcdnbbeaaGreatDoorW.PrintMore Go.Proofs.YtaadhjpcdnbbeaaGreatDoor.Conv Go.Proofs.YtaadhjpcdnbbeaaGreatDoor.Print Go.Proofs.YtaadhjpcdnbbeaaGreatDoor.Line
set_option linter.unusedVariables false
theorem err_ok {t : ByteArray} (h : t.size <= 1000) : [errL t, (⟨true, ⟨#[]⟩⟩ : Ln)].all okL = true := by
 have hz : (errL t).f1.size = 7 + t.size := by
  show (((⟨#[101, 114, 114, 111, 114, 32]⟩ : ByteArray) ++ t) ++ (⟨#[10]⟩ : ByteArray)).size = _
  rw [ByteArray.size_append, ByteArray.size_append]
  show 6 + t.size + 1 = _
  omega
 rw [List.all_cons, List.all_cons, List.all_nil, Bool.and_true, Bool.and_eq_true]
 refine ⟨?_, by decide⟩
 unfold okL
 rw [hz, show (errL t).f0 = false from rfl, show (((7 + t.size : Nat) : Int) == 0) = false from by simp; omega, decide_eq_false (by omega)]
 rfl
theorem err_eq {t : ByteArray} (h : t.size <= 1000) : errB t = [errL t, (⟨true, ⟨#[]⟩⟩ : Ln)].flatMap encL := by
 unfold errB putF
 rw [if_pos (err_ok h)]
theorem got_err (t : ByteArray) (n : Int) (h : t.size <= 1000) (hf : serve_failure.f 100 (errL t).f1 = some n) (h0 : n ≠ 0) : ∃ k, serve_Got.f k (errB t) = some ([], n, true) := by
 have hok := err_ok h
 have he := err_eq h
 have hz : (errL t).f1.size = 7 + t.size := by
  show (((⟨#[101, 114, 114, 111, 114, 32]⟩ : ByteArray) ++ t) ++ (⟨#[10]⟩ : ByteArray)).size = _
  rw [ByteArray.size_append, ByteArray.size_append]
  show 6 + t.size + 1 = _
  omega
 have hlen : (errB t).length <= 8008 := putF_len [errL t, ⟨true, ⟨#[]⟩⟩]
 have hc := cut_eq (errB t) (by rw [he]; exact enc_bytes hok) (by omega) (k := 100001) (by omega)
 rw [show cutF (errB t) = ([errL t, (⟨true, ⟨#[]⟩⟩ : Ln)], [], 0) by rw [he]; exact cutF_enc _ hok] at hc
 refine ⟨100001, ?_⟩
 obtain ⟨k, hk⟩ : ∃ k, k = 100000 := ⟨_, rfl⟩
 rw [show (100001 : Nat) = k + 1 by omega] at hc ⊢
 have hf2 : serve_failure.f k (errL t).f1 = some n := at_rounds (serve_failure.mono _) (by omega) hf
 unfold serve_Got.f
 rw [hc]
 simp only [Option.bind_some, serve_Got.j0]
 have e0 : rd_T60 [errL t, (⟨true, ⟨#[]⟩⟩ : Ln)] 0 = errL t := rfl
 have e1 : rd_T60 [errL t, (⟨true, ⟨#[]⟩⟩ : Ln)] 1 = (⟨true, ⟨#[]⟩⟩ : Ln) := rfl
 rw [e0, e1, hf2]
 have hn : ¬ ((errL t).f1.toList = ([112, 97, 99, 107, 10] : List UInt8)) := fun e => by
  rw [Lib.toList_data] at e
  have h3 : (errL t).f1.data.toList = [101, 114, 114, 111, 114, 32] ++ t.data.toList ++ [10] := by
   show (((⟨#[101, 114, 114, 111, 114, 32]⟩ : ByteArray) ++ t) ++ (⟨#[10]⟩ : ByteArray)).data.toList = _
   simp [ByteArray.data_append]
  rw [h3] at e
  simp at e
 simp [hn, h0]
theorem got_err3 : ∃ k, serve_Got.f k (errB ⟨#[51]⟩) = some ([], 3, true) := got_err ⟨#[51]⟩ 3 (by decide) (by kernel_rfl) (by decide)
theorem packB_eq (p : List Int) : packB p = (packL :: partsF p).flatMap encL := by
 have h1 : [packL].all okL = true := by kernel_rfl
 unfold packB putF
 rw [if_pos h1, if_pos (partsF_ok p)]
 simp
theorem got_pack (p : List Int) (hB : Bytes p) (hp : p.length <= 100000) : ∃ k, serve_Got.f k (packB p) = some (p, 0, true) := by
 have hok : (packL :: partsF p).all okL = true := by
  rw [List.all_cons, partsF_ok p, Bool.and_true]
  kernel_rfl
 have hl := partsF_length p
 have hlen : (packB p).length <= 1000000000 := by
  have h2 := putF_len (packL :: partsF p)
  unfold putF at h2
  rw [if_pos hok] at h2
  rw [packB_eq]
  have h3 : ((packL :: partsF p).flatMap encL).length <= 4004 * (packL :: partsF p).length := h2
  rw [List.length_cons] at h3
  omega
 have hc := cut_eq (packB p) (by rw [packB_eq]; exact enc_bytes hok) (by omega) (k := 2000000001) (by omega)
 rw [show cutF (packB p) = (packL :: partsF p, [], 0) by rw [packB_eq]; exact cutF_enc _ hok] at hc
 have hj := join_eq (partsF p) (by omega) (by rw [partsF_sizes p hB]; omega) (k := 2000000000) (by omega)
 rw [partsF_join p hB] at hj
 obtain ⟨r, hr, hi⟩ := Hello.equal_eq (partsF p) (partsF p) (by omega) (k := 2000000000) (by omega)
 obtain rfl := hi.2 rfl
 refine ⟨2000000001, ?_⟩
 obtain ⟨k, hk⟩ : ∃ k, k = 2000000000 := ⟨_, rfl⟩
 rw [<- hk] at hj hr
 rw [show (2000000001 : Nat) = k + 1 by omega] at hc ⊢
 clear hk
 have e0 : rd_T60 (packL :: partsF p) 0 = packL := rfl
 have hn : packL.f1.toList = ([112, 97, 99, 107, 10] : List UInt8) := by decide +kernel
 unfold serve_Got.f
 rw [hc]
 simp only [Option.bind_some, serve_Got.j0]
 rw [if_pos True.intro, if_neg (by simp), decide_eq_false (by rw [List.length_cons]; omega), if_neg (by simp), if_pos (by rw [List.length_cons]; omega), e0, if_pos hn, if_pos (by rw [List.length_cons]; omega), List.drop_succ_cons, List.drop_zero, hj]
 simp only [Option.bind_some]
 rw [parts_eq p (by omega)]
 simp only [Option.bind_some]
 rw [hr]
 rfl
end Go.Proofs.YtaadhjpcdnbbeaaGreatDoor.Serve
