/- A root that a law is handed, opened. -/
import Derived.Test.YtlfenakgphmepaaGreatDoorOpenS
import Derived.Test.YtlfenakgphmepaaGreatDoorRootCall
namespace Go.Proofs.YtlfenakgphmepaaGreatDoor.Root
open Go.ChangeShapes Go.WideShapes Go.RowKit YtlfenakgphmepaaGreatDoorW.PrintWords Print YtlfenakgphmepaaGreatDoor.Open
set_option linter.unusedVariables false
def reachN : Nat := 140737488351232
theorem reach_eq : reachBytes = reachN := by decide
def okTexts (xs : List ByteArray) : Prop := (xs.length <= maxLen /\ xs.length * 16 <= reachBytes) /\ ∀ x ∈ xs, x.size <= reachBytes
def okRef (y : Rf) : Prop := y.f0.size <= reachBytes /\ y.f1.size <= reachBytes
def okRefs (xs : List Rf) : Prop := (xs.length <= maxLen /\ xs.length * 32 <= reachBytes) /\ ∀ x ∈ xs, okRef x
def okFork (y : Fk) : Prop := y.f0.size <= reachBytes /\ True /\ y.f2.size <= reachBytes /\ okRefs y.f3 /\ okTexts y.f4
def okForks (xs : List Fk) : Prop := (xs.length <= maxLen /\ xs.length * 88 <= reachBytes) /\ ∀ x ∈ xs, okFork x
def okRoot (y : Int × List ByteArray × List Fk) : Prop := (Lit.int .i64 y.1).wf = true /\ okTexts y.2.1 /\ okForks y.2.2
set_option maxRecDepth 100000 in
theorem opens_texts : OpensS Tryz.prog (Kd.slice 9 Kd.string) 22 okTexts := opensS_slice Tryz.underlying22 (by kernel_rfl) (opensS_string Tryz.underlying9) 9 (by kernel_rfl)
set_option maxRecDepth 100000 in
theorem opens_ref : OpensS Tryz.prog k83 83 okRef := by
 have h : OpensS Tryz.prog (Kd.pair Kd.string Kd.string) 83 (fun y => y.1.size <= reachBytes /\ y.2.size <= reachBytes) := opensS_struct Tryz.underlying83 (by kernel_rfl) (opensFS_cons (opensS_string Tryz.underlying9) rfl (by kernel_rfl) (opensFS_last (opensS_string Tryz.underlying9) rfl (by kernel_rfl)))
 exact opensS_iso (fun x : S83 => (x.f0, x.f1)) (fun p => ⟨p.1, p.2⟩) (fun _ => rfl) h
set_option maxRecDepth 100000 in
theorem opens_refs : OpensS Tryz.prog (Kd.slice 83 k83) 37 okRefs := opensS_slice Tryz.underlying37 (by kernel_rfl) opens_ref 83 (by kernel_rfl)
set_option maxRecDepth 100000 in
theorem opens_fork : OpensS Tryz.prog k39 39 okFork := by
 have h : OpensS Tryz.prog (Kd.pair Kd.string (Kd.pair Kd.bool (Kd.pair Kd.string (Kd.pair (Kd.slice 83 k83) (Kd.slice 9 Kd.string))))) 39 (fun y => y.1.size <= reachBytes /\ True /\ y.2.2.1.size <= reachBytes /\ okRefs y.2.2.2.1 /\ okTexts y.2.2.2.2) :=
  opensS_struct Tryz.underlying39 (by kernel_rfl) (opensFS_cons (p := fun s : ByteArray => s.size <= reachBytes) (p' := fun y : Bool × ByteArray × List Rf × List ByteArray => True /\ y.2.1.size <= reachBytes /\ okRefs y.2.2.1 /\ okTexts y.2.2.2) (opensS_string Tryz.underlying9) rfl (by kernel_rfl)
   (opensFS_cons (p := fun _ : Bool => True) (p' := fun y : ByteArray × List Rf × List ByteArray => y.1.size <= reachBytes /\ okRefs y.2.1 /\ okTexts y.2.2) (opens_bool Tryz.underlying4).s rfl (by kernel_rfl)
   (opensFS_cons (p := fun s : ByteArray => s.size <= reachBytes) (p' := fun y : List Rf × List ByteArray => okRefs y.1 /\ okTexts y.2) (opensS_string Tryz.underlying9) rfl (by kernel_rfl)
   (opensFS_cons (p := okRefs) (p' := okTexts) opens_refs rfl (by kernel_rfl) (opensFS_last opens_texts rfl (by kernel_rfl))))))
 exact opensS_iso (fun x : S39 => (x.f0, x.f1, x.f2, x.f3, x.f4)) (fun p => ⟨p.1, p.2.1, p.2.2.1, p.2.2.2.1, p.2.2.2.2⟩) (fun _ => rfl) h
set_option maxRecDepth 100000 in
theorem opens_forks : OpensS Tryz.prog (Kd.slice 39 k39) 23 okForks := opensS_slice Tryz.underlying23 (by kernel_rfl) opens_fork 39 (by kernel_rfl)
set_option maxRecDepth 100000 in
theorem opens_root : OpensS Tryz.prog (Kd.pair (Kd.int .i64) (Kd.pair (Kd.slice 9 Kd.string) (Kd.slice 39 k39))) 25 okRoot :=
 opensS_struct Tryz.underlying25 (by kernel_rfl) (opensFS_cons (p := fun z : Int => (Lit.int .i64 z).wf = true) (p' := fun y : List ByteArray × List Fk => okTexts y.1 /\ okForks y.2) (opens_int Tryz.underlying3).s rfl (by kernel_rfl) (opensFS_cons (p := okTexts) (p' := okForks) opens_texts rfl (by kernel_rfl) (opensFS_last opens_forks rfl (by kernel_rfl))))
theorem root_in {H : Type} {enc : TypeId × Value -> H} {w : World} {base : Nat} {spare : Nat -> Bool} {held : Bool} {cs : Array Value} {x : DataW H} {pl : List MemPlace}
  (hT : DataW.Trod enc Tryz.prog w base spare held 25 (.agg cs) x pl) (hw : ∀ m ∈ x.weights Tryz.prog 25, m <= reachBytes) :
  ∃ n pool forks Ap cp Af cf, Value.agg cs = .agg #[.int .i64 n, .slice Ap pool.length cp, .slice Af forks.length cf] /\ Kd.C Kd.string w Ap pool.length pool /\ pool.length <= cp /\ Kd.C k39 w Af forks.length forks /\ forks.length <= cf /\ okRoot (n, pool, forks) := by
 obtain ⟨m, hm⟩ := hT
 obtain ⟨⟨n, pool, forks⟩, hK, hp⟩ := opens_root.go hm hw
 have hK' : (Kd.pair (Kd.int .i64) (Kd.pair (Kd.slice 9 Kd.string) (Kd.slice 39 k39))).K w (n, pool, forks) cs.toList := hK
 obtain ⟨c1, c2, e1, h1, c3, c4, e2, ⟨A2, k2, e3, l2, g2⟩, ⟨A3, k3, e4, l3, g3⟩⟩ := hK'
 refine ⟨n, pool, forks, A2, k2, A3, k3, ?_, g2, l2, g3, l3, hp⟩
 congr 1
 apply Array.ext'
 rw [e1, e2, e3, e4]
 rw [show c1 = [.int .i64 n] from h1]
 rfl
end Go.Proofs.YtlfenakgphmepaaGreatDoor.Root
