/- The calls of RootCut answer true, whatever they are handed. -/
import Derived.Test.YtlfenakgphmepaaDoorRootBackC
namespace Go.Proofs.YtlfenakgphmepaaDoor.Root
open Go.RowKit Go.Proofs.YtlfenakgphmepaaDoorW.PrintWords Go.Proofs.YtlfenakgphmepaaDoorW.PrintLast Go.Proofs.YtlfenakgphmepaaDoorW.PrintMore Go.Proofs.YtlfenakgphmepaaDoor.Conv Go.Proofs.YtlfenakgphmepaaDoor.Print Go.Proofs.YtlfenakgphmepaaDoor.Build
set_option linter.unusedVariables false
set_option linter.unusedSimpArgs false
theorem textR_pos {n : Int} {pool : List ByteArray} {forks : List Fk} (h : rootF n pool forks = true) : 0 < (textR n pool forks).size := by
 rw [textR_lines h, joinA_size]
 unfold rootLs
 rw [sizeT_cons]
 omega
theorem bytesOf_len (s : ByteArray) : (bytesOf s).length = s.size := by rw [<- str_size, strOf_bytesOf]
theorem u8_wf {x : Int} (h : (Lit.int .u8 x).wf = true) : 0 <= x /\ x <= 255 := by
 simp [Lit.wf, IntKind.min, IntKind.max, IntKind.signed, IntKind.bits] at h
 exact ⟨by omega, by omega⟩
theorem u16_wf {x : Int} (h : (Lit.int .u16 x).wf = true) : 0 <= x /\ x <= 65535 := by
 simp [Lit.wf, IntKind.min, IntKind.max, IntKind.signed, IntKind.bits] at h
 exact ⟨by omega, by omega⟩
theorem R_u8 {h1 : ∀ x : Int, (Value.int .u8 x).oneCell' = true} {e : Nat} {W : World} {b : Nat} {ok : Nat -> Prop} {v : Value} {xs : List Int} (h : Kd.R (Kd.scalar (Value.int .u8) h1) e W b ok v xs) : Kd.R (Kd.int .u8) e W b ok v xs := h
theorem info_u8 : (Tryd.prog.info? 5).map (fun i => (i.zero, i.size, i.bytes)) = some (some (.int .u8 0), 1, 1) := by kernel_rfl
end Go.Proofs.YtlfenakgphmepaaDoor.Root
