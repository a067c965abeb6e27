/- errors.Is: none is no corrupt one; one of the reader's own is. -/
import Derived.Test.YtlfenakgphmepaaGreatDoorRootRead
import Derived.LaidEql
import Derived.Stop.Asserts
import Derived.Lib.IfaceEq
namespace Go.Proofs.YtlfenakgphmepaaGreatDoor.Root
open Go.RowKit Go.Proofs.YtlfenakgphmepaaGreatDoorW.PrintWords Go.Proofs.YtlfenakgphmepaaGreatDoorW.PrintLast Go.Proofs.YtlfenakgphmepaaGreatDoorW.PrintMore Go.Proofs.YtlfenakgphmepaaGreatDoor.Conv Go.Proofs.YtlfenakgphmepaaGreatDoor.Print Go.Proofs.YtlfenakgphmepaaGreatDoor.Build
set_option linter.unusedVariables false
set_option linter.unusedSimpArgs false
theorem is_nil (w : World) : Calls Tryz.prog 35 #[.nilIface, .iface 67 (.int .i64 3)] w fun e w' => e = .returned (.bool false) /\ Below w.heap.size w w' := by
 have hn := run_eql_iface_nil_left (P := Tryz.prog) w 67 (.int .i64 3) Tryz.underlying47
 go_enter Tryz.func35, Tryz.ntmps35
 go_wp2
 go_ret
 exact ⟨rfl, Below.refl _ _⟩
theorem isTypeOf (v : Value) (w : World) : (Extern.ReflectliteType.typeOf #[.iface 67 v]).run Tryz.prog w = .ok (.iface 110 (.agg #[.pointer (some ⟨Tryz.prog.globals.size, 67, none⟩)])) w := by kernel_rfl
def cmpX : Array Value -> Sem Value := Extern.ReflectliteType.method fun t => do Extern.Rtype.noPackHeld "Comparable" t; pure (.bool (<- typeInfo t).comparable)
theorem isComparable (w : World) : (cmpX #[.agg #[.pointer (some ⟨Tryz.prog.globals.size, 67, none⟩)]]).run Tryz.prog w = .ok (.bool true) w := by kernel_rfl
theorem isMethodComparable (n : Nat) (v : Value) (w : World) : (Go.method (n + 1) 110 v "Comparable").run Tryz.prog w = .ok (136, v) w := by kernel_rfl
theorem isComp : (Tryz.prog.info? 67).map (·.comparable) = some true := by kernel_rfl
theorem noIsW (v : Value) (xT : TypeId) (w : World) : (Instr.typeAssert (.iface 87 v) xT 112 true).run Tryz.prog w = .ok (.tuple #[.nilIface, .bool false]) w := run_typeAssert_lacksB Tryz.underlying112 (by kernel_rfl) (by kernel_rfl) v xT w
theorem hasUnwrapW (v : Value) (xT : TypeId) (w : World) : (Instr.typeAssert (.iface 87 v) xT 115 true).run Tryz.prog w = .ok (.tuple #[.iface 87 v, .bool true]) w := run_typeAssert_hasB Tryz.underlying115 (by kernel_rfl) v xT w
theorem methodUnwrap (n : Nat) (v : Value) (w : World) : (Go.method (n + 1) 87 v "Unwrap").run Tryz.prog w = .ok (132, v) w := by kernel_rfl
set_option maxRecDepth 100000 in
set_option maxHeartbeats 2000000 in
theorem is_bad (b : Nat) (w : World) : Calls Tryz.prog 35 #[.iface 87 (.pointer (some ⟨b, 0, none⟩)), .iface 67 (.int .i64 3)] w fun e w' => e = .returned (.bool true) /\ Below w.heap.size w w' := by
 have h8 := @run_callFunc_extern Tryz.prog 59 _ Extern.ReflectliteType.typeOf Tryz.func59 (by kernel_rfl) (by kernel_rfl) (by kernel_rfl) (by kernel_rfl)
 have h32 := @run_callFunc_extern Tryz.prog 136 _ cmpX Tryz.func136 (by kernel_rfl) (by kernel_rfl) (by kernel_rfl) (by kernel_rfl)
 have tT := isTypeOf
 have cT := isComparable
 have mR := isMethodComparable
 generalize Tryz.prog.globals.size = ng at tT cT
 have nW := noIsW
 have uW := hasUnwrapW
 have mU := methodUnwrap
 have heq := Lib.run_eql_iface_int (P := Tryz.prog) (k := .i64) w 3 3 Tryz.underlying47 isComp Tryz.underlying67
 have hty := run_eql_iface_types (P := Tryz.prog) 87 67 (.pointer (some ⟨b, 0, none⟩)) (.int .i64 3) Tryz.underlying47 (by decide) w
 go_enter Tryz.func35, Tryz.ntmps35
 go_wp2
 refine wp_loop_rounds 2 ?_
 rw [rounds_succ]
 go_wp2
 rw [rounds_succ]
 go_wp2
 go_ret
 exact ⟨rfl, Below.refl _ _⟩
end Go.Proofs.YtlfenakgphmepaaGreatDoor.Root
