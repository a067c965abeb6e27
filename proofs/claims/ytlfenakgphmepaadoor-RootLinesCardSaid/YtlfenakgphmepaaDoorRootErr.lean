/- errors.Is: none is no corrupt one; one of the reader's own is. -/
import Derived.Test.YtlfenakgphmepaaDoorRootRead
import Derived.LaidEql
import Derived.Stop.Asserts
import Derived.Lib.IfaceEq
namespace Go.Proofs.YtlfenakgphmepaaDoor.Root
open Go.RowKit Go.Proofs.YtlfenakgphmepaaDoorW.PrintWords Go.Proofs.YtlfenakgphmepaaDoorW.PrintLast Go.Proofs.YtlfenakgphmepaaDoorW.PrintMore Go.Proofs.YtlfenakgphmepaaDoor.Conv Go.Proofs.YtlfenakgphmepaaDoor.Print Go.Proofs.YtlfenakgphmepaaDoor.Build
set_option linter.unusedVariables false
set_option linter.unusedSimpArgs false
theorem is_nil (w : World) : Calls Tryd.prog 31 #[.nilIface, .iface 71 (.int .i64 3)] w fun e w' => e = .returned (.bool false) /\ Below w.heap.size w w' := by
 have hn := run_eql_iface_nil_left (P := Tryd.prog) w 71 (.int .i64 3) Tryd.underlying50
 go_enter Tryd.func31, Tryd.ntmps31
 go_wp2
 go_ret
 exact ⟨rfl, Below.refl _ _⟩
theorem isTypeOf (v : Value) (w : World) : (Extern.ReflectliteType.typeOf #[.iface 71 v]).run Tryd.prog w = .ok (.iface 103 (.agg #[.pointer (some ⟨Tryd.prog.globals.size, 71, none⟩)])) w := by kernel_rfl
def cmpX : Array Value -> Sem Value := Extern.ReflectliteType.method fun t => do Extern.Rtype.noPackHeld "Comparable" t; pure (.bool (<- typeInfo t).comparable)
theorem isComparable (w : World) : (cmpX #[.agg #[.pointer (some ⟨Tryd.prog.globals.size, 71, none⟩)]]).run Tryd.prog w = .ok (.bool true) w := by kernel_rfl
theorem isMethodComparable (n : Nat) (v : Value) (w : World) : (Go.method (n + 1) 103 v "Comparable").run Tryd.prog w = .ok (112, v) w := by kernel_rfl
theorem isComp : (Tryd.prog.info? 71).map (·.comparable) = some true := by kernel_rfl
theorem noIsW (v : Value) (xT : TypeId) (w : World) : (Instr.typeAssert (.iface 84 v) xT 105 true).run Tryd.prog w = .ok (.tuple #[.nilIface, .bool false]) w := run_typeAssert_lacksB Tryd.underlying105 (by kernel_rfl) (by kernel_rfl) v xT w
theorem hasUnwrapW (v : Value) (xT : TypeId) (w : World) : (Instr.typeAssert (.iface 84 v) xT 108 true).run Tryd.prog w = .ok (.tuple #[.iface 84 v, .bool true]) w := run_typeAssert_hasB Tryd.underlying108 (by kernel_rfl) v xT w
theorem methodUnwrap (n : Nat) (v : Value) (w : World) : (Go.method (n + 1) 84 v "Unwrap").run Tryd.prog w = .ok (108, v) w := by kernel_rfl
set_option maxRecDepth 100000 in
set_option maxHeartbeats 2000000 in
theorem is_bad (b : Nat) (w : World) : Calls Tryd.prog 31 #[.iface 84 (.pointer (some ⟨b, 0, none⟩)), .iface 71 (.int .i64 3)] w fun e w' => e = .returned (.bool true) /\ Below w.heap.size w w' := by
 have h8 := @run_callFunc_extern Tryd.prog 47 _ Extern.ReflectliteType.typeOf Tryd.func47 (by kernel_rfl) (by kernel_rfl) (by kernel_rfl) (by kernel_rfl)
 have h32 := @run_callFunc_extern Tryd.prog 112 _ cmpX Tryd.func112 (by kernel_rfl) (by kernel_rfl) (by kernel_rfl) (by kernel_rfl)
 have tT := isTypeOf
 have cT := isComparable
 have mR := isMethodComparable
 generalize Tryd.prog.globals.size = ng at tT cT
 have nW := noIsW
 have uW := hasUnwrapW
 have mU := methodUnwrap
 have heq := Lib.run_eql_iface_int (P := Tryd.prog) (k := .i64) w 3 3 Tryd.underlying50 isComp Tryd.underlying71
 have hty := run_eql_iface_types (P := Tryd.prog) 84 71 (.pointer (some ⟨b, 0, none⟩)) (.int .i64 3) Tryd.underlying50 (by decide) w
 go_enter Tryd.func31, Tryd.ntmps31
 go_wp2
 refine wp_loop_rounds 2 ?_
 rw [rounds_succ]
 go_wp2
 rw [rounds_succ]
 go_wp2
 go_ret
 exact ⟨rfl, Below.refl _ _⟩
end Go.Proofs.YtlfenakgphmepaaDoor.Root
