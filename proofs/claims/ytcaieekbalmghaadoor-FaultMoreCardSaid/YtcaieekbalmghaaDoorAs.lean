/- errors.As at the targets that package fault uses: *fault.wrapped and *api.Errno. Contracts over this program alone; no conditions of the law stand here. -/
import Derived.Test.YtcaieekbalmghaaDoorProg
import Derived.WalkKit
import Derived.LaidEql
import Derived.Stop.Asserts
import Derived.RowKitTokens
namespace Go.Proofs.YtcaieekbalmghaaDoor
open Go.RowKit Go.Extern.Stop Go.Stop Go.Extern

/-- errors.As(nil, target). -/
theorem as_nil (t : Value) (w : World) :
    Calls Tryd.prog 12 #[.nilIface, t] w fun e w' => e = .returned (.bool false) ∧ w' = w := by
  go_enter Tryd.func12, Tryd.ntmps12
  go_wp2
  go_ret
  exact ⟨rfl, rfl⟩

/-! closed facts: 40: *fault.wrapped · 42: *api.Errno · 38: fault.wrapped · 22: api.Errno · 29: error · 46: reflectlite.Value · 56: reflectlite.rtype -/
theorem valueOf40 (t : Addr) (w : World) : (ReflectliteValue.unpack (.iface 40 (.pointer (some t)))).run Tryd.prog w
    = .ok (.agg #[.pointer (some ⟨4, 40, none⟩), .pointer (some ⟨w.heap.size, 0, none⟩), .int .u64 150]) (w.alloc (.cells #[.pointer (some t)] 40)) := by kernel_rfl
theorem type40 (a : Addr) (w : World) : (ReflectliteValue.methodAny (ReflectliteValue.valueError "reflectlite.Value.Type" 0) (fun t _ _ _ => ReflectliteType.toType t) #[.agg #[.pointer (some ⟨4, 40, none⟩), .pointer (some a), .int .u64 150]]).run Tryd.prog w
    = .ok (.iface 56 (.agg #[.pointer (some ⟨4, 40, none⟩)])) w := by kernel_rfl
theorem valueOf38 (s : ByteArray) (n : Int) (v : Value) (w : World) : (ReflectliteValue.unpack (.iface 38 (.agg #[.string s, .int .i64 n, v]))).run Tryd.prog w
    = .ok (.agg #[.pointer (some ⟨4, 38, none⟩), .pointer (some ⟨w.heap.size, 0, none⟩), .int .u64 153]) (w.alloc (.cells #[.string s, .int .i64 n, v] 38)) := by kernel_rfl
theorem valueOf22 (n : Int) (w : World) : (ReflectliteValue.unpack (.iface 22 (.int .i64 n))).run Tryd.prog w
    = .ok (.agg #[.pointer (some ⟨4, 22, none⟩), .pointer (some ⟨w.heap.size, 0, none⟩), .int .u64 130]) (w.alloc (.cells #[.int .i64 n] 22)) := by kernel_rfl
theorem valueOf42 (t : Addr) (w : World) : (ReflectliteValue.unpack (.iface 42 (.pointer (some t)))).run Tryd.prog w
    = .ok (.agg #[.pointer (some ⟨4, 42, none⟩), .pointer (some ⟨w.heap.size, 0, none⟩), .int .u64 150]) (w.alloc (.cells #[.pointer (some t)] 42)) := by kernel_rfl
theorem type42 (a : Addr) (w : World) : (ReflectliteValue.methodAny (ReflectliteValue.valueError "reflectlite.Value.Type" 0) (fun t _ _ _ => ReflectliteType.toType t) #[.agg #[.pointer (some ⟨4, 42, none⟩), .pointer (some a), .int .u64 150]]).run Tryd.prog w
    = .ok (.iface 56 (.agg #[.pointer (some ⟨4, 42, none⟩)])) w := by kernel_rfl
theorem kind40 (w : World) : ((ReflectliteType.abiMethod fun t => (fun a : Nat => Value.int IntKind.u8 (a : Int)) <$> Rtype.kind t) #[.pointer (some ⟨4, 40, none⟩)]).run Tryd.prog w = .ok (.int .u8 22) w := by kernel_rfl
theorem kind42 (w : World) : ((ReflectliteType.abiMethod fun t => (fun a : Nat => Value.int IntKind.u8 (a : Int)) <$> Rtype.kind t) #[.pointer (some ⟨4, 42, none⟩)]).run Tryd.prog w = .ok (.int .u8 22) w := by kernel_rfl
theorem kind38 (w : World) : ((ReflectliteType.abiMethod fun t => (fun a : Nat => Value.int IntKind.u8 (a : Int)) <$> Rtype.kind t) #[.pointer (some ⟨4, 38, none⟩)]).run Tryd.prog w = .ok (.int .u8 25) w := by kernel_rfl
theorem kind22 (w : World) : ((ReflectliteType.abiMethod fun t => (fun a : Nat => Value.int IntKind.u8 (a : Int)) <$> Rtype.kind t) #[.pointer (some ⟨4, 22, none⟩)]).run Tryd.prog w = .ok (.int .u8 2) w := by kernel_rfl
theorem elem40 (w : World) : (ReflectliteType.method ReflectliteType.elem #[.agg #[.pointer (some ⟨4, 40, none⟩)]]).run Tryd.prog w = .ok (.iface 56 (.agg #[.pointer (some ⟨4, 38, none⟩)])) w := by kernel_rfl
theorem elem42 (w : World) : (ReflectliteType.method ReflectliteType.elem #[.agg #[.pointer (some ⟨4, 42, none⟩)]]).run Tryd.prog w = .ok (.iface 56 (.agg #[.pointer (some ⟨4, 22, none⟩)])) w := by kernel_rfl
theorem implements38 (w : World) : (ReflectliteType.relation "Implements" ReflectliteType.implements_ #[.agg #[.pointer (some ⟨4, 38, none⟩)], .iface 56 (.agg #[.pointer (some ⟨4, 29, none⟩)])]).run Tryd.prog w = .ok (.bool true) w := by kernel_rfl
theorem implements22 (w : World) : (ReflectliteType.relation "Implements" ReflectliteType.implements_ #[.agg #[.pointer (some ⟨4, 22, none⟩)], .iface 56 (.agg #[.pointer (some ⟨4, 29, none⟩)])]).run Tryd.prog w = .ok (.bool true) w := by kernel_rfl
theorem typeOf38 (v : Value) (w : World) : (ReflectliteType.typeOf #[.iface 38 v]).run Tryd.prog w = .ok (.iface 56 (.agg #[.pointer (some ⟨4, 38, none⟩)])) w := by kernel_rfl
theorem typeOf22 (v : Value) (w : World) : (ReflectliteType.typeOf #[.iface 22 v]).run Tryd.prog w = .ok (.iface 56 (.agg #[.pointer (some ⟨4, 22, none⟩)])) w := by kernel_rfl
theorem assignable38_38 (w : World) : (ReflectliteType.relation "AssignableTo" ReflectliteType.assignableTo #[.agg #[.pointer (some ⟨4, 38, none⟩)], .iface 56 (.agg #[.pointer (some ⟨4, 38, none⟩)])]).run Tryd.prog w = .ok (.bool true) w := by kernel_rfl
theorem assignable22_38 (w : World) : (ReflectliteType.relation "AssignableTo" ReflectliteType.assignableTo #[.agg #[.pointer (some ⟨4, 22, none⟩)], .iface 56 (.agg #[.pointer (some ⟨4, 38, none⟩)])]).run Tryd.prog w = .ok (.bool false) w := by kernel_rfl
theorem assignable38_22 (w : World) : (ReflectliteType.relation "AssignableTo" ReflectliteType.assignableTo #[.agg #[.pointer (some ⟨4, 38, none⟩)], .iface 56 (.agg #[.pointer (some ⟨4, 22, none⟩)])]).run Tryd.prog w = .ok (.bool false) w := by kernel_rfl
theorem assignable22_22 (w : World) : (ReflectliteType.relation "AssignableTo" ReflectliteType.assignableTo #[.agg #[.pointer (some ⟨4, 22, none⟩)], .iface 56 (.agg #[.pointer (some ⟨4, 22, none⟩)])]).run Tryd.prog w = .ok (.bool true) w := by kernel_rfl
/-! type assertions to the interfaces with As, with Unwrap() error, with Unwrap() []error -/
theorem noAs38 (v : Value) (xT : TypeId) (w : World) : (Instr.typeAssert (.iface 38 v) xT 61 true).run Tryd.prog w = .ok (.tuple #[.nilIface, .bool false]) w := run_typeAssert_lacksB Tryd.underlying61 (by kernel_rfl) (by kernel_rfl) v xT w
theorem noAs22 (v : Value) (xT : TypeId) (w : World) : (Instr.typeAssert (.iface 22 v) xT 61 true).run Tryd.prog w = .ok (.tuple #[.nilIface, .bool false]) w := run_typeAssert_lacksB Tryd.underlying61 (by kernel_rfl) (by kernel_rfl) v xT w
theorem hasUn38 (v : Value) (xT : TypeId) (w : World) : (Instr.typeAssert (.iface 38 v) xT 64 true).run Tryd.prog w = .ok (.tuple #[.iface 38 v, .bool true]) w := run_typeAssert_hasB Tryd.underlying64 (by kernel_rfl) v xT w
theorem noUn22 (v : Value) (xT : TypeId) (w : World) : (Instr.typeAssert (.iface 22 v) xT 64 true).run Tryd.prog w = .ok (.tuple #[.nilIface, .bool false]) w := run_typeAssert_lacksB Tryd.underlying64 (by kernel_rfl) (by kernel_rfl) v xT w
theorem noUns22 (v : Value) (xT : TypeId) (w : World) : (Instr.typeAssert (.iface 22 v) xT 66 true).run Tryd.prog w = .ok (.tuple #[.nilIface, .bool false]) w := run_typeAssert_lacksB Tryd.underlying66 (by kernel_rfl) (by kernel_rfl) v xT w
end Go.Proofs.YtcaieekbalmghaaDoor
