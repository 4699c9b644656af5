/- errors.As by its contracts: the target a *fault.wrapped. -/
import Derived.Test.YtcaieekbalmghaaDoorAsB
import Derived.Lib.Hide
namespace Go.Proofs.YtcaieekbalmghaaDoor
open Go.RowKit Go.Extern.Stop Go.Stop Go.Extern

theorem x13 (args : Array Value) (w : World) : (callFunc 13 args).run Tryd.prog w = (((fun args => ReflectliteValue.unpack (args.getD 0 (.tuple #[]))) args : Sem Value).run Tryd.prog w).andThen fun v w' => .ok (.value v) w' :=
  run_callFunc_extern (e := (fun args => ReflectliteValue.unpack (args.getD 0 (.tuple #[])))) Tryd.func13 (by kernel_rfl) (by kernel_rfl) (by kernel_rfl) (by kernel_rfl) args w
theorem x14 (args : Array Value) (w : World) : (callFunc 14 args).run Tryd.prog w = (((ReflectliteValue.methodAny (ReflectliteValue.valueError "reflectlite.Value.Type" 0) (fun t _ _ _ => ReflectliteType.toType t)) args : Sem Value).run Tryd.prog w).andThen fun v w' => .ok (.value v) w' :=
  run_callFunc_extern (e := (ReflectliteValue.methodAny (ReflectliteValue.valueError "reflectlite.Value.Type" 0) (fun t _ _ _ => ReflectliteType.toType t))) Tryd.func14 (by kernel_rfl) (by kernel_rfl) (by kernel_rfl) (by kernel_rfl) args w
theorem x15 (args : Array Value) (w : World) : (callFunc 15 args).run Tryd.prog w = (((ReflectliteValue.method (ReflectliteValue.valueError "reflectlite.Value.IsNil" 0) ReflectliteValue.isNil) args : Sem Value).run Tryd.prog w).andThen fun v w' => .ok (.value v) w' :=
  run_callFunc_extern (e := (ReflectliteValue.method (ReflectliteValue.valueError "reflectlite.Value.IsNil" 0) ReflectliteValue.isNil)) Tryd.func15 (by kernel_rfl) (by kernel_rfl) (by kernel_rfl) (by kernel_rfl) args w
theorem x34 (args : Array Value) (w : World) : (callFunc 34 args).run Tryd.prog w = (((ReflectliteType.abiMethod fun t => do pure (.int .u8 (← Rtype.kind t))) args : Sem Value).run Tryd.prog w).andThen fun v w' => .ok (.value v) w' :=
  run_callFunc_extern (e := (ReflectliteType.abiMethod fun t => do pure (.int .u8 (← Rtype.kind t)))) Tryd.func34 (by kernel_rfl) (by kernel_rfl) (by kernel_rfl) (by kernel_rfl) args w
theorem x60 (args : Array Value) (w : World) : (callFunc 60 args).run Tryd.prog w = (((ReflectliteType.method ReflectliteType.elem) args : Sem Value).run Tryd.prog w).andThen fun v w' => .ok (.value v) w' :=
  run_callFunc_extern (e := (ReflectliteType.method ReflectliteType.elem)) Tryd.func60 (by kernel_rfl) (by kernel_rfl) (by kernel_rfl) (by kernel_rfl) args w
theorem x61 (args : Array Value) (w : World) : (callFunc 61 args).run Tryd.prog w = (((ReflectliteType.relation "Implements" ReflectliteType.implements_) args : Sem Value).run Tryd.prog w).andThen fun v w' => .ok (.value v) w' :=
  run_callFunc_extern (e := (ReflectliteType.relation "Implements" ReflectliteType.implements_)) Tryd.func61 (by kernel_rfl) (by kernel_rfl) (by kernel_rfl) (by kernel_rfl) args w
theorem x17 (args : Array Value) (w : World) : (callFunc 17 args).run Tryd.prog w = ((ReflectliteType.typeOf args : Sem Value).run Tryd.prog w).andThen fun v w' => .ok (.value v) w' :=
  run_callFunc_extern (e := ReflectliteType.typeOf) Tryd.func17 (by kernel_rfl) (by kernel_rfl) (by kernel_rfl) (by kernel_rfl) args w
theorem x58 (args : Array Value) (w : World) : (callFunc 58 args).run Tryd.prog w = (((ReflectliteType.relation "AssignableTo" ReflectliteType.assignableTo) args : Sem Value).run Tryd.prog w).andThen fun v w' => .ok (.value v) w' :=
  run_callFunc_extern (e := (ReflectliteType.relation "AssignableTo" ReflectliteType.assignableTo)) Tryd.func58 (by kernel_rfl) (by kernel_rfl) (by kernel_rfl) (by kernel_rfl) args w
theorem x18 (args : Array Value) (w : World) : (callFunc 18 args).run Tryd.prog w = (((ReflectliteValue.method (ReflectliteValue.valueError "reflectlite.Value.Elem" 0) ReflectliteValue.elem) args : Sem Value).run Tryd.prog w).andThen fun v w' => .ok (.value v) w' :=
  run_callFunc_extern (e := (ReflectliteValue.method (ReflectliteValue.valueError "reflectlite.Value.Elem" 0) ReflectliteValue.elem)) Tryd.func18 (by kernel_rfl) (by kernel_rfl) (by kernel_rfl) (by kernel_rfl) args w
theorem x19 (args : Array Value) (w : World) : (callFunc 19 args).run Tryd.prog w = ((ReflectliteValue.set args : Sem Value).run Tryd.prog w).andThen fun v w' => .ok (.value v) w' :=
  run_callFunc_extern (e := ReflectliteValue.set) Tryd.func19 (by kernel_rfl) (by kernel_rfl) (by kernel_rfl) (by kernel_rfl) args w

theorem mKind (h : Value) (w : World) : (Go.method 217 56 (.agg #[h]) "Kind").run Tryd.prog w = .ok (34, h) w := by kernel_rfl
theorem mElem (h : Value) (w : World) : (Go.method 217 56 (.agg #[h]) "Elem").run Tryd.prog w = .ok (60, .agg #[h]) w := by kernel_rfl
theorem mImpl (h : Value) (w : World) : (Go.method 217 56 (.agg #[h]) "Implements").run Tryd.prog w = .ok (61, .agg #[h]) w := by kernel_rfl
theorem mAssi (h : Value) (w : World) : (Go.method 217 56 (.agg #[h]) "AssignableTo").run Tryd.prog w = .ok (58, .agg #[h]) w := by kernel_rfl
theorem mUnwrap (h : Value) (w : World) : (Go.method 217 38 h "Unwrap").run Tryd.prog w = .ok (53, h) w := by kernel_rfl
theorem mError38 (h : Value) (w : World) : (Go.method 217 38 h "Error").run Tryd.prog w = .ok (52, h) w := by kernel_rfl
theorem mError22 (h : Value) (w : World) : (Go.method 217 22 h "Error").run Tryd.prog w = .ok (37, h) w := by kernel_rfl

set_option maxHeartbeats 4000000 in
set_option maxRecDepth 100000 in
theorem as40_16 (T : TypeId) (v : Value) (tb : Nat) (w : World) (R : Ending → World → Prop)
    (hg : w.cell? ⟨0, 0, none⟩ = some (.iface 56 (.agg #[.pointer (some ⟨4, 29, none⟩)])))
    (h16 : Calls Tryd.prog 16 #[.iface T v, .iface 40 (.pointer (some ⟨tb, 0, none⟩)), .agg #[.pointer (some ⟨4, 40, none⟩), .pointer (some ⟨w.heap.size, 0, none⟩), .int .u64 150], .iface 56 (.agg #[.pointer (some ⟨4, 38, none⟩)])]
      ((w.alloc (.cells #[.pointer (some ⟨tb, 0, none⟩)] 40)).alloc (.cells #[.pointer (some ⟨4, 40, none⟩), .pointer (some ⟨w.heap.size, 0, none⟩), .int .u64 150] 46)) (fun e w' => (e = .returned (.bool true) ∨ e = .returned (.bool false)) ∧ R e w')) :
    Calls Tryd.prog 12 #[.iface T v, .iface 40 (.pointer (some ⟨tb, 0, none⟩))] w R := by
  have h13 := x13
  have h14 := x14
  have h15 := x15
  have h34 := x34
  have h60 := x60
  have h61 := x61
  have f6 := valueOf40
  have m1 := mKind
  have m2 := mElem
  have m3 := mImpl
  have f7 := type40
  have k40 := kind40
  have k38 := kind38
  have e40 := elem40
  have i38 := implements38
  have n15 := isNil40 ⟨w.heap.size, 0, none⟩ ⟨tb, 0, none⟩ ((w.alloc (.cells #[.pointer (some ⟨tb, 0, none⟩)] 40)).alloc (.cells #[.pointer (some ⟨4, 40, none⟩), .pointer (some ⟨w.heap.size, 0, none⟩), .int .u64 150] 46)) (by simp)
  have hlt : 0 < w.heap.size := by
    rcases Nat.eq_zero_or_pos w.heap.size with h0 | h
    · simp [World.cell?, h0] at hg
    · exact h
  have hg2 : ((w.alloc (.cells #[.pointer (some ⟨tb, 0, none⟩)] 40)).alloc (.cells #[.pointer (some ⟨4, 40, none⟩), .pointer (some ⟨w.heap.size, 0, none⟩), .int .u64 150] 46)).cell? ⟨0, 0, none⟩ = some (.iface 56 (.agg #[.pointer (some ⟨4, 29, none⟩)])) := by
    rw [World.cell?_alloc_lt _ _ ⟨0, 0, none⟩ (by simp), World.cell?_alloc_lt _ _ ⟨0, 0, none⟩ hlt]; exact hg
  have H16 := Lib.hid h16
  clear h16
  go_enter Tryd.func12, Tryd.ntmps12
  go_wp2_with fail
  refine H16.out.mono ?_
  rintro e w' ⟨rfl | rfl, hR⟩
  · go_wp2_with fail
    exact hR
  · go_wp2_with fail
    exact hR
end Go.Proofs.YtcaieekbalmghaaDoor
