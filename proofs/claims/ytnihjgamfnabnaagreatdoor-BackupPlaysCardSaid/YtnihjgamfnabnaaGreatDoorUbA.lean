import Derived.Test.YtnihjgamfnabnaaGreatDoorProg
import Derived.WalkKit
import Derived.LaidEql
import Derived.Stop.Asserts
import Derived.RowKitTokens
set_option linter.unusedVariables false
set_option linter.unusedSimpArgs false
set_option linter.unusedSectionVars false
namespace Go.AM.Td
open Go Go.Proofs Go.RowKit Go.Extern.Stop Go.Stop Go.Extern
theorem as_nil (t : Value) (w : World) :
    Calls Tryz.prog 70 #[.nilIface, t] w fun e w' => e = .returned (.bool false) ∧ w' = w := by
  go_enter Tryz.func70, Tryz.ntmps70
  go_wp2
  go_ret
  exact ⟨rfl, rfl⟩
theorem valueOf88 (t : Addr) (w : World) : (ReflectliteValue.unpack (.iface 212 (.pointer (some t)))).run Tryz.prog w
    = .ok (.agg #[.pointer (some ⟨1, 212, none⟩), .pointer (some ⟨w.heap.size, 0, none⟩), .int .u64 150]) (w.alloc (.cells #[.pointer (some t)] 212)) := by kernel_rfl
theorem type88 (a : Addr) (w : World) : (ReflectliteValue.methodAny (ReflectliteValue.valueError "reflectlite.Value.Type" 0) (fun t _ _ _ => ReflectliteType.toType t) #[.agg #[.pointer (some ⟨1, 212, none⟩), .pointer (some a), .int .u64 150]]).run Tryz.prog w
    = .ok (.iface 216 (.agg #[.pointer (some ⟨1, 212, none⟩)])) w := by kernel_rfl
theorem methodKind (h : Value) (w : World) : (Go.method 366 216 (.agg #[h]) "Kind").run Tryz.prog w = .ok (162, h) w := by kernel_rfl
theorem kind88 (w : World) : ((ReflectliteType.abiMethod fun t => (fun a : Nat => Value.int IntKind.u8 (a : Int)) <$> Rtype.kind t) #[.pointer (some ⟨1, 212, none⟩)]).run Tryz.prog w = .ok (.int .u8 22) w := by kernel_rfl
theorem kind72 (w : World) : ((ReflectliteType.abiMethod fun t => (fun a : Nat => Value.int IntKind.u8 (a : Int)) <$> Rtype.kind t) #[.pointer (some ⟨1, 162, none⟩)]).run Tryz.prog w = .ok (.int .u8 22) w := by kernel_rfl
theorem rlm (z : Sem Value) (f : TypeId → Addr → Nat → Nat → Sem Value) (v : Value) :
    ReflectliteValue.method z f #[v] = (do match ← ReflectliteValue.parts v with | none => z | some (t, a, fl) => f t a fl (fl % 32)) := rfl
theorem parts88 (a : Addr) (w : World) : (ReflectliteValue.parts (.agg #[.pointer (some ⟨1, 212, none⟩), .pointer (some a), .int .u64 150])).run Tryz.prog w = .ok (some (212, a, 150)) w := by kernel_rfl
theorem isNil88 (a p : Addr) (W : World) (ha : W.cell? a = some (.pointer (some p))) :
    (ReflectliteValue.method (ReflectliteValue.valueError "reflectlite.Value.IsNil" 0) ReflectliteValue.isNil #[.agg #[.pointer (some ⟨1, 212, none⟩), .pointer (some a), .int .u64 150]]).run Tryz.prog W = .ok (.bool false) W := by
  rw [rlm]
  simp only [Sem.run_bind, parts88, Result.andThen]
  simp [ReflectliteValue.isNil, loadVar, isAgg, underlying, Tryz.underlying212, ha, Result.andThen]
theorem methodElem (h : Value) (w : World) : (Go.method 366 216 (.agg #[h]) "Elem").run Tryz.prog w = .ok (179, .agg #[h]) w := by kernel_rfl
theorem methodImplements (h : Value) (w : World) : (Go.method 366 216 (.agg #[h]) "Implements").run Tryz.prog w = .ok (180, .agg #[h]) w := by kernel_rfl
theorem methodAssignableTo (h : Value) (w : World) : (Go.method 366 216 (.agg #[h]) "AssignableTo").run Tryz.prog w = .ok (177, .agg #[h]) w := by kernel_rfl
theorem elem88 (w : World) : (ReflectliteType.method ReflectliteType.elem #[.agg #[.pointer (some ⟨1, 212, none⟩)]]).run Tryz.prog w = .ok (.iface 216 (.agg #[.pointer (some ⟨1, 162, none⟩)])) w := by kernel_rfl
theorem implements72 (w : World) : (ReflectliteType.relation "Implements" ReflectliteType.implements_ #[.agg #[.pointer (some ⟨1, 162, none⟩)], .iface 216 (.agg #[.pointer (some ⟨1, 29, none⟩)])]).run Tryz.prog w = .ok (.bool true) w := by kernel_rfl
theorem typeOf72 (v : Value) (w : World) : (ReflectliteType.typeOf #[.iface 162 v]).run Tryz.prog w = .ok (.iface 216 (.agg #[.pointer (some ⟨1, 162, none⟩)])) w := by kernel_rfl
theorem assignable72 (w : World) : (ReflectliteType.relation "AssignableTo" ReflectliteType.assignableTo #[.agg #[.pointer (some ⟨1, 162, none⟩)], .iface 216 (.agg #[.pointer (some ⟨1, 162, none⟩)])]).run Tryz.prog w = .ok (.bool true) w := by kernel_rfl
theorem typeOf29 (v : Value) (w : World) : (ReflectliteType.typeOf #[.iface 70 v]).run Tryz.prog w = .ok (.iface 216 (.agg #[.pointer (some ⟨1, 70, none⟩)])) w := by kernel_rfl
theorem assignable29 (w : World) : (ReflectliteType.relation "AssignableTo" ReflectliteType.assignableTo #[.agg #[.pointer (some ⟨1, 70, none⟩)], .iface 216 (.agg #[.pointer (some ⟨1, 162, none⟩)])]).run Tryz.prog w = .ok (.bool false) w := by kernel_rfl
theorem valueOf72 (e : Addr) (w : World) : (ReflectliteValue.unpack (.iface 162 (.pointer (some e)))).run Tryz.prog w
    = .ok (.agg #[.pointer (some ⟨1, 162, none⟩), .pointer (some ⟨w.heap.size, 0, none⟩), .int .u64 150]) (w.alloc (.cells #[.pointer (some e)] 162)) := by kernel_rfl
end Go.AM.Td
