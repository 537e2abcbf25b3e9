import Derived.Test.YtnihjgamfnabnaaDoorProg
import Derived.WalkKit
import Derived.LaidEql
import Derived.Stop.Asserts
import Derived.RowKitTokens
set_option linter.unusedVariables false
set_option linter.unusedSimpArgs false
set_option linter.unusedSectionVars false
namespace Go.AM.Td
open Go Go.Proofs Go.RowKit Go.Extern.Stop Go.Stop Go.Extern

theorem as_nil (t : Value) (w : World) :
    Calls Tryd.prog 25 #[.nilIface, t] w fun e w' => e = .returned (.bool false) ∧ w' = w := by
  go_enter Tryd.func25, Tryd.ntmps25
  go_wp2
  go_ret
  exact ⟨rfl, rfl⟩

/-! 113: *Fault · 999999: **Fault · 41: Errno · 76: *Errno · 27: error · 131: rtype · 104: Value · 107: Type -/
theorem methodKind (h : Value) (w : World) : (Go.method 286 131 (.agg #[h]) "Kind").run Tryd.prog w = .ok (89, h) w := by kernel_rfl
theorem kind72 (w : World) : ((ReflectliteType.abiMethod fun t => (fun a : Nat => Value.int IntKind.u8 (a : Int)) <$> Rtype.kind t) #[.pointer (some ⟨1, 113, none⟩)]).run Tryd.prog w = .ok (.int .u8 22) w := by kernel_rfl
theorem rlm (z : Sem Value) (f : TypeId → Addr → Nat → Nat → Sem Value) (v : Value) :
    ReflectliteValue.method z f #[v] = (do match ← ReflectliteValue.parts v with | none => z | some (t, a, fl) => f t a fl (fl % 32)) := rfl
theorem methodElem (h : Value) (w : World) : (Go.method 286 131 (.agg #[h]) "Elem").run Tryd.prog w = .ok (105, .agg #[h]) w := by kernel_rfl
theorem methodImplements (h : Value) (w : World) : (Go.method 286 131 (.agg #[h]) "Implements").run Tryd.prog w = .ok (106, .agg #[h]) w := by kernel_rfl
theorem methodAssignableTo (h : Value) (w : World) : (Go.method 286 131 (.agg #[h]) "AssignableTo").run Tryd.prog w = .ok (103, .agg #[h]) w := by kernel_rfl
theorem implements72 (w : World) : (ReflectliteType.relation "Implements" ReflectliteType.implements_ #[.agg #[.pointer (some ⟨1, 113, none⟩)], .iface 131 (.agg #[.pointer (some ⟨1, 27, none⟩)])]).run Tryd.prog w = .ok (.bool true) w := by kernel_rfl
theorem typeOf72 (v : Value) (w : World) : (ReflectliteType.typeOf #[.iface 113 v]).run Tryd.prog w = .ok (.iface 131 (.agg #[.pointer (some ⟨1, 113, none⟩)])) w := by kernel_rfl
theorem assignable72 (w : World) : (ReflectliteType.relation "AssignableTo" ReflectliteType.assignableTo #[.agg #[.pointer (some ⟨1, 113, none⟩)], .iface 131 (.agg #[.pointer (some ⟨1, 113, none⟩)])]).run Tryd.prog w = .ok (.bool true) w := by kernel_rfl
theorem typeOf29 (v : Value) (w : World) : (ReflectliteType.typeOf #[.iface 41 v]).run Tryd.prog w = .ok (.iface 131 (.agg #[.pointer (some ⟨1, 41, none⟩)])) w := by kernel_rfl
theorem assignable29 (w : World) : (ReflectliteType.relation "AssignableTo" ReflectliteType.assignableTo #[.agg #[.pointer (some ⟨1, 41, none⟩)], .iface 131 (.agg #[.pointer (some ⟨1, 113, none⟩)])]).run Tryd.prog w = .ok (.bool false) w := by kernel_rfl
theorem valueOf72 (e : Addr) (w : World) : (ReflectliteValue.unpack (.iface 113 (.pointer (some e)))).run Tryd.prog w
    = .ok (.agg #[.pointer (some ⟨1, 113, none⟩), .pointer (some ⟨w.heap.size, 0, none⟩), .int .u64 150]) (w.alloc (.cells #[.pointer (some e)] 113)) := by kernel_rfl
end Go.AM.Td
