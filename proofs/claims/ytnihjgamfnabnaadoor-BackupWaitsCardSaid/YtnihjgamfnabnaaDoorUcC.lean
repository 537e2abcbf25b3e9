import Derived.Test.YtnihjgamfnabnaaDoorUcB
set_option linter.unusedVariables false
set_option linter.unusedSimpArgs false
set_option linter.unusedSectionVars false
namespace Go.AM.Td
open Go Go.Proofs Go.RowKit Go.Extern.Stop Go.Stop Go.Extern
theorem noAs29 (v : Value) (xT : TypeId) (w : World) : (Instr.typeAssert (.iface 41 v) xT 136 true).run Tryd.prog w = .ok (.tuple #[.nilIface, .bool false]) w := run_typeAssert_lacksB Tryd.underlying136 (by kernel_rfl) (by kernel_rfl) v xT w
theorem noUnwrap29 (v : Value) (xT : TypeId) (w : World) : (Instr.typeAssert (.iface 41 v) xT 139 true).run Tryd.prog w = .ok (.tuple #[.nilIface, .bool false]) w := run_typeAssert_lacksB Tryd.underlying139 (by kernel_rfl) (by kernel_rfl) v xT w
theorem noUnwraps29 (v : Value) (xT : TypeId) (w : World) : (Instr.typeAssert (.iface 41 v) xT 141 true).run Tryd.prog w = .ok (.tuple #[.nilIface, .bool false]) w := run_typeAssert_lacksB Tryd.underlying141 (by kernel_rfl) (by kernel_rfl) v xT w
end Go.AM.Td
