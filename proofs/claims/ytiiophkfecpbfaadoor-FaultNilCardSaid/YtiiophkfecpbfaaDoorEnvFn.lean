/-
  WHICH FUNCTIONS there are, with what is told of their code beside it (printed).
-/
import Derived.Test.YtiiophkfecpbfaaDoorAm0
import Derived.Test.YtiiophkfecpbfaaDoorUfR
import Derived.Test.YtiiophkfecpbfaaDoorProg
set_option linter.unusedVariables false
set_option linter.unusedSimpArgs false
set_option linter.unusedSectionVars false
namespace Go.AM.Fn
open Go.Proofs
noncomputable def env : FuncId → Def
  | 4 => .code Tryd.f4 (Tryd.f4.body.getD .skip) ⟨fun _ => none, fun _ _ => []⟩
  | 9 => .code Tryd.f9 (Tryd.f9.body.getD .skip) ⟨fun _ => none, fun _ _ => []⟩
  | 10 => .code Tryd.f10 (Tryd.f10.body.getD .skip) ⟨fun _ => none, fun _ _ => []⟩
  | 12 => .code Tryd.f12 (Tryd.f12.body.getD .skip) ⟨fun _ => none, fun _ _ => []⟩
  | 13 => .code Tryd.f13 (Tryd.f13.body.getD .skip) ⟨fun i => match i with | 2 => some [1, 9, 10, 11] | _ => none, fun _ _ => []⟩
  | 14 => .code Tryd.f14 (Tryd.f14.body.getD .skip) ⟨fun _ => none, fun i j => match i, j with | 5, 6 => [1] | _, _ => []⟩
  | 15 => .code Tryd.f15 (Tryd.f15.body.getD .skip) ⟨fun _ => none, fun _ _ => []⟩
  | 17 => .code Tryd.f17 (Tryd.f17.body.getD .skip) ⟨fun _ => none, fun _ _ => []⟩
  | 29 => .code Tryd.f29 (Tryd.f29.body.getD .skip) ⟨fun i => match i with | 3 => some [0, 3, 4] | _ => none, fun _ _ => []⟩
  | 30 => .code Tryd.f30 (Tryd.f30.body.getD .skip) ⟨fun _ => none, fun i j => match i, j with | 1, 9 => [3] | _, _ => []⟩
  | 20 => .prim Go.AM.Td.asG
  | 21 => .prim Go.AM.Td.isG
  | 37 => .prim Go.AM.Td.itoaG
  | 16 => .prim Go.AM.Td.itoaG
  | _ => .no
end Go.AM.Fn
