/-
  WHICH FUNCTIONS there are, with what is told of their code beside it (printed).
-/
import Derived.Test.YtiiophkfecpbfaaDoorAm0
import Derived.Test.YtiiophkfecpbfaaDoorUfQ
import Derived.Test.YtiiophkfecpbfaaDoorProg
set_option linter.unusedVariables false
set_option linter.unusedSimpArgs false
set_option linter.unusedSectionVars false
namespace Go.AM.Fi
open Go.Proofs
noncomputable def env : FuncId → Def
  | 3 => .code Tryd.f3 (Tryd.f3.body.getD .skip) ⟨fun _ => none, fun _ _ => []⟩
  | 5 => .code Tryd.f5 (Tryd.f5.body.getD .skip) ⟨fun _ => none, fun i j => match i, j with | 8, 33 => [32] | 8, 36 => [32] | _, _ => []⟩
  | 9 => .code Tryd.f9 (Tryd.f9.body.getD .skip) ⟨fun _ => none, fun _ _ => []⟩
  | 10 => .code Tryd.f10 (Tryd.f10.body.getD .skip) ⟨fun _ => none, fun _ _ => []⟩
  | 11 => .code Tryd.f11 (Tryd.f11.body.getD .skip) ⟨fun _ => none, fun _ _ => []⟩
  | 12 => .code Tryd.f12 (Tryd.f12.body.getD .skip) ⟨fun _ => none, fun _ _ => []⟩
  | 14 => .code Tryd.f14 (Tryd.f14.body.getD .skip) ⟨fun _ => none, fun i j => match i, j with | 5, 6 => [1] | _, _ => []⟩
  | 15 => .code Tryd.f15 (Tryd.f15.body.getD .skip) ⟨fun _ => none, fun _ _ => []⟩
  | 17 => .code Tryd.f17 (Tryd.f17.body.getD .skip) ⟨fun _ => none, fun _ _ => []⟩
  | 18 => .code Tryd.f18 (Tryd.f18.body.getD .skip) ⟨fun i => match i with | 4 => some [0, 8, 9] | _ => none, fun _ _ => []⟩
  | 19 => .code Tryd.f19 (Tryd.f19.body.getD .skip) ⟨fun i => match i with | 5 => some [0, 5, 12, 13] | _ => none, fun _ _ => []⟩
  | 22 => .code Tryd.f22 (Tryd.f22.body.getD .skip) ⟨fun _ => none, fun _ _ => []⟩
  | 30 => .code Tryd.f30 (Tryd.f30.body.getD .skip) ⟨fun _ => none, fun i j => match i, j with | 1, 9 => [3] | _, _ => []⟩
  | 20 => .prim Go.AM.Td.asG
  | 21 => .prim Go.AM.Td.isG
  | 37 => .prim Go.AM.Td.itoaG
  | _ => .no
end Go.AM.Fi
