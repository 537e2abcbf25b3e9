/-
  WHICH FUNCTIONS there are, with what is told of their code beside it (printed).
-/
import Derived.Test.YtmmjibadpdbkaaaDoorAm0
import Derived.Test.YtmmjibadpdbkaaaDoorUwP
import Derived.Test.YtmmjibadpdbkaaaDoorProg
set_option linter.unusedVariables false
set_option linter.unusedSimpArgs false
set_option linter.unusedSectionVars false
namespace Go.AM.Wd
open Go.Proofs
noncomputable def env : FuncId → Def
  | 3 => .code Tryd.f3 (Tryd.f3.body.getD .skip) ⟨fun _ => none, fun _ _ => []⟩
  | 5 => .code Tryd.f5 (Tryd.f5.body.getD .skip) ⟨fun _ => none, fun _ _ => []⟩
  | 6 => .code Tryd.f6 (Tryd.f6.body.getD .skip) ⟨fun _ => none, fun _ _ => []⟩
  | 7 => .code Tryd.f7 (Tryd.f7.body.getD .skip) ⟨fun _ => none, fun _ _ => []⟩
  | 8 => .code Tryd.f8 (Tryd.f8.body.getD .skip) ⟨fun _ => none, fun _ _ => []⟩
  | 9 => .code Tryd.f9 (Tryd.f9.body.getD .skip) ⟨fun _ => none, fun _ _ => []⟩
  | 10 => .code Tryd.f10 (Tryd.f10.body.getD .skip) ⟨fun _ => none, fun _ _ => []⟩
  | 11 => .code Tryd.f11 (Tryd.f11.body.getD .skip) ⟨fun _ => none, fun _ _ => []⟩
  | 12 => .code Tryd.f12 (Tryd.f12.body.getD .skip) ⟨fun _ => none, fun i j => match i, j with | 4, 7 => [4] | _, _ => []⟩
  | 13 => .code Tryd.f13 (Tryd.f13.body.getD .skip) ⟨fun _ => none, fun _ _ => []⟩
  | 22 => .code Tryd.f22 (Tryd.f22.body.getD .skip) ⟨fun _ => none, fun _ _ => []⟩
  | 23 => .code Tryd.f23 (Tryd.f23.body.getD .skip) ⟨fun _ => none, fun _ _ => []⟩
  | 24 => .code Tryd.f24 (Tryd.f24.body.getD .skip) ⟨fun _ => none, fun i j => match i, j with | 4, 7 => [4] | _, _ => []⟩
  | 25 => .code Tryd.f25 (Tryd.f25.body.getD .skip) ⟨fun i => match i with | 3 => some [0, 2, 7, 8] | _ => none, fun _ _ => []⟩
  | 27 => .code Tryd.f27 (Tryd.f27.body.getD .skip) ⟨fun _ => none, fun _ _ => []⟩
  | 28 => .code Tryd.f28 (Tryd.f28.body.getD .skip) ⟨fun _ => none, fun _ _ => []⟩
  | 30 => .code Tryd.f30 (Tryd.f30.body.getD .skip) ⟨fun i => match i with | 3 => some [0, 2, 7, 8] | _ => none, fun _ _ => []⟩
  | 26 => .prim Go.AM.Td.asG
  | _ => .no
end Go.AM.Wd
