/-
  WHICH FUNCTIONS there are, with what is told of their code beside it (printed).
-/
import Derived.Test.YtiiophkfecpbfaaDoorAm0g
import Derived.Test.YtiiophkfecpbfaaDoorUfR
import Derived.Test.YtiiophkfecpbfaaDoorProg
set_option linter.unusedVariables false
set_option linter.unusedSimpArgs false
set_option linter.unusedSectionVars false
namespace Go.AM.Fw
open Go.Proofs
noncomputable def env : FuncId → Def
  | 6 => .code Tryd.f6 (Tryd.f6.body.getD .skip) ⟨fun _ => none, fun i j => match i, j with | 7, 13 => [9] | 7, 35 => [32] | 7, 38 => [35] | _, _ => []⟩
  | 7 => .code Tryd.f7 (Tryd.f7.body.getD .skip) ⟨fun i => match i with | 6 => some [0, 1, 5, 6, 28, 29] | 13 => some [1, 5, 6, 8, 9, 48, 49] | _ => none, fun _ _ => []⟩
  | 8 => .code Tryd.f8 (Tryd.f8.body.getD .skip) ⟨fun _ => none, fun _ _ => []⟩
  | 9 => .code Tryd.f9 (Tryd.f9.body.getD .skip) ⟨fun _ => none, fun _ _ => []⟩
  | 10 => .code Tryd.f10 (Tryd.f10.body.getD .skip) ⟨fun _ => none, fun _ _ => []⟩
  | 11 => .code Tryd.f11 (Tryd.f11.body.getD .skip) ⟨fun _ => none, fun _ _ => []⟩
  | 12 => .code Tryd.f12 (Tryd.f12.body.getD .skip) ⟨fun _ => none, fun _ _ => []⟩
  | 13 => .code Tryd.f13 (Tryd.f13.body.getD .skip) ⟨fun i => match i with | 2 => some [1, 9, 10, 11] | _ => none, fun _ _ => []⟩
  | 14 => .code Tryd.f14 (Tryd.f14.body.getD .skip) ⟨fun _ => none, fun i j => match i, j with | 5, 6 => [1] | _, _ => []⟩
  | 15 => .code Tryd.f15 (Tryd.f15.body.getD .skip) ⟨fun _ => none, fun _ _ => []⟩
  | 17 => .code Tryd.f17 (Tryd.f17.body.getD .skip) ⟨fun _ => none, fun _ _ => []⟩
  | 18 => .code Tryd.f18 (Tryd.f18.body.getD .skip) ⟨fun i => match i with | 4 => some [0, 8, 9] | _ => none, fun _ _ => []⟩
  | 19 => .code Tryd.f19 (Tryd.f19.body.getD .skip) ⟨fun i => match i with | 5 => some [0, 5, 12, 13] | _ => none, fun _ _ => []⟩
  | 22 => .code Tryd.f22 (Tryd.f22.body.getD .skip) ⟨fun _ => none, fun _ _ => []⟩
  | 23 => .code Tryd.f23 (Tryd.f23.body.getD .skip) ⟨fun i => match i with | 3 => some [3, 7, 8, 9] | _ => none, fun _ _ => []⟩
  | 24 => .code Tryd.f24 (Tryd.f24.body.getD .skip) ⟨fun i => match i with | 4 => some [0, 1, 12, 13] | _ => none, fun _ _ => []⟩
  | 25 => .code Tryd.f25 (Tryd.f25.body.getD .skip) ⟨fun _ => none, fun _ _ => []⟩
  | 26 => .code Tryd.f26 (Tryd.f26.body.getD .skip) ⟨fun i => match i with | 3 => some [0, 3, 4] | _ => none, fun i j => match i, j with | 5, 12 => [5] | _, _ => []⟩
  | 27 => .code Tryd.f27 (Tryd.f27.body.getD .skip) ⟨fun i => match i with | 2 => some [0, 1, 6] | _ => none, fun _ _ => []⟩
  | 28 => .code Tryd.f28 (Tryd.f28.body.getD .skip) ⟨fun i => match i with | 3 => some [0, 1, 5, 6] | _ => none, fun i j => match i, j with | 5, 13 => [5] | _, _ => []⟩
  | 29 => .code Tryd.f29 (Tryd.f29.body.getD .skip) ⟨fun i => match i with | 3 => some [0, 3, 4] | _ => none, fun _ _ => []⟩
  | 30 => .code Tryd.f30 (Tryd.f30.body.getD .skip) ⟨fun _ => none, fun i j => match i, j with | 1, 9 => [3] | _, _ => []⟩
  | 73 => .code Tryd.f73 (Tryd.f73.body.getD .skip) ⟨fun _ => none, fun _ _ => []⟩
  | 20 => .prim Go.AM.Td.asG
  | 21 => .prim Go.AM.Td.isG
  | 37 => .prim Go.AM.Td.itoaG
  | 16 => .prim Go.AM.Td.itoaG
  | _ => .no
end Go.AM.Fw
