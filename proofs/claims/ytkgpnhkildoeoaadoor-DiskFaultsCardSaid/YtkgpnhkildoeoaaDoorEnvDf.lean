/-
  WHICH FUNCTIONS there are, with what is told of their code beside it (printed).
-/
import Derived.Test.YtkgpnhkildoeoaaDoorAm0
import Derived.Test.YtkgpnhkildoeoaaDoorUkQ
import Derived.Test.YtkgpnhkildoeoaaDoorProg
set_option linter.unusedVariables false
set_option linter.unusedSimpArgs false
set_option linter.unusedSectionVars false
namespace Go.AM.Df
open Go.Proofs
noncomputable def env : FuncId → Def
  | 8 => .code Tryd.f8 (Tryd.f8.body.getD .skip) ⟨fun _ => none, fun _ _ => []⟩
  | 9 => .code Tryd.f9 (Tryd.f9.body.getD .skip) ⟨fun _ => none, fun _ _ => []⟩
  | 10 => .code Tryd.f10 (Tryd.f10.body.getD .skip) ⟨fun i => match i with | 4 => some [0, 8, 9] | _ => none, fun _ _ => []⟩
  | 11 => .code Tryd.f11 (Tryd.f11.body.getD .skip) ⟨fun _ => none, fun _ _ => []⟩
  | 12 => .code Tryd.f12 (Tryd.f12.body.getD .skip) ⟨fun _ => none, fun _ _ => []⟩
  | 13 => .code Tryd.f13 (Tryd.f13.body.getD .skip) ⟨fun _ => none, fun i j => match i, j with | 7, 6 => [4] | _, _ => []⟩
  | 14 => .code Tryd.f14 (Tryd.f14.body.getD .skip) ⟨fun i => match i with | 3 => some [0, 3, 7, 8] | _ => none, fun _ _ => []⟩
  | 15 => .code Tryd.f15 (Tryd.f15.body.getD .skip) ⟨fun i => match i with | 6 => some [1, 7, 26, 27, 28] | _ => none, fun _ _ => []⟩
  | 16 => .code Tryd.f16 (Tryd.f16.body.getD .skip) ⟨fun _ => none, fun _ _ => []⟩
  | 17 => .code Tryd.f17 (Tryd.f17.body.getD .skip) ⟨fun _ => none, fun _ _ => []⟩
  | 18 => .code Tryd.f18 (Tryd.f18.body.getD .skip) ⟨fun i => match i with | 3 => some [0, 3, 4] | _ => none, fun i j => match i, j with | 5, 5 => [4] | 5, 7 => [4] | _, _ => []⟩
  | 19 => .code Tryd.f19 (Tryd.f19.body.getD .skip) ⟨fun _ => none, fun _ _ => []⟩
  | 20 => .code Tryd.f20 (Tryd.f20.body.getD .skip) ⟨fun _ => none, fun _ _ => []⟩
  | 21 => .code Tryd.f21 (Tryd.f21.body.getD .skip) ⟨fun i => match i with | 5 => some [0, 1, 6, 30, 31] | _ => none, fun _ _ => []⟩
  | 22 => .code Tryd.f22 (Tryd.f22.body.getD .skip) ⟨fun i => match i with | 1 => some [0, 7, 8] | _ => none, fun _ _ => []⟩
  | 23 => .code Tryd.f23 (Tryd.f23.body.getD .skip) ⟨fun i => match i with | 1 => some [0, 1, 9, 10] | _ => none, fun _ _ => []⟩
  | 24 => .code Tryd.f24 (Tryd.f24.body.getD .skip) ⟨fun _ => none, fun _ _ => []⟩
  | 25 => .code Tryd.f25 (Tryd.f25.body.getD .skip) ⟨fun i => match i with | 3 => some [0, 3, 8, 9] | _ => none, fun _ _ => []⟩
  | 26 => .code Tryd.f26 (Tryd.f26.body.getD .skip) ⟨fun i => match i with | 2 => some [1, 9, 10, 11] | _ => none, fun _ _ => []⟩
  | 27 => .code Tryd.f27 (Tryd.f27.body.getD .skip) ⟨fun i => match i with | 3 => some [3, 7, 8, 9] | _ => none, fun _ _ => []⟩
  | 28 => .code Tryd.f28 (Tryd.f28.body.getD .skip) ⟨fun i => match i with | 2 => some [0, 1, 11, 12, 13] | _ => none, fun _ _ => []⟩
  | 29 => .code Tryd.f29 (Tryd.f29.body.getD .skip) ⟨fun _ => none, fun _ _ => []⟩
  | 30 => .code Tryd.f30 (Tryd.f30.body.getD .skip) ⟨fun _ => none, fun _ _ => []⟩
  | 31 => .code Tryd.f31 (Tryd.f31.body.getD .skip) ⟨fun _ => none, fun _ _ => []⟩
  | 32 => .code Tryd.f32 (Tryd.f32.body.getD .skip) ⟨fun _ => none, fun _ _ => []⟩
  | 34 => .code Tryd.f34 (Tryd.f34.body.getD .skip) ⟨fun i => match i with | 3 => some [0, 3, 4] | _ => none, fun _ _ => []⟩
  | 35 => .code Tryd.f35 (Tryd.f35.body.getD .skip) ⟨fun _ => none, fun i j => match i, j with | 1, 9 => [3] | _, _ => []⟩
  | 33 => .prim Go.AM.Td.asG
  | 40 => .prim Go.AM.Td.itoaG
  | _ => .no
end Go.AM.Df
