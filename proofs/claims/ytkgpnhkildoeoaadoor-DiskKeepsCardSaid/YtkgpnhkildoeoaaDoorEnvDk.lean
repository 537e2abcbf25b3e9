/-
  WHICH FUNCTIONS there are, with what is told of their code beside it (printed).
-/
import Derived.Test.YtkgpnhkildoeoaaDoorAm0
import Derived.Test.YtkgpnhkildoeoaaDoorUkP
import Derived.Test.YtkgpnhkildoeoaaDoorProg
set_option linter.unusedVariables false
set_option linter.unusedSimpArgs false
set_option linter.unusedSectionVars false
namespace Go.AM.Dk
open Go.Proofs
noncomputable def env : FuncId → Def
  | 3 => .code Tryd.f3 (Tryd.f3.body.getD .skip) ⟨fun i => match i with | 7 => some [0, 5, 6, 7, 30, 31] | 17 => some [0, 5, 6, 7, 30, 31, 73, 74] | _ => none, fun i j => match i, j with | 20, 9 => [4] | _, _ => []⟩
  | 4 => .code Tryd.f4 (Tryd.f4.body.getD .skip) ⟨fun i => match i with | 6 => some [1, 5, 6, 7, 24, 25] | 14 => some [1, 6, 7, 54, 55] | _ => none, fun _ _ => []⟩
  | 5 => .code Tryd.f5 (Tryd.f5.body.getD .skip) ⟨fun i => match i with | 8 => some [1, 5, 6, 7, 43, 44] | 30 => some [6, 7, 121, 122] | _ => none, fun i j => match i, j with | 13, 5 => [2] | 13, 10 => [5, 6, 7] | 13, 12 => [5, 6, 7] | 26, 5 => [1] | _, _ => []⟩
  | 6 => .code Tryd.f6 (Tryd.f6.body.getD .skip) ⟨fun i => match i with | 7 => some [0, 1, 2, 7, 8, 9, 46, 47] | 18 => some [1, 2, 7, 8, 9, 13, 14, 90, 91] | _ => none, fun _ _ => []⟩
  | 7 => .code Tryd.f7 (Tryd.f7.body.getD .skip) ⟨fun _ => none, fun i j => match i, j with | 8, 13 => [11] | 25, 6 => [4] | _, _ => []⟩
  | 9 => .code Tryd.f9 (Tryd.f9.body.getD .skip) ⟨fun _ => none, fun _ _ => []⟩
  | 10 => .code Tryd.f10 (Tryd.f10.body.getD .skip) ⟨fun i => match i with | 4 => some [0, 8, 9] | _ => none, fun _ _ => []⟩
  | 11 => .code Tryd.f11 (Tryd.f11.body.getD .skip) ⟨fun _ => none, fun _ _ => []⟩
  | 12 => .code Tryd.f12 (Tryd.f12.body.getD .skip) ⟨fun _ => none, fun _ _ => []⟩
  | 13 => .code Tryd.f13 (Tryd.f13.body.getD .skip) ⟨fun _ => none, fun i j => match i, j with | 7, 6 => [4] | _, _ => []⟩
  | 14 => .code Tryd.f14 (Tryd.f14.body.getD .skip) ⟨fun i => match i with | 3 => some [0, 3, 7, 8] | _ => none, fun _ _ => []⟩
  | 15 => .code Tryd.f15 (Tryd.f15.body.getD .skip) ⟨fun i => match i with | 6 => some [1, 7, 26, 27, 28] | _ => none, fun _ _ => []⟩
  | 16 => .code Tryd.f16 (Tryd.f16.body.getD .skip) ⟨fun _ => none, fun _ _ => []⟩
  | 17 => .code Tryd.f17 (Tryd.f17.body.getD .skip) ⟨fun _ => none, fun _ _ => []⟩
  | 18 => .code Tryd.f18 (Tryd.f18.body.getD .skip) ⟨fun i => match i with | 3 => some [0, 3, 4] | _ => none, fun i j => match i, j with | 5, 5 => [4] | 5, 7 => [4] | _, _ => []⟩
  | 19 => .code Tryd.f19 (Tryd.f19.body.getD .skip) ⟨fun _ => none, fun _ _ => []⟩
  | 20 => .code Tryd.f20 (Tryd.f20.body.getD .skip) ⟨fun _ => none, fun _ _ => []⟩
  | 21 => .code Tryd.f21 (Tryd.f21.body.getD .skip) ⟨fun i => match i with | 5 => some [0, 1, 6, 30, 31] | _ => none, fun _ _ => []⟩
  | 22 => .code Tryd.f22 (Tryd.f22.body.getD .skip) ⟨fun i => match i with | 1 => some [0, 7, 8] | _ => none, fun _ _ => []⟩
  | 23 => .code Tryd.f23 (Tryd.f23.body.getD .skip) ⟨fun i => match i with | 1 => some [0, 1, 9, 10] | _ => none, fun _ _ => []⟩
  | 24 => .code Tryd.f24 (Tryd.f24.body.getD .skip) ⟨fun _ => none, fun _ _ => []⟩
  | 25 => .code Tryd.f25 (Tryd.f25.body.getD .skip) ⟨fun i => match i with | 3 => some [0, 3, 8, 9] | _ => none, fun _ _ => []⟩
  | 26 => .code Tryd.f26 (Tryd.f26.body.getD .skip) ⟨fun i => match i with | 2 => some [1, 9, 10, 11] | _ => none, fun _ _ => []⟩
  | 28 => .code Tryd.f28 (Tryd.f28.body.getD .skip) ⟨fun i => match i with | 2 => some [0, 1, 11, 12, 13] | _ => none, fun _ _ => []⟩
  | 29 => .code Tryd.f29 (Tryd.f29.body.getD .skip) ⟨fun _ => none, fun _ _ => []⟩
  | 30 => .code Tryd.f30 (Tryd.f30.body.getD .skip) ⟨fun _ => none, fun _ _ => []⟩
  | 31 => .code Tryd.f31 (Tryd.f31.body.getD .skip) ⟨fun _ => none, fun _ _ => []⟩
  | 32 => .code Tryd.f32 (Tryd.f32.body.getD .skip) ⟨fun _ => none, fun _ _ => []⟩
  | 34 => .code Tryd.f34 (Tryd.f34.body.getD .skip) ⟨fun i => match i with | 3 => some [0, 3, 4] | _ => none, fun _ _ => []⟩
  | 35 => .code Tryd.f35 (Tryd.f35.body.getD .skip) ⟨fun _ => none, fun i j => match i, j with | 1, 9 => [3] | _, _ => []⟩
  | 33 => .prim Go.AM.Td.asG
  | _ => .no
end Go.AM.Dk
