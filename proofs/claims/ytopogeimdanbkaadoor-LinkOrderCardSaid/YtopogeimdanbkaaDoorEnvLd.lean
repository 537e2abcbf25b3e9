/-
  WHICH FUNCTIONS there are, with what is told of their code beside it (printed).
-/
import Derived.Test.YtopogeimdanbkaaDoorAm0
import Derived.Test.YtopogeimdanbkaaDoorTdP
import Derived.Test.YtopogeimdanbkaaDoorProg
set_option linter.unusedVariables false
set_option linter.unusedSimpArgs false
set_option linter.unusedSectionVars false
namespace Go.AM.Ld
open Go.Proofs
noncomputable def env : FuncId → Def
  | 3 => .code Tryd.f3 (Tryd.f3.body.getD .skip) ⟨fun i => match i with | 5 => some [0, 1, 5, 26, 27] | 13 => some [0, 1, 5, 43, 44] | _ => none, fun i j => match i, j with | 17, 10 => [1] | _, _ => []⟩
  | 4 => .code Tryd.f4 (Tryd.f4.body.getD .skip) ⟨fun i => match i with | 6 => some [1, 5, 6, 17, 18] | _ => none, fun _ _ => []⟩
  | 5 => .code Tryd.f5 (Tryd.f5.body.getD .skip) ⟨fun i => match i with | 5 => some [0, 1, 5, 24, 25] | 17 => some [0, 5, 62, 63] | _ => none, fun _ _ => []⟩
  | 8 => .code Tryd.f8 (Tryd.f8.body.getD .skip) ⟨fun _ => none, fun _ _ => []⟩
  | 9 => .code Tryd.f9 (Tryd.f9.body.getD .skip) ⟨fun _ => none, fun _ _ => []⟩
  | 10 => .code Tryd.f10 (Tryd.f10.body.getD .skip) ⟨fun _ => none, fun _ _ => []⟩
  | 11 => .code Tryd.f11 (Tryd.f11.body.getD .skip) ⟨fun _ => none, fun _ _ => []⟩
  | 12 => .code Tryd.f12 (Tryd.f12.body.getD .skip) ⟨fun _ => none, fun _ _ => []⟩
  | 13 => .code Tryd.f13 (Tryd.f13.body.getD .skip) ⟨fun _ => none, fun _ _ => []⟩
  | 14 => .code Tryd.f14 (Tryd.f14.body.getD .skip) ⟨fun _ => none, fun _ _ => []⟩
  | 15 => .code Tryd.f15 (Tryd.f15.body.getD .skip) ⟨fun _ => none, fun _ _ => []⟩
  | 16 => .code Tryd.f16 (Tryd.f16.body.getD .skip) ⟨fun _ => none, fun _ _ => []⟩
  | 17 => .code Tryd.f17 (Tryd.f17.body.getD .skip) ⟨fun _ => none, fun _ _ => []⟩
  | 18 => .code Tryd.f18 (Tryd.f18.body.getD .skip) ⟨fun _ => none, fun _ _ => []⟩
  | 19 => .code Tryd.f19 (Tryd.f19.body.getD .skip) ⟨fun _ => none, fun _ _ => []⟩
  | 20 => .code Tryd.f20 (Tryd.f20.body.getD .skip) ⟨fun _ => none, fun _ _ => []⟩
  | 25 => .code Tryd.f25 (Tryd.f25.body.getD .skip) ⟨fun _ => none, fun _ _ => []⟩
  | 27 => .code Tryd.f27 (Tryd.f27.body.getD .skip) ⟨fun _ => none, fun _ _ => []⟩
  | 30 => .code Tryd.f30 (Tryd.f30.body.getD .skip) ⟨fun _ => none, fun _ _ => []⟩
  | 31 => .code Tryd.f31 (Tryd.f31.body.getD .skip) ⟨fun _ => none, fun _ _ => []⟩
  | 33 => .code Tryd.f33 (Tryd.f33.body.getD .skip) ⟨fun _ => none, fun _ _ => []⟩
  | 34 => .code Tryd.f34 (Tryd.f34.body.getD .skip) ⟨fun _ => none, fun _ _ => []⟩
  | 35 => .code Tryd.f35 (Tryd.f35.body.getD .skip) ⟨fun _ => none, fun _ _ => []⟩
  | 38 => .code Tryd.f38 (Tryd.f38.body.getD .skip) ⟨fun _ => none, fun _ _ => []⟩
  | 32 => .prim Go.AM.Td.asG
  | _ => .no
end Go.AM.Ld
