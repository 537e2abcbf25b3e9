/-
  WHICH FUNCTIONS there are, with what is told of their code beside it (printed).
-/
import Derived.Test.YtgnchfjkpjblnaaAm0
import Derived.Test.YtgnchfjkpjblnaaProg
set_option linter.unusedVariables false
set_option linter.unusedSimpArgs false
namespace Go.AM.Gt
open Go.Proofs
noncomputable def env : FuncId → Def
  | 3 => .code Try.f3 (Try.f3.body.getD .skip) ⟨fun i => match i with | 6 => some [0, 1, 2, 3, 9, 10, 29, 30] | 19 => some [1, 3, 9, 90, 91] | _ => none, fun _ _ => []⟩
  | 4 => .code Try.f4 (Try.f4.body.getD .skip) ⟨fun i => match i with | 6 => some [0, 3, 4, 5, 21, 22] | 25 => some [0, 3, 4, 5, 7, 21, 22, 96, 97] | _ => none, fun _ _ => []⟩
  | 5 => .code Try.f5 (Try.f5.body.getD .skip) ⟨fun i => match i with | 5 => some [0, 3, 5, 27, 28] | _ => none, fun _ _ => []⟩
  | 6 => .code Try.f6 (Try.f6.body.getD .skip) ⟨fun _ => none, fun _ _ => []⟩
  | 7 => .code Try.f7 (Try.f7.body.getD .skip) ⟨fun i => match i with | 4 => some [0, 8, 9] | _ => none, fun _ _ => []⟩
  | 8 => .code Try.f8 (Try.f8.body.getD .skip) ⟨fun _ => none, fun _ _ => []⟩
  | 9 => .code Try.f9 (Try.f9.body.getD .skip) ⟨fun _ => none, fun _ _ => []⟩
  | 10 => .code Try.f10 (Try.f10.body.getD .skip) ⟨fun _ => none, fun _ _ => []⟩
  | 11 => .code Try.f11 (Try.f11.body.getD .skip) ⟨fun _ => none, fun _ _ => []⟩
  | 12 => .code Try.f12 (Try.f12.body.getD .skip) ⟨fun _ => none, fun i j => match i, j with | 7, 6 => [4] | _, _ => []⟩
  | 13 => .code Try.f13 (Try.f13.body.getD .skip) ⟨fun _ => none, fun _ _ => []⟩
  | 14 => .code Try.f14 (Try.f14.body.getD .skip) ⟨fun _ => none, fun _ _ => []⟩
  | 15 => .code Try.f15 (Try.f15.body.getD .skip) ⟨fun _ => none, fun _ _ => []⟩
  | 16 => .code Try.f16 (Try.f16.body.getD .skip) ⟨fun _ => none, fun _ _ => []⟩
  | 17 => .code Try.f17 (Try.f17.body.getD .skip) ⟨fun _ => none, fun _ _ => []⟩
  | 18 => .code Try.f18 (Try.f18.body.getD .skip) ⟨fun _ => none, fun _ _ => []⟩
  | _ => .no
end Go.AM.Gt
