/-
  WHICH FUNCTIONS there are, with what is told of their code beside it (printed).
-/
import Derived.Test.YtopogeimdanbkaaAm0
import Derived.Test.YtopogeimdanbkaaProg
set_option linter.unusedVariables false
set_option linter.unusedSimpArgs false
namespace Go.AM.Lk
open Go.Proofs
noncomputable def env : FuncId → Def
  | 3 => .code Try.f3 (Try.f3.body.getD .skip) ⟨fun i => match i with | 8 => some [0, 3, 4, 5, 6, 7, 22, 23] | _ => none, fun _ _ => []⟩
  | 4 => .code Try.f4 (Try.f4.body.getD .skip) ⟨fun i => match i with | 7 => some [0, 5, 6, 7, 31, 32] | 15 => some [0, 5, 6, 7, 9, 43, 44] | 20 => some [0, 5, 6, 7, 9, 53, 54] | 35 => some [5, 6, 7, 120, 121] | 42 => some [6, 7, 147, 148] | _ => none, fun _ _ => []⟩
  | 5 => .code Try.f5 (Try.f5.body.getD .skip) ⟨fun _ => none, fun _ _ => []⟩
  | 6 => .code Try.f6 (Try.f6.body.getD .skip) ⟨fun i => match i with | 4 => some [0, 8, 9] | _ => none, fun _ _ => []⟩
  | 7 => .code Try.f7 (Try.f7.body.getD .skip) ⟨fun _ => none, fun _ _ => []⟩
  | 8 => .code Try.f8 (Try.f8.body.getD .skip) ⟨fun _ => none, fun _ _ => []⟩
  | 9 => .code Try.f9 (Try.f9.body.getD .skip) ⟨fun _ => none, fun _ _ => []⟩
  | 10 => .code Try.f10 (Try.f10.body.getD .skip) ⟨fun _ => none, fun _ _ => []⟩
  | 11 => .code Try.f11 (Try.f11.body.getD .skip) ⟨fun _ => none, fun _ _ => []⟩
  | 12 => .code Try.f12 (Try.f12.body.getD .skip) ⟨fun _ => none, fun _ _ => []⟩
  | 13 => .code Try.f13 (Try.f13.body.getD .skip) ⟨fun _ => none, fun _ _ => []⟩
  | 14 => .code Try.f14 (Try.f14.body.getD .skip) ⟨fun _ => none, fun _ _ => []⟩
  | 15 => .code Try.f15 (Try.f15.body.getD .skip) ⟨fun _ => none, fun _ _ => []⟩
  | 16 => .code Try.f16 (Try.f16.body.getD .skip) ⟨fun _ => none, fun _ _ => []⟩
  | _ => .no
end Go.AM.Lk
