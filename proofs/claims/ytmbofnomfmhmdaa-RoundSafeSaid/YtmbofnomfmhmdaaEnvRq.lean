/-
  WHICH FUNCTIONS there are, with what is told of their code beside it (printed).
-/
import Derived.Test.YtmbofnomfmhmdaaAm0
import Derived.Test.YtmbofnomfmhmdaaProg
set_option linter.unusedVariables false
set_option linter.unusedSimpArgs false
set_option linter.unusedSectionVars false
namespace Go.AM.Rq
open Go.Proofs
noncomputable def env : FuncId → Def
  | 5 => .code Try.f5 (Try.f5.body.getD .skip) ⟨fun i => match i with | 9 => some [0, 3, 4, 5, 6, 7, 8, 36, 37] | 37 => some [0, 3, 4, 5, 6, 7, 8, 10, 11, 17, 18, 36, 37, 140, 141] | 43 => some [0, 3, 4, 5, 6, 7, 8, 10, 11, 17, 18, 36, 37, 166, 167] | _ => none, fun _ _ => []⟩
  | 6 => .code Try.f6 (Try.f6.body.getD .skip) ⟨fun i => match i with | 9 => some [0, 2, 3, 9, 10, 12, 58, 59] | 15 => some [0, 3, 9, 10, 12, 16] | 23 => some [0, 3, 9, 10, 12, 16, 17, 101, 102] | 30 => some [0, 3, 9, 10, 12, 16, 20] | _ => none, fun _ _ => []⟩
  | 7 => .code Try.f7 (Try.f7.body.getD .skip) ⟨fun _ => none, fun _ _ => []⟩
  | 8 => .code Try.f8 (Try.f8.body.getD .skip) ⟨fun _ => none, fun _ _ => []⟩
  | 9 => .code Try.f9 (Try.f9.body.getD .skip) ⟨fun _ => none, fun _ _ => []⟩
  | 10 => .code Try.f10 (Try.f10.body.getD .skip) ⟨fun _ => none, fun _ _ => []⟩
  | 11 => .code Try.f11 (Try.f11.body.getD .skip) ⟨fun _ => none, fun _ _ => []⟩
  | 12 => .code Try.f12 (Try.f12.body.getD .skip) ⟨fun i => match i with | 5 => some [0, 3, 11, 12, 13] | _ => none, fun _ _ => []⟩
  | 13 => .code Try.f13 (Try.f13.body.getD .skip) ⟨fun _ => none, fun _ _ => []⟩
  | 14 => .code Try.f14 (Try.f14.body.getD .skip) ⟨fun i => match i with | 4 => some [0, 8, 9] | _ => none, fun _ _ => []⟩
  | 15 => .code Try.f15 (Try.f15.body.getD .skip) ⟨fun _ => none, fun _ _ => []⟩
  | 16 => .code Try.f16 (Try.f16.body.getD .skip) ⟨fun i => match i with | 3 => some [0, 3, 7, 8, 9] | _ => none, fun _ _ => []⟩
  | 17 => .code Try.f17 (Try.f17.body.getD .skip) ⟨fun _ => none, fun _ _ => []⟩
  | 18 => .code Try.f18 (Try.f18.body.getD .skip) ⟨fun _ => none, fun _ _ => []⟩
  | 19 => .code Try.f19 (Try.f19.body.getD .skip) ⟨fun i => match i with | 3 => some [0, 3, 7, 8, 9] | _ => none, fun _ _ => []⟩
  | 20 => .code Try.f20 (Try.f20.body.getD .skip) ⟨fun _ => none, fun _ _ => []⟩
  | 21 => .code Try.f21 (Try.f21.body.getD .skip) ⟨fun _ => none, fun _ _ => []⟩
  | 22 => .code Try.f22 (Try.f22.body.getD .skip) ⟨fun _ => none, fun _ _ => []⟩
  | 23 => .code Try.f23 (Try.f23.body.getD .skip) ⟨fun i => match i with | 2 => some [0, 1, 7, 8] | _ => none, fun _ _ => []⟩
  | _ => .no
end Go.AM.Rq
