/-
  WHICH FUNCTIONS there are, with what is told of their code beside it (printed).
-/
import Derived.Test.YtgbbeanfncflpaaAm0g
import Derived.Test.YtgbbeanfncflpaaProg
set_option linter.unusedVariables false
set_option linter.unusedSimpArgs false
set_option linter.unusedSectionVars false
namespace Go.AM.Ia
open Go.Proofs
noncomputable def env : FuncId → Def
  | 3 => .code Try.f3 (Try.f3.body.getD .skip) ⟨fun i => match i with | 8 => some [0, 3, 4, 31, 32] | 15 => some [0, 3, 4, 7, 8, 9, 10, 11, 31, 32] | _ => none, fun i j => match i, j with | 12, 5 => [3] | 23, 2 => [1] | 24, 3 => [1] | 24, 10 => [8] | _, _ => []⟩
  | 4 => .code Try.f4 (Try.f4.body.getD .skip) ⟨fun _ => none, fun _ _ => []⟩
  | 5 => .code Try.f5 (Try.f5.body.getD .skip) ⟨fun i => match i with | 4 => some [0, 9, 10] | 9 => some [0, 3, 9, 10, 25, 26] | _ => none, fun _ _ => []⟩
  | 6 => .code Try.f6 (Try.f6.body.getD .skip) ⟨fun _ => none, fun _ _ => []⟩
  | 7 => .code Try.f7 (Try.f7.body.getD .skip) ⟨fun i => match i with | 6 => some [0, 4, 5, 18] | _ => none, fun _ _ => []⟩
  | 8 => .code Try.f8 (Try.f8.body.getD .skip) ⟨fun _ => none, fun _ _ => []⟩
  | 9 => .code Try.f9 (Try.f9.body.getD .skip) ⟨fun _ => none, fun _ _ => []⟩
  | 10 => .code Try.f10 (Try.f10.body.getD .skip) ⟨fun _ => none, fun _ _ => []⟩
  | 11 => .code Try.f11 (Try.f11.body.getD .skip) ⟨fun i => match i with | 3 => some [0, 2, 3, 6, 7] | _ => none, fun _ _ => []⟩
  | 12 => .code Try.f12 (Try.f12.body.getD .skip) ⟨fun _ => none, fun i j => match i, j with | 12, 8 => [3] | 12, 14 => [8] | 12, 24 => [8] | 12, 25 => [3] | 16, 14 => [3, 8] | _, _ => []⟩
  | 13 => .code Try.f13 (Try.f13.body.getD .skip) ⟨fun _ => none, fun _ _ => []⟩
  | 14 => .code Try.f14 (Try.f14.body.getD .skip) ⟨fun _ => none, fun _ _ => []⟩
  | 15 => .code Try.f15 (Try.f15.body.getD .skip) ⟨fun _ => none, fun _ _ => []⟩
  | 16 => .code Try.f16 (Try.f16.body.getD .skip) ⟨fun _ => none, fun _ _ => []⟩
  | 17 => .code Try.f17 (Try.f17.body.getD .skip) ⟨fun _ => none, fun _ _ => []⟩
  | 18 => .code Try.f18 (Try.f18.body.getD .skip) ⟨fun i => match i with | 6 => some [1, 7, 26, 27, 28] | _ => none, fun _ _ => []⟩
  | 19 => .code Try.f19 (Try.f19.body.getD .skip) ⟨fun _ => none, fun _ _ => []⟩
  | 20 => .code Try.f20 (Try.f20.body.getD .skip) ⟨fun _ => none, fun _ _ => []⟩
  | 21 => .code Try.f21 (Try.f21.body.getD .skip) ⟨fun i => match i with | 2 => some [0, 7] | 5 => some [0, 3, 7, 10] | _ => none, fun _ _ => []⟩
  | 22 => .code Try.f22 (Try.f22.body.getD .skip) ⟨fun i => match i with | 2 => some [7, 8] | 5 => some [7, 8, 11, 12] | _ => none, fun _ _ => []⟩
  | 23 => .code Try.f23 (Try.f23.body.getD .skip) ⟨fun _ => none, fun i j => match i, j with | 7, 6 => [4] | _, _ => []⟩
  | 24 => .code Try.f24 (Try.f24.body.getD .skip) ⟨fun _ => none, fun _ _ => []⟩
  | 25 => .code Try.f25 (Try.f25.body.getD .skip) ⟨fun _ => none, fun _ _ => []⟩
  | 26 => .code Try.f26 (Try.f26.body.getD .skip) ⟨fun _ => none, fun _ _ => []⟩
  | 27 => .code Try.f27 (Try.f27.body.getD .skip) ⟨fun _ => none, fun i j => match i, j with | 1, 4 => [2] | _, _ => []⟩
  | 28 => .code Try.f28 (Try.f28.body.getD .skip) ⟨fun i => match i with | 2 => some [0, 1, 11, 12, 13] | _ => none, fun _ _ => []⟩
  | 29 => .code Try.f29 (Try.f29.body.getD .skip) ⟨fun _ => none, fun _ _ => []⟩
  | 30 => .code Try.f30 (Try.f30.body.getD .skip) ⟨fun _ => none, fun _ _ => []⟩
  | 31 => .code Try.f31 (Try.f31.body.getD .skip) ⟨fun _ => none, fun _ _ => []⟩
  | 32 => .code Try.f32 (Try.f32.body.getD .skip) ⟨fun _ => none, fun _ _ => []⟩
  | 33 => .code Try.f33 (Try.f33.body.getD .skip) ⟨fun _ => none, fun _ _ => []⟩
  | 34 => .code Try.f34 (Try.f34.body.getD .skip) ⟨fun i => match i with | 5 => some [0, 3, 12, 13, 14] | _ => none, fun _ _ => []⟩
  | 35 => .code Try.f35 (Try.f35.body.getD .skip) ⟨fun _ => none, fun _ _ => []⟩
  | 36 => .code Try.f36 (Try.f36.body.getD .skip) ⟨fun _ => none, fun i j => match i, j with | 1, 8 => [3] | _, _ => []⟩
  | 37 => .code Try.f37 (Try.f37.body.getD .skip) ⟨fun _ => none, fun _ _ => []⟩
  | 38 => .code Try.f38 (Try.f38.body.getD .skip) ⟨fun _ => none, fun _ _ => []⟩
  | 39 => .code Try.f39 (Try.f39.body.getD .skip) ⟨fun i => match i with | 2 => some [0, 1] | _ => none, fun _ _ => []⟩
  | 40 => .code Try.f40 (Try.f40.body.getD .skip) ⟨fun _ => none, fun _ _ => []⟩
  | 41 => .code Try.f41 (Try.f41.body.getD .skip) ⟨fun i => match i with | 4 => some [0, 1, 12, 13] | _ => none, fun _ _ => []⟩
  | 42 => .code Try.f42 (Try.f42.body.getD .skip) ⟨fun _ => none, fun _ _ => []⟩
  | 43 => .code Try.f43 (Try.f43.body.getD .skip) ⟨fun _ => none, fun _ _ => []⟩
  | 44 => .code Try.f44 (Try.f44.body.getD .skip) ⟨fun _ => none, fun _ _ => []⟩
  | 45 => .code Try.f45 (Try.f45.body.getD .skip) ⟨fun _ => none, fun _ _ => []⟩
  | 46 => .code Try.f46 (Try.f46.body.getD .skip) ⟨fun _ => none, fun _ _ => []⟩
  | 47 => .code Try.f47 (Try.f47.body.getD .skip) ⟨fun i => match i with | 3 => some [0, 3, 9, 10, 11] | 11 => some [6, 25, 26, 27] | _ => none, fun _ _ => []⟩
  | 48 => .code Try.f48 (Try.f48.body.getD .skip) ⟨fun i => match i with | 3 => some [3, 6, 7, 8] | _ => none, fun _ _ => []⟩
  | 49 => .code Try.f49 (Try.f49.body.getD .skip) ⟨fun _ => none, fun _ _ => []⟩
  | 50 => .code Try.f50 (Try.f50.body.getD .skip) ⟨fun _ => none, fun _ _ => []⟩
  | _ => .no
end Go.AM.Ia
