import Derived.Test.YtmmjibadpdbkaaaAm0
import Derived.Test.YtmmjibadpdbkaaaProg
set_option linter.unusedVariables false
set_option linter.unusedSimpArgs false
namespace Go.AM
open Go.Proofs
noncomputable def env : FuncId → Def
  | 3 => .code Try.f3 (Try.f3.body.getD .skip) ⟨fun i => match i with | 6 => some [0, 3, 4, 20, 21] | 16 => some [4, 7, 50, 51] | _ => none, fun _ _ => []⟩
  | 4 => .code Try.f4 (Try.f4.body.getD .skip) ⟨fun i => match i with | 6 => some [5, 6, 7, 26, 27] | 12 => some [5, 6, 7, 9, 36, 37] | 15 => some [5, 6, 7, 9, 10, 36, 37, 42, 43] | _ => none, fun _ _ => []⟩
  | 5 => .code Try.f5 (Try.f5.body.getD .skip) ⟨fun i => match i with | 8 => some [0, 3, 4, 5, 6, 7, 27, 28] | 30 => some [0, 3, 4, 5, 6, 7, 9, 27, 28, 156, 157] | _ => none, fun _ _ => []⟩
  | 6 => .code Try.f6 (Try.f6.body.getD .skip) ⟨fun i => match i with | 6 => some [0, 1, 5, 6, 7, 32, 33] | 20 => some [5, 6, 90, 91] | 26 => some [5, 6, 10, 105, 106] | 30 => some [5, 6, 10, 13, 14, 105, 106, 117, 118] | _ => none, fun _ _ => []⟩
  | 7 => .code Try.f7 (Try.f7.body.getD .skip) ⟨fun i => match i with | 9 => some [0, 5, 6, 7, 8, 36, 37] | 14 => some [0, 5, 6, 7, 8, 47, 48] | 19 => some [0, 5, 6, 7, 8, 47, 48, 62, 63, 64] | 33 => some [5, 6, 8, 110, 111] | 35 => some [5, 6, 8, 110, 111, 117, 118, 119] | 42 => some [5, 8, 17, 133, 134] | _ => none, fun _ _ => []⟩
  | 8 => .code Try.f8 (Try.f8.body.getD .skip) ⟨fun _ => none, fun _ _ => []⟩
  | 9 => .code Try.f9 (Try.f9.body.getD .skip) ⟨fun _ => none, fun i j => match i, j with | 4, 7 => [4] | _, _ => []⟩
  | 10 => .code Try.f10 (Try.f10.body.getD .skip) ⟨fun _ => none, fun _ _ => []⟩
  | 11 => .code Try.f11 (Try.f11.body.getD .skip) ⟨fun _ => none, fun _ _ => []⟩
  | 12 => .code Try.f12 (Try.f12.body.getD .skip) ⟨fun _ => none, fun _ _ => []⟩
  | 13 => .code Try.f13 (Try.f13.body.getD .skip) ⟨fun _ => none, fun _ _ => []⟩
  | 14 => .code Try.f14 (Try.f14.body.getD .skip) ⟨fun _ => none, fun _ _ => []⟩
  | 15 => .code Try.f15 (Try.f15.body.getD .skip) ⟨fun _ => none, fun _ _ => []⟩
  | 16 => .code Try.f16 (Try.f16.body.getD .skip) ⟨fun _ => none, fun _ _ => []⟩
  | 17 => .code Try.f17 (Try.f17.body.getD .skip) ⟨fun _ => none, fun _ _ => []⟩
  | 18 => .code Try.f18 (Try.f18.body.getD .skip) ⟨fun _ => none, fun i j => match i, j with | 3, 2 => [0] | 8, 3 => [0] | _, _ => []⟩
  | 19 => .code Try.f19 (Try.f19.body.getD .skip) ⟨fun _ => none, fun _ _ => []⟩
  | 20 => .code Try.f20 (Try.f20.body.getD .skip) ⟨fun _ => none, fun _ _ => []⟩
  | 21 => .code Try.f21 (Try.f21.body.getD .skip) ⟨fun _ => none, fun _ _ => []⟩
  | 22 => .code Try.f22 (Try.f22.body.getD .skip) ⟨fun i => match i with | 3 => some [0, 2, 7, 8] | _ => none, fun _ _ => []⟩
  | 23 => .code Try.f23 (Try.f23.body.getD .skip) ⟨fun _ => none, fun _ _ => []⟩
  | 24 => .code Try.f24 (Try.f24.body.getD .skip) ⟨fun _ => none, fun _ _ => []⟩
  | 25 => .code Try.f25 (Try.f25.body.getD .skip) ⟨fun _ => none, fun i j => match i, j with | 3, 6 => [4] | _, _ => []⟩
  | 26 => .code Try.f26 (Try.f26.body.getD .skip) ⟨fun _ => none, fun _ _ => []⟩
  | _ => .no
end Go.AM
