/-
  WHICH FUNCTIONS there are, with what is told of their code beside it (printed).
-/
import Derived.Test.YtnihjgamfnabnaaDoorAm0g
import Derived.Test.YtnihjgamfnabnaaDoorUcP
import Derived.Test.YtnihjgamfnabnaaDoorProg
set_option linter.unusedVariables false
set_option linter.unusedSimpArgs false
set_option linter.unusedSectionVars false
namespace Go.AM.Bd
open Go.Proofs
noncomputable def env : FuncId → Def
  | 3 => .code Tryd.f3 (Tryd.f3.body.getD .skip) ⟨fun i => match i with | 12 => some [2, 3, 11, 13, 14, 61] | 21 => some [2, 3, 11, 13, 14, 17, 82, 83] | _ => none, fun _ _ => []⟩
  | 4 => .code Tryd.f4 (Tryd.f4.body.getD .skip) ⟨fun _ => none, fun _ _ => []⟩
  | 5 => .code Tryd.f5 (Tryd.f5.body.getD .skip) ⟨fun i => match i with | 3 => some [4, 9, 10, 11] | _ => none, fun _ _ => []⟩
  | 6 => .code Tryd.f6 (Tryd.f6.body.getD .skip) ⟨fun i => match i with | 6 => some [8, 24] | _ => none, fun _ _ => []⟩
  | 7 => .code Tryd.f7 (Tryd.f7.body.getD .skip) ⟨fun _ => none, fun _ _ => []⟩
  | 8 => .code Tryd.f8 (Tryd.f8.body.getD .skip) ⟨fun _ => none, fun _ _ => []⟩
  | 9 => .code Tryd.f9 (Tryd.f9.body.getD .skip) ⟨fun i => match i with | 5 => some [0, 3, 13, 14] | 8 => some [0, 3, 13, 14, 18, 19, 20] | _ => none, fun _ _ => []⟩
  | 10 => .code Tryd.f10 (Tryd.f10.body.getD .skip) ⟨fun i => match i with | 10 => some [0, 4, 5, 42, 43, 44] | 14 => some [0, 4, 5, 7, 42, 43, 44, 59, 60, 61] | _ => none, fun _ _ => []⟩
  | 11 => .code Tryd.f11 (Tryd.f11.body.getD .skip) ⟨fun _ => none, fun _ _ => []⟩
  | 12 => .code Tryd.f12 (Tryd.f12.body.getD .skip) ⟨fun _ => none, fun _ _ => []⟩
  | 13 => .code Tryd.f13 (Tryd.f13.body.getD .skip) ⟨fun _ => none, fun _ _ => []⟩
  | 14 => .code Tryd.f14 (Tryd.f14.body.getD .skip) ⟨fun i => match i with | 6 => some [0, 4, 5, 18] | _ => none, fun _ _ => []⟩
  | 15 => .code Tryd.f15 (Tryd.f15.body.getD .skip) ⟨fun _ => none, fun _ _ => []⟩
  | 16 => .code Tryd.f16 (Tryd.f16.body.getD .skip) ⟨fun _ => none, fun _ _ => []⟩
  | 17 => .code Tryd.f17 (Tryd.f17.body.getD .skip) ⟨fun _ => none, fun i j => match i, j with | 4, 6 => [4] | _, _ => []⟩
  | 18 => .code Tryd.f18 (Tryd.f18.body.getD .skip) ⟨fun _ => none, fun _ _ => []⟩
  | 19 => .code Tryd.f19 (Tryd.f19.body.getD .skip) ⟨fun i => match i with | 3 => some [3, 7, 8, 9] | _ => none, fun _ _ => []⟩
  | 20 => .code Tryd.f20 (Tryd.f20.body.getD .skip) ⟨fun i => match i with | 3 => some [0, 1, 5, 16, 17, 18] | _ => none, fun _ _ => []⟩
  | 21 => .code Tryd.f21 (Tryd.f21.body.getD .skip) ⟨fun _ => none, fun _ _ => []⟩
  | 22 => .code Tryd.f22 (Tryd.f22.body.getD .skip) ⟨fun i => match i with | 4 => some [0, 1, 5] | _ => none, fun _ _ => []⟩
  | 23 => .code Tryd.f23 (Tryd.f23.body.getD .skip) ⟨fun _ => none, fun _ _ => []⟩
  | 24 => .code Tryd.f24 (Tryd.f24.body.getD .skip) ⟨fun _ => none, fun _ _ => []⟩
  | 26 => .code Tryd.f26 (Tryd.f26.body.getD .skip) ⟨fun _ => none, fun _ _ => []⟩
  | 27 => .code Tryd.f27 (Tryd.f27.body.getD .skip) ⟨fun _ => none, fun _ _ => []⟩
  | 28 => .code Tryd.f28 (Tryd.f28.body.getD .skip) ⟨fun _ => none, fun _ _ => []⟩
  | 29 => .code Tryd.f29 (Tryd.f29.body.getD .skip) ⟨fun _ => none, fun _ _ => []⟩
  | 30 => .code Tryd.f30 (Tryd.f30.body.getD .skip) ⟨fun i => match i with | 6 => some [1, 7, 26, 27, 28] | _ => none, fun _ _ => []⟩
  | 31 => .code Tryd.f31 (Tryd.f31.body.getD .skip) ⟨fun _ => none, fun _ _ => []⟩
  | 32 => .code Tryd.f32 (Tryd.f32.body.getD .skip) ⟨fun _ => none, fun _ _ => []⟩
  | 33 => .code Tryd.f33 (Tryd.f33.body.getD .skip) ⟨fun i => match i with | 2 => some [0, 7] | 5 => some [0, 3, 7, 10] | _ => none, fun _ _ => []⟩
  | 34 => .code Tryd.f34 (Tryd.f34.body.getD .skip) ⟨fun _ => none, fun _ _ => []⟩
  | 35 => .code Tryd.f35 (Tryd.f35.body.getD .skip) ⟨fun _ => none, fun _ _ => []⟩
  | 36 => .code Tryd.f36 (Tryd.f36.body.getD .skip) ⟨fun _ => none, fun _ _ => []⟩
  | 37 => .code Tryd.f37 (Tryd.f37.body.getD .skip) ⟨fun _ => none, fun _ _ => []⟩
  | 38 => .code Tryd.f38 (Tryd.f38.body.getD .skip) ⟨fun i => match i with | 3 => some [4, 5, 17, 18, 19] | _ => none, fun _ _ => []⟩
  | 39 => .code Tryd.f39 (Tryd.f39.body.getD .skip) ⟨fun i => match i with | 3 => some [3, 6, 7] | _ => none, fun _ _ => []⟩
  | 40 => .code Tryd.f40 (Tryd.f40.body.getD .skip) ⟨fun i => match i with | 2 => some [0, 1, 7, 8] | _ => none, fun _ _ => []⟩
  | 41 => .code Tryd.f41 (Tryd.f41.body.getD .skip) ⟨fun _ => none, fun _ _ => []⟩
  | 42 => .code Tryd.f42 (Tryd.f42.body.getD .skip) ⟨fun _ => none, fun _ _ => []⟩
  | 43 => .code Tryd.f43 (Tryd.f43.body.getD .skip) ⟨fun _ => none, fun _ _ => []⟩
  | 44 => .code Tryd.f44 (Tryd.f44.body.getD .skip) ⟨fun i => match i with | 2 => some [7, 8] | 5 => some [7, 8, 11, 12] | _ => none, fun _ _ => []⟩
  | 49 => .code Tryd.f49 (Tryd.f49.body.getD .skip) ⟨fun _ => none, fun _ _ => []⟩
  | 50 => .code Tryd.f50 (Tryd.f50.body.getD .skip) ⟨fun _ => none, fun _ _ => []⟩
  | 51 => .code Tryd.f51 (Tryd.f51.body.getD .skip) ⟨fun _ => none, fun _ _ => []⟩
  | 52 => .code Tryd.f52 (Tryd.f52.body.getD .skip) ⟨fun i => match i with | 5 => some [0, 3, 12, 13, 14] | _ => none, fun _ _ => []⟩
  | 53 => .code Tryd.f53 (Tryd.f53.body.getD .skip) ⟨fun _ => none, fun _ _ => []⟩
  | 54 => .code Tryd.f54 (Tryd.f54.body.getD .skip) ⟨fun _ => none, fun i j => match i, j with | 1, 4 => [2] | _, _ => []⟩
  | 55 => .code Tryd.f55 (Tryd.f55.body.getD .skip) ⟨fun _ => none, fun i j => match i, j with | 1, 8 => [3] | _, _ => []⟩
  | 56 => .code Tryd.f56 (Tryd.f56.body.getD .skip) ⟨fun _ => none, fun _ _ => []⟩
  | 60 => .code Tryd.f60 (Tryd.f60.body.getD .skip) ⟨fun i => match i with | 4 => some [0, 1, 12, 13] | _ => none, fun _ _ => []⟩
  | 61 => .code Tryd.f61 (Tryd.f61.body.getD .skip) ⟨fun _ => none, fun _ _ => []⟩
  | 62 => .code Tryd.f62 (Tryd.f62.body.getD .skip) ⟨fun _ => none, fun _ _ => []⟩
  | 63 => .code Tryd.f63 (Tryd.f63.body.getD .skip) ⟨fun _ => none, fun _ _ => []⟩
  | 64 => .code Tryd.f64 (Tryd.f64.body.getD .skip) ⟨fun _ => none, fun _ _ => []⟩
  | 65 => .code Tryd.f65 (Tryd.f65.body.getD .skip) ⟨fun i => match i with | 2 => some [0, 1] | _ => none, fun _ _ => []⟩
  | 66 => .code Tryd.f66 (Tryd.f66.body.getD .skip) ⟨fun _ => none, fun _ _ => []⟩
  | 67 => .code Tryd.f67 (Tryd.f67.body.getD .skip) ⟨fun _ => none, fun _ _ => []⟩
  | 68 => .code Tryd.f68 (Tryd.f68.body.getD .skip) ⟨fun _ => none, fun _ _ => []⟩
  | 69 => .code Tryd.f69 (Tryd.f69.body.getD .skip) ⟨fun i => match i with | 3 => some [3, 6, 7, 8] | _ => none, fun _ _ => []⟩
  | 70 => .code Tryd.f70 (Tryd.f70.body.getD .skip) ⟨fun _ => none, fun _ _ => []⟩
  | 71 => .code Tryd.f71 (Tryd.f71.body.getD .skip) ⟨fun i => match i with | 3 => some [0, 3, 9, 10, 11] | 11 => some [6, 25, 26, 27] | _ => none, fun _ _ => []⟩
  | 72 => .code Tryd.f72 (Tryd.f72.body.getD .skip) ⟨fun _ => none, fun _ _ => []⟩
  | 73 => .code Tryd.f73 (Tryd.f73.body.getD .skip) ⟨fun _ => none, fun _ _ => []⟩
  | 74 => .code Tryd.f74 (Tryd.f74.body.getD .skip) ⟨fun _ => none, fun _ _ => []⟩
  | 25 => .prim Go.AM.Td.asG
  | _ => .no
end Go.AM.Bd
