/-
  WHICH FUNCTIONS there are, with what is told of their code beside it (printed).
-/
import Derived.Test.YtnihjgamfnabnaaAm0g
import Derived.Test.YtnihjgamfnabnaaProg
set_option linter.unusedVariables false
set_option linter.unusedSimpArgs false
set_option linter.unusedSectionVars false
namespace Go.AM.Bp
open Go.Proofs
noncomputable def env : FuncId → Def
  | 3 => .code Try.f3 (Try.f3.body.getD .skip) ⟨fun i => match i with | 12 => some [0, 1, 2, 3, 11, 13, 14, 70, 71] | 21 => some [0, 2, 3, 11, 13, 14, 122, 123] | 27 => some [0, 2, 3, 11, 13, 14, 151, 152] | 34 => some [0, 2, 11, 13, 14, 190, 191] | 37 => some [0, 2, 11, 13, 14, 22, 190, 191, 201, 202] | 47 => some [11, 14, 24, 26, 237] | _ => none, fun i j => match i, j with | 17, 19 => [5] | 24, 16 => [5] | _, _ => []⟩
  | 4 => .code Try.f4 (Try.f4.body.getD .skip) ⟨fun i => match i with | 9 => some [0, 1, 2, 9, 11, 54] | 12 => some [0, 1, 2, 9, 11, 13, 54, 58, 59] | 27 => some [1, 2, 9, 11, 105] | 31 => some [2, 9, 11, 112, 113] | 39 => some [9, 11, 129] | _ => none, fun _ _ => []⟩
  | 5 => .code Try.f5 (Try.f5.body.getD .skip) ⟨fun i => match i with | 12 => some [1, 5, 7, 9, 10, 11, 53, 54] | 28 => some [1, 5, 7, 9, 10, 11, 13, 14, 17, 53, 54] | 46 => some [1, 5, 7, 9, 10, 11, 14, 18, 19, 20, 21, 53, 54, 177, 178] | _ => none, fun i j => match i, j with | 22, 10 => [2, 5, 7] | 22, 11 => [2] | _, _ => []⟩
  | 6 => .code Try.f6 (Try.f6.body.getD .skip) ⟨fun _ => none, fun _ _ => []⟩
  | 7 => .code Try.f7 (Try.f7.body.getD .skip) ⟨fun i => match i with | 3 => some [4, 9, 10, 11] | _ => none, fun _ _ => []⟩
  | 8 => .code Try.f8 (Try.f8.body.getD .skip) ⟨fun i => match i with | 6 => some [8, 24] | _ => none, fun _ _ => []⟩
  | 9 => .code Try.f9 (Try.f9.body.getD .skip) ⟨fun _ => none, fun _ _ => []⟩
  | 10 => .code Try.f10 (Try.f10.body.getD .skip) ⟨fun _ => none, fun _ _ => []⟩
  | 11 => .code Try.f11 (Try.f11.body.getD .skip) ⟨fun i => match i with | 10 => some [0, 4, 5, 42, 43, 44] | 14 => some [0, 4, 5, 7, 42, 43, 44, 59, 60, 61] | _ => none, fun _ _ => []⟩
  | 12 => .code Try.f12 (Try.f12.body.getD .skip) ⟨fun _ => none, fun _ _ => []⟩
  | 13 => .code Try.f13 (Try.f13.body.getD .skip) ⟨fun _ => none, fun i j => match i, j with | 3, 8 => [4] | _, _ => []⟩
  | 14 => .code Try.f14 (Try.f14.body.getD .skip) ⟨fun i => match i with | 4 => some [0, 1, 12, 13] | _ => none, fun _ _ => []⟩
  | 15 => .code Try.f15 (Try.f15.body.getD .skip) ⟨fun i => match i with | 3 => some [1, 3, 6] | 6 => some [1, 3, 4, 6, 9] | _ => none, fun _ _ => []⟩
  | 16 => .code Try.f16 (Try.f16.body.getD .skip) ⟨fun i => match i with | 5 => some [0, 3, 13, 14] | 8 => some [0, 3, 13, 14, 18, 19, 20] | _ => none, fun _ _ => []⟩
  | 17 => .code Try.f17 (Try.f17.body.getD .skip) ⟨fun i => match i with | 3 => some [0] | 7 => some [3, 18, 19] | _ => none, fun _ _ => []⟩
  | 18 => .code Try.f18 (Try.f18.body.getD .skip) ⟨fun _ => none, fun _ _ => []⟩
  | 19 => .code Try.f19 (Try.f19.body.getD .skip) ⟨fun i => match i with | 5 => some [2, 3, 12, 13] | _ => none, fun _ _ => []⟩
  | 20 => .code Try.f20 (Try.f20.body.getD .skip) ⟨fun i => match i with | 4 => some [0, 8, 9] | _ => none, fun _ _ => []⟩
  | 21 => .code Try.f21 (Try.f21.body.getD .skip) ⟨fun _ => none, fun _ _ => []⟩
  | 22 => .code Try.f22 (Try.f22.body.getD .skip) ⟨fun _ => none, fun _ _ => []⟩
  | 23 => .code Try.f23 (Try.f23.body.getD .skip) ⟨fun i => match i with | 3 => some [1, 2, 7, 13, 14] | _ => none, fun _ _ => []⟩
  | 24 => .code Try.f24 (Try.f24.body.getD .skip) ⟨fun _ => none, fun _ _ => []⟩
  | 25 => .code Try.f25 (Try.f25.body.getD .skip) ⟨fun _ => none, fun _ _ => []⟩
  | 26 => .code Try.f26 (Try.f26.body.getD .skip) ⟨fun i => match i with | 6 => some [0, 4, 5, 18] | _ => none, fun _ _ => []⟩
  | 27 => .code Try.f27 (Try.f27.body.getD .skip) ⟨fun _ => none, fun _ _ => []⟩
  | 28 => .code Try.f28 (Try.f28.body.getD .skip) ⟨fun _ => none, fun _ _ => []⟩
  | 29 => .code Try.f29 (Try.f29.body.getD .skip) ⟨fun _ => none, fun i j => match i, j with | 4, 6 => [4] | _, _ => []⟩
  | 30 => .code Try.f30 (Try.f30.body.getD .skip) ⟨fun _ => none, fun _ _ => []⟩
  | 31 => .code Try.f31 (Try.f31.body.getD .skip) ⟨fun _ => none, fun _ _ => []⟩
  | 32 => .code Try.f32 (Try.f32.body.getD .skip) ⟨fun i => match i with | 4 => some [0, 1, 5] | _ => none, fun _ _ => []⟩
  | 33 => .code Try.f33 (Try.f33.body.getD .skip) ⟨fun _ => none, fun _ _ => []⟩
  | 34 => .code Try.f34 (Try.f34.body.getD .skip) ⟨fun _ => none, fun _ _ => []⟩
  | 35 => .code Try.f35 (Try.f35.body.getD .skip) ⟨fun _ => none, fun i j => match i, j with | 12, 8 => [3] | 12, 14 => [8] | 12, 24 => [8] | 12, 25 => [3] | 16, 14 => [3, 8] | _, _ => []⟩
  | 36 => .code Try.f36 (Try.f36.body.getD .skip) ⟨fun i => match i with | 2 => some [0, 2, 17, 18, 19] | _ => none, fun _ _ => []⟩
  | 37 => .code Try.f37 (Try.f37.body.getD .skip) ⟨fun _ => none, fun _ _ => []⟩
  | 38 => .code Try.f38 (Try.f38.body.getD .skip) ⟨fun i => match i with | 3 => some [3, 7, 8, 9] | _ => none, fun _ _ => []⟩
  | 39 => .code Try.f39 (Try.f39.body.getD .skip) ⟨fun i => match i with | 3 => some [0, 1, 5, 16, 17, 18] | _ => none, fun _ _ => []⟩
  | 40 => .code Try.f40 (Try.f40.body.getD .skip) ⟨fun _ => none, fun _ _ => []⟩
  | 41 => .code Try.f41 (Try.f41.body.getD .skip) ⟨fun _ => none, fun _ _ => []⟩
  | 42 => .code Try.f42 (Try.f42.body.getD .skip) ⟨fun _ => none, fun _ _ => []⟩
  | 43 => .code Try.f43 (Try.f43.body.getD .skip) ⟨fun _ => none, fun _ _ => []⟩
  | 44 => .code Try.f44 (Try.f44.body.getD .skip) ⟨fun _ => none, fun i j => match i, j with | 5, 3 => [1] | 9, 8 => [6] | 9, 11 => [6] | 13, 6 => [4] | _, _ => []⟩
  | 45 => .code Try.f45 (Try.f45.body.getD .skip) ⟨fun _ => none, fun _ _ => []⟩
  | 46 => .code Try.f46 (Try.f46.body.getD .skip) ⟨fun _ => none, fun _ _ => []⟩
  | 47 => .code Try.f47 (Try.f47.body.getD .skip) ⟨fun _ => none, fun _ _ => []⟩
  | 48 => .code Try.f48 (Try.f48.body.getD .skip) ⟨fun _ => none, fun _ _ => []⟩
  | 49 => .code Try.f49 (Try.f49.body.getD .skip) ⟨fun i => match i with | 6 => some [1, 7, 26, 27, 28] | _ => none, fun _ _ => []⟩
  | 50 => .code Try.f50 (Try.f50.body.getD .skip) ⟨fun _ => none, fun _ _ => []⟩
  | 51 => .code Try.f51 (Try.f51.body.getD .skip) ⟨fun _ => none, fun _ _ => []⟩
  | 52 => .code Try.f52 (Try.f52.body.getD .skip) ⟨fun i => match i with | 2 => some [0, 7] | 5 => some [0, 3, 7, 10] | _ => none, fun _ _ => []⟩
  | 53 => .code Try.f53 (Try.f53.body.getD .skip) ⟨fun _ => none, fun _ _ => []⟩
  | 54 => .code Try.f54 (Try.f54.body.getD .skip) ⟨fun _ => none, fun _ _ => []⟩
  | 55 => .code Try.f55 (Try.f55.body.getD .skip) ⟨fun i => match i with | 3 => some [4, 5, 17, 18, 19] | _ => none, fun _ _ => []⟩
  | 56 => .code Try.f56 (Try.f56.body.getD .skip) ⟨fun i => match i with | 3 => some [3, 6, 7] | _ => none, fun _ _ => []⟩
  | 57 => .code Try.f57 (Try.f57.body.getD .skip) ⟨fun i => match i with | 2 => some [0, 1, 7, 8] | _ => none, fun _ _ => []⟩
  | 58 => .code Try.f58 (Try.f58.body.getD .skip) ⟨fun _ => none, fun _ _ => []⟩
  | 59 => .code Try.f59 (Try.f59.body.getD .skip) ⟨fun _ => none, fun _ _ => []⟩
  | 60 => .code Try.f60 (Try.f60.body.getD .skip) ⟨fun _ => none, fun _ _ => []⟩
  | 61 => .code Try.f61 (Try.f61.body.getD .skip) ⟨fun _ => none, fun _ _ => []⟩
  | 62 => .code Try.f62 (Try.f62.body.getD .skip) ⟨fun i => match i with | 2 => some [7, 8] | 5 => some [7, 8, 11, 12] | _ => none, fun _ _ => []⟩
  | 63 => .code Try.f63 (Try.f63.body.getD .skip) ⟨fun _ => none, fun i j => match i, j with | 7, 6 => [4] | _, _ => []⟩
  | 64 => .code Try.f64 (Try.f64.body.getD .skip) ⟨fun _ => none, fun _ _ => []⟩
  | 65 => .code Try.f65 (Try.f65.body.getD .skip) ⟨fun _ => none, fun _ _ => []⟩
  | 66 => .code Try.f66 (Try.f66.body.getD .skip) ⟨fun _ => none, fun _ _ => []⟩
  | 67 => .code Try.f67 (Try.f67.body.getD .skip) ⟨fun _ => none, fun i j => match i, j with | 1, 4 => [2] | _, _ => []⟩
  | 68 => .code Try.f68 (Try.f68.body.getD .skip) ⟨fun _ => none, fun _ _ => []⟩
  | 69 => .code Try.f69 (Try.f69.body.getD .skip) ⟨fun i => match i with | 2 => some [0, 1, 11, 12, 13] | _ => none, fun _ _ => []⟩
  | 70 => .code Try.f70 (Try.f70.body.getD .skip) ⟨fun _ => none, fun _ _ => []⟩
  | 71 => .code Try.f71 (Try.f71.body.getD .skip) ⟨fun _ => none, fun _ _ => []⟩
  | 72 => .code Try.f72 (Try.f72.body.getD .skip) ⟨fun _ => none, fun _ _ => []⟩
  | 73 => .code Try.f73 (Try.f73.body.getD .skip) ⟨fun _ => none, fun _ _ => []⟩
  | 74 => .code Try.f74 (Try.f74.body.getD .skip) ⟨fun _ => none, fun _ _ => []⟩
  | 75 => .code Try.f75 (Try.f75.body.getD .skip) ⟨fun i => match i with | 5 => some [0, 3, 12, 13, 14] | _ => none, fun _ _ => []⟩
  | 76 => .code Try.f76 (Try.f76.body.getD .skip) ⟨fun _ => none, fun _ _ => []⟩
  | 77 => .code Try.f77 (Try.f77.body.getD .skip) ⟨fun _ => none, fun i j => match i, j with | 1, 8 => [3] | _, _ => []⟩
  | 78 => .code Try.f78 (Try.f78.body.getD .skip) ⟨fun _ => none, fun _ _ => []⟩
  | 79 => .code Try.f79 (Try.f79.body.getD .skip) ⟨fun _ => none, fun _ _ => []⟩
  | 80 => .code Try.f80 (Try.f80.body.getD .skip) ⟨fun _ => none, fun _ _ => []⟩
  | 81 => .code Try.f81 (Try.f81.body.getD .skip) ⟨fun i => match i with | 2 => some [0, 1] | _ => none, fun _ _ => []⟩
  | 82 => .code Try.f82 (Try.f82.body.getD .skip) ⟨fun _ => none, fun _ _ => []⟩
  | 83 => .code Try.f83 (Try.f83.body.getD .skip) ⟨fun i => match i with | 4 => some [0, 1, 12, 13] | _ => none, fun _ _ => []⟩
  | 84 => .code Try.f84 (Try.f84.body.getD .skip) ⟨fun _ => none, fun _ _ => []⟩
  | 85 => .code Try.f85 (Try.f85.body.getD .skip) ⟨fun _ => none, fun _ _ => []⟩
  | 86 => .code Try.f86 (Try.f86.body.getD .skip) ⟨fun _ => none, fun _ _ => []⟩
  | 87 => .code Try.f87 (Try.f87.body.getD .skip) ⟨fun _ => none, fun _ _ => []⟩
  | 88 => .code Try.f88 (Try.f88.body.getD .skip) ⟨fun _ => none, fun _ _ => []⟩
  | 89 => .code Try.f89 (Try.f89.body.getD .skip) ⟨fun i => match i with | 3 => some [0, 3, 9, 10, 11] | 11 => some [6, 25, 26, 27] | _ => none, fun _ _ => []⟩
  | 90 => .code Try.f90 (Try.f90.body.getD .skip) ⟨fun i => match i with | 3 => some [3, 6, 7, 8] | _ => none, fun _ _ => []⟩
  | 91 => .code Try.f91 (Try.f91.body.getD .skip) ⟨fun _ => none, fun _ _ => []⟩
  | 92 => .code Try.f92 (Try.f92.body.getD .skip) ⟨fun _ => none, fun _ _ => []⟩
  | _ => .no
end Go.AM.Bp
