import Derived.Test.YtnihjgamfnabnaaGreatDoorAm0g
import Derived.Test.YtnihjgamfnabnaaGreatDoorUbQ
import Derived.Test.YtnihjgamfnabnaaGreatDoorProg
set_option linter.unusedVariables false
set_option linter.unusedSimpArgs false
set_option linter.unusedSectionVars false
namespace Go.AM.Bk
open Go.Proofs
noncomputable def env : FuncId → Def
  | 3 => .code Tryz.f3 (Tryz.f3.body.getD .skip) ⟨fun i => match i with | 5 => some [0, 3, 4, 29, 30] | _ => none, fun i j => match i, j with | 20, 12 => [8] | _, _ => []⟩
  | 4 => .code Tryz.f4 (Tryz.f4.body.getD .skip) ⟨fun i => match i with | 10 => some [1, 7, 51, 52] | 23 => some [1, 7, 10, 13, 51, 52] | 34 => some [7, 14, 16, 18, 128] | _ => none, fun i j => match i, j with | 40, 16 => [15] | _, _ => []⟩
  | 5 => .code Tryz.f5 (Tryz.f5.body.getD .skip) ⟨fun _ => none, fun _ _ => []⟩
  | 6 => .code Tryz.f6 (Tryz.f6.body.getD .skip) ⟨fun i => match i with | 12 => some [1, 5, 7, 10, 12, 87, 88] | 29 => some [1, 5, 7, 10, 12, 15, 16, 25, 87, 88] | _ => none, fun i j => match i, j with | 35, 6 => [3] | 37, 9 => [5, 6] | 37, 11 => [5, 6] | 39, 9 => [5, 6] | 39, 11 => [5, 6] | 43, 19 => [15] | 43, 22 => [15] | _, _ => []⟩
  | 7 => .code Tryz.f7 (Tryz.f7.body.getD .skip) ⟨fun _ => none, fun _ _ => []⟩
  | 8 => .code Tryz.f8 (Tryz.f8.body.getD .skip) ⟨fun _ => none, fun _ _ => []⟩
  | 9 => .code Tryz.f9 (Tryz.f9.body.getD .skip) ⟨fun i => match i with | 3 => some [0, 3, 4] | _ => none, fun i j => match i, j with | 5, 5 => [4] | 5, 7 => [4] | _, _ => []⟩
  | 10 => .code Tryz.f10 (Tryz.f10.body.getD .skip) ⟨fun _ => none, fun i j => match i, j with | 7, 6 => [4] | _, _ => []⟩
  | 11 => .code Tryz.f11 (Tryz.f11.body.getD .skip) ⟨fun _ => none, fun _ _ => []⟩
  | 12 => .code Tryz.f12 (Tryz.f12.body.getD .skip) ⟨fun i => match i with | 3 => some [4, 9, 10, 11] | _ => none, fun _ _ => []⟩
  | 13 => .code Tryz.f13 (Tryz.f13.body.getD .skip) ⟨fun i => match i with | 6 => some [8, 24] | _ => none, fun _ _ => []⟩
  | 14 => .code Tryz.f14 (Tryz.f14.body.getD .skip) ⟨fun i => match i with | 15 => some [0, 12, 80, 81] | _ => none, fun _ _ => []⟩
  | 15 => .code Tryz.f15 (Tryz.f15.body.getD .skip) ⟨fun _ => none, fun _ _ => []⟩
  | 16 => .code Tryz.f16 (Tryz.f16.body.getD .skip) ⟨fun _ => none, fun i j => match i, j with | 3, 8 => [4] | _, _ => []⟩
  | 17 => .code Tryz.f17 (Tryz.f17.body.getD .skip) ⟨fun i => match i with | 4 => some [0, 1, 12, 13] | _ => none, fun _ _ => []⟩
  | 18 => .code Tryz.f18 (Tryz.f18.body.getD .skip) ⟨fun i => match i with | 3 => some [1, 3, 6] | 6 => some [1, 3, 4, 6, 9] | _ => none, fun _ _ => []⟩
  | 19 => .code Tryz.f19 (Tryz.f19.body.getD .skip) ⟨fun i => match i with | 5 => some [0, 3, 13, 14] | 8 => some [0, 3, 13, 14, 18, 19, 20] | _ => none, fun _ _ => []⟩
  | 20 => .code Tryz.f20 (Tryz.f20.body.getD .skip) ⟨fun i => match i with | 4 => some [0, 8, 9] | _ => none, fun _ _ => []⟩
  | 21 => .code Tryz.f21 (Tryz.f21.body.getD .skip) ⟨fun _ => none, fun _ _ => []⟩
  | 22 => .code Tryz.f22 (Tryz.f22.body.getD .skip) ⟨fun i => match i with | 10 => some [0, 4, 5, 42, 43, 44] | 14 => some [0, 4, 5, 7, 42, 43, 44, 59, 60, 61] | _ => none, fun _ _ => []⟩
  | 23 => .code Tryz.f23 (Tryz.f23.body.getD .skip) ⟨fun _ => none, fun _ _ => []⟩
  | 24 => .code Tryz.f24 (Tryz.f24.body.getD .skip) ⟨fun _ => none, fun _ _ => []⟩
  | 25 => .code Tryz.f25 (Tryz.f25.body.getD .skip) ⟨fun i => match i with | 3 => some [0] | 7 => some [3, 18, 19] | _ => none, fun _ _ => []⟩
  | 26 => .code Tryz.f26 (Tryz.f26.body.getD .skip) ⟨fun i => match i with | 5 => some [2, 3, 12, 13] | _ => none, fun _ _ => []⟩
  | 27 => .code Tryz.f27 (Tryz.f27.body.getD .skip) ⟨fun _ => none, fun _ _ => []⟩
  | 28 => .code Tryz.f28 (Tryz.f28.body.getD .skip) ⟨fun i => match i with | 3 => some [0, 5, 10, 11] | _ => none, fun _ _ => []⟩
  | 29 => .code Tryz.f29 (Tryz.f29.body.getD .skip) ⟨fun i => match i with | 6 => some [8, 23] | _ => none, fun _ _ => []⟩
  | 30 => .code Tryz.f30 (Tryz.f30.body.getD .skip) ⟨fun _ => none, fun _ _ => []⟩
  | 31 => .code Tryz.f31 (Tryz.f31.body.getD .skip) ⟨fun _ => none, fun _ _ => []⟩
  | 32 => .code Tryz.f32 (Tryz.f32.body.getD .skip) ⟨fun i => match i with | 10 => some [0, 4, 5, 41, 42] | _ => none, fun i j => match i, j with | 13, 15 => [4, 8, 12] | _, _ => []⟩
  | 33 => .code Tryz.f33 (Tryz.f33.body.getD .skip) ⟨fun _ => none, fun _ _ => []⟩
  | 34 => .code Tryz.f34 (Tryz.f34.body.getD .skip) ⟨fun _ => none, fun _ _ => []⟩
  | 35 => .code Tryz.f35 (Tryz.f35.body.getD .skip) ⟨fun _ => none, fun _ _ => []⟩
  | 36 => .code Tryz.f36 (Tryz.f36.body.getD .skip) ⟨fun _ => none, fun _ _ => []⟩
  | 37 => .code Tryz.f37 (Tryz.f37.body.getD .skip) ⟨fun _ => none, fun _ _ => []⟩
  | 38 => .code Tryz.f38 (Tryz.f38.body.getD .skip) ⟨fun i => match i with | 1 => some [0] | 5 => some [0, 3, 12] | _ => none, fun _ _ => []⟩
  | 39 => .code Tryz.f39 (Tryz.f39.body.getD .skip) ⟨fun i => match i with | 3 => some [0, 2, 3, 5] | _ => none, fun _ _ => []⟩
  | 40 => .code Tryz.f40 (Tryz.f40.body.getD .skip) ⟨fun i => match i with | 3 => some [0, 3, 7] | 7 => some [0, 3, 5, 7, 18, 19] | _ => none, fun _ _ => []⟩
  | 41 => .code Tryz.f41 (Tryz.f41.body.getD .skip) ⟨fun _ => none, fun _ _ => []⟩
  | 42 => .code Tryz.f42 (Tryz.f42.body.getD .skip) ⟨fun _ => none, fun _ _ => []⟩
  | 43 => .code Tryz.f43 (Tryz.f43.body.getD .skip) ⟨fun _ => none, fun _ _ => []⟩
  | 44 => .code Tryz.f44 (Tryz.f44.body.getD .skip) ⟨fun _ => none, fun _ _ => []⟩
  | 45 => .code Tryz.f45 (Tryz.f45.body.getD .skip) ⟨fun i => match i with | 6 => some [0, 4, 5, 18] | _ => none, fun _ _ => []⟩
  | 46 => .code Tryz.f46 (Tryz.f46.body.getD .skip) ⟨fun _ => none, fun _ _ => []⟩
  | 47 => .code Tryz.f47 (Tryz.f47.body.getD .skip) ⟨fun _ => none, fun _ _ => []⟩
  | 48 => .code Tryz.f48 (Tryz.f48.body.getD .skip) ⟨fun i => match i with | 5 => some [0, 1, 6, 30, 31] | _ => none, fun _ _ => []⟩
  | 49 => .code Tryz.f49 (Tryz.f49.body.getD .skip) ⟨fun _ => none, fun _ _ => []⟩
  | 50 => .code Tryz.f50 (Tryz.f50.body.getD .skip) ⟨fun _ => none, fun _ _ => []⟩
  | 51 => .code Tryz.f51 (Tryz.f51.body.getD .skip) ⟨fun i => match i with | 5 => some [0, 3, 4, 5] | _ => none, fun _ _ => []⟩
  | 52 => .code Tryz.f52 (Tryz.f52.body.getD .skip) ⟨fun _ => none, fun _ _ => []⟩
  | 53 => .code Tryz.f53 (Tryz.f53.body.getD .skip) ⟨fun _ => none, fun _ _ => []⟩
  | 54 => .code Tryz.f54 (Tryz.f54.body.getD .skip) ⟨fun i => match i with | 2 => some [1, 9, 10, 11] | _ => none, fun _ _ => []⟩
  | 55 => .code Tryz.f55 (Tryz.f55.body.getD .skip) ⟨fun _ => none, fun _ _ => []⟩
  | 56 => .code Tryz.f56 (Tryz.f56.body.getD .skip) ⟨fun _ => none, fun _ _ => []⟩
  | 57 => .code Tryz.f57 (Tryz.f57.body.getD .skip) ⟨fun i => match i with | 3 => some [3, 7, 8, 9] | _ => none, fun _ _ => []⟩
  | 58 => .code Tryz.f58 (Tryz.f58.body.getD .skip) ⟨fun i => match i with | 3 => some [0, 1, 5, 16, 17, 18] | _ => none, fun _ _ => []⟩
  | 59 => .code Tryz.f59 (Tryz.f59.body.getD .skip) ⟨fun _ => none, fun i j => match i, j with | 4, 6 => [4] | _, _ => []⟩
  | 60 => .code Tryz.f60 (Tryz.f60.body.getD .skip) ⟨fun _ => none, fun _ _ => []⟩
  | 61 => .code Tryz.f61 (Tryz.f61.body.getD .skip) ⟨fun i => match i with | 4 => some [0, 1, 5] | _ => none, fun _ _ => []⟩
  | 62 => .code Tryz.f62 (Tryz.f62.body.getD .skip) ⟨fun _ => none, fun _ _ => []⟩
  | 63 => .code Tryz.f63 (Tryz.f63.body.getD .skip) ⟨fun _ => none, fun _ _ => []⟩
  | 64 => .code Tryz.f64 (Tryz.f64.body.getD .skip) ⟨fun _ => none, fun i j => match i, j with | 12, 8 => [3] | 12, 14 => [8] | 12, 24 => [8] | 12, 25 => [3] | 16, 14 => [3, 8] | _, _ => []⟩
  | 65 => .code Tryz.f65 (Tryz.f65.body.getD .skip) ⟨fun i => match i with | 2 => some [0, 2, 17, 18, 19] | _ => none, fun _ _ => []⟩
  | 66 => .code Tryz.f66 (Tryz.f66.body.getD .skip) ⟨fun _ => none, fun _ _ => []⟩
  | 67 => .code Tryz.f67 (Tryz.f67.body.getD .skip) ⟨fun _ => none, fun _ _ => []⟩
  | 68 => .code Tryz.f68 (Tryz.f68.body.getD .skip) ⟨fun _ => none, fun _ _ => []⟩
  | 69 => .code Tryz.f69 (Tryz.f69.body.getD .skip) ⟨fun _ => none, fun _ _ => []⟩
  | 71 => .code Tryz.f71 (Tryz.f71.body.getD .skip) ⟨fun _ => none, fun _ _ => []⟩
  | 72 => .code Tryz.f72 (Tryz.f72.body.getD .skip) ⟨fun _ => none, fun _ _ => []⟩
  | 73 => .code Tryz.f73 (Tryz.f73.body.getD .skip) ⟨fun _ => none, fun i j => match i, j with | 1, 6 => [4] | 2, 6 => [4] | _, _ => []⟩
  | 74 => .code Tryz.f74 (Tryz.f74.body.getD .skip) ⟨fun i => match i with | 3 => some [0, 1, 5, 6] | _ => none, fun _ _ => []⟩
  | 75 => .code Tryz.f75 (Tryz.f75.body.getD .skip) ⟨fun i => match i with | 3 => some [1, 2, 7, 13, 14] | _ => none, fun _ _ => []⟩
  | 76 => .code Tryz.f76 (Tryz.f76.body.getD .skip) ⟨fun i => match i with | 2 => some [0, 1, 5] | _ => none, fun _ _ => []⟩
  | 77 => .code Tryz.f77 (Tryz.f77.body.getD .skip) ⟨fun _ => none, fun i j => match i, j with | 3, 15 => [3] | 9, 8 => [3] | _, _ => []⟩
  | 78 => .code Tryz.f78 (Tryz.f78.body.getD .skip) ⟨fun i => match i with | 2 => some [0, 2, 17, 18] | _ => none, fun _ _ => []⟩
  | 79 => .code Tryz.f79 (Tryz.f79.body.getD .skip) ⟨fun i => match i with | 1 => some [0, 1, 9, 10] | _ => none, fun _ _ => []⟩
  | 80 => .code Tryz.f80 (Tryz.f80.body.getD .skip) ⟨fun _ => none, fun i j => match i, j with | 5, 3 => [1] | 9, 8 => [6] | 9, 11 => [6] | 13, 6 => [4] | _, _ => []⟩
  | 81 => .code Tryz.f81 (Tryz.f81.body.getD .skip) ⟨fun _ => none, fun _ _ => []⟩
  | 82 => .code Tryz.f82 (Tryz.f82.body.getD .skip) ⟨fun i => match i with | 3 => some [0, 1, 2, 7, 20, 21] | _ => none, fun _ _ => []⟩
  | 83 => .code Tryz.f83 (Tryz.f83.body.getD .skip) ⟨fun i => match i with | 3 => some [0, 3, 4] | _ => none, fun _ _ => []⟩
  | 84 => .code Tryz.f84 (Tryz.f84.body.getD .skip) ⟨fun i => match i with | 3 => some [0, 1, 5, 14, 15] | _ => none, fun _ _ => []⟩
  | 85 => .code Tryz.f85 (Tryz.f85.body.getD .skip) ⟨fun _ => none, fun _ _ => []⟩
  | 86 => .code Tryz.f86 (Tryz.f86.body.getD .skip) ⟨fun _ => none, fun _ _ => []⟩
  | 87 => .code Tryz.f87 (Tryz.f87.body.getD .skip) ⟨fun _ => none, fun _ _ => []⟩
  | 88 => .code Tryz.f88 (Tryz.f88.body.getD .skip) ⟨fun i => match i with | 6 => some [1, 7, 26, 27, 28] | _ => none, fun _ _ => []⟩
  | 89 => .code Tryz.f89 (Tryz.f89.body.getD .skip) ⟨fun _ => none, fun _ _ => []⟩
  | 90 => .code Tryz.f90 (Tryz.f90.body.getD .skip) ⟨fun _ => none, fun _ _ => []⟩
  | 91 => .code Tryz.f91 (Tryz.f91.body.getD .skip) ⟨fun i => match i with | 2 => some [0, 7] | 5 => some [0, 3, 7, 10] | _ => none, fun _ _ => []⟩
  | 92 => .code Tryz.f92 (Tryz.f92.body.getD .skip) ⟨fun _ => none, fun _ _ => []⟩
  | 93 => .code Tryz.f93 (Tryz.f93.body.getD .skip) ⟨fun _ => none, fun _ _ => []⟩
  | 94 => .code Tryz.f94 (Tryz.f94.body.getD .skip) ⟨fun _ => none, fun _ _ => []⟩
  | 95 => .code Tryz.f95 (Tryz.f95.body.getD .skip) ⟨fun i => match i with | 3 => some [0] | _ => none, fun _ _ => []⟩
  | 96 => .code Tryz.f96 (Tryz.f96.body.getD .skip) ⟨fun i => match i with | 3 => some [0, 3] | _ => none, fun _ _ => []⟩
  | 97 => .code Tryz.f97 (Tryz.f97.body.getD .skip) ⟨fun _ => none, fun _ _ => []⟩
  | 98 => .code Tryz.f98 (Tryz.f98.body.getD .skip) ⟨fun i => match i with | 3 => some [0, 3, 4] | _ => none, fun _ _ => []⟩
  | 99 => .code Tryz.f99 (Tryz.f99.body.getD .skip) ⟨fun _ => none, fun _ _ => []⟩
  | 100 => .code Tryz.f100 (Tryz.f100.body.getD .skip) ⟨fun _ => none, fun _ _ => []⟩
  | 101 => .code Tryz.f101 (Tryz.f101.body.getD .skip) ⟨fun _ => none, fun _ _ => []⟩
  | 102 => .code Tryz.f102 (Tryz.f102.body.getD .skip) ⟨fun i => match i with | 3 => some [4, 5, 17, 18, 19] | _ => none, fun _ _ => []⟩
  | 103 => .code Tryz.f103 (Tryz.f103.body.getD .skip) ⟨fun i => match i with | 3 => some [3, 6, 7] | _ => none, fun _ _ => []⟩
  | 104 => .code Tryz.f104 (Tryz.f104.body.getD .skip) ⟨fun i => match i with | 2 => some [0, 1, 7, 8] | _ => none, fun _ _ => []⟩
  | 105 => .code Tryz.f105 (Tryz.f105.body.getD .skip) ⟨fun _ => none, fun _ _ => []⟩
  | 106 => .code Tryz.f106 (Tryz.f106.body.getD .skip) ⟨fun _ => none, fun _ _ => []⟩
  | 107 => .code Tryz.f107 (Tryz.f107.body.getD .skip) ⟨fun _ => none, fun _ _ => []⟩
  | 108 => .code Tryz.f108 (Tryz.f108.body.getD .skip) ⟨fun i => match i with | 2 => some [7, 8] | 5 => some [7, 8, 11, 12] | _ => none, fun _ _ => []⟩
  | 109 => .code Tryz.f109 (Tryz.f109.body.getD .skip) ⟨fun _ => none, fun _ _ => []⟩
  | 110 => .code Tryz.f110 (Tryz.f110.body.getD .skip) ⟨fun _ => none, fun _ _ => []⟩
  | 111 => .code Tryz.f111 (Tryz.f111.body.getD .skip) ⟨fun _ => none, fun _ _ => []⟩
  | 112 => .code Tryz.f112 (Tryz.f112.body.getD .skip) ⟨fun _ => none, fun i j => match i, j with | 1, 4 => [2] | _, _ => []⟩
  | 113 => .code Tryz.f113 (Tryz.f113.body.getD .skip) ⟨fun _ => none, fun _ _ => []⟩
  | 114 => .code Tryz.f114 (Tryz.f114.body.getD .skip) ⟨fun i => match i with | 2 => some [0, 1, 11, 12, 13] | _ => none, fun _ _ => []⟩
  | 115 => .code Tryz.f115 (Tryz.f115.body.getD .skip) ⟨fun _ => none, fun _ _ => []⟩
  | 120 => .code Tryz.f120 (Tryz.f120.body.getD .skip) ⟨fun _ => none, fun _ _ => []⟩
  | 121 => .code Tryz.f121 (Tryz.f121.body.getD .skip) ⟨fun i => match i with | 1 => some [0, 7, 8] | _ => none, fun _ _ => []⟩
  | 122 => .code Tryz.f122 (Tryz.f122.body.getD .skip) ⟨fun _ => none, fun _ _ => []⟩
  | 123 => .code Tryz.f123 (Tryz.f123.body.getD .skip) ⟨fun _ => none, fun _ _ => []⟩
  | 124 => .code Tryz.f124 (Tryz.f124.body.getD .skip) ⟨fun _ => none, fun _ _ => []⟩
  | 125 => .code Tryz.f125 (Tryz.f125.body.getD .skip) ⟨fun _ => none, fun _ _ => []⟩
  | 126 => .code Tryz.f126 (Tryz.f126.body.getD .skip) ⟨fun i => match i with | 5 => some [0, 3, 12, 13, 14] | _ => none, fun _ _ => []⟩
  | 127 => .code Tryz.f127 (Tryz.f127.body.getD .skip) ⟨fun _ => none, fun _ _ => []⟩
  | 128 => .code Tryz.f128 (Tryz.f128.body.getD .skip) ⟨fun _ => none, fun i j => match i, j with | 1, 8 => [3] | _, _ => []⟩
  | 129 => .code Tryz.f129 (Tryz.f129.body.getD .skip) ⟨fun i => match i with | 3 => some [0, 3, 4] | 7 => some [0, 3, 4, 5] | _ => none, fun _ _ => []⟩
  | 130 => .code Tryz.f130 (Tryz.f130.body.getD .skip) ⟨fun _ => none, fun _ _ => []⟩
  | 131 => .code Tryz.f131 (Tryz.f131.body.getD .skip) ⟨fun _ => none, fun _ _ => []⟩
  | 132 => .code Tryz.f132 (Tryz.f132.body.getD .skip) ⟨fun _ => none, fun _ _ => []⟩
  | 133 => .code Tryz.f133 (Tryz.f133.body.getD .skip) ⟨fun i => match i with | 2 => some [0, 1] | _ => none, fun _ _ => []⟩
  | 134 => .code Tryz.f134 (Tryz.f134.body.getD .skip) ⟨fun _ => none, fun _ _ => []⟩
  | 138 => .code Tryz.f138 (Tryz.f138.body.getD .skip) ⟨fun i => match i with | 4 => some [0, 1, 12, 13] | _ => none, fun _ _ => []⟩
  | 139 => .code Tryz.f139 (Tryz.f139.body.getD .skip) ⟨fun _ => none, fun _ _ => []⟩
  | 140 => .code Tryz.f140 (Tryz.f140.body.getD .skip) ⟨fun _ => none, fun _ _ => []⟩
  | 141 => .code Tryz.f141 (Tryz.f141.body.getD .skip) ⟨fun _ => none, fun _ _ => []⟩
  | 142 => .code Tryz.f142 (Tryz.f142.body.getD .skip) ⟨fun _ => none, fun _ _ => []⟩
  | 143 => .code Tryz.f143 (Tryz.f143.body.getD .skip) ⟨fun _ => none, fun _ _ => []⟩
  | 144 => .code Tryz.f144 (Tryz.f144.body.getD .skip) ⟨fun i => match i with | 3 => some [0, 3, 9, 10, 11] | 11 => some [6, 25, 26, 27] | _ => none, fun _ _ => []⟩
  | 145 => .code Tryz.f145 (Tryz.f145.body.getD .skip) ⟨fun i => match i with | 3 => some [3, 6, 7, 8] | _ => none, fun _ _ => []⟩
  | 146 => .code Tryz.f146 (Tryz.f146.body.getD .skip) ⟨fun _ => none, fun _ _ => []⟩
  | 147 => .code Tryz.f147 (Tryz.f147.body.getD .skip) ⟨fun _ => none, fun _ _ => []⟩
  | 70 => .prim Go.AM.Td.asG
  | _ => .no
end Go.AM.Bk
