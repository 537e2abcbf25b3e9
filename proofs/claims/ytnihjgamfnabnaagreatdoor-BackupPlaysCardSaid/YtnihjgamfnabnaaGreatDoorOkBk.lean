import Derived.Test.YtnihjgamfnabnaaGreatDoorAm13g
import Derived.Test.YtnihjgamfnabnaaGreatDoorEnvBk
set_option linter.unusedVariables false
set_option linter.unusedSimpArgs false
set_option linter.unusedSectionVars false
namespace Go.AM.Bk
open Go.Proofs
theorem d3 : DefOK Tryz.prog 3 Tryz.f3 (Tryz.f3.body.getD .skip) ⟨fun i => match i with | 5 => some [0, 3, 4, 29, 30] | _ => none, fun i j => match i, j with | 20, 12 => [8] | _, _ => []⟩ := ⟨Tryz.func3, by kernel_rfl, by decide, of_decide_eq_true (by kernel_rfl), by kernel_rfl⟩
theorem d4 : DefOK Tryz.prog 4 Tryz.f4 (Tryz.f4.body.getD .skip) ⟨fun i => match i with | 10 => some [1, 7, 51, 52] | 23 => some [1, 7, 10, 13, 51, 52] | 34 => some [7, 14, 16, 18, 128] | _ => none, fun i j => match i, j with | 40, 16 => [15] | _, _ => []⟩ := ⟨Tryz.func4, by kernel_rfl, by decide, of_decide_eq_true (by kernel_rfl), by kernel_rfl⟩
theorem d5 : DefOK Tryz.prog 5 Tryz.f5 (Tryz.f5.body.getD .skip) ⟨fun _ => none, fun _ _ => []⟩ := ⟨Tryz.func5, by kernel_rfl, by decide, of_decide_eq_true (by kernel_rfl), by kernel_rfl⟩
theorem d6 : DefOK Tryz.prog 6 Tryz.f6 (Tryz.f6.body.getD .skip) ⟨fun i => match i with | 12 => some [1, 5, 7, 10, 12, 87, 88] | 29 => some [1, 5, 7, 10, 12, 15, 16, 25, 87, 88] | _ => none, fun i j => match i, j with | 35, 6 => [3] | 37, 9 => [5, 6] | 37, 11 => [5, 6] | 39, 9 => [5, 6] | 39, 11 => [5, 6] | 43, 19 => [15] | 43, 22 => [15] | _, _ => []⟩ := ⟨Tryz.func6, by kernel_rfl, by decide, of_decide_eq_true (by kernel_rfl), by kernel_rfl⟩
theorem d7 : DefOK Tryz.prog 7 Tryz.f7 (Tryz.f7.body.getD .skip) ⟨fun _ => none, fun _ _ => []⟩ := ⟨Tryz.func7, by kernel_rfl, by decide, of_decide_eq_true (by kernel_rfl), by kernel_rfl⟩
theorem d8 : DefOK Tryz.prog 8 Tryz.f8 (Tryz.f8.body.getD .skip) ⟨fun _ => none, fun _ _ => []⟩ := ⟨Tryz.func8, by kernel_rfl, by decide, of_decide_eq_true (by kernel_rfl), by kernel_rfl⟩
theorem d9 : DefOK Tryz.prog 9 Tryz.f9 (Tryz.f9.body.getD .skip) ⟨fun i => match i with | 3 => some [0, 3, 4] | _ => none, fun i j => match i, j with | 5, 5 => [4] | 5, 7 => [4] | _, _ => []⟩ := ⟨Tryz.func9, by kernel_rfl, by decide, of_decide_eq_true (by kernel_rfl), by kernel_rfl⟩
theorem d10 : DefOK Tryz.prog 10 Tryz.f10 (Tryz.f10.body.getD .skip) ⟨fun _ => none, fun i j => match i, j with | 7, 6 => [4] | _, _ => []⟩ := ⟨Tryz.func10, by kernel_rfl, by decide, of_decide_eq_true (by kernel_rfl), by kernel_rfl⟩
theorem d11 : DefOK Tryz.prog 11 Tryz.f11 (Tryz.f11.body.getD .skip) ⟨fun _ => none, fun _ _ => []⟩ := ⟨Tryz.func11, by kernel_rfl, by decide, of_decide_eq_true (by kernel_rfl), by kernel_rfl⟩
theorem d12 : DefOK Tryz.prog 12 Tryz.f12 (Tryz.f12.body.getD .skip) ⟨fun i => match i with | 3 => some [4, 9, 10, 11] | _ => none, fun _ _ => []⟩ := ⟨Tryz.func12, by kernel_rfl, by decide, of_decide_eq_true (by kernel_rfl), by kernel_rfl⟩
theorem d13 : DefOK Tryz.prog 13 Tryz.f13 (Tryz.f13.body.getD .skip) ⟨fun i => match i with | 6 => some [8, 24] | _ => none, fun _ _ => []⟩ := ⟨Tryz.func13, by kernel_rfl, by decide, of_decide_eq_true (by kernel_rfl), by kernel_rfl⟩
theorem d14 : DefOK Tryz.prog 14 Tryz.f14 (Tryz.f14.body.getD .skip) ⟨fun i => match i with | 15 => some [0, 12, 80, 81] | _ => none, fun _ _ => []⟩ := ⟨Tryz.func14, by kernel_rfl, by decide, of_decide_eq_true (by kernel_rfl), by kernel_rfl⟩
theorem d15 : DefOK Tryz.prog 15 Tryz.f15 (Tryz.f15.body.getD .skip) ⟨fun _ => none, fun _ _ => []⟩ := ⟨Tryz.func15, by kernel_rfl, by decide, of_decide_eq_true (by kernel_rfl), by kernel_rfl⟩
theorem d16 : DefOK Tryz.prog 16 Tryz.f16 (Tryz.f16.body.getD .skip) ⟨fun _ => none, fun i j => match i, j with | 3, 8 => [4] | _, _ => []⟩ := ⟨Tryz.func16, by kernel_rfl, by decide, of_decide_eq_true (by kernel_rfl), by kernel_rfl⟩
theorem d17 : DefOK Tryz.prog 17 Tryz.f17 (Tryz.f17.body.getD .skip) ⟨fun i => match i with | 4 => some [0, 1, 12, 13] | _ => none, fun _ _ => []⟩ := ⟨Tryz.func17, by kernel_rfl, by decide, of_decide_eq_true (by kernel_rfl), by kernel_rfl⟩
theorem d18 : DefOK Tryz.prog 18 Tryz.f18 (Tryz.f18.body.getD .skip) ⟨fun i => match i with | 3 => some [1, 3, 6] | 6 => some [1, 3, 4, 6, 9] | _ => none, fun _ _ => []⟩ := ⟨Tryz.func18, by kernel_rfl, by decide, of_decide_eq_true (by kernel_rfl), by kernel_rfl⟩
theorem d19 : DefOK Tryz.prog 19 Tryz.f19 (Tryz.f19.body.getD .skip) ⟨fun i => match i with | 5 => some [0, 3, 13, 14] | 8 => some [0, 3, 13, 14, 18, 19, 20] | _ => none, fun _ _ => []⟩ := ⟨Tryz.func19, by kernel_rfl, by decide, of_decide_eq_true (by kernel_rfl), by kernel_rfl⟩
theorem d20 : DefOK Tryz.prog 20 Tryz.f20 (Tryz.f20.body.getD .skip) ⟨fun i => match i with | 4 => some [0, 8, 9] | _ => none, fun _ _ => []⟩ := ⟨Tryz.func20, by kernel_rfl, by decide, of_decide_eq_true (by kernel_rfl), by kernel_rfl⟩
theorem d21 : DefOK Tryz.prog 21 Tryz.f21 (Tryz.f21.body.getD .skip) ⟨fun _ => none, fun _ _ => []⟩ := ⟨Tryz.func21, by kernel_rfl, by decide, of_decide_eq_true (by kernel_rfl), by kernel_rfl⟩
theorem d22 : DefOK Tryz.prog 22 Tryz.f22 (Tryz.f22.body.getD .skip) ⟨fun i => match i with | 10 => some [0, 4, 5, 42, 43, 44] | 14 => some [0, 4, 5, 7, 42, 43, 44, 59, 60, 61] | _ => none, fun _ _ => []⟩ := ⟨Tryz.func22, by kernel_rfl, by decide, of_decide_eq_true (by kernel_rfl), by kernel_rfl⟩
theorem d23 : DefOK Tryz.prog 23 Tryz.f23 (Tryz.f23.body.getD .skip) ⟨fun _ => none, fun _ _ => []⟩ := ⟨Tryz.func23, by kernel_rfl, by decide, of_decide_eq_true (by kernel_rfl), by kernel_rfl⟩
theorem d24 : DefOK Tryz.prog 24 Tryz.f24 (Tryz.f24.body.getD .skip) ⟨fun _ => none, fun _ _ => []⟩ := ⟨Tryz.func24, by kernel_rfl, by decide, of_decide_eq_true (by kernel_rfl), by kernel_rfl⟩
theorem d25 : DefOK Tryz.prog 25 Tryz.f25 (Tryz.f25.body.getD .skip) ⟨fun i => match i with | 3 => some [0] | 7 => some [3, 18, 19] | _ => none, fun _ _ => []⟩ := ⟨Tryz.func25, by kernel_rfl, by decide, of_decide_eq_true (by kernel_rfl), by kernel_rfl⟩
theorem d26 : DefOK Tryz.prog 26 Tryz.f26 (Tryz.f26.body.getD .skip) ⟨fun i => match i with | 5 => some [2, 3, 12, 13] | _ => none, fun _ _ => []⟩ := ⟨Tryz.func26, by kernel_rfl, by decide, of_decide_eq_true (by kernel_rfl), by kernel_rfl⟩
theorem d27 : DefOK Tryz.prog 27 Tryz.f27 (Tryz.f27.body.getD .skip) ⟨fun _ => none, fun _ _ => []⟩ := ⟨Tryz.func27, by kernel_rfl, by decide, of_decide_eq_true (by kernel_rfl), by kernel_rfl⟩
theorem d28 : DefOK Tryz.prog 28 Tryz.f28 (Tryz.f28.body.getD .skip) ⟨fun i => match i with | 3 => some [0, 5, 10, 11] | _ => none, fun _ _ => []⟩ := ⟨Tryz.func28, by kernel_rfl, by decide, of_decide_eq_true (by kernel_rfl), by kernel_rfl⟩
theorem d29 : DefOK Tryz.prog 29 Tryz.f29 (Tryz.f29.body.getD .skip) ⟨fun i => match i with | 6 => some [8, 23] | _ => none, fun _ _ => []⟩ := ⟨Tryz.func29, by kernel_rfl, by decide, of_decide_eq_true (by kernel_rfl), by kernel_rfl⟩
theorem d30 : DefOK Tryz.prog 30 Tryz.f30 (Tryz.f30.body.getD .skip) ⟨fun _ => none, fun _ _ => []⟩ := ⟨Tryz.func30, by kernel_rfl, by decide, of_decide_eq_true (by kernel_rfl), by kernel_rfl⟩
theorem d31 : DefOK Tryz.prog 31 Tryz.f31 (Tryz.f31.body.getD .skip) ⟨fun _ => none, fun _ _ => []⟩ := ⟨Tryz.func31, by kernel_rfl, by decide, of_decide_eq_true (by kernel_rfl), by kernel_rfl⟩
theorem d32 : DefOK Tryz.prog 32 Tryz.f32 (Tryz.f32.body.getD .skip) ⟨fun i => match i with | 10 => some [0, 4, 5, 41, 42] | _ => none, fun i j => match i, j with | 13, 15 => [4, 8, 12] | _, _ => []⟩ := ⟨Tryz.func32, by kernel_rfl, by decide, of_decide_eq_true (by kernel_rfl), by kernel_rfl⟩
theorem d33 : DefOK Tryz.prog 33 Tryz.f33 (Tryz.f33.body.getD .skip) ⟨fun _ => none, fun _ _ => []⟩ := ⟨Tryz.func33, by kernel_rfl, by decide, of_decide_eq_true (by kernel_rfl), by kernel_rfl⟩
theorem d34 : DefOK Tryz.prog 34 Tryz.f34 (Tryz.f34.body.getD .skip) ⟨fun _ => none, fun _ _ => []⟩ := ⟨Tryz.func34, by kernel_rfl, by decide, of_decide_eq_true (by kernel_rfl), by kernel_rfl⟩
theorem d35 : DefOK Tryz.prog 35 Tryz.f35 (Tryz.f35.body.getD .skip) ⟨fun _ => none, fun _ _ => []⟩ := ⟨Tryz.func35, by kernel_rfl, by decide, of_decide_eq_true (by kernel_rfl), by kernel_rfl⟩
theorem d36 : DefOK Tryz.prog 36 Tryz.f36 (Tryz.f36.body.getD .skip) ⟨fun _ => none, fun _ _ => []⟩ := ⟨Tryz.func36, by kernel_rfl, by decide, of_decide_eq_true (by kernel_rfl), by kernel_rfl⟩
theorem d37 : DefOK Tryz.prog 37 Tryz.f37 (Tryz.f37.body.getD .skip) ⟨fun _ => none, fun _ _ => []⟩ := ⟨Tryz.func37, by kernel_rfl, by decide, of_decide_eq_true (by kernel_rfl), by kernel_rfl⟩
theorem d38 : DefOK Tryz.prog 38 Tryz.f38 (Tryz.f38.body.getD .skip) ⟨fun i => match i with | 1 => some [0] | 5 => some [0, 3, 12] | _ => none, fun _ _ => []⟩ := ⟨Tryz.func38, by kernel_rfl, by decide, of_decide_eq_true (by kernel_rfl), by kernel_rfl⟩
theorem d39 : DefOK Tryz.prog 39 Tryz.f39 (Tryz.f39.body.getD .skip) ⟨fun i => match i with | 3 => some [0, 2, 3, 5] | _ => none, fun _ _ => []⟩ := ⟨Tryz.func39, by kernel_rfl, by decide, of_decide_eq_true (by kernel_rfl), by kernel_rfl⟩
theorem d40 : DefOK Tryz.prog 40 Tryz.f40 (Tryz.f40.body.getD .skip) ⟨fun i => match i with | 3 => some [0, 3, 7] | 7 => some [0, 3, 5, 7, 18, 19] | _ => none, fun _ _ => []⟩ := ⟨Tryz.func40, by kernel_rfl, by decide, of_decide_eq_true (by kernel_rfl), by kernel_rfl⟩
theorem d41 : DefOK Tryz.prog 41 Tryz.f41 (Tryz.f41.body.getD .skip) ⟨fun _ => none, fun _ _ => []⟩ := ⟨Tryz.func41, by kernel_rfl, by decide, of_decide_eq_true (by kernel_rfl), by kernel_rfl⟩
theorem d42 : DefOK Tryz.prog 42 Tryz.f42 (Tryz.f42.body.getD .skip) ⟨fun _ => none, fun _ _ => []⟩ := ⟨Tryz.func42, by kernel_rfl, by decide, of_decide_eq_true (by kernel_rfl), by kernel_rfl⟩
theorem d43 : DefOK Tryz.prog 43 Tryz.f43 (Tryz.f43.body.getD .skip) ⟨fun _ => none, fun _ _ => []⟩ := ⟨Tryz.func43, by kernel_rfl, by decide, of_decide_eq_true (by kernel_rfl), by kernel_rfl⟩
theorem d44 : DefOK Tryz.prog 44 Tryz.f44 (Tryz.f44.body.getD .skip) ⟨fun _ => none, fun _ _ => []⟩ := ⟨Tryz.func44, by kernel_rfl, by decide, of_decide_eq_true (by kernel_rfl), by kernel_rfl⟩
theorem d45 : DefOK Tryz.prog 45 Tryz.f45 (Tryz.f45.body.getD .skip) ⟨fun i => match i with | 6 => some [0, 4, 5, 18] | _ => none, fun _ _ => []⟩ := ⟨Tryz.func45, by kernel_rfl, by decide, of_decide_eq_true (by kernel_rfl), by kernel_rfl⟩
theorem d46 : DefOK Tryz.prog 46 Tryz.f46 (Tryz.f46.body.getD .skip) ⟨fun _ => none, fun _ _ => []⟩ := ⟨Tryz.func46, by kernel_rfl, by decide, of_decide_eq_true (by kernel_rfl), by kernel_rfl⟩
theorem d47 : DefOK Tryz.prog 47 Tryz.f47 (Tryz.f47.body.getD .skip) ⟨fun _ => none, fun _ _ => []⟩ := ⟨Tryz.func47, by kernel_rfl, by decide, of_decide_eq_true (by kernel_rfl), by kernel_rfl⟩
theorem d48 : DefOK Tryz.prog 48 Tryz.f48 (Tryz.f48.body.getD .skip) ⟨fun i => match i with | 5 => some [0, 1, 6, 30, 31] | _ => none, fun _ _ => []⟩ := ⟨Tryz.func48, by kernel_rfl, by decide, of_decide_eq_true (by kernel_rfl), by kernel_rfl⟩
theorem d49 : DefOK Tryz.prog 49 Tryz.f49 (Tryz.f49.body.getD .skip) ⟨fun _ => none, fun _ _ => []⟩ := ⟨Tryz.func49, by kernel_rfl, by decide, of_decide_eq_true (by kernel_rfl), by kernel_rfl⟩
theorem d50 : DefOK Tryz.prog 50 Tryz.f50 (Tryz.f50.body.getD .skip) ⟨fun _ => none, fun _ _ => []⟩ := ⟨Tryz.func50, by kernel_rfl, by decide, of_decide_eq_true (by kernel_rfl), by kernel_rfl⟩
theorem d51 : DefOK Tryz.prog 51 Tryz.f51 (Tryz.f51.body.getD .skip) ⟨fun i => match i with | 5 => some [0, 3, 4, 5] | _ => none, fun _ _ => []⟩ := ⟨Tryz.func51, by kernel_rfl, by decide, of_decide_eq_true (by kernel_rfl), by kernel_rfl⟩
theorem d52 : DefOK Tryz.prog 52 Tryz.f52 (Tryz.f52.body.getD .skip) ⟨fun _ => none, fun _ _ => []⟩ := ⟨Tryz.func52, by kernel_rfl, by decide, of_decide_eq_true (by kernel_rfl), by kernel_rfl⟩
theorem d53 : DefOK Tryz.prog 53 Tryz.f53 (Tryz.f53.body.getD .skip) ⟨fun _ => none, fun _ _ => []⟩ := ⟨Tryz.func53, by kernel_rfl, by decide, of_decide_eq_true (by kernel_rfl), by kernel_rfl⟩
theorem d54 : DefOK Tryz.prog 54 Tryz.f54 (Tryz.f54.body.getD .skip) ⟨fun i => match i with | 2 => some [1, 9, 10, 11] | _ => none, fun _ _ => []⟩ := ⟨Tryz.func54, by kernel_rfl, by decide, of_decide_eq_true (by kernel_rfl), by kernel_rfl⟩
theorem d55 : DefOK Tryz.prog 55 Tryz.f55 (Tryz.f55.body.getD .skip) ⟨fun _ => none, fun _ _ => []⟩ := ⟨Tryz.func55, by kernel_rfl, by decide, of_decide_eq_true (by kernel_rfl), by kernel_rfl⟩
theorem d56 : DefOK Tryz.prog 56 Tryz.f56 (Tryz.f56.body.getD .skip) ⟨fun _ => none, fun _ _ => []⟩ := ⟨Tryz.func56, by kernel_rfl, by decide, of_decide_eq_true (by kernel_rfl), by kernel_rfl⟩
theorem d57 : DefOK Tryz.prog 57 Tryz.f57 (Tryz.f57.body.getD .skip) ⟨fun i => match i with | 3 => some [3, 7, 8, 9] | _ => none, fun _ _ => []⟩ := ⟨Tryz.func57, by kernel_rfl, by decide, of_decide_eq_true (by kernel_rfl), by kernel_rfl⟩
theorem d58 : DefOK Tryz.prog 58 Tryz.f58 (Tryz.f58.body.getD .skip) ⟨fun i => match i with | 3 => some [0, 1, 5, 16, 17, 18] | _ => none, fun _ _ => []⟩ := ⟨Tryz.func58, by kernel_rfl, by decide, of_decide_eq_true (by kernel_rfl), by kernel_rfl⟩
theorem d59 : DefOK Tryz.prog 59 Tryz.f59 (Tryz.f59.body.getD .skip) ⟨fun _ => none, fun i j => match i, j with | 4, 6 => [4] | _, _ => []⟩ := ⟨Tryz.func59, by kernel_rfl, by decide, of_decide_eq_true (by kernel_rfl), by kernel_rfl⟩
theorem d60 : DefOK Tryz.prog 60 Tryz.f60 (Tryz.f60.body.getD .skip) ⟨fun _ => none, fun _ _ => []⟩ := ⟨Tryz.func60, by kernel_rfl, by decide, of_decide_eq_true (by kernel_rfl), by kernel_rfl⟩
theorem d61 : DefOK Tryz.prog 61 Tryz.f61 (Tryz.f61.body.getD .skip) ⟨fun i => match i with | 4 => some [0, 1, 5] | _ => none, fun _ _ => []⟩ := ⟨Tryz.func61, by kernel_rfl, by decide, of_decide_eq_true (by kernel_rfl), by kernel_rfl⟩
theorem d62 : DefOK Tryz.prog 62 Tryz.f62 (Tryz.f62.body.getD .skip) ⟨fun _ => none, fun _ _ => []⟩ := ⟨Tryz.func62, by kernel_rfl, by decide, of_decide_eq_true (by kernel_rfl), by kernel_rfl⟩
theorem d63 : DefOK Tryz.prog 63 Tryz.f63 (Tryz.f63.body.getD .skip) ⟨fun _ => none, fun _ _ => []⟩ := ⟨Tryz.func63, by kernel_rfl, by decide, of_decide_eq_true (by kernel_rfl), by kernel_rfl⟩
theorem d64 : DefOK Tryz.prog 64 Tryz.f64 (Tryz.f64.body.getD .skip) ⟨fun _ => none, fun i j => match i, j with | 12, 8 => [3] | 12, 14 => [8] | 12, 24 => [8] | 12, 25 => [3] | 16, 14 => [3, 8] | _, _ => []⟩ := ⟨Tryz.func64, by kernel_rfl, by decide, of_decide_eq_true (by kernel_rfl), by kernel_rfl⟩
theorem d65 : DefOK Tryz.prog 65 Tryz.f65 (Tryz.f65.body.getD .skip) ⟨fun i => match i with | 2 => some [0, 2, 17, 18, 19] | _ => none, fun _ _ => []⟩ := ⟨Tryz.func65, by kernel_rfl, by decide, of_decide_eq_true (by kernel_rfl), by kernel_rfl⟩
theorem d66 : DefOK Tryz.prog 66 Tryz.f66 (Tryz.f66.body.getD .skip) ⟨fun _ => none, fun _ _ => []⟩ := ⟨Tryz.func66, by kernel_rfl, by decide, of_decide_eq_true (by kernel_rfl), by kernel_rfl⟩
theorem d67 : DefOK Tryz.prog 67 Tryz.f67 (Tryz.f67.body.getD .skip) ⟨fun _ => none, fun _ _ => []⟩ := ⟨Tryz.func67, by kernel_rfl, by decide, of_decide_eq_true (by kernel_rfl), by kernel_rfl⟩
theorem d68 : DefOK Tryz.prog 68 Tryz.f68 (Tryz.f68.body.getD .skip) ⟨fun _ => none, fun _ _ => []⟩ := ⟨Tryz.func68, by kernel_rfl, by decide, of_decide_eq_true (by kernel_rfl), by kernel_rfl⟩
theorem d69 : DefOK Tryz.prog 69 Tryz.f69 (Tryz.f69.body.getD .skip) ⟨fun _ => none, fun _ _ => []⟩ := ⟨Tryz.func69, by kernel_rfl, by decide, of_decide_eq_true (by kernel_rfl), by kernel_rfl⟩
theorem d71 : DefOK Tryz.prog 71 Tryz.f71 (Tryz.f71.body.getD .skip) ⟨fun _ => none, fun _ _ => []⟩ := ⟨Tryz.func71, by kernel_rfl, by decide, of_decide_eq_true (by kernel_rfl), by kernel_rfl⟩
theorem d72 : DefOK Tryz.prog 72 Tryz.f72 (Tryz.f72.body.getD .skip) ⟨fun _ => none, fun _ _ => []⟩ := ⟨Tryz.func72, by kernel_rfl, by decide, of_decide_eq_true (by kernel_rfl), by kernel_rfl⟩
theorem d73 : DefOK Tryz.prog 73 Tryz.f73 (Tryz.f73.body.getD .skip) ⟨fun _ => none, fun i j => match i, j with | 1, 6 => [4] | 2, 6 => [4] | _, _ => []⟩ := ⟨Tryz.func73, by kernel_rfl, by decide, of_decide_eq_true (by kernel_rfl), by kernel_rfl⟩
theorem d74 : DefOK Tryz.prog 74 Tryz.f74 (Tryz.f74.body.getD .skip) ⟨fun i => match i with | 3 => some [0, 1, 5, 6] | _ => none, fun _ _ => []⟩ := ⟨Tryz.func74, by kernel_rfl, by decide, of_decide_eq_true (by kernel_rfl), by kernel_rfl⟩
theorem d75 : DefOK Tryz.prog 75 Tryz.f75 (Tryz.f75.body.getD .skip) ⟨fun i => match i with | 3 => some [1, 2, 7, 13, 14] | _ => none, fun _ _ => []⟩ := ⟨Tryz.func75, by kernel_rfl, by decide, of_decide_eq_true (by kernel_rfl), by kernel_rfl⟩
theorem d76 : DefOK Tryz.prog 76 Tryz.f76 (Tryz.f76.body.getD .skip) ⟨fun i => match i with | 2 => some [0, 1, 5] | _ => none, fun _ _ => []⟩ := ⟨Tryz.func76, by kernel_rfl, by decide, of_decide_eq_true (by kernel_rfl), by kernel_rfl⟩
theorem d77 : DefOK Tryz.prog 77 Tryz.f77 (Tryz.f77.body.getD .skip) ⟨fun _ => none, fun i j => match i, j with | 3, 15 => [3] | 9, 8 => [3] | _, _ => []⟩ := ⟨Tryz.func77, by kernel_rfl, by decide, of_decide_eq_true (by kernel_rfl), by kernel_rfl⟩
theorem d78 : DefOK Tryz.prog 78 Tryz.f78 (Tryz.f78.body.getD .skip) ⟨fun i => match i with | 2 => some [0, 2, 17, 18] | _ => none, fun _ _ => []⟩ := ⟨Tryz.func78, by kernel_rfl, by decide, of_decide_eq_true (by kernel_rfl), by kernel_rfl⟩
theorem d79 : DefOK Tryz.prog 79 Tryz.f79 (Tryz.f79.body.getD .skip) ⟨fun i => match i with | 1 => some [0, 1, 9, 10] | _ => none, fun _ _ => []⟩ := ⟨Tryz.func79, by kernel_rfl, by decide, of_decide_eq_true (by kernel_rfl), by kernel_rfl⟩
theorem d80 : DefOK Tryz.prog 80 Tryz.f80 (Tryz.f80.body.getD .skip) ⟨fun _ => none, fun i j => match i, j with | 5, 3 => [1] | 9, 8 => [6] | 9, 11 => [6] | 13, 6 => [4] | _, _ => []⟩ := ⟨Tryz.func80, by kernel_rfl, by decide, of_decide_eq_true (by kernel_rfl), by kernel_rfl⟩
theorem d81 : DefOK Tryz.prog 81 Tryz.f81 (Tryz.f81.body.getD .skip) ⟨fun _ => none, fun _ _ => []⟩ := ⟨Tryz.func81, by kernel_rfl, by decide, of_decide_eq_true (by kernel_rfl), by kernel_rfl⟩
theorem d82 : DefOK Tryz.prog 82 Tryz.f82 (Tryz.f82.body.getD .skip) ⟨fun i => match i with | 3 => some [0, 1, 2, 7, 20, 21] | _ => none, fun _ _ => []⟩ := ⟨Tryz.func82, by kernel_rfl, by decide, of_decide_eq_true (by kernel_rfl), by kernel_rfl⟩
theorem d83 : DefOK Tryz.prog 83 Tryz.f83 (Tryz.f83.body.getD .skip) ⟨fun i => match i with | 3 => some [0, 3, 4] | _ => none, fun _ _ => []⟩ := ⟨Tryz.func83, by kernel_rfl, by decide, of_decide_eq_true (by kernel_rfl), by kernel_rfl⟩
theorem d84 : DefOK Tryz.prog 84 Tryz.f84 (Tryz.f84.body.getD .skip) ⟨fun i => match i with | 3 => some [0, 1, 5, 14, 15] | _ => none, fun _ _ => []⟩ := ⟨Tryz.func84, by kernel_rfl, by decide, of_decide_eq_true (by kernel_rfl), by kernel_rfl⟩
theorem d85 : DefOK Tryz.prog 85 Tryz.f85 (Tryz.f85.body.getD .skip) ⟨fun _ => none, fun _ _ => []⟩ := ⟨Tryz.func85, by kernel_rfl, by decide, of_decide_eq_true (by kernel_rfl), by kernel_rfl⟩
theorem d86 : DefOK Tryz.prog 86 Tryz.f86 (Tryz.f86.body.getD .skip) ⟨fun _ => none, fun _ _ => []⟩ := ⟨Tryz.func86, by kernel_rfl, by decide, of_decide_eq_true (by kernel_rfl), by kernel_rfl⟩
theorem d87 : DefOK Tryz.prog 87 Tryz.f87 (Tryz.f87.body.getD .skip) ⟨fun _ => none, fun _ _ => []⟩ := ⟨Tryz.func87, by kernel_rfl, by decide, of_decide_eq_true (by kernel_rfl), by kernel_rfl⟩
theorem d88 : DefOK Tryz.prog 88 Tryz.f88 (Tryz.f88.body.getD .skip) ⟨fun i => match i with | 6 => some [1, 7, 26, 27, 28] | _ => none, fun _ _ => []⟩ := ⟨Tryz.func88, by kernel_rfl, by decide, of_decide_eq_true (by kernel_rfl), by kernel_rfl⟩
theorem d89 : DefOK Tryz.prog 89 Tryz.f89 (Tryz.f89.body.getD .skip) ⟨fun _ => none, fun _ _ => []⟩ := ⟨Tryz.func89, by kernel_rfl, by decide, of_decide_eq_true (by kernel_rfl), by kernel_rfl⟩
theorem d90 : DefOK Tryz.prog 90 Tryz.f90 (Tryz.f90.body.getD .skip) ⟨fun _ => none, fun _ _ => []⟩ := ⟨Tryz.func90, by kernel_rfl, by decide, of_decide_eq_true (by kernel_rfl), by kernel_rfl⟩
theorem d91 : DefOK Tryz.prog 91 Tryz.f91 (Tryz.f91.body.getD .skip) ⟨fun i => match i with | 2 => some [0, 7] | 5 => some [0, 3, 7, 10] | _ => none, fun _ _ => []⟩ := ⟨Tryz.func91, by kernel_rfl, by decide, of_decide_eq_true (by kernel_rfl), by kernel_rfl⟩
theorem d92 : DefOK Tryz.prog 92 Tryz.f92 (Tryz.f92.body.getD .skip) ⟨fun _ => none, fun _ _ => []⟩ := ⟨Tryz.func92, by kernel_rfl, by decide, of_decide_eq_true (by kernel_rfl), by kernel_rfl⟩
theorem d93 : DefOK Tryz.prog 93 Tryz.f93 (Tryz.f93.body.getD .skip) ⟨fun _ => none, fun _ _ => []⟩ := ⟨Tryz.func93, by kernel_rfl, by decide, of_decide_eq_true (by kernel_rfl), by kernel_rfl⟩
theorem d94 : DefOK Tryz.prog 94 Tryz.f94 (Tryz.f94.body.getD .skip) ⟨fun _ => none, fun _ _ => []⟩ := ⟨Tryz.func94, by kernel_rfl, by decide, of_decide_eq_true (by kernel_rfl), by kernel_rfl⟩
theorem d95 : DefOK Tryz.prog 95 Tryz.f95 (Tryz.f95.body.getD .skip) ⟨fun i => match i with | 3 => some [0] | _ => none, fun _ _ => []⟩ := ⟨Tryz.func95, by kernel_rfl, by decide, of_decide_eq_true (by kernel_rfl), by kernel_rfl⟩
theorem d96 : DefOK Tryz.prog 96 Tryz.f96 (Tryz.f96.body.getD .skip) ⟨fun i => match i with | 3 => some [0, 3] | _ => none, fun _ _ => []⟩ := ⟨Tryz.func96, by kernel_rfl, by decide, of_decide_eq_true (by kernel_rfl), by kernel_rfl⟩
theorem d97 : DefOK Tryz.prog 97 Tryz.f97 (Tryz.f97.body.getD .skip) ⟨fun _ => none, fun _ _ => []⟩ := ⟨Tryz.func97, by kernel_rfl, by decide, of_decide_eq_true (by kernel_rfl), by kernel_rfl⟩
theorem d98 : DefOK Tryz.prog 98 Tryz.f98 (Tryz.f98.body.getD .skip) ⟨fun i => match i with | 3 => some [0, 3, 4] | _ => none, fun _ _ => []⟩ := ⟨Tryz.func98, by kernel_rfl, by decide, of_decide_eq_true (by kernel_rfl), by kernel_rfl⟩
theorem d99 : DefOK Tryz.prog 99 Tryz.f99 (Tryz.f99.body.getD .skip) ⟨fun _ => none, fun _ _ => []⟩ := ⟨Tryz.func99, by kernel_rfl, by decide, of_decide_eq_true (by kernel_rfl), by kernel_rfl⟩
theorem d100 : DefOK Tryz.prog 100 Tryz.f100 (Tryz.f100.body.getD .skip) ⟨fun _ => none, fun _ _ => []⟩ := ⟨Tryz.func100, by kernel_rfl, by decide, of_decide_eq_true (by kernel_rfl), by kernel_rfl⟩
theorem d101 : DefOK Tryz.prog 101 Tryz.f101 (Tryz.f101.body.getD .skip) ⟨fun _ => none, fun _ _ => []⟩ := ⟨Tryz.func101, by kernel_rfl, by decide, of_decide_eq_true (by kernel_rfl), by kernel_rfl⟩
theorem d102 : DefOK Tryz.prog 102 Tryz.f102 (Tryz.f102.body.getD .skip) ⟨fun i => match i with | 3 => some [4, 5, 17, 18, 19] | _ => none, fun _ _ => []⟩ := ⟨Tryz.func102, by kernel_rfl, by decide, of_decide_eq_true (by kernel_rfl), by kernel_rfl⟩
theorem d103 : DefOK Tryz.prog 103 Tryz.f103 (Tryz.f103.body.getD .skip) ⟨fun i => match i with | 3 => some [3, 6, 7] | _ => none, fun _ _ => []⟩ := ⟨Tryz.func103, by kernel_rfl, by decide, of_decide_eq_true (by kernel_rfl), by kernel_rfl⟩
theorem d104 : DefOK Tryz.prog 104 Tryz.f104 (Tryz.f104.body.getD .skip) ⟨fun i => match i with | 2 => some [0, 1, 7, 8] | _ => none, fun _ _ => []⟩ := ⟨Tryz.func104, by kernel_rfl, by decide, of_decide_eq_true (by kernel_rfl), by kernel_rfl⟩
theorem d105 : DefOK Tryz.prog 105 Tryz.f105 (Tryz.f105.body.getD .skip) ⟨fun _ => none, fun _ _ => []⟩ := ⟨Tryz.func105, by kernel_rfl, by decide, of_decide_eq_true (by kernel_rfl), by kernel_rfl⟩
theorem d106 : DefOK Tryz.prog 106 Tryz.f106 (Tryz.f106.body.getD .skip) ⟨fun _ => none, fun _ _ => []⟩ := ⟨Tryz.func106, by kernel_rfl, by decide, of_decide_eq_true (by kernel_rfl), by kernel_rfl⟩
theorem d107 : DefOK Tryz.prog 107 Tryz.f107 (Tryz.f107.body.getD .skip) ⟨fun _ => none, fun _ _ => []⟩ := ⟨Tryz.func107, by kernel_rfl, by decide, of_decide_eq_true (by kernel_rfl), by kernel_rfl⟩
theorem d108 : DefOK Tryz.prog 108 Tryz.f108 (Tryz.f108.body.getD .skip) ⟨fun i => match i with | 2 => some [7, 8] | 5 => some [7, 8, 11, 12] | _ => none, fun _ _ => []⟩ := ⟨Tryz.func108, by kernel_rfl, by decide, of_decide_eq_true (by kernel_rfl), by kernel_rfl⟩
theorem d109 : DefOK Tryz.prog 109 Tryz.f109 (Tryz.f109.body.getD .skip) ⟨fun _ => none, fun _ _ => []⟩ := ⟨Tryz.func109, by kernel_rfl, by decide, of_decide_eq_true (by kernel_rfl), by kernel_rfl⟩
theorem d110 : DefOK Tryz.prog 110 Tryz.f110 (Tryz.f110.body.getD .skip) ⟨fun _ => none, fun _ _ => []⟩ := ⟨Tryz.func110, by kernel_rfl, by decide, of_decide_eq_true (by kernel_rfl), by kernel_rfl⟩
theorem d111 : DefOK Tryz.prog 111 Tryz.f111 (Tryz.f111.body.getD .skip) ⟨fun _ => none, fun _ _ => []⟩ := ⟨Tryz.func111, by kernel_rfl, by decide, of_decide_eq_true (by kernel_rfl), by kernel_rfl⟩
theorem d112 : DefOK Tryz.prog 112 Tryz.f112 (Tryz.f112.body.getD .skip) ⟨fun _ => none, fun i j => match i, j with | 1, 4 => [2] | _, _ => []⟩ := ⟨Tryz.func112, by kernel_rfl, by decide, of_decide_eq_true (by kernel_rfl), by kernel_rfl⟩
theorem d113 : DefOK Tryz.prog 113 Tryz.f113 (Tryz.f113.body.getD .skip) ⟨fun _ => none, fun _ _ => []⟩ := ⟨Tryz.func113, by kernel_rfl, by decide, of_decide_eq_true (by kernel_rfl), by kernel_rfl⟩
theorem d114 : DefOK Tryz.prog 114 Tryz.f114 (Tryz.f114.body.getD .skip) ⟨fun i => match i with | 2 => some [0, 1, 11, 12, 13] | _ => none, fun _ _ => []⟩ := ⟨Tryz.func114, by kernel_rfl, by decide, of_decide_eq_true (by kernel_rfl), by kernel_rfl⟩
theorem d115 : DefOK Tryz.prog 115 Tryz.f115 (Tryz.f115.body.getD .skip) ⟨fun _ => none, fun _ _ => []⟩ := ⟨Tryz.func115, by kernel_rfl, by decide, of_decide_eq_true (by kernel_rfl), by kernel_rfl⟩
theorem d120 : DefOK Tryz.prog 120 Tryz.f120 (Tryz.f120.body.getD .skip) ⟨fun _ => none, fun _ _ => []⟩ := ⟨Tryz.func120, by kernel_rfl, by decide, of_decide_eq_true (by kernel_rfl), by kernel_rfl⟩
theorem d121 : DefOK Tryz.prog 121 Tryz.f121 (Tryz.f121.body.getD .skip) ⟨fun i => match i with | 1 => some [0, 7, 8] | _ => none, fun _ _ => []⟩ := ⟨Tryz.func121, by kernel_rfl, by decide, of_decide_eq_true (by kernel_rfl), by kernel_rfl⟩
theorem d122 : DefOK Tryz.prog 122 Tryz.f122 (Tryz.f122.body.getD .skip) ⟨fun _ => none, fun _ _ => []⟩ := ⟨Tryz.func122, by kernel_rfl, by decide, of_decide_eq_true (by kernel_rfl), by kernel_rfl⟩
theorem d123 : DefOK Tryz.prog 123 Tryz.f123 (Tryz.f123.body.getD .skip) ⟨fun _ => none, fun _ _ => []⟩ := ⟨Tryz.func123, by kernel_rfl, by decide, of_decide_eq_true (by kernel_rfl), by kernel_rfl⟩
theorem d124 : DefOK Tryz.prog 124 Tryz.f124 (Tryz.f124.body.getD .skip) ⟨fun _ => none, fun _ _ => []⟩ := ⟨Tryz.func124, by kernel_rfl, by decide, of_decide_eq_true (by kernel_rfl), by kernel_rfl⟩
theorem d125 : DefOK Tryz.prog 125 Tryz.f125 (Tryz.f125.body.getD .skip) ⟨fun _ => none, fun _ _ => []⟩ := ⟨Tryz.func125, by kernel_rfl, by decide, of_decide_eq_true (by kernel_rfl), by kernel_rfl⟩
theorem d126 : DefOK Tryz.prog 126 Tryz.f126 (Tryz.f126.body.getD .skip) ⟨fun i => match i with | 5 => some [0, 3, 12, 13, 14] | _ => none, fun _ _ => []⟩ := ⟨Tryz.func126, by kernel_rfl, by decide, of_decide_eq_true (by kernel_rfl), by kernel_rfl⟩
theorem d127 : DefOK Tryz.prog 127 Tryz.f127 (Tryz.f127.body.getD .skip) ⟨fun _ => none, fun _ _ => []⟩ := ⟨Tryz.func127, by kernel_rfl, by decide, of_decide_eq_true (by kernel_rfl), by kernel_rfl⟩
theorem d128 : DefOK Tryz.prog 128 Tryz.f128 (Tryz.f128.body.getD .skip) ⟨fun _ => none, fun i j => match i, j with | 1, 8 => [3] | _, _ => []⟩ := ⟨Tryz.func128, by kernel_rfl, by decide, of_decide_eq_true (by kernel_rfl), by kernel_rfl⟩
theorem d129 : DefOK Tryz.prog 129 Tryz.f129 (Tryz.f129.body.getD .skip) ⟨fun i => match i with | 3 => some [0, 3, 4] | 7 => some [0, 3, 4, 5] | _ => none, fun _ _ => []⟩ := ⟨Tryz.func129, by kernel_rfl, by decide, of_decide_eq_true (by kernel_rfl), by kernel_rfl⟩
theorem d130 : DefOK Tryz.prog 130 Tryz.f130 (Tryz.f130.body.getD .skip) ⟨fun _ => none, fun _ _ => []⟩ := ⟨Tryz.func130, by kernel_rfl, by decide, of_decide_eq_true (by kernel_rfl), by kernel_rfl⟩
theorem d131 : DefOK Tryz.prog 131 Tryz.f131 (Tryz.f131.body.getD .skip) ⟨fun _ => none, fun _ _ => []⟩ := ⟨Tryz.func131, by kernel_rfl, by decide, of_decide_eq_true (by kernel_rfl), by kernel_rfl⟩
theorem d132 : DefOK Tryz.prog 132 Tryz.f132 (Tryz.f132.body.getD .skip) ⟨fun _ => none, fun _ _ => []⟩ := ⟨Tryz.func132, by kernel_rfl, by decide, of_decide_eq_true (by kernel_rfl), by kernel_rfl⟩
theorem d133 : DefOK Tryz.prog 133 Tryz.f133 (Tryz.f133.body.getD .skip) ⟨fun i => match i with | 2 => some [0, 1] | _ => none, fun _ _ => []⟩ := ⟨Tryz.func133, by kernel_rfl, by decide, of_decide_eq_true (by kernel_rfl), by kernel_rfl⟩
theorem d134 : DefOK Tryz.prog 134 Tryz.f134 (Tryz.f134.body.getD .skip) ⟨fun _ => none, fun _ _ => []⟩ := ⟨Tryz.func134, by kernel_rfl, by decide, of_decide_eq_true (by kernel_rfl), by kernel_rfl⟩
theorem d138 : DefOK Tryz.prog 138 Tryz.f138 (Tryz.f138.body.getD .skip) ⟨fun i => match i with | 4 => some [0, 1, 12, 13] | _ => none, fun _ _ => []⟩ := ⟨Tryz.func138, by kernel_rfl, by decide, of_decide_eq_true (by kernel_rfl), by kernel_rfl⟩
theorem d139 : DefOK Tryz.prog 139 Tryz.f139 (Tryz.f139.body.getD .skip) ⟨fun _ => none, fun _ _ => []⟩ := ⟨Tryz.func139, by kernel_rfl, by decide, of_decide_eq_true (by kernel_rfl), by kernel_rfl⟩
theorem d140 : DefOK Tryz.prog 140 Tryz.f140 (Tryz.f140.body.getD .skip) ⟨fun _ => none, fun _ _ => []⟩ := ⟨Tryz.func140, by kernel_rfl, by decide, of_decide_eq_true (by kernel_rfl), by kernel_rfl⟩
theorem d141 : DefOK Tryz.prog 141 Tryz.f141 (Tryz.f141.body.getD .skip) ⟨fun _ => none, fun _ _ => []⟩ := ⟨Tryz.func141, by kernel_rfl, by decide, of_decide_eq_true (by kernel_rfl), by kernel_rfl⟩
theorem d142 : DefOK Tryz.prog 142 Tryz.f142 (Tryz.f142.body.getD .skip) ⟨fun _ => none, fun _ _ => []⟩ := ⟨Tryz.func142, by kernel_rfl, by decide, of_decide_eq_true (by kernel_rfl), by kernel_rfl⟩
theorem d143 : DefOK Tryz.prog 143 Tryz.f143 (Tryz.f143.body.getD .skip) ⟨fun _ => none, fun _ _ => []⟩ := ⟨Tryz.func143, by kernel_rfl, by decide, of_decide_eq_true (by kernel_rfl), by kernel_rfl⟩
theorem d144 : DefOK Tryz.prog 144 Tryz.f144 (Tryz.f144.body.getD .skip) ⟨fun i => match i with | 3 => some [0, 3, 9, 10, 11] | 11 => some [6, 25, 26, 27] | _ => none, fun _ _ => []⟩ := ⟨Tryz.func144, by kernel_rfl, by decide, of_decide_eq_true (by kernel_rfl), by kernel_rfl⟩
theorem d145 : DefOK Tryz.prog 145 Tryz.f145 (Tryz.f145.body.getD .skip) ⟨fun i => match i with | 3 => some [3, 6, 7, 8] | _ => none, fun _ _ => []⟩ := ⟨Tryz.func145, by kernel_rfl, by decide, of_decide_eq_true (by kernel_rfl), by kernel_rfl⟩
theorem d146 : DefOK Tryz.prog 146 Tryz.f146 (Tryz.f146.body.getD .skip) ⟨fun _ => none, fun _ _ => []⟩ := ⟨Tryz.func146, by kernel_rfl, by decide, of_decide_eq_true (by kernel_rfl), by kernel_rfl⟩
theorem d147 : DefOK Tryz.prog 147 Tryz.f147 (Tryz.f147.body.getD .skip) ⟨fun _ => none, fun _ _ => []⟩ := ⟨Tryz.func147, by kernel_rfl, by decide, of_decide_eq_true (by kernel_rfl), by kernel_rfl⟩
set_option maxHeartbeats 4000000 in
theorem envOK : EnvOK Tryz.prog env := by
  intro f
  by_cases h3 : f = 3
  · subst h3; exact d3
  by_cases h4 : f = 4
  · subst h4; exact d4
  by_cases h5 : f = 5
  · subst h5; exact d5
  by_cases h6 : f = 6
  · subst h6; exact d6
  by_cases h7 : f = 7
  · subst h7; exact d7
  by_cases h8 : f = 8
  · subst h8; exact d8
  by_cases h9 : f = 9
  · subst h9; exact d9
  by_cases h10 : f = 10
  · subst h10; exact d10
  by_cases h11 : f = 11
  · subst h11; exact d11
  by_cases h12 : f = 12
  · subst h12; exact d12
  by_cases h13 : f = 13
  · subst h13; exact d13
  by_cases h14 : f = 14
  · subst h14; exact d14
  by_cases h15 : f = 15
  · subst h15; exact d15
  by_cases h16 : f = 16
  · subst h16; exact d16
  by_cases h17 : f = 17
  · subst h17; exact d17
  by_cases h18 : f = 18
  · subst h18; exact d18
  by_cases h19 : f = 19
  · subst h19; exact d19
  by_cases h20 : f = 20
  · subst h20; exact d20
  by_cases h21 : f = 21
  · subst h21; exact d21
  by_cases h22 : f = 22
  · subst h22; exact d22
  by_cases h23 : f = 23
  · subst h23; exact d23
  by_cases h24 : f = 24
  · subst h24; exact d24
  by_cases h25 : f = 25
  · subst h25; exact d25
  by_cases h26 : f = 26
  · subst h26; exact d26
  by_cases h27 : f = 27
  · subst h27; exact d27
  by_cases h28 : f = 28
  · subst h28; exact d28
  by_cases h29 : f = 29
  · subst h29; exact d29
  by_cases h30 : f = 30
  · subst h30; exact d30
  by_cases h31 : f = 31
  · subst h31; exact d31
  by_cases h32 : f = 32
  · subst h32; exact d32
  by_cases h33 : f = 33
  · subst h33; exact d33
  by_cases h34 : f = 34
  · subst h34; exact d34
  by_cases h35 : f = 35
  · subst h35; exact d35
  by_cases h36 : f = 36
  · subst h36; exact d36
  by_cases h37 : f = 37
  · subst h37; exact d37
  by_cases h38 : f = 38
  · subst h38; exact d38
  by_cases h39 : f = 39
  · subst h39; exact d39
  by_cases h40 : f = 40
  · subst h40; exact d40
  by_cases h41 : f = 41
  · subst h41; exact d41
  by_cases h42 : f = 42
  · subst h42; exact d42
  by_cases h43 : f = 43
  · subst h43; exact d43
  by_cases h44 : f = 44
  · subst h44; exact d44
  by_cases h45 : f = 45
  · subst h45; exact d45
  by_cases h46 : f = 46
  · subst h46; exact d46
  by_cases h47 : f = 47
  · subst h47; exact d47
  by_cases h48 : f = 48
  · subst h48; exact d48
  by_cases h49 : f = 49
  · subst h49; exact d49
  by_cases h50 : f = 50
  · subst h50; exact d50
  by_cases h51 : f = 51
  · subst h51; exact d51
  by_cases h52 : f = 52
  · subst h52; exact d52
  by_cases h53 : f = 53
  · subst h53; exact d53
  by_cases h54 : f = 54
  · subst h54; exact d54
  by_cases h55 : f = 55
  · subst h55; exact d55
  by_cases h56 : f = 56
  · subst h56; exact d56
  by_cases h57 : f = 57
  · subst h57; exact d57
  by_cases h58 : f = 58
  · subst h58; exact d58
  by_cases h59 : f = 59
  · subst h59; exact d59
  by_cases h60 : f = 60
  · subst h60; exact d60
  by_cases h61 : f = 61
  · subst h61; exact d61
  by_cases h62 : f = 62
  · subst h62; exact d62
  by_cases h63 : f = 63
  · subst h63; exact d63
  by_cases h64 : f = 64
  · subst h64; exact d64
  by_cases h65 : f = 65
  · subst h65; exact d65
  by_cases h66 : f = 66
  · subst h66; exact d66
  by_cases h67 : f = 67
  · subst h67; exact d67
  by_cases h68 : f = 68
  · subst h68; exact d68
  by_cases h69 : f = 69
  · subst h69; exact d69
  by_cases h71 : f = 71
  · subst h71; exact d71
  by_cases h72 : f = 72
  · subst h72; exact d72
  by_cases h73 : f = 73
  · subst h73; exact d73
  by_cases h74 : f = 74
  · subst h74; exact d74
  by_cases h75 : f = 75
  · subst h75; exact d75
  by_cases h76 : f = 76
  · subst h76; exact d76
  by_cases h77 : f = 77
  · subst h77; exact d77
  by_cases h78 : f = 78
  · subst h78; exact d78
  by_cases h79 : f = 79
  · subst h79; exact d79
  by_cases h80 : f = 80
  · subst h80; exact d80
  by_cases h81 : f = 81
  · subst h81; exact d81
  by_cases h82 : f = 82
  · subst h82; exact d82
  by_cases h83 : f = 83
  · subst h83; exact d83
  by_cases h84 : f = 84
  · subst h84; exact d84
  by_cases h85 : f = 85
  · subst h85; exact d85
  by_cases h86 : f = 86
  · subst h86; exact d86
  by_cases h87 : f = 87
  · subst h87; exact d87
  by_cases h88 : f = 88
  · subst h88; exact d88
  by_cases h89 : f = 89
  · subst h89; exact d89
  by_cases h90 : f = 90
  · subst h90; exact d90
  by_cases h91 : f = 91
  · subst h91; exact d91
  by_cases h92 : f = 92
  · subst h92; exact d92
  by_cases h93 : f = 93
  · subst h93; exact d93
  by_cases h94 : f = 94
  · subst h94; exact d94
  by_cases h95 : f = 95
  · subst h95; exact d95
  by_cases h96 : f = 96
  · subst h96; exact d96
  by_cases h97 : f = 97
  · subst h97; exact d97
  by_cases h98 : f = 98
  · subst h98; exact d98
  by_cases h99 : f = 99
  · subst h99; exact d99
  by_cases h100 : f = 100
  · subst h100; exact d100
  by_cases h101 : f = 101
  · subst h101; exact d101
  by_cases h102 : f = 102
  · subst h102; exact d102
  by_cases h103 : f = 103
  · subst h103; exact d103
  by_cases h104 : f = 104
  · subst h104; exact d104
  by_cases h105 : f = 105
  · subst h105; exact d105
  by_cases h106 : f = 106
  · subst h106; exact d106
  by_cases h107 : f = 107
  · subst h107; exact d107
  by_cases h108 : f = 108
  · subst h108; exact d108
  by_cases h109 : f = 109
  · subst h109; exact d109
  by_cases h110 : f = 110
  · subst h110; exact d110
  by_cases h111 : f = 111
  · subst h111; exact d111
  by_cases h112 : f = 112
  · subst h112; exact d112
  by_cases h113 : f = 113
  · subst h113; exact d113
  by_cases h114 : f = 114
  · subst h114; exact d114
  by_cases h115 : f = 115
  · subst h115; exact d115
  by_cases h120 : f = 120
  · subst h120; exact d120
  by_cases h121 : f = 121
  · subst h121; exact d121
  by_cases h122 : f = 122
  · subst h122; exact d122
  by_cases h123 : f = 123
  · subst h123; exact d123
  by_cases h124 : f = 124
  · subst h124; exact d124
  by_cases h125 : f = 125
  · subst h125; exact d125
  by_cases h126 : f = 126
  · subst h126; exact d126
  by_cases h127 : f = 127
  · subst h127; exact d127
  by_cases h128 : f = 128
  · subst h128; exact d128
  by_cases h129 : f = 129
  · subst h129; exact d129
  by_cases h130 : f = 130
  · subst h130; exact d130
  by_cases h131 : f = 131
  · subst h131; exact d131
  by_cases h132 : f = 132
  · subst h132; exact d132
  by_cases h133 : f = 133
  · subst h133; exact d133
  by_cases h134 : f = 134
  · subst h134; exact d134
  by_cases h138 : f = 138
  · subst h138; exact d138
  by_cases h139 : f = 139
  · subst h139; exact d139
  by_cases h140 : f = 140
  · subst h140; exact d140
  by_cases h141 : f = 141
  · subst h141; exact d141
  by_cases h142 : f = 142
  · subst h142; exact d142
  by_cases h143 : f = 143
  · subst h143; exact d143
  by_cases h144 : f = 144
  · subst h144; exact d144
  by_cases h145 : f = 145
  · subst h145; exact d145
  by_cases h146 : f = 146
  · subst h146; exact d146
  by_cases h147 : f = 147
  · subst h147; exact d147
  by_cases h70 : f = 70
  · subst h70; exact Go.AM.Td.primAs
  have h : env f = .no := by
    unfold env
    split <;> first | rfl | contradiction
  rw [h]
  trivial
end Go.AM.Bk
