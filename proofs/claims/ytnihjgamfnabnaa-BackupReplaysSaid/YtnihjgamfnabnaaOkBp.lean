/-
  THE FUNCTIONS are as the machine takes them (printed).
-/
import Derived.Test.YtnihjgamfnabnaaAm13g
import Derived.Test.YtnihjgamfnabnaaEnvBp
set_option linter.unusedVariables false
set_option linter.unusedSimpArgs false
set_option linter.unusedSectionVars false
namespace Go.AM.Bp
open Go.Proofs
theorem d3 : DefOK Try.prog 3 Try.f3 (Try.f3.body.getD .skip) ⟨fun i => match i with | 12 => some [0, 1, 2, 3, 11, 13, 14, 70, 71] | 21 => some [0, 2, 3, 11, 13, 14, 122, 123] | 27 => some [0, 2, 3, 11, 13, 14, 151, 152] | 34 => some [0, 2, 11, 13, 14, 190, 191] | 37 => some [0, 2, 11, 13, 14, 22, 190, 191, 201, 202] | 47 => some [11, 14, 24, 26, 237] | _ => none, fun i j => match i, j with | 17, 19 => [5] | 24, 16 => [5] | _, _ => []⟩ := ⟨Try.func3, by kernel_rfl, by decide, of_decide_eq_true (by kernel_rfl), by kernel_rfl⟩
theorem d4 : DefOK Try.prog 4 Try.f4 (Try.f4.body.getD .skip) ⟨fun i => match i with | 9 => some [0, 1, 2, 9, 11, 54] | 12 => some [0, 1, 2, 9, 11, 13, 54, 58, 59] | 27 => some [1, 2, 9, 11, 105] | 31 => some [2, 9, 11, 112, 113] | 39 => some [9, 11, 129] | _ => none, fun _ _ => []⟩ := ⟨Try.func4, by kernel_rfl, by decide, of_decide_eq_true (by kernel_rfl), by kernel_rfl⟩
theorem d5 : DefOK Try.prog 5 Try.f5 (Try.f5.body.getD .skip) ⟨fun i => match i with | 12 => some [1, 5, 7, 9, 10, 11, 53, 54] | 28 => some [1, 5, 7, 9, 10, 11, 13, 14, 17, 53, 54] | 46 => some [1, 5, 7, 9, 10, 11, 14, 18, 19, 20, 21, 53, 54, 177, 178] | _ => none, fun i j => match i, j with | 22, 10 => [2, 5, 7] | 22, 11 => [2] | _, _ => []⟩ := ⟨Try.func5, by kernel_rfl, by decide, of_decide_eq_true (by kernel_rfl), by kernel_rfl⟩
theorem d6 : DefOK Try.prog 6 Try.f6 (Try.f6.body.getD .skip) ⟨fun _ => none, fun _ _ => []⟩ := ⟨Try.func6, by kernel_rfl, by decide, of_decide_eq_true (by kernel_rfl), by kernel_rfl⟩
theorem d7 : DefOK Try.prog 7 Try.f7 (Try.f7.body.getD .skip) ⟨fun i => match i with | 3 => some [4, 9, 10, 11] | _ => none, fun _ _ => []⟩ := ⟨Try.func7, by kernel_rfl, by decide, of_decide_eq_true (by kernel_rfl), by kernel_rfl⟩
theorem d8 : DefOK Try.prog 8 Try.f8 (Try.f8.body.getD .skip) ⟨fun i => match i with | 6 => some [8, 24] | _ => none, fun _ _ => []⟩ := ⟨Try.func8, by kernel_rfl, by decide, of_decide_eq_true (by kernel_rfl), by kernel_rfl⟩
theorem d9 : DefOK Try.prog 9 Try.f9 (Try.f9.body.getD .skip) ⟨fun _ => none, fun _ _ => []⟩ := ⟨Try.func9, by kernel_rfl, by decide, of_decide_eq_true (by kernel_rfl), by kernel_rfl⟩
theorem d10 : DefOK Try.prog 10 Try.f10 (Try.f10.body.getD .skip) ⟨fun _ => none, fun _ _ => []⟩ := ⟨Try.func10, by kernel_rfl, by decide, of_decide_eq_true (by kernel_rfl), by kernel_rfl⟩
theorem d11 : DefOK Try.prog 11 Try.f11 (Try.f11.body.getD .skip) ⟨fun i => match i with | 10 => some [0, 4, 5, 42, 43, 44] | 14 => some [0, 4, 5, 7, 42, 43, 44, 59, 60, 61] | _ => none, fun _ _ => []⟩ := ⟨Try.func11, by kernel_rfl, by decide, of_decide_eq_true (by kernel_rfl), by kernel_rfl⟩
theorem d12 : DefOK Try.prog 12 Try.f12 (Try.f12.body.getD .skip) ⟨fun _ => none, fun _ _ => []⟩ := ⟨Try.func12, by kernel_rfl, by decide, of_decide_eq_true (by kernel_rfl), by kernel_rfl⟩
theorem d13 : DefOK Try.prog 13 Try.f13 (Try.f13.body.getD .skip) ⟨fun _ => none, fun i j => match i, j with | 3, 8 => [4] | _, _ => []⟩ := ⟨Try.func13, by kernel_rfl, by decide, of_decide_eq_true (by kernel_rfl), by kernel_rfl⟩
theorem d14 : DefOK Try.prog 14 Try.f14 (Try.f14.body.getD .skip) ⟨fun i => match i with | 4 => some [0, 1, 12, 13] | _ => none, fun _ _ => []⟩ := ⟨Try.func14, by kernel_rfl, by decide, of_decide_eq_true (by kernel_rfl), by kernel_rfl⟩
theorem d15 : DefOK Try.prog 15 Try.f15 (Try.f15.body.getD .skip) ⟨fun i => match i with | 3 => some [1, 3, 6] | 6 => some [1, 3, 4, 6, 9] | _ => none, fun _ _ => []⟩ := ⟨Try.func15, by kernel_rfl, by decide, of_decide_eq_true (by kernel_rfl), by kernel_rfl⟩
theorem d16 : DefOK Try.prog 16 Try.f16 (Try.f16.body.getD .skip) ⟨fun i => match i with | 5 => some [0, 3, 13, 14] | 8 => some [0, 3, 13, 14, 18, 19, 20] | _ => none, fun _ _ => []⟩ := ⟨Try.func16, by kernel_rfl, by decide, of_decide_eq_true (by kernel_rfl), by kernel_rfl⟩
theorem d17 : DefOK Try.prog 17 Try.f17 (Try.f17.body.getD .skip) ⟨fun i => match i with | 3 => some [0] | 7 => some [3, 18, 19] | _ => none, fun _ _ => []⟩ := ⟨Try.func17, by kernel_rfl, by decide, of_decide_eq_true (by kernel_rfl), by kernel_rfl⟩
theorem d18 : DefOK Try.prog 18 Try.f18 (Try.f18.body.getD .skip) ⟨fun _ => none, fun _ _ => []⟩ := ⟨Try.func18, by kernel_rfl, by decide, of_decide_eq_true (by kernel_rfl), by kernel_rfl⟩
theorem d19 : DefOK Try.prog 19 Try.f19 (Try.f19.body.getD .skip) ⟨fun i => match i with | 5 => some [2, 3, 12, 13] | _ => none, fun _ _ => []⟩ := ⟨Try.func19, by kernel_rfl, by decide, of_decide_eq_true (by kernel_rfl), by kernel_rfl⟩
theorem d20 : DefOK Try.prog 20 Try.f20 (Try.f20.body.getD .skip) ⟨fun i => match i with | 4 => some [0, 8, 9] | _ => none, fun _ _ => []⟩ := ⟨Try.func20, by kernel_rfl, by decide, of_decide_eq_true (by kernel_rfl), by kernel_rfl⟩
theorem d21 : DefOK Try.prog 21 Try.f21 (Try.f21.body.getD .skip) ⟨fun _ => none, fun _ _ => []⟩ := ⟨Try.func21, by kernel_rfl, by decide, of_decide_eq_true (by kernel_rfl), by kernel_rfl⟩
theorem d22 : DefOK Try.prog 22 Try.f22 (Try.f22.body.getD .skip) ⟨fun _ => none, fun _ _ => []⟩ := ⟨Try.func22, by kernel_rfl, by decide, of_decide_eq_true (by kernel_rfl), by kernel_rfl⟩
theorem d23 : DefOK Try.prog 23 Try.f23 (Try.f23.body.getD .skip) ⟨fun i => match i with | 3 => some [1, 2, 7, 13, 14] | _ => none, fun _ _ => []⟩ := ⟨Try.func23, by kernel_rfl, by decide, of_decide_eq_true (by kernel_rfl), by kernel_rfl⟩
theorem d24 : DefOK Try.prog 24 Try.f24 (Try.f24.body.getD .skip) ⟨fun _ => none, fun _ _ => []⟩ := ⟨Try.func24, by kernel_rfl, by decide, of_decide_eq_true (by kernel_rfl), by kernel_rfl⟩
theorem d25 : DefOK Try.prog 25 Try.f25 (Try.f25.body.getD .skip) ⟨fun _ => none, fun _ _ => []⟩ := ⟨Try.func25, by kernel_rfl, by decide, of_decide_eq_true (by kernel_rfl), by kernel_rfl⟩
theorem d26 : DefOK Try.prog 26 Try.f26 (Try.f26.body.getD .skip) ⟨fun i => match i with | 6 => some [0, 4, 5, 18] | _ => none, fun _ _ => []⟩ := ⟨Try.func26, by kernel_rfl, by decide, of_decide_eq_true (by kernel_rfl), by kernel_rfl⟩
theorem d27 : DefOK Try.prog 27 Try.f27 (Try.f27.body.getD .skip) ⟨fun _ => none, fun _ _ => []⟩ := ⟨Try.func27, by kernel_rfl, by decide, of_decide_eq_true (by kernel_rfl), by kernel_rfl⟩
theorem d28 : DefOK Try.prog 28 Try.f28 (Try.f28.body.getD .skip) ⟨fun _ => none, fun _ _ => []⟩ := ⟨Try.func28, by kernel_rfl, by decide, of_decide_eq_true (by kernel_rfl), by kernel_rfl⟩
theorem d29 : DefOK Try.prog 29 Try.f29 (Try.f29.body.getD .skip) ⟨fun _ => none, fun i j => match i, j with | 4, 6 => [4] | _, _ => []⟩ := ⟨Try.func29, by kernel_rfl, by decide, of_decide_eq_true (by kernel_rfl), by kernel_rfl⟩
theorem d30 : DefOK Try.prog 30 Try.f30 (Try.f30.body.getD .skip) ⟨fun _ => none, fun _ _ => []⟩ := ⟨Try.func30, by kernel_rfl, by decide, of_decide_eq_true (by kernel_rfl), by kernel_rfl⟩
theorem d31 : DefOK Try.prog 31 Try.f31 (Try.f31.body.getD .skip) ⟨fun _ => none, fun _ _ => []⟩ := ⟨Try.func31, by kernel_rfl, by decide, of_decide_eq_true (by kernel_rfl), by kernel_rfl⟩
theorem d32 : DefOK Try.prog 32 Try.f32 (Try.f32.body.getD .skip) ⟨fun i => match i with | 4 => some [0, 1, 5] | _ => none, fun _ _ => []⟩ := ⟨Try.func32, by kernel_rfl, by decide, of_decide_eq_true (by kernel_rfl), by kernel_rfl⟩
theorem d33 : DefOK Try.prog 33 Try.f33 (Try.f33.body.getD .skip) ⟨fun _ => none, fun _ _ => []⟩ := ⟨Try.func33, by kernel_rfl, by decide, of_decide_eq_true (by kernel_rfl), by kernel_rfl⟩
theorem d34 : DefOK Try.prog 34 Try.f34 (Try.f34.body.getD .skip) ⟨fun _ => none, fun _ _ => []⟩ := ⟨Try.func34, by kernel_rfl, by decide, of_decide_eq_true (by kernel_rfl), by kernel_rfl⟩
theorem d35 : DefOK Try.prog 35 Try.f35 (Try.f35.body.getD .skip) ⟨fun _ => none, fun i j => match i, j with | 12, 8 => [3] | 12, 14 => [8] | 12, 24 => [8] | 12, 25 => [3] | 16, 14 => [3, 8] | _, _ => []⟩ := ⟨Try.func35, by kernel_rfl, by decide, of_decide_eq_true (by kernel_rfl), by kernel_rfl⟩
theorem d36 : DefOK Try.prog 36 Try.f36 (Try.f36.body.getD .skip) ⟨fun i => match i with | 2 => some [0, 2, 17, 18, 19] | _ => none, fun _ _ => []⟩ := ⟨Try.func36, by kernel_rfl, by decide, of_decide_eq_true (by kernel_rfl), by kernel_rfl⟩
theorem d37 : DefOK Try.prog 37 Try.f37 (Try.f37.body.getD .skip) ⟨fun _ => none, fun _ _ => []⟩ := ⟨Try.func37, by kernel_rfl, by decide, of_decide_eq_true (by kernel_rfl), by kernel_rfl⟩
theorem d38 : DefOK Try.prog 38 Try.f38 (Try.f38.body.getD .skip) ⟨fun i => match i with | 3 => some [3, 7, 8, 9] | _ => none, fun _ _ => []⟩ := ⟨Try.func38, by kernel_rfl, by decide, of_decide_eq_true (by kernel_rfl), by kernel_rfl⟩
theorem d39 : DefOK Try.prog 39 Try.f39 (Try.f39.body.getD .skip) ⟨fun i => match i with | 3 => some [0, 1, 5, 16, 17, 18] | _ => none, fun _ _ => []⟩ := ⟨Try.func39, by kernel_rfl, by decide, of_decide_eq_true (by kernel_rfl), by kernel_rfl⟩
theorem d40 : DefOK Try.prog 40 Try.f40 (Try.f40.body.getD .skip) ⟨fun _ => none, fun _ _ => []⟩ := ⟨Try.func40, by kernel_rfl, by decide, of_decide_eq_true (by kernel_rfl), by kernel_rfl⟩
theorem d41 : DefOK Try.prog 41 Try.f41 (Try.f41.body.getD .skip) ⟨fun _ => none, fun _ _ => []⟩ := ⟨Try.func41, by kernel_rfl, by decide, of_decide_eq_true (by kernel_rfl), by kernel_rfl⟩
theorem d42 : DefOK Try.prog 42 Try.f42 (Try.f42.body.getD .skip) ⟨fun _ => none, fun _ _ => []⟩ := ⟨Try.func42, by kernel_rfl, by decide, of_decide_eq_true (by kernel_rfl), by kernel_rfl⟩
theorem d43 : DefOK Try.prog 43 Try.f43 (Try.f43.body.getD .skip) ⟨fun _ => none, fun _ _ => []⟩ := ⟨Try.func43, by kernel_rfl, by decide, of_decide_eq_true (by kernel_rfl), by kernel_rfl⟩
theorem d44 : DefOK Try.prog 44 Try.f44 (Try.f44.body.getD .skip) ⟨fun _ => none, fun i j => match i, j with | 5, 3 => [1] | 9, 8 => [6] | 9, 11 => [6] | 13, 6 => [4] | _, _ => []⟩ := ⟨Try.func44, by kernel_rfl, by decide, of_decide_eq_true (by kernel_rfl), by kernel_rfl⟩
theorem d45 : DefOK Try.prog 45 Try.f45 (Try.f45.body.getD .skip) ⟨fun _ => none, fun _ _ => []⟩ := ⟨Try.func45, by kernel_rfl, by decide, of_decide_eq_true (by kernel_rfl), by kernel_rfl⟩
theorem d46 : DefOK Try.prog 46 Try.f46 (Try.f46.body.getD .skip) ⟨fun _ => none, fun _ _ => []⟩ := ⟨Try.func46, by kernel_rfl, by decide, of_decide_eq_true (by kernel_rfl), by kernel_rfl⟩
theorem d47 : DefOK Try.prog 47 Try.f47 (Try.f47.body.getD .skip) ⟨fun _ => none, fun _ _ => []⟩ := ⟨Try.func47, by kernel_rfl, by decide, of_decide_eq_true (by kernel_rfl), by kernel_rfl⟩
theorem d48 : DefOK Try.prog 48 Try.f48 (Try.f48.body.getD .skip) ⟨fun _ => none, fun _ _ => []⟩ := ⟨Try.func48, by kernel_rfl, by decide, of_decide_eq_true (by kernel_rfl), by kernel_rfl⟩
theorem d49 : DefOK Try.prog 49 Try.f49 (Try.f49.body.getD .skip) ⟨fun i => match i with | 6 => some [1, 7, 26, 27, 28] | _ => none, fun _ _ => []⟩ := ⟨Try.func49, by kernel_rfl, by decide, of_decide_eq_true (by kernel_rfl), by kernel_rfl⟩
theorem d50 : DefOK Try.prog 50 Try.f50 (Try.f50.body.getD .skip) ⟨fun _ => none, fun _ _ => []⟩ := ⟨Try.func50, by kernel_rfl, by decide, of_decide_eq_true (by kernel_rfl), by kernel_rfl⟩
theorem d51 : DefOK Try.prog 51 Try.f51 (Try.f51.body.getD .skip) ⟨fun _ => none, fun _ _ => []⟩ := ⟨Try.func51, by kernel_rfl, by decide, of_decide_eq_true (by kernel_rfl), by kernel_rfl⟩
theorem d52 : DefOK Try.prog 52 Try.f52 (Try.f52.body.getD .skip) ⟨fun i => match i with | 2 => some [0, 7] | 5 => some [0, 3, 7, 10] | _ => none, fun _ _ => []⟩ := ⟨Try.func52, by kernel_rfl, by decide, of_decide_eq_true (by kernel_rfl), by kernel_rfl⟩
theorem d53 : DefOK Try.prog 53 Try.f53 (Try.f53.body.getD .skip) ⟨fun _ => none, fun _ _ => []⟩ := ⟨Try.func53, by kernel_rfl, by decide, of_decide_eq_true (by kernel_rfl), by kernel_rfl⟩
theorem d54 : DefOK Try.prog 54 Try.f54 (Try.f54.body.getD .skip) ⟨fun _ => none, fun _ _ => []⟩ := ⟨Try.func54, by kernel_rfl, by decide, of_decide_eq_true (by kernel_rfl), by kernel_rfl⟩
theorem d55 : DefOK Try.prog 55 Try.f55 (Try.f55.body.getD .skip) ⟨fun i => match i with | 3 => some [4, 5, 17, 18, 19] | _ => none, fun _ _ => []⟩ := ⟨Try.func55, by kernel_rfl, by decide, of_decide_eq_true (by kernel_rfl), by kernel_rfl⟩
theorem d56 : DefOK Try.prog 56 Try.f56 (Try.f56.body.getD .skip) ⟨fun i => match i with | 3 => some [3, 6, 7] | _ => none, fun _ _ => []⟩ := ⟨Try.func56, by kernel_rfl, by decide, of_decide_eq_true (by kernel_rfl), by kernel_rfl⟩
theorem d57 : DefOK Try.prog 57 Try.f57 (Try.f57.body.getD .skip) ⟨fun i => match i with | 2 => some [0, 1, 7, 8] | _ => none, fun _ _ => []⟩ := ⟨Try.func57, by kernel_rfl, by decide, of_decide_eq_true (by kernel_rfl), by kernel_rfl⟩
theorem d58 : DefOK Try.prog 58 Try.f58 (Try.f58.body.getD .skip) ⟨fun _ => none, fun _ _ => []⟩ := ⟨Try.func58, by kernel_rfl, by decide, of_decide_eq_true (by kernel_rfl), by kernel_rfl⟩
theorem d59 : DefOK Try.prog 59 Try.f59 (Try.f59.body.getD .skip) ⟨fun _ => none, fun _ _ => []⟩ := ⟨Try.func59, by kernel_rfl, by decide, of_decide_eq_true (by kernel_rfl), by kernel_rfl⟩
theorem d60 : DefOK Try.prog 60 Try.f60 (Try.f60.body.getD .skip) ⟨fun _ => none, fun _ _ => []⟩ := ⟨Try.func60, by kernel_rfl, by decide, of_decide_eq_true (by kernel_rfl), by kernel_rfl⟩
theorem d61 : DefOK Try.prog 61 Try.f61 (Try.f61.body.getD .skip) ⟨fun _ => none, fun _ _ => []⟩ := ⟨Try.func61, by kernel_rfl, by decide, of_decide_eq_true (by kernel_rfl), by kernel_rfl⟩
theorem d62 : DefOK Try.prog 62 Try.f62 (Try.f62.body.getD .skip) ⟨fun i => match i with | 2 => some [7, 8] | 5 => some [7, 8, 11, 12] | _ => none, fun _ _ => []⟩ := ⟨Try.func62, by kernel_rfl, by decide, of_decide_eq_true (by kernel_rfl), by kernel_rfl⟩
theorem d63 : DefOK Try.prog 63 Try.f63 (Try.f63.body.getD .skip) ⟨fun _ => none, fun i j => match i, j with | 7, 6 => [4] | _, _ => []⟩ := ⟨Try.func63, by kernel_rfl, by decide, of_decide_eq_true (by kernel_rfl), by kernel_rfl⟩
theorem d64 : DefOK Try.prog 64 Try.f64 (Try.f64.body.getD .skip) ⟨fun _ => none, fun _ _ => []⟩ := ⟨Try.func64, by kernel_rfl, by decide, of_decide_eq_true (by kernel_rfl), by kernel_rfl⟩
theorem d65 : DefOK Try.prog 65 Try.f65 (Try.f65.body.getD .skip) ⟨fun _ => none, fun _ _ => []⟩ := ⟨Try.func65, by kernel_rfl, by decide, of_decide_eq_true (by kernel_rfl), by kernel_rfl⟩
theorem d66 : DefOK Try.prog 66 Try.f66 (Try.f66.body.getD .skip) ⟨fun _ => none, fun _ _ => []⟩ := ⟨Try.func66, by kernel_rfl, by decide, of_decide_eq_true (by kernel_rfl), by kernel_rfl⟩
theorem d67 : DefOK Try.prog 67 Try.f67 (Try.f67.body.getD .skip) ⟨fun _ => none, fun i j => match i, j with | 1, 4 => [2] | _, _ => []⟩ := ⟨Try.func67, by kernel_rfl, by decide, of_decide_eq_true (by kernel_rfl), by kernel_rfl⟩
theorem d68 : DefOK Try.prog 68 Try.f68 (Try.f68.body.getD .skip) ⟨fun _ => none, fun _ _ => []⟩ := ⟨Try.func68, by kernel_rfl, by decide, of_decide_eq_true (by kernel_rfl), by kernel_rfl⟩
theorem d69 : DefOK Try.prog 69 Try.f69 (Try.f69.body.getD .skip) ⟨fun i => match i with | 2 => some [0, 1, 11, 12, 13] | _ => none, fun _ _ => []⟩ := ⟨Try.func69, by kernel_rfl, by decide, of_decide_eq_true (by kernel_rfl), by kernel_rfl⟩
theorem d70 : DefOK Try.prog 70 Try.f70 (Try.f70.body.getD .skip) ⟨fun _ => none, fun _ _ => []⟩ := ⟨Try.func70, by kernel_rfl, by decide, of_decide_eq_true (by kernel_rfl), by kernel_rfl⟩
theorem d71 : DefOK Try.prog 71 Try.f71 (Try.f71.body.getD .skip) ⟨fun _ => none, fun _ _ => []⟩ := ⟨Try.func71, by kernel_rfl, by decide, of_decide_eq_true (by kernel_rfl), by kernel_rfl⟩
theorem d72 : DefOK Try.prog 72 Try.f72 (Try.f72.body.getD .skip) ⟨fun _ => none, fun _ _ => []⟩ := ⟨Try.func72, by kernel_rfl, by decide, of_decide_eq_true (by kernel_rfl), by kernel_rfl⟩
theorem d73 : DefOK Try.prog 73 Try.f73 (Try.f73.body.getD .skip) ⟨fun _ => none, fun _ _ => []⟩ := ⟨Try.func73, by kernel_rfl, by decide, of_decide_eq_true (by kernel_rfl), by kernel_rfl⟩
theorem d74 : DefOK Try.prog 74 Try.f74 (Try.f74.body.getD .skip) ⟨fun _ => none, fun _ _ => []⟩ := ⟨Try.func74, by kernel_rfl, by decide, of_decide_eq_true (by kernel_rfl), by kernel_rfl⟩
theorem d75 : DefOK Try.prog 75 Try.f75 (Try.f75.body.getD .skip) ⟨fun i => match i with | 5 => some [0, 3, 12, 13, 14] | _ => none, fun _ _ => []⟩ := ⟨Try.func75, by kernel_rfl, by decide, of_decide_eq_true (by kernel_rfl), by kernel_rfl⟩
theorem d76 : DefOK Try.prog 76 Try.f76 (Try.f76.body.getD .skip) ⟨fun _ => none, fun _ _ => []⟩ := ⟨Try.func76, by kernel_rfl, by decide, of_decide_eq_true (by kernel_rfl), by kernel_rfl⟩
theorem d77 : DefOK Try.prog 77 Try.f77 (Try.f77.body.getD .skip) ⟨fun _ => none, fun i j => match i, j with | 1, 8 => [3] | _, _ => []⟩ := ⟨Try.func77, by kernel_rfl, by decide, of_decide_eq_true (by kernel_rfl), by kernel_rfl⟩
theorem d78 : DefOK Try.prog 78 Try.f78 (Try.f78.body.getD .skip) ⟨fun _ => none, fun _ _ => []⟩ := ⟨Try.func78, by kernel_rfl, by decide, of_decide_eq_true (by kernel_rfl), by kernel_rfl⟩
theorem d79 : DefOK Try.prog 79 Try.f79 (Try.f79.body.getD .skip) ⟨fun _ => none, fun _ _ => []⟩ := ⟨Try.func79, by kernel_rfl, by decide, of_decide_eq_true (by kernel_rfl), by kernel_rfl⟩
theorem d80 : DefOK Try.prog 80 Try.f80 (Try.f80.body.getD .skip) ⟨fun _ => none, fun _ _ => []⟩ := ⟨Try.func80, by kernel_rfl, by decide, of_decide_eq_true (by kernel_rfl), by kernel_rfl⟩
theorem d81 : DefOK Try.prog 81 Try.f81 (Try.f81.body.getD .skip) ⟨fun i => match i with | 2 => some [0, 1] | _ => none, fun _ _ => []⟩ := ⟨Try.func81, by kernel_rfl, by decide, of_decide_eq_true (by kernel_rfl), by kernel_rfl⟩
theorem d82 : DefOK Try.prog 82 Try.f82 (Try.f82.body.getD .skip) ⟨fun _ => none, fun _ _ => []⟩ := ⟨Try.func82, by kernel_rfl, by decide, of_decide_eq_true (by kernel_rfl), by kernel_rfl⟩
theorem d83 : DefOK Try.prog 83 Try.f83 (Try.f83.body.getD .skip) ⟨fun i => match i with | 4 => some [0, 1, 12, 13] | _ => none, fun _ _ => []⟩ := ⟨Try.func83, by kernel_rfl, by decide, of_decide_eq_true (by kernel_rfl), by kernel_rfl⟩
theorem d84 : DefOK Try.prog 84 Try.f84 (Try.f84.body.getD .skip) ⟨fun _ => none, fun _ _ => []⟩ := ⟨Try.func84, by kernel_rfl, by decide, of_decide_eq_true (by kernel_rfl), by kernel_rfl⟩
theorem d85 : DefOK Try.prog 85 Try.f85 (Try.f85.body.getD .skip) ⟨fun _ => none, fun _ _ => []⟩ := ⟨Try.func85, by kernel_rfl, by decide, of_decide_eq_true (by kernel_rfl), by kernel_rfl⟩
theorem d86 : DefOK Try.prog 86 Try.f86 (Try.f86.body.getD .skip) ⟨fun _ => none, fun _ _ => []⟩ := ⟨Try.func86, by kernel_rfl, by decide, of_decide_eq_true (by kernel_rfl), by kernel_rfl⟩
theorem d87 : DefOK Try.prog 87 Try.f87 (Try.f87.body.getD .skip) ⟨fun _ => none, fun _ _ => []⟩ := ⟨Try.func87, by kernel_rfl, by decide, of_decide_eq_true (by kernel_rfl), by kernel_rfl⟩
theorem d88 : DefOK Try.prog 88 Try.f88 (Try.f88.body.getD .skip) ⟨fun _ => none, fun _ _ => []⟩ := ⟨Try.func88, by kernel_rfl, by decide, of_decide_eq_true (by kernel_rfl), by kernel_rfl⟩
theorem d89 : DefOK Try.prog 89 Try.f89 (Try.f89.body.getD .skip) ⟨fun i => match i with | 3 => some [0, 3, 9, 10, 11] | 11 => some [6, 25, 26, 27] | _ => none, fun _ _ => []⟩ := ⟨Try.func89, by kernel_rfl, by decide, of_decide_eq_true (by kernel_rfl), by kernel_rfl⟩
theorem d90 : DefOK Try.prog 90 Try.f90 (Try.f90.body.getD .skip) ⟨fun i => match i with | 3 => some [3, 6, 7, 8] | _ => none, fun _ _ => []⟩ := ⟨Try.func90, by kernel_rfl, by decide, of_decide_eq_true (by kernel_rfl), by kernel_rfl⟩
theorem d91 : DefOK Try.prog 91 Try.f91 (Try.f91.body.getD .skip) ⟨fun _ => none, fun _ _ => []⟩ := ⟨Try.func91, by kernel_rfl, by decide, of_decide_eq_true (by kernel_rfl), by kernel_rfl⟩
theorem d92 : DefOK Try.prog 92 Try.f92 (Try.f92.body.getD .skip) ⟨fun _ => none, fun _ _ => []⟩ := ⟨Try.func92, by kernel_rfl, by decide, of_decide_eq_true (by kernel_rfl), by kernel_rfl⟩
theorem envOK : EnvOK Try.prog env := by
  intro f
  by_cases h3 : f = 3
  · subst h3; exact d3
  by_cases h4 : f = 4
  · subst h4; exact d4
  by_cases h5 : f = 5
  · subst h5; exact d5
  by_cases h6 : f = 6
  · subst h6; exact d6
  by_cases h7 : f = 7
  · subst h7; exact d7
  by_cases h8 : f = 8
  · subst h8; exact d8
  by_cases h9 : f = 9
  · subst h9; exact d9
  by_cases h10 : f = 10
  · subst h10; exact d10
  by_cases h11 : f = 11
  · subst h11; exact d11
  by_cases h12 : f = 12
  · subst h12; exact d12
  by_cases h13 : f = 13
  · subst h13; exact d13
  by_cases h14 : f = 14
  · subst h14; exact d14
  by_cases h15 : f = 15
  · subst h15; exact d15
  by_cases h16 : f = 16
  · subst h16; exact d16
  by_cases h17 : f = 17
  · subst h17; exact d17
  by_cases h18 : f = 18
  · subst h18; exact d18
  by_cases h19 : f = 19
  · subst h19; exact d19
  by_cases h20 : f = 20
  · subst h20; exact d20
  by_cases h21 : f = 21
  · subst h21; exact d21
  by_cases h22 : f = 22
  · subst h22; exact d22
  by_cases h23 : f = 23
  · subst h23; exact d23
  by_cases h24 : f = 24
  · subst h24; exact d24
  by_cases h25 : f = 25
  · subst h25; exact d25
  by_cases h26 : f = 26
  · subst h26; exact d26
  by_cases h27 : f = 27
  · subst h27; exact d27
  by_cases h28 : f = 28
  · subst h28; exact d28
  by_cases h29 : f = 29
  · subst h29; exact d29
  by_cases h30 : f = 30
  · subst h30; exact d30
  by_cases h31 : f = 31
  · subst h31; exact d31
  by_cases h32 : f = 32
  · subst h32; exact d32
  by_cases h33 : f = 33
  · subst h33; exact d33
  by_cases h34 : f = 34
  · subst h34; exact d34
  by_cases h35 : f = 35
  · subst h35; exact d35
  by_cases h36 : f = 36
  · subst h36; exact d36
  by_cases h37 : f = 37
  · subst h37; exact d37
  by_cases h38 : f = 38
  · subst h38; exact d38
  by_cases h39 : f = 39
  · subst h39; exact d39
  by_cases h40 : f = 40
  · subst h40; exact d40
  by_cases h41 : f = 41
  · subst h41; exact d41
  by_cases h42 : f = 42
  · subst h42; exact d42
  by_cases h43 : f = 43
  · subst h43; exact d43
  by_cases h44 : f = 44
  · subst h44; exact d44
  by_cases h45 : f = 45
  · subst h45; exact d45
  by_cases h46 : f = 46
  · subst h46; exact d46
  by_cases h47 : f = 47
  · subst h47; exact d47
  by_cases h48 : f = 48
  · subst h48; exact d48
  by_cases h49 : f = 49
  · subst h49; exact d49
  by_cases h50 : f = 50
  · subst h50; exact d50
  by_cases h51 : f = 51
  · subst h51; exact d51
  by_cases h52 : f = 52
  · subst h52; exact d52
  by_cases h53 : f = 53
  · subst h53; exact d53
  by_cases h54 : f = 54
  · subst h54; exact d54
  by_cases h55 : f = 55
  · subst h55; exact d55
  by_cases h56 : f = 56
  · subst h56; exact d56
  by_cases h57 : f = 57
  · subst h57; exact d57
  by_cases h58 : f = 58
  · subst h58; exact d58
  by_cases h59 : f = 59
  · subst h59; exact d59
  by_cases h60 : f = 60
  · subst h60; exact d60
  by_cases h61 : f = 61
  · subst h61; exact d61
  by_cases h62 : f = 62
  · subst h62; exact d62
  by_cases h63 : f = 63
  · subst h63; exact d63
  by_cases h64 : f = 64
  · subst h64; exact d64
  by_cases h65 : f = 65
  · subst h65; exact d65
  by_cases h66 : f = 66
  · subst h66; exact d66
  by_cases h67 : f = 67
  · subst h67; exact d67
  by_cases h68 : f = 68
  · subst h68; exact d68
  by_cases h69 : f = 69
  · subst h69; exact d69
  by_cases h70 : f = 70
  · subst h70; exact d70
  by_cases h71 : f = 71
  · subst h71; exact d71
  by_cases h72 : f = 72
  · subst h72; exact d72
  by_cases h73 : f = 73
  · subst h73; exact d73
  by_cases h74 : f = 74
  · subst h74; exact d74
  by_cases h75 : f = 75
  · subst h75; exact d75
  by_cases h76 : f = 76
  · subst h76; exact d76
  by_cases h77 : f = 77
  · subst h77; exact d77
  by_cases h78 : f = 78
  · subst h78; exact d78
  by_cases h79 : f = 79
  · subst h79; exact d79
  by_cases h80 : f = 80
  · subst h80; exact d80
  by_cases h81 : f = 81
  · subst h81; exact d81
  by_cases h82 : f = 82
  · subst h82; exact d82
  by_cases h83 : f = 83
  · subst h83; exact d83
  by_cases h84 : f = 84
  · subst h84; exact d84
  by_cases h85 : f = 85
  · subst h85; exact d85
  by_cases h86 : f = 86
  · subst h86; exact d86
  by_cases h87 : f = 87
  · subst h87; exact d87
  by_cases h88 : f = 88
  · subst h88; exact d88
  by_cases h89 : f = 89
  · subst h89; exact d89
  by_cases h90 : f = 90
  · subst h90; exact d90
  by_cases h91 : f = 91
  · subst h91; exact d91
  by_cases h92 : f = 92
  · subst h92; exact d92
  have h : env f = .no := by
    unfold env
    split <;> first | rfl | contradiction
  rw [h]
  trivial
end Go.AM.Bp
