/-
  THE FUNCTIONS are as the machine takes them (printed).
-/
import Derived.Test.YtnihjgamfnabnaaDoorAm13g
import Derived.Test.YtnihjgamfnabnaaDoorEnvBd
set_option linter.unusedVariables false
set_option linter.unusedSimpArgs false
set_option linter.unusedSectionVars false
namespace Go.AM.Bd
open Go.Proofs
theorem d3 : DefOK Tryd.prog 3 Tryd.f3 (Tryd.f3.body.getD .skip) ⟨fun i => match i with | 12 => some [2, 3, 11, 13, 14, 61] | 21 => some [2, 3, 11, 13, 14, 17, 82, 83] | _ => none, fun _ _ => []⟩ := ⟨Tryd.func3, by kernel_rfl, by decide, of_decide_eq_true (by kernel_rfl), by kernel_rfl⟩
theorem d4 : DefOK Tryd.prog 4 Tryd.f4 (Tryd.f4.body.getD .skip) ⟨fun _ => none, fun _ _ => []⟩ := ⟨Tryd.func4, by kernel_rfl, by decide, of_decide_eq_true (by kernel_rfl), by kernel_rfl⟩
theorem d5 : DefOK Tryd.prog 5 Tryd.f5 (Tryd.f5.body.getD .skip) ⟨fun i => match i with | 3 => some [4, 9, 10, 11] | _ => none, fun _ _ => []⟩ := ⟨Tryd.func5, by kernel_rfl, by decide, of_decide_eq_true (by kernel_rfl), by kernel_rfl⟩
theorem d6 : DefOK Tryd.prog 6 Tryd.f6 (Tryd.f6.body.getD .skip) ⟨fun i => match i with | 6 => some [8, 24] | _ => none, fun _ _ => []⟩ := ⟨Tryd.func6, by kernel_rfl, by decide, of_decide_eq_true (by kernel_rfl), by kernel_rfl⟩
theorem d7 : DefOK Tryd.prog 7 Tryd.f7 (Tryd.f7.body.getD .skip) ⟨fun _ => none, fun _ _ => []⟩ := ⟨Tryd.func7, by kernel_rfl, by decide, of_decide_eq_true (by kernel_rfl), by kernel_rfl⟩
theorem d8 : DefOK Tryd.prog 8 Tryd.f8 (Tryd.f8.body.getD .skip) ⟨fun _ => none, fun _ _ => []⟩ := ⟨Tryd.func8, by kernel_rfl, by decide, of_decide_eq_true (by kernel_rfl), by kernel_rfl⟩
theorem d9 : DefOK Tryd.prog 9 Tryd.f9 (Tryd.f9.body.getD .skip) ⟨fun i => match i with | 5 => some [0, 3, 13, 14] | 8 => some [0, 3, 13, 14, 18, 19, 20] | _ => none, fun _ _ => []⟩ := ⟨Tryd.func9, by kernel_rfl, by decide, of_decide_eq_true (by kernel_rfl), by kernel_rfl⟩
theorem d10 : DefOK Tryd.prog 10 Tryd.f10 (Tryd.f10.body.getD .skip) ⟨fun i => match i with | 10 => some [0, 4, 5, 42, 43, 44] | 14 => some [0, 4, 5, 7, 42, 43, 44, 59, 60, 61] | _ => none, fun _ _ => []⟩ := ⟨Tryd.func10, by kernel_rfl, by decide, of_decide_eq_true (by kernel_rfl), by kernel_rfl⟩
theorem d11 : DefOK Tryd.prog 11 Tryd.f11 (Tryd.f11.body.getD .skip) ⟨fun _ => none, fun _ _ => []⟩ := ⟨Tryd.func11, by kernel_rfl, by decide, of_decide_eq_true (by kernel_rfl), by kernel_rfl⟩
theorem d12 : DefOK Tryd.prog 12 Tryd.f12 (Tryd.f12.body.getD .skip) ⟨fun _ => none, fun _ _ => []⟩ := ⟨Tryd.func12, by kernel_rfl, by decide, of_decide_eq_true (by kernel_rfl), by kernel_rfl⟩
theorem d13 : DefOK Tryd.prog 13 Tryd.f13 (Tryd.f13.body.getD .skip) ⟨fun _ => none, fun _ _ => []⟩ := ⟨Tryd.func13, by kernel_rfl, by decide, of_decide_eq_true (by kernel_rfl), by kernel_rfl⟩
theorem d14 : DefOK Tryd.prog 14 Tryd.f14 (Tryd.f14.body.getD .skip) ⟨fun i => match i with | 6 => some [0, 4, 5, 18] | _ => none, fun _ _ => []⟩ := ⟨Tryd.func14, by kernel_rfl, by decide, of_decide_eq_true (by kernel_rfl), by kernel_rfl⟩
theorem d15 : DefOK Tryd.prog 15 Tryd.f15 (Tryd.f15.body.getD .skip) ⟨fun _ => none, fun _ _ => []⟩ := ⟨Tryd.func15, by kernel_rfl, by decide, of_decide_eq_true (by kernel_rfl), by kernel_rfl⟩
theorem d16 : DefOK Tryd.prog 16 Tryd.f16 (Tryd.f16.body.getD .skip) ⟨fun _ => none, fun _ _ => []⟩ := ⟨Tryd.func16, by kernel_rfl, by decide, of_decide_eq_true (by kernel_rfl), by kernel_rfl⟩
theorem d17 : DefOK Tryd.prog 17 Tryd.f17 (Tryd.f17.body.getD .skip) ⟨fun _ => none, fun i j => match i, j with | 4, 6 => [4] | _, _ => []⟩ := ⟨Tryd.func17, by kernel_rfl, by decide, of_decide_eq_true (by kernel_rfl), by kernel_rfl⟩
theorem d18 : DefOK Tryd.prog 18 Tryd.f18 (Tryd.f18.body.getD .skip) ⟨fun _ => none, fun _ _ => []⟩ := ⟨Tryd.func18, by kernel_rfl, by decide, of_decide_eq_true (by kernel_rfl), by kernel_rfl⟩
theorem d19 : DefOK Tryd.prog 19 Tryd.f19 (Tryd.f19.body.getD .skip) ⟨fun i => match i with | 3 => some [3, 7, 8, 9] | _ => none, fun _ _ => []⟩ := ⟨Tryd.func19, by kernel_rfl, by decide, of_decide_eq_true (by kernel_rfl), by kernel_rfl⟩
theorem d20 : DefOK Tryd.prog 20 Tryd.f20 (Tryd.f20.body.getD .skip) ⟨fun i => match i with | 3 => some [0, 1, 5, 16, 17, 18] | _ => none, fun _ _ => []⟩ := ⟨Tryd.func20, by kernel_rfl, by decide, of_decide_eq_true (by kernel_rfl), by kernel_rfl⟩
theorem d21 : DefOK Tryd.prog 21 Tryd.f21 (Tryd.f21.body.getD .skip) ⟨fun _ => none, fun _ _ => []⟩ := ⟨Tryd.func21, by kernel_rfl, by decide, of_decide_eq_true (by kernel_rfl), by kernel_rfl⟩
theorem d22 : DefOK Tryd.prog 22 Tryd.f22 (Tryd.f22.body.getD .skip) ⟨fun i => match i with | 4 => some [0, 1, 5] | _ => none, fun _ _ => []⟩ := ⟨Tryd.func22, by kernel_rfl, by decide, of_decide_eq_true (by kernel_rfl), by kernel_rfl⟩
theorem d23 : DefOK Tryd.prog 23 Tryd.f23 (Tryd.f23.body.getD .skip) ⟨fun _ => none, fun _ _ => []⟩ := ⟨Tryd.func23, by kernel_rfl, by decide, of_decide_eq_true (by kernel_rfl), by kernel_rfl⟩
theorem d24 : DefOK Tryd.prog 24 Tryd.f24 (Tryd.f24.body.getD .skip) ⟨fun _ => none, fun _ _ => []⟩ := ⟨Tryd.func24, by kernel_rfl, by decide, of_decide_eq_true (by kernel_rfl), by kernel_rfl⟩
theorem d26 : DefOK Tryd.prog 26 Tryd.f26 (Tryd.f26.body.getD .skip) ⟨fun _ => none, fun _ _ => []⟩ := ⟨Tryd.func26, by kernel_rfl, by decide, of_decide_eq_true (by kernel_rfl), by kernel_rfl⟩
theorem d27 : DefOK Tryd.prog 27 Tryd.f27 (Tryd.f27.body.getD .skip) ⟨fun _ => none, fun _ _ => []⟩ := ⟨Tryd.func27, by kernel_rfl, by decide, of_decide_eq_true (by kernel_rfl), by kernel_rfl⟩
theorem d28 : DefOK Tryd.prog 28 Tryd.f28 (Tryd.f28.body.getD .skip) ⟨fun _ => none, fun _ _ => []⟩ := ⟨Tryd.func28, by kernel_rfl, by decide, of_decide_eq_true (by kernel_rfl), by kernel_rfl⟩
theorem d29 : DefOK Tryd.prog 29 Tryd.f29 (Tryd.f29.body.getD .skip) ⟨fun _ => none, fun _ _ => []⟩ := ⟨Tryd.func29, by kernel_rfl, by decide, of_decide_eq_true (by kernel_rfl), by kernel_rfl⟩
theorem d30 : DefOK Tryd.prog 30 Tryd.f30 (Tryd.f30.body.getD .skip) ⟨fun i => match i with | 6 => some [1, 7, 26, 27, 28] | _ => none, fun _ _ => []⟩ := ⟨Tryd.func30, by kernel_rfl, by decide, of_decide_eq_true (by kernel_rfl), by kernel_rfl⟩
theorem d31 : DefOK Tryd.prog 31 Tryd.f31 (Tryd.f31.body.getD .skip) ⟨fun _ => none, fun _ _ => []⟩ := ⟨Tryd.func31, by kernel_rfl, by decide, of_decide_eq_true (by kernel_rfl), by kernel_rfl⟩
theorem d32 : DefOK Tryd.prog 32 Tryd.f32 (Tryd.f32.body.getD .skip) ⟨fun _ => none, fun _ _ => []⟩ := ⟨Tryd.func32, by kernel_rfl, by decide, of_decide_eq_true (by kernel_rfl), by kernel_rfl⟩
theorem d33 : DefOK Tryd.prog 33 Tryd.f33 (Tryd.f33.body.getD .skip) ⟨fun i => match i with | 2 => some [0, 7] | 5 => some [0, 3, 7, 10] | _ => none, fun _ _ => []⟩ := ⟨Tryd.func33, by kernel_rfl, by decide, of_decide_eq_true (by kernel_rfl), by kernel_rfl⟩
theorem d34 : DefOK Tryd.prog 34 Tryd.f34 (Tryd.f34.body.getD .skip) ⟨fun _ => none, fun _ _ => []⟩ := ⟨Tryd.func34, by kernel_rfl, by decide, of_decide_eq_true (by kernel_rfl), by kernel_rfl⟩
theorem d35 : DefOK Tryd.prog 35 Tryd.f35 (Tryd.f35.body.getD .skip) ⟨fun _ => none, fun _ _ => []⟩ := ⟨Tryd.func35, by kernel_rfl, by decide, of_decide_eq_true (by kernel_rfl), by kernel_rfl⟩
theorem d36 : DefOK Tryd.prog 36 Tryd.f36 (Tryd.f36.body.getD .skip) ⟨fun _ => none, fun _ _ => []⟩ := ⟨Tryd.func36, by kernel_rfl, by decide, of_decide_eq_true (by kernel_rfl), by kernel_rfl⟩
theorem d37 : DefOK Tryd.prog 37 Tryd.f37 (Tryd.f37.body.getD .skip) ⟨fun _ => none, fun _ _ => []⟩ := ⟨Tryd.func37, by kernel_rfl, by decide, of_decide_eq_true (by kernel_rfl), by kernel_rfl⟩
theorem d38 : DefOK Tryd.prog 38 Tryd.f38 (Tryd.f38.body.getD .skip) ⟨fun i => match i with | 3 => some [4, 5, 17, 18, 19] | _ => none, fun _ _ => []⟩ := ⟨Tryd.func38, by kernel_rfl, by decide, of_decide_eq_true (by kernel_rfl), by kernel_rfl⟩
theorem d39 : DefOK Tryd.prog 39 Tryd.f39 (Tryd.f39.body.getD .skip) ⟨fun i => match i with | 3 => some [3, 6, 7] | _ => none, fun _ _ => []⟩ := ⟨Tryd.func39, by kernel_rfl, by decide, of_decide_eq_true (by kernel_rfl), by kernel_rfl⟩
theorem d40 : DefOK Tryd.prog 40 Tryd.f40 (Tryd.f40.body.getD .skip) ⟨fun i => match i with | 2 => some [0, 1, 7, 8] | _ => none, fun _ _ => []⟩ := ⟨Tryd.func40, by kernel_rfl, by decide, of_decide_eq_true (by kernel_rfl), by kernel_rfl⟩
theorem d41 : DefOK Tryd.prog 41 Tryd.f41 (Tryd.f41.body.getD .skip) ⟨fun _ => none, fun _ _ => []⟩ := ⟨Tryd.func41, by kernel_rfl, by decide, of_decide_eq_true (by kernel_rfl), by kernel_rfl⟩
theorem d42 : DefOK Tryd.prog 42 Tryd.f42 (Tryd.f42.body.getD .skip) ⟨fun _ => none, fun _ _ => []⟩ := ⟨Tryd.func42, by kernel_rfl, by decide, of_decide_eq_true (by kernel_rfl), by kernel_rfl⟩
theorem d43 : DefOK Tryd.prog 43 Tryd.f43 (Tryd.f43.body.getD .skip) ⟨fun _ => none, fun _ _ => []⟩ := ⟨Tryd.func43, by kernel_rfl, by decide, of_decide_eq_true (by kernel_rfl), by kernel_rfl⟩
theorem d44 : DefOK Tryd.prog 44 Tryd.f44 (Tryd.f44.body.getD .skip) ⟨fun i => match i with | 2 => some [7, 8] | 5 => some [7, 8, 11, 12] | _ => none, fun _ _ => []⟩ := ⟨Tryd.func44, by kernel_rfl, by decide, of_decide_eq_true (by kernel_rfl), by kernel_rfl⟩
theorem d49 : DefOK Tryd.prog 49 Tryd.f49 (Tryd.f49.body.getD .skip) ⟨fun _ => none, fun _ _ => []⟩ := ⟨Tryd.func49, by kernel_rfl, by decide, of_decide_eq_true (by kernel_rfl), by kernel_rfl⟩
theorem d50 : DefOK Tryd.prog 50 Tryd.f50 (Tryd.f50.body.getD .skip) ⟨fun _ => none, fun _ _ => []⟩ := ⟨Tryd.func50, by kernel_rfl, by decide, of_decide_eq_true (by kernel_rfl), by kernel_rfl⟩
theorem d51 : DefOK Tryd.prog 51 Tryd.f51 (Tryd.f51.body.getD .skip) ⟨fun _ => none, fun _ _ => []⟩ := ⟨Tryd.func51, by kernel_rfl, by decide, of_decide_eq_true (by kernel_rfl), by kernel_rfl⟩
theorem d52 : DefOK Tryd.prog 52 Tryd.f52 (Tryd.f52.body.getD .skip) ⟨fun i => match i with | 5 => some [0, 3, 12, 13, 14] | _ => none, fun _ _ => []⟩ := ⟨Tryd.func52, by kernel_rfl, by decide, of_decide_eq_true (by kernel_rfl), by kernel_rfl⟩
theorem d53 : DefOK Tryd.prog 53 Tryd.f53 (Tryd.f53.body.getD .skip) ⟨fun _ => none, fun _ _ => []⟩ := ⟨Tryd.func53, by kernel_rfl, by decide, of_decide_eq_true (by kernel_rfl), by kernel_rfl⟩
theorem d54 : DefOK Tryd.prog 54 Tryd.f54 (Tryd.f54.body.getD .skip) ⟨fun _ => none, fun i j => match i, j with | 1, 4 => [2] | _, _ => []⟩ := ⟨Tryd.func54, by kernel_rfl, by decide, of_decide_eq_true (by kernel_rfl), by kernel_rfl⟩
theorem d55 : DefOK Tryd.prog 55 Tryd.f55 (Tryd.f55.body.getD .skip) ⟨fun _ => none, fun i j => match i, j with | 1, 8 => [3] | _, _ => []⟩ := ⟨Tryd.func55, by kernel_rfl, by decide, of_decide_eq_true (by kernel_rfl), by kernel_rfl⟩
theorem d56 : DefOK Tryd.prog 56 Tryd.f56 (Tryd.f56.body.getD .skip) ⟨fun _ => none, fun _ _ => []⟩ := ⟨Tryd.func56, by kernel_rfl, by decide, of_decide_eq_true (by kernel_rfl), by kernel_rfl⟩
theorem d60 : DefOK Tryd.prog 60 Tryd.f60 (Tryd.f60.body.getD .skip) ⟨fun i => match i with | 4 => some [0, 1, 12, 13] | _ => none, fun _ _ => []⟩ := ⟨Tryd.func60, by kernel_rfl, by decide, of_decide_eq_true (by kernel_rfl), by kernel_rfl⟩
theorem d61 : DefOK Tryd.prog 61 Tryd.f61 (Tryd.f61.body.getD .skip) ⟨fun _ => none, fun _ _ => []⟩ := ⟨Tryd.func61, by kernel_rfl, by decide, of_decide_eq_true (by kernel_rfl), by kernel_rfl⟩
theorem d62 : DefOK Tryd.prog 62 Tryd.f62 (Tryd.f62.body.getD .skip) ⟨fun _ => none, fun _ _ => []⟩ := ⟨Tryd.func62, by kernel_rfl, by decide, of_decide_eq_true (by kernel_rfl), by kernel_rfl⟩
theorem d63 : DefOK Tryd.prog 63 Tryd.f63 (Tryd.f63.body.getD .skip) ⟨fun _ => none, fun _ _ => []⟩ := ⟨Tryd.func63, by kernel_rfl, by decide, of_decide_eq_true (by kernel_rfl), by kernel_rfl⟩
theorem d64 : DefOK Tryd.prog 64 Tryd.f64 (Tryd.f64.body.getD .skip) ⟨fun _ => none, fun _ _ => []⟩ := ⟨Tryd.func64, by kernel_rfl, by decide, of_decide_eq_true (by kernel_rfl), by kernel_rfl⟩
theorem d65 : DefOK Tryd.prog 65 Tryd.f65 (Tryd.f65.body.getD .skip) ⟨fun i => match i with | 2 => some [0, 1] | _ => none, fun _ _ => []⟩ := ⟨Tryd.func65, by kernel_rfl, by decide, of_decide_eq_true (by kernel_rfl), by kernel_rfl⟩
theorem d66 : DefOK Tryd.prog 66 Tryd.f66 (Tryd.f66.body.getD .skip) ⟨fun _ => none, fun _ _ => []⟩ := ⟨Tryd.func66, by kernel_rfl, by decide, of_decide_eq_true (by kernel_rfl), by kernel_rfl⟩
theorem d67 : DefOK Tryd.prog 67 Tryd.f67 (Tryd.f67.body.getD .skip) ⟨fun _ => none, fun _ _ => []⟩ := ⟨Tryd.func67, by kernel_rfl, by decide, of_decide_eq_true (by kernel_rfl), by kernel_rfl⟩
theorem d68 : DefOK Tryd.prog 68 Tryd.f68 (Tryd.f68.body.getD .skip) ⟨fun _ => none, fun _ _ => []⟩ := ⟨Tryd.func68, by kernel_rfl, by decide, of_decide_eq_true (by kernel_rfl), by kernel_rfl⟩
theorem d69 : DefOK Tryd.prog 69 Tryd.f69 (Tryd.f69.body.getD .skip) ⟨fun i => match i with | 3 => some [3, 6, 7, 8] | _ => none, fun _ _ => []⟩ := ⟨Tryd.func69, by kernel_rfl, by decide, of_decide_eq_true (by kernel_rfl), by kernel_rfl⟩
theorem d70 : DefOK Tryd.prog 70 Tryd.f70 (Tryd.f70.body.getD .skip) ⟨fun _ => none, fun _ _ => []⟩ := ⟨Tryd.func70, by kernel_rfl, by decide, of_decide_eq_true (by kernel_rfl), by kernel_rfl⟩
theorem d71 : DefOK Tryd.prog 71 Tryd.f71 (Tryd.f71.body.getD .skip) ⟨fun i => match i with | 3 => some [0, 3, 9, 10, 11] | 11 => some [6, 25, 26, 27] | _ => none, fun _ _ => []⟩ := ⟨Tryd.func71, by kernel_rfl, by decide, of_decide_eq_true (by kernel_rfl), by kernel_rfl⟩
theorem d72 : DefOK Tryd.prog 72 Tryd.f72 (Tryd.f72.body.getD .skip) ⟨fun _ => none, fun _ _ => []⟩ := ⟨Tryd.func72, by kernel_rfl, by decide, of_decide_eq_true (by kernel_rfl), by kernel_rfl⟩
theorem d73 : DefOK Tryd.prog 73 Tryd.f73 (Tryd.f73.body.getD .skip) ⟨fun _ => none, fun _ _ => []⟩ := ⟨Tryd.func73, by kernel_rfl, by decide, of_decide_eq_true (by kernel_rfl), by kernel_rfl⟩
theorem d74 : DefOK Tryd.prog 74 Tryd.f74 (Tryd.f74.body.getD .skip) ⟨fun _ => none, fun _ _ => []⟩ := ⟨Tryd.func74, by kernel_rfl, by decide, of_decide_eq_true (by kernel_rfl), by kernel_rfl⟩
theorem envOK : EnvOK Tryd.prog env := by
  intro f
  by_cases h3 : f = 3
  · subst h3; exact d3
  by_cases h4 : f = 4
  · subst h4; exact d4
  by_cases h5 : f = 5
  · subst h5; exact d5
  by_cases h6 : f = 6
  · subst h6; exact d6
  by_cases h7 : f = 7
  · subst h7; exact d7
  by_cases h8 : f = 8
  · subst h8; exact d8
  by_cases h9 : f = 9
  · subst h9; exact d9
  by_cases h10 : f = 10
  · subst h10; exact d10
  by_cases h11 : f = 11
  · subst h11; exact d11
  by_cases h12 : f = 12
  · subst h12; exact d12
  by_cases h13 : f = 13
  · subst h13; exact d13
  by_cases h14 : f = 14
  · subst h14; exact d14
  by_cases h15 : f = 15
  · subst h15; exact d15
  by_cases h16 : f = 16
  · subst h16; exact d16
  by_cases h17 : f = 17
  · subst h17; exact d17
  by_cases h18 : f = 18
  · subst h18; exact d18
  by_cases h19 : f = 19
  · subst h19; exact d19
  by_cases h20 : f = 20
  · subst h20; exact d20
  by_cases h21 : f = 21
  · subst h21; exact d21
  by_cases h22 : f = 22
  · subst h22; exact d22
  by_cases h23 : f = 23
  · subst h23; exact d23
  by_cases h24 : f = 24
  · subst h24; exact d24
  by_cases h26 : f = 26
  · subst h26; exact d26
  by_cases h27 : f = 27
  · subst h27; exact d27
  by_cases h28 : f = 28
  · subst h28; exact d28
  by_cases h29 : f = 29
  · subst h29; exact d29
  by_cases h30 : f = 30
  · subst h30; exact d30
  by_cases h31 : f = 31
  · subst h31; exact d31
  by_cases h32 : f = 32
  · subst h32; exact d32
  by_cases h33 : f = 33
  · subst h33; exact d33
  by_cases h34 : f = 34
  · subst h34; exact d34
  by_cases h35 : f = 35
  · subst h35; exact d35
  by_cases h36 : f = 36
  · subst h36; exact d36
  by_cases h37 : f = 37
  · subst h37; exact d37
  by_cases h38 : f = 38
  · subst h38; exact d38
  by_cases h39 : f = 39
  · subst h39; exact d39
  by_cases h40 : f = 40
  · subst h40; exact d40
  by_cases h41 : f = 41
  · subst h41; exact d41
  by_cases h42 : f = 42
  · subst h42; exact d42
  by_cases h43 : f = 43
  · subst h43; exact d43
  by_cases h44 : f = 44
  · subst h44; exact d44
  by_cases h49 : f = 49
  · subst h49; exact d49
  by_cases h50 : f = 50
  · subst h50; exact d50
  by_cases h51 : f = 51
  · subst h51; exact d51
  by_cases h52 : f = 52
  · subst h52; exact d52
  by_cases h53 : f = 53
  · subst h53; exact d53
  by_cases h54 : f = 54
  · subst h54; exact d54
  by_cases h55 : f = 55
  · subst h55; exact d55
  by_cases h56 : f = 56
  · subst h56; exact d56
  by_cases h60 : f = 60
  · subst h60; exact d60
  by_cases h61 : f = 61
  · subst h61; exact d61
  by_cases h62 : f = 62
  · subst h62; exact d62
  by_cases h63 : f = 63
  · subst h63; exact d63
  by_cases h64 : f = 64
  · subst h64; exact d64
  by_cases h65 : f = 65
  · subst h65; exact d65
  by_cases h66 : f = 66
  · subst h66; exact d66
  by_cases h67 : f = 67
  · subst h67; exact d67
  by_cases h68 : f = 68
  · subst h68; exact d68
  by_cases h69 : f = 69
  · subst h69; exact d69
  by_cases h70 : f = 70
  · subst h70; exact d70
  by_cases h71 : f = 71
  · subst h71; exact d71
  by_cases h72 : f = 72
  · subst h72; exact d72
  by_cases h73 : f = 73
  · subst h73; exact d73
  by_cases h74 : f = 74
  · subst h74; exact d74
  by_cases h25 : f = 25
  · subst h25; exact Go.AM.Td.primAs
  have h : env f = .no := by
    unfold env
    split <;> first | rfl | contradiction
  rw [h]
  trivial
end Go.AM.Bd
