/-
  THE FUNCTIONS are as the machine takes them (printed).
-/
import Derived.Test.YtgbbeanfncflpaaAm13g
import Derived.Test.YtgbbeanfncflpaaEnvIa
set_option linter.unusedVariables false
set_option linter.unusedSimpArgs false
set_option linter.unusedSectionVars false
namespace Go.AM.Ia
open Go.Proofs
theorem d3 : DefOK Try.prog 3 Try.f3 (Try.f3.body.getD .skip) ⟨fun i => match i with | 8 => some [0, 3, 4, 31, 32] | 15 => some [0, 3, 4, 7, 8, 9, 10, 11, 31, 32] | _ => none, fun i j => match i, j with | 12, 5 => [3] | 23, 2 => [1] | 24, 3 => [1] | 24, 10 => [8] | _, _ => []⟩ := ⟨Try.func3, by kernel_rfl, by decide, of_decide_eq_true (by kernel_rfl), by kernel_rfl⟩
theorem d4 : DefOK Try.prog 4 Try.f4 (Try.f4.body.getD .skip) ⟨fun _ => none, fun _ _ => []⟩ := ⟨Try.func4, by kernel_rfl, by decide, of_decide_eq_true (by kernel_rfl), by kernel_rfl⟩
theorem d5 : DefOK Try.prog 5 Try.f5 (Try.f5.body.getD .skip) ⟨fun i => match i with | 4 => some [0, 9, 10] | 9 => some [0, 3, 9, 10, 25, 26] | _ => none, fun _ _ => []⟩ := ⟨Try.func5, by kernel_rfl, by decide, of_decide_eq_true (by kernel_rfl), by kernel_rfl⟩
theorem d6 : DefOK Try.prog 6 Try.f6 (Try.f6.body.getD .skip) ⟨fun _ => none, fun _ _ => []⟩ := ⟨Try.func6, by kernel_rfl, by decide, of_decide_eq_true (by kernel_rfl), by kernel_rfl⟩
theorem d7 : DefOK Try.prog 7 Try.f7 (Try.f7.body.getD .skip) ⟨fun i => match i with | 6 => some [0, 4, 5, 18] | _ => none, fun _ _ => []⟩ := ⟨Try.func7, by kernel_rfl, by decide, of_decide_eq_true (by kernel_rfl), by kernel_rfl⟩
theorem d8 : DefOK Try.prog 8 Try.f8 (Try.f8.body.getD .skip) ⟨fun _ => none, fun _ _ => []⟩ := ⟨Try.func8, by kernel_rfl, by decide, of_decide_eq_true (by kernel_rfl), by kernel_rfl⟩
theorem d9 : DefOK Try.prog 9 Try.f9 (Try.f9.body.getD .skip) ⟨fun _ => none, fun _ _ => []⟩ := ⟨Try.func9, by kernel_rfl, by decide, of_decide_eq_true (by kernel_rfl), by kernel_rfl⟩
theorem d10 : DefOK Try.prog 10 Try.f10 (Try.f10.body.getD .skip) ⟨fun _ => none, fun _ _ => []⟩ := ⟨Try.func10, by kernel_rfl, by decide, of_decide_eq_true (by kernel_rfl), by kernel_rfl⟩
theorem d11 : DefOK Try.prog 11 Try.f11 (Try.f11.body.getD .skip) ⟨fun i => match i with | 3 => some [0, 2, 3, 6, 7] | _ => none, fun _ _ => []⟩ := ⟨Try.func11, by kernel_rfl, by decide, of_decide_eq_true (by kernel_rfl), by kernel_rfl⟩
theorem d12 : DefOK Try.prog 12 Try.f12 (Try.f12.body.getD .skip) ⟨fun _ => none, fun i j => match i, j with | 12, 8 => [3] | 12, 14 => [8] | 12, 24 => [8] | 12, 25 => [3] | 16, 14 => [3, 8] | _, _ => []⟩ := ⟨Try.func12, by kernel_rfl, by decide, of_decide_eq_true (by kernel_rfl), by kernel_rfl⟩
theorem d13 : DefOK Try.prog 13 Try.f13 (Try.f13.body.getD .skip) ⟨fun _ => none, fun _ _ => []⟩ := ⟨Try.func13, by kernel_rfl, by decide, of_decide_eq_true (by kernel_rfl), by kernel_rfl⟩
theorem d14 : DefOK Try.prog 14 Try.f14 (Try.f14.body.getD .skip) ⟨fun _ => none, fun _ _ => []⟩ := ⟨Try.func14, by kernel_rfl, by decide, of_decide_eq_true (by kernel_rfl), by kernel_rfl⟩
theorem d15 : DefOK Try.prog 15 Try.f15 (Try.f15.body.getD .skip) ⟨fun _ => none, fun _ _ => []⟩ := ⟨Try.func15, by kernel_rfl, by decide, of_decide_eq_true (by kernel_rfl), by kernel_rfl⟩
theorem d16 : DefOK Try.prog 16 Try.f16 (Try.f16.body.getD .skip) ⟨fun _ => none, fun _ _ => []⟩ := ⟨Try.func16, by kernel_rfl, by decide, of_decide_eq_true (by kernel_rfl), by kernel_rfl⟩
theorem d17 : DefOK Try.prog 17 Try.f17 (Try.f17.body.getD .skip) ⟨fun _ => none, fun _ _ => []⟩ := ⟨Try.func17, by kernel_rfl, by decide, of_decide_eq_true (by kernel_rfl), by kernel_rfl⟩
theorem d18 : DefOK Try.prog 18 Try.f18 (Try.f18.body.getD .skip) ⟨fun i => match i with | 6 => some [1, 7, 26, 27, 28] | _ => none, fun _ _ => []⟩ := ⟨Try.func18, by kernel_rfl, by decide, of_decide_eq_true (by kernel_rfl), by kernel_rfl⟩
theorem d19 : DefOK Try.prog 19 Try.f19 (Try.f19.body.getD .skip) ⟨fun _ => none, fun _ _ => []⟩ := ⟨Try.func19, by kernel_rfl, by decide, of_decide_eq_true (by kernel_rfl), by kernel_rfl⟩
theorem d20 : DefOK Try.prog 20 Try.f20 (Try.f20.body.getD .skip) ⟨fun _ => none, fun _ _ => []⟩ := ⟨Try.func20, by kernel_rfl, by decide, of_decide_eq_true (by kernel_rfl), by kernel_rfl⟩
theorem d21 : DefOK Try.prog 21 Try.f21 (Try.f21.body.getD .skip) ⟨fun i => match i with | 2 => some [0, 7] | 5 => some [0, 3, 7, 10] | _ => none, fun _ _ => []⟩ := ⟨Try.func21, by kernel_rfl, by decide, of_decide_eq_true (by kernel_rfl), by kernel_rfl⟩
theorem d22 : DefOK Try.prog 22 Try.f22 (Try.f22.body.getD .skip) ⟨fun i => match i with | 2 => some [7, 8] | 5 => some [7, 8, 11, 12] | _ => none, fun _ _ => []⟩ := ⟨Try.func22, by kernel_rfl, by decide, of_decide_eq_true (by kernel_rfl), by kernel_rfl⟩
theorem d23 : DefOK Try.prog 23 Try.f23 (Try.f23.body.getD .skip) ⟨fun _ => none, fun i j => match i, j with | 7, 6 => [4] | _, _ => []⟩ := ⟨Try.func23, by kernel_rfl, by decide, of_decide_eq_true (by kernel_rfl), by kernel_rfl⟩
theorem d24 : DefOK Try.prog 24 Try.f24 (Try.f24.body.getD .skip) ⟨fun _ => none, fun _ _ => []⟩ := ⟨Try.func24, by kernel_rfl, by decide, of_decide_eq_true (by kernel_rfl), by kernel_rfl⟩
theorem d25 : DefOK Try.prog 25 Try.f25 (Try.f25.body.getD .skip) ⟨fun _ => none, fun _ _ => []⟩ := ⟨Try.func25, by kernel_rfl, by decide, of_decide_eq_true (by kernel_rfl), by kernel_rfl⟩
theorem d26 : DefOK Try.prog 26 Try.f26 (Try.f26.body.getD .skip) ⟨fun _ => none, fun _ _ => []⟩ := ⟨Try.func26, by kernel_rfl, by decide, of_decide_eq_true (by kernel_rfl), by kernel_rfl⟩
theorem d27 : DefOK Try.prog 27 Try.f27 (Try.f27.body.getD .skip) ⟨fun _ => none, fun i j => match i, j with | 1, 4 => [2] | _, _ => []⟩ := ⟨Try.func27, by kernel_rfl, by decide, of_decide_eq_true (by kernel_rfl), by kernel_rfl⟩
theorem d28 : DefOK Try.prog 28 Try.f28 (Try.f28.body.getD .skip) ⟨fun i => match i with | 2 => some [0, 1, 11, 12, 13] | _ => none, fun _ _ => []⟩ := ⟨Try.func28, by kernel_rfl, by decide, of_decide_eq_true (by kernel_rfl), by kernel_rfl⟩
theorem d29 : DefOK Try.prog 29 Try.f29 (Try.f29.body.getD .skip) ⟨fun _ => none, fun _ _ => []⟩ := ⟨Try.func29, by kernel_rfl, by decide, of_decide_eq_true (by kernel_rfl), by kernel_rfl⟩
theorem d30 : DefOK Try.prog 30 Try.f30 (Try.f30.body.getD .skip) ⟨fun _ => none, fun _ _ => []⟩ := ⟨Try.func30, by kernel_rfl, by decide, of_decide_eq_true (by kernel_rfl), by kernel_rfl⟩
theorem d31 : DefOK Try.prog 31 Try.f31 (Try.f31.body.getD .skip) ⟨fun _ => none, fun _ _ => []⟩ := ⟨Try.func31, by kernel_rfl, by decide, of_decide_eq_true (by kernel_rfl), by kernel_rfl⟩
theorem d32 : DefOK Try.prog 32 Try.f32 (Try.f32.body.getD .skip) ⟨fun _ => none, fun _ _ => []⟩ := ⟨Try.func32, by kernel_rfl, by decide, of_decide_eq_true (by kernel_rfl), by kernel_rfl⟩
theorem d33 : DefOK Try.prog 33 Try.f33 (Try.f33.body.getD .skip) ⟨fun _ => none, fun _ _ => []⟩ := ⟨Try.func33, by kernel_rfl, by decide, of_decide_eq_true (by kernel_rfl), by kernel_rfl⟩
theorem d34 : DefOK Try.prog 34 Try.f34 (Try.f34.body.getD .skip) ⟨fun i => match i with | 5 => some [0, 3, 12, 13, 14] | _ => none, fun _ _ => []⟩ := ⟨Try.func34, by kernel_rfl, by decide, of_decide_eq_true (by kernel_rfl), by kernel_rfl⟩
theorem d35 : DefOK Try.prog 35 Try.f35 (Try.f35.body.getD .skip) ⟨fun _ => none, fun _ _ => []⟩ := ⟨Try.func35, by kernel_rfl, by decide, of_decide_eq_true (by kernel_rfl), by kernel_rfl⟩
theorem d36 : DefOK Try.prog 36 Try.f36 (Try.f36.body.getD .skip) ⟨fun _ => none, fun i j => match i, j with | 1, 8 => [3] | _, _ => []⟩ := ⟨Try.func36, by kernel_rfl, by decide, of_decide_eq_true (by kernel_rfl), by kernel_rfl⟩
theorem d37 : DefOK Try.prog 37 Try.f37 (Try.f37.body.getD .skip) ⟨fun _ => none, fun _ _ => []⟩ := ⟨Try.func37, by kernel_rfl, by decide, of_decide_eq_true (by kernel_rfl), by kernel_rfl⟩
theorem d38 : DefOK Try.prog 38 Try.f38 (Try.f38.body.getD .skip) ⟨fun _ => none, fun _ _ => []⟩ := ⟨Try.func38, by kernel_rfl, by decide, of_decide_eq_true (by kernel_rfl), by kernel_rfl⟩
theorem d39 : DefOK Try.prog 39 Try.f39 (Try.f39.body.getD .skip) ⟨fun i => match i with | 2 => some [0, 1] | _ => none, fun _ _ => []⟩ := ⟨Try.func39, by kernel_rfl, by decide, of_decide_eq_true (by kernel_rfl), by kernel_rfl⟩
theorem d40 : DefOK Try.prog 40 Try.f40 (Try.f40.body.getD .skip) ⟨fun _ => none, fun _ _ => []⟩ := ⟨Try.func40, by kernel_rfl, by decide, of_decide_eq_true (by kernel_rfl), by kernel_rfl⟩
theorem d41 : DefOK Try.prog 41 Try.f41 (Try.f41.body.getD .skip) ⟨fun i => match i with | 4 => some [0, 1, 12, 13] | _ => none, fun _ _ => []⟩ := ⟨Try.func41, by kernel_rfl, by decide, of_decide_eq_true (by kernel_rfl), by kernel_rfl⟩
theorem d42 : DefOK Try.prog 42 Try.f42 (Try.f42.body.getD .skip) ⟨fun _ => none, fun _ _ => []⟩ := ⟨Try.func42, by kernel_rfl, by decide, of_decide_eq_true (by kernel_rfl), by kernel_rfl⟩
theorem d43 : DefOK Try.prog 43 Try.f43 (Try.f43.body.getD .skip) ⟨fun _ => none, fun _ _ => []⟩ := ⟨Try.func43, by kernel_rfl, by decide, of_decide_eq_true (by kernel_rfl), by kernel_rfl⟩
theorem d44 : DefOK Try.prog 44 Try.f44 (Try.f44.body.getD .skip) ⟨fun _ => none, fun _ _ => []⟩ := ⟨Try.func44, by kernel_rfl, by decide, of_decide_eq_true (by kernel_rfl), by kernel_rfl⟩
theorem d45 : DefOK Try.prog 45 Try.f45 (Try.f45.body.getD .skip) ⟨fun _ => none, fun _ _ => []⟩ := ⟨Try.func45, by kernel_rfl, by decide, of_decide_eq_true (by kernel_rfl), by kernel_rfl⟩
theorem d46 : DefOK Try.prog 46 Try.f46 (Try.f46.body.getD .skip) ⟨fun _ => none, fun _ _ => []⟩ := ⟨Try.func46, by kernel_rfl, by decide, of_decide_eq_true (by kernel_rfl), by kernel_rfl⟩
theorem d47 : DefOK Try.prog 47 Try.f47 (Try.f47.body.getD .skip) ⟨fun i => match i with | 3 => some [0, 3, 9, 10, 11] | 11 => some [6, 25, 26, 27] | _ => none, fun _ _ => []⟩ := ⟨Try.func47, by kernel_rfl, by decide, of_decide_eq_true (by kernel_rfl), by kernel_rfl⟩
theorem d48 : DefOK Try.prog 48 Try.f48 (Try.f48.body.getD .skip) ⟨fun i => match i with | 3 => some [3, 6, 7, 8] | _ => none, fun _ _ => []⟩ := ⟨Try.func48, by kernel_rfl, by decide, of_decide_eq_true (by kernel_rfl), by kernel_rfl⟩
theorem d49 : DefOK Try.prog 49 Try.f49 (Try.f49.body.getD .skip) ⟨fun _ => none, fun _ _ => []⟩ := ⟨Try.func49, by kernel_rfl, by decide, of_decide_eq_true (by kernel_rfl), by kernel_rfl⟩
theorem d50 : DefOK Try.prog 50 Try.f50 (Try.f50.body.getD .skip) ⟨fun _ => none, fun _ _ => []⟩ := ⟨Try.func50, by kernel_rfl, by decide, of_decide_eq_true (by kernel_rfl), by kernel_rfl⟩
theorem envOK : EnvOK Try.prog env := by
  intro f
  by_cases h3 : f = 3
  · subst h3; exact d3
  by_cases h4 : f = 4
  · subst h4; exact d4
  by_cases h5 : f = 5
  · subst h5; exact d5
  by_cases h6 : f = 6
  · subst h6; exact d6
  by_cases h7 : f = 7
  · subst h7; exact d7
  by_cases h8 : f = 8
  · subst h8; exact d8
  by_cases h9 : f = 9
  · subst h9; exact d9
  by_cases h10 : f = 10
  · subst h10; exact d10
  by_cases h11 : f = 11
  · subst h11; exact d11
  by_cases h12 : f = 12
  · subst h12; exact d12
  by_cases h13 : f = 13
  · subst h13; exact d13
  by_cases h14 : f = 14
  · subst h14; exact d14
  by_cases h15 : f = 15
  · subst h15; exact d15
  by_cases h16 : f = 16
  · subst h16; exact d16
  by_cases h17 : f = 17
  · subst h17; exact d17
  by_cases h18 : f = 18
  · subst h18; exact d18
  by_cases h19 : f = 19
  · subst h19; exact d19
  by_cases h20 : f = 20
  · subst h20; exact d20
  by_cases h21 : f = 21
  · subst h21; exact d21
  by_cases h22 : f = 22
  · subst h22; exact d22
  by_cases h23 : f = 23
  · subst h23; exact d23
  by_cases h24 : f = 24
  · subst h24; exact d24
  by_cases h25 : f = 25
  · subst h25; exact d25
  by_cases h26 : f = 26
  · subst h26; exact d26
  by_cases h27 : f = 27
  · subst h27; exact d27
  by_cases h28 : f = 28
  · subst h28; exact d28
  by_cases h29 : f = 29
  · subst h29; exact d29
  by_cases h30 : f = 30
  · subst h30; exact d30
  by_cases h31 : f = 31
  · subst h31; exact d31
  by_cases h32 : f = 32
  · subst h32; exact d32
  by_cases h33 : f = 33
  · subst h33; exact d33
  by_cases h34 : f = 34
  · subst h34; exact d34
  by_cases h35 : f = 35
  · subst h35; exact d35
  by_cases h36 : f = 36
  · subst h36; exact d36
  by_cases h37 : f = 37
  · subst h37; exact d37
  by_cases h38 : f = 38
  · subst h38; exact d38
  by_cases h39 : f = 39
  · subst h39; exact d39
  by_cases h40 : f = 40
  · subst h40; exact d40
  by_cases h41 : f = 41
  · subst h41; exact d41
  by_cases h42 : f = 42
  · subst h42; exact d42
  by_cases h43 : f = 43
  · subst h43; exact d43
  by_cases h44 : f = 44
  · subst h44; exact d44
  by_cases h45 : f = 45
  · subst h45; exact d45
  by_cases h46 : f = 46
  · subst h46; exact d46
  by_cases h47 : f = 47
  · subst h47; exact d47
  by_cases h48 : f = 48
  · subst h48; exact d48
  by_cases h49 : f = 49
  · subst h49; exact d49
  by_cases h50 : f = 50
  · subst h50; exact d50
  have h : env f = .no := by
    unfold env
    split <;> first | rfl | contradiction
  rw [h]
  trivial
end Go.AM.Ia
