/-
  THE FUNCTIONS are as the machine takes them (printed).
-/
import Derived.Test.YtacniifcgjcedaaDoorAm14
import Derived.Test.YtacniifcgjcedaaDoorEnvSd
set_option linter.unusedVariables false
set_option linter.unusedSimpArgs false
set_option linter.unusedSectionVars false
namespace Go.AM.Sd
open Go.Proofs
theorem d3 : DefOK Tryd.prog 3 Tryd.f3 (Tryd.f3.body.getD .skip) ⟨fun _ => none, fun _ _ => []⟩ := ⟨Tryd.func3, by kernel_rfl, by decide, of_decide_eq_true (by kernel_rfl), by kernel_rfl⟩
theorem d5 : DefOK Tryd.prog 5 Tryd.f5 (Tryd.f5.body.getD .skip) ⟨fun _ => none, fun _ _ => []⟩ := ⟨Tryd.func5, by kernel_rfl, by decide, of_decide_eq_true (by kernel_rfl), by kernel_rfl⟩
theorem d6 : DefOK Tryd.prog 6 Tryd.f6 (Tryd.f6.body.getD .skip) ⟨fun _ => none, fun _ _ => []⟩ := ⟨Tryd.func6, by kernel_rfl, by decide, of_decide_eq_true (by kernel_rfl), by kernel_rfl⟩
theorem d7 : DefOK Tryd.prog 7 Tryd.f7 (Tryd.f7.body.getD .skip) ⟨fun _ => none, fun _ _ => []⟩ := ⟨Tryd.func7, by kernel_rfl, by decide, of_decide_eq_true (by kernel_rfl), by kernel_rfl⟩
theorem d8 : DefOK Tryd.prog 8 Tryd.f8 (Tryd.f8.body.getD .skip) ⟨fun _ => none, fun _ _ => []⟩ := ⟨Tryd.func8, by kernel_rfl, by decide, of_decide_eq_true (by kernel_rfl), by kernel_rfl⟩
theorem d9 : DefOK Tryd.prog 9 Tryd.f9 (Tryd.f9.body.getD .skip) ⟨fun _ => none, fun _ _ => []⟩ := ⟨Tryd.func9, by kernel_rfl, by decide, of_decide_eq_true (by kernel_rfl), by kernel_rfl⟩
theorem d10 : DefOK Tryd.prog 10 Tryd.f10 (Tryd.f10.body.getD .skip) ⟨fun _ => none, fun _ _ => []⟩ := ⟨Tryd.func10, by kernel_rfl, by decide, of_decide_eq_true (by kernel_rfl), by kernel_rfl⟩
theorem d11 : DefOK Tryd.prog 11 Tryd.f11 (Tryd.f11.body.getD .skip) ⟨fun _ => none, fun i j => match i, j with | 4, 6 => [4] | _, _ => []⟩ := ⟨Tryd.func11, by kernel_rfl, by decide, of_decide_eq_true (by kernel_rfl), by kernel_rfl⟩
theorem d12 : DefOK Tryd.prog 12 Tryd.f12 (Tryd.f12.body.getD .skip) ⟨fun i => match i with | 3 => some [3, 7, 8, 9] | _ => none, fun _ _ => []⟩ := ⟨Tryd.func12, by kernel_rfl, by decide, of_decide_eq_true (by kernel_rfl), by kernel_rfl⟩
theorem d13 : DefOK Tryd.prog 13 Tryd.f13 (Tryd.f13.body.getD .skip) ⟨fun _ => none, fun _ _ => []⟩ := ⟨Tryd.func13, by kernel_rfl, by decide, of_decide_eq_true (by kernel_rfl), by kernel_rfl⟩
theorem d14 : DefOK Tryd.prog 14 Tryd.f14 (Tryd.f14.body.getD .skip) ⟨fun _ => none, fun _ _ => []⟩ := ⟨Tryd.func14, by kernel_rfl, by decide, of_decide_eq_true (by kernel_rfl), by kernel_rfl⟩
theorem d15 : DefOK Tryd.prog 15 Tryd.f15 (Tryd.f15.body.getD .skip) ⟨fun _ => none, fun _ _ => []⟩ := ⟨Tryd.func15, by kernel_rfl, by decide, of_decide_eq_true (by kernel_rfl), by kernel_rfl⟩
theorem d17 : DefOK Tryd.prog 17 Tryd.f17 (Tryd.f17.body.getD .skip) ⟨fun _ => none, fun _ _ => []⟩ := ⟨Tryd.func17, by kernel_rfl, by decide, of_decide_eq_true (by kernel_rfl), by kernel_rfl⟩
theorem d28 : DefOK Tryd.prog 28 Tryd.f28 (Tryd.f28.body.getD .skip) ⟨fun i => match i with | 2 => some [0, 1, 7, 8] | _ => none, fun _ _ => []⟩ := ⟨Tryd.func28, by kernel_rfl, by decide, of_decide_eq_true (by kernel_rfl), by kernel_rfl⟩
theorem d29 : DefOK Tryd.prog 29 Tryd.f29 (Tryd.f29.body.getD .skip) ⟨fun _ => none, fun _ _ => []⟩ := ⟨Tryd.func29, by kernel_rfl, by decide, of_decide_eq_true (by kernel_rfl), by kernel_rfl⟩
theorem d30 : DefOK Tryd.prog 30 Tryd.f30 (Tryd.f30.body.getD .skip) ⟨fun _ => none, fun _ _ => []⟩ := ⟨Tryd.func30, by kernel_rfl, by decide, of_decide_eq_true (by kernel_rfl), by kernel_rfl⟩
theorem d31 : DefOK Tryd.prog 31 Tryd.f31 (Tryd.f31.body.getD .skip) ⟨fun _ => none, fun _ _ => []⟩ := ⟨Tryd.func31, by kernel_rfl, by decide, of_decide_eq_true (by kernel_rfl), by kernel_rfl⟩
theorem d32 : DefOK Tryd.prog 32 Tryd.f32 (Tryd.f32.body.getD .skip) ⟨fun _ => none, fun _ _ => []⟩ := ⟨Tryd.func32, by kernel_rfl, by decide, of_decide_eq_true (by kernel_rfl), by kernel_rfl⟩
theorem d34 : DefOK Tryd.prog 34 Tryd.f34 (Tryd.f34.body.getD .skip) ⟨fun _ => none, fun _ _ => []⟩ := ⟨Tryd.func34, by kernel_rfl, by decide, of_decide_eq_true (by kernel_rfl), by kernel_rfl⟩
theorem d35 : DefOK Tryd.prog 35 Tryd.f35 (Tryd.f35.body.getD .skip) ⟨fun _ => none, fun _ _ => []⟩ := ⟨Tryd.func35, by kernel_rfl, by decide, of_decide_eq_true (by kernel_rfl), by kernel_rfl⟩
theorem d37 : DefOK Tryd.prog 37 Tryd.f37 (Tryd.f37.body.getD .skip) ⟨fun _ => none, fun _ _ => []⟩ := ⟨Tryd.func37, by kernel_rfl, by decide, of_decide_eq_true (by kernel_rfl), by kernel_rfl⟩
theorem envOK : EnvOK Tryd.prog env := by
  intro f
  by_cases h3 : f = 3
  · subst h3; exact d3
  by_cases h5 : f = 5
  · subst h5; exact d5
  by_cases h6 : f = 6
  · subst h6; exact d6
  by_cases h7 : f = 7
  · subst h7; exact d7
  by_cases h8 : f = 8
  · subst h8; exact d8
  by_cases h9 : f = 9
  · subst h9; exact d9
  by_cases h10 : f = 10
  · subst h10; exact d10
  by_cases h11 : f = 11
  · subst h11; exact d11
  by_cases h12 : f = 12
  · subst h12; exact d12
  by_cases h13 : f = 13
  · subst h13; exact d13
  by_cases h14 : f = 14
  · subst h14; exact d14
  by_cases h15 : f = 15
  · subst h15; exact d15
  by_cases h17 : f = 17
  · subst h17; exact d17
  by_cases h28 : f = 28
  · subst h28; exact d28
  by_cases h29 : f = 29
  · subst h29; exact d29
  by_cases h30 : f = 30
  · subst h30; exact d30
  by_cases h31 : f = 31
  · subst h31; exact d31
  by_cases h32 : f = 32
  · subst h32; exact d32
  by_cases h34 : f = 34
  · subst h34; exact d34
  by_cases h35 : f = 35
  · subst h35; exact d35
  by_cases h37 : f = 37
  · subst h37; exact d37
  by_cases h33 : f = 33
  · subst h33; exact Go.AM.Td.primAs
  have h : env f = .no := by
    unfold env
    split <;> first | rfl | contradiction
  rw [h]
  trivial
end Go.AM.Sd
