/-
  THE FUNCTIONS are as the machine takes them (printed).
-/
import Derived.Test.YtiiophkfecpbfaaDoorAm14
import Derived.Test.YtiiophkfecpbfaaDoorEnvFi
set_option linter.unusedVariables false
set_option linter.unusedSimpArgs false
set_option linter.unusedSectionVars false
namespace Go.AM.Fi
open Go.Proofs
theorem d3 : DefOK Tryd.prog 3 Tryd.f3 (Tryd.f3.body.getD .skip) ⟨fun _ => none, fun _ _ => []⟩ := ⟨Tryd.func3, by kernel_rfl, by decide, of_decide_eq_true (by kernel_rfl), by kernel_rfl⟩
theorem d5 : DefOK Tryd.prog 5 Tryd.f5 (Tryd.f5.body.getD .skip) ⟨fun _ => none, fun i j => match i, j with | 8, 33 => [32] | 8, 36 => [32] | _, _ => []⟩ := ⟨Tryd.func5, by kernel_rfl, by decide, of_decide_eq_true (by kernel_rfl), by kernel_rfl⟩
theorem d9 : DefOK Tryd.prog 9 Tryd.f9 (Tryd.f9.body.getD .skip) ⟨fun _ => none, fun _ _ => []⟩ := ⟨Tryd.func9, by kernel_rfl, by decide, of_decide_eq_true (by kernel_rfl), by kernel_rfl⟩
theorem d10 : DefOK Tryd.prog 10 Tryd.f10 (Tryd.f10.body.getD .skip) ⟨fun _ => none, fun _ _ => []⟩ := ⟨Tryd.func10, by kernel_rfl, by decide, of_decide_eq_true (by kernel_rfl), by kernel_rfl⟩
theorem d11 : DefOK Tryd.prog 11 Tryd.f11 (Tryd.f11.body.getD .skip) ⟨fun _ => none, fun _ _ => []⟩ := ⟨Tryd.func11, by kernel_rfl, by decide, of_decide_eq_true (by kernel_rfl), by kernel_rfl⟩
theorem d12 : DefOK Tryd.prog 12 Tryd.f12 (Tryd.f12.body.getD .skip) ⟨fun _ => none, fun _ _ => []⟩ := ⟨Tryd.func12, by kernel_rfl, by decide, of_decide_eq_true (by kernel_rfl), by kernel_rfl⟩
theorem d14 : DefOK Tryd.prog 14 Tryd.f14 (Tryd.f14.body.getD .skip) ⟨fun _ => none, fun i j => match i, j with | 5, 6 => [1] | _, _ => []⟩ := ⟨Tryd.func14, by kernel_rfl, by decide, of_decide_eq_true (by kernel_rfl), by kernel_rfl⟩
theorem d15 : DefOK Tryd.prog 15 Tryd.f15 (Tryd.f15.body.getD .skip) ⟨fun _ => none, fun _ _ => []⟩ := ⟨Tryd.func15, by kernel_rfl, by decide, of_decide_eq_true (by kernel_rfl), by kernel_rfl⟩
theorem d17 : DefOK Tryd.prog 17 Tryd.f17 (Tryd.f17.body.getD .skip) ⟨fun _ => none, fun _ _ => []⟩ := ⟨Tryd.func17, by kernel_rfl, by decide, of_decide_eq_true (by kernel_rfl), by kernel_rfl⟩
theorem d18 : DefOK Tryd.prog 18 Tryd.f18 (Tryd.f18.body.getD .skip) ⟨fun i => match i with | 4 => some [0, 8, 9] | _ => none, fun _ _ => []⟩ := ⟨Tryd.func18, by kernel_rfl, by decide, of_decide_eq_true (by kernel_rfl), by kernel_rfl⟩
theorem d19 : DefOK Tryd.prog 19 Tryd.f19 (Tryd.f19.body.getD .skip) ⟨fun i => match i with | 5 => some [0, 5, 12, 13] | _ => none, fun _ _ => []⟩ := ⟨Tryd.func19, by kernel_rfl, by decide, of_decide_eq_true (by kernel_rfl), by kernel_rfl⟩
theorem d22 : DefOK Tryd.prog 22 Tryd.f22 (Tryd.f22.body.getD .skip) ⟨fun _ => none, fun _ _ => []⟩ := ⟨Tryd.func22, by kernel_rfl, by decide, of_decide_eq_true (by kernel_rfl), by kernel_rfl⟩
theorem d30 : DefOK Tryd.prog 30 Tryd.f30 (Tryd.f30.body.getD .skip) ⟨fun _ => none, fun i j => match i, j with | 1, 9 => [3] | _, _ => []⟩ := ⟨Tryd.func30, by kernel_rfl, by decide, of_decide_eq_true (by kernel_rfl), by kernel_rfl⟩
theorem envOK : EnvOK Tryd.prog env := by
  intro f
  by_cases h3 : f = 3
  · subst h3; exact d3
  by_cases h5 : f = 5
  · subst h5; exact d5
  by_cases h9 : f = 9
  · subst h9; exact d9
  by_cases h10 : f = 10
  · subst h10; exact d10
  by_cases h11 : f = 11
  · subst h11; exact d11
  by_cases h12 : f = 12
  · subst h12; exact d12
  by_cases h14 : f = 14
  · subst h14; exact d14
  by_cases h15 : f = 15
  · subst h15; exact d15
  by_cases h17 : f = 17
  · subst h17; exact d17
  by_cases h18 : f = 18
  · subst h18; exact d18
  by_cases h19 : f = 19
  · subst h19; exact d19
  by_cases h22 : f = 22
  · subst h22; exact d22
  by_cases h30 : f = 30
  · subst h30; exact d30
  by_cases h20 : f = 20
  · subst h20; exact Go.AM.Td.primAs
  by_cases h21 : f = 21
  · subst h21; exact Go.AM.Td.primIs
  by_cases h37 : f = 37
  · subst h37; exact Go.AM.Td.primItoa
  have h : env f = .no := by
    unfold env
    split <;> first | rfl | contradiction
  rw [h]
  trivial
end Go.AM.Fi
