/-
  THE FUNCTIONS are as the machine takes them (printed).
-/
import Derived.Test.YtiiophkfecpbfaaDoorAm14
import Derived.Test.YtiiophkfecpbfaaDoorEnvFn
set_option linter.unusedVariables false
set_option linter.unusedSimpArgs false
set_option linter.unusedSectionVars false
namespace Go.AM.Fn
open Go.Proofs
theorem d4 : DefOK Tryd.prog 4 Tryd.f4 (Tryd.f4.body.getD .skip) ⟨fun _ => none, fun _ _ => []⟩ := ⟨Tryd.func4, by kernel_rfl, by decide, of_decide_eq_true (by kernel_rfl), by kernel_rfl⟩
theorem d9 : DefOK Tryd.prog 9 Tryd.f9 (Tryd.f9.body.getD .skip) ⟨fun _ => none, fun _ _ => []⟩ := ⟨Tryd.func9, by kernel_rfl, by decide, of_decide_eq_true (by kernel_rfl), by kernel_rfl⟩
theorem d10 : DefOK Tryd.prog 10 Tryd.f10 (Tryd.f10.body.getD .skip) ⟨fun _ => none, fun _ _ => []⟩ := ⟨Tryd.func10, by kernel_rfl, by decide, of_decide_eq_true (by kernel_rfl), by kernel_rfl⟩
theorem d12 : DefOK Tryd.prog 12 Tryd.f12 (Tryd.f12.body.getD .skip) ⟨fun _ => none, fun _ _ => []⟩ := ⟨Tryd.func12, by kernel_rfl, by decide, of_decide_eq_true (by kernel_rfl), by kernel_rfl⟩
theorem d13 : DefOK Tryd.prog 13 Tryd.f13 (Tryd.f13.body.getD .skip) ⟨fun i => match i with | 2 => some [1, 9, 10, 11] | _ => none, fun _ _ => []⟩ := ⟨Tryd.func13, by kernel_rfl, by decide, of_decide_eq_true (by kernel_rfl), by kernel_rfl⟩
theorem d14 : DefOK Tryd.prog 14 Tryd.f14 (Tryd.f14.body.getD .skip) ⟨fun _ => none, fun i j => match i, j with | 5, 6 => [1] | _, _ => []⟩ := ⟨Tryd.func14, by kernel_rfl, by decide, of_decide_eq_true (by kernel_rfl), by kernel_rfl⟩
theorem d15 : DefOK Tryd.prog 15 Tryd.f15 (Tryd.f15.body.getD .skip) ⟨fun _ => none, fun _ _ => []⟩ := ⟨Tryd.func15, by kernel_rfl, by decide, of_decide_eq_true (by kernel_rfl), by kernel_rfl⟩
theorem d17 : DefOK Tryd.prog 17 Tryd.f17 (Tryd.f17.body.getD .skip) ⟨fun _ => none, fun _ _ => []⟩ := ⟨Tryd.func17, by kernel_rfl, by decide, of_decide_eq_true (by kernel_rfl), by kernel_rfl⟩
theorem d29 : DefOK Tryd.prog 29 Tryd.f29 (Tryd.f29.body.getD .skip) ⟨fun i => match i with | 3 => some [0, 3, 4] | _ => none, fun _ _ => []⟩ := ⟨Tryd.func29, by kernel_rfl, by decide, of_decide_eq_true (by kernel_rfl), by kernel_rfl⟩
theorem d30 : DefOK Tryd.prog 30 Tryd.f30 (Tryd.f30.body.getD .skip) ⟨fun _ => none, fun i j => match i, j with | 1, 9 => [3] | _, _ => []⟩ := ⟨Tryd.func30, by kernel_rfl, by decide, of_decide_eq_true (by kernel_rfl), by kernel_rfl⟩
theorem envOK : EnvOK Tryd.prog env := by
  intro f
  by_cases h4 : f = 4
  · subst h4; exact d4
  by_cases h9 : f = 9
  · subst h9; exact d9
  by_cases h10 : f = 10
  · subst h10; exact d10
  by_cases h12 : f = 12
  · subst h12; exact d12
  by_cases h13 : f = 13
  · subst h13; exact d13
  by_cases h14 : f = 14
  · subst h14; exact d14
  by_cases h15 : f = 15
  · subst h15; exact d15
  by_cases h17 : f = 17
  · subst h17; exact d17
  by_cases h29 : f = 29
  · subst h29; exact d29
  by_cases h30 : f = 30
  · subst h30; exact d30
  by_cases h20 : f = 20
  · subst h20; exact Go.AM.Td.primAs
  by_cases h21 : f = 21
  · subst h21; exact Go.AM.Td.primIs
  by_cases h37 : f = 37
  · subst h37; exact Go.AM.Td.primItoa
  by_cases h16 : f = 16
  · subst h16; exact Go.AM.Td.primDigits
  have h : env f = .no := by
    unfold env
    split <;> first | rfl | contradiction
  rw [h]
  trivial
end Go.AM.Fn
