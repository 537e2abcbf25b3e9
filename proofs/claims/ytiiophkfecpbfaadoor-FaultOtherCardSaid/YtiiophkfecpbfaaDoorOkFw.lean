/-
  THE FUNCTIONS are as the machine takes them (printed).
-/
import Derived.Test.YtiiophkfecpbfaaDoorAm13g
import Derived.Test.YtiiophkfecpbfaaDoorEnvFw
set_option linter.unusedVariables false
set_option linter.unusedSimpArgs false
set_option linter.unusedSectionVars false
namespace Go.AM.Fw
open Go.Proofs
theorem d6 : DefOK Tryd.prog 6 Tryd.f6 (Tryd.f6.body.getD .skip) ⟨fun _ => none, fun i j => match i, j with | 7, 13 => [9] | 7, 35 => [32] | 7, 38 => [35] | _, _ => []⟩ := ⟨Tryd.func6, by kernel_rfl, by decide, of_decide_eq_true (by kernel_rfl), by kernel_rfl⟩
theorem d7 : DefOK Tryd.prog 7 Tryd.f7 (Tryd.f7.body.getD .skip) ⟨fun i => match i with | 6 => some [0, 1, 5, 6, 28, 29] | 13 => some [1, 5, 6, 8, 9, 48, 49] | _ => none, fun _ _ => []⟩ := ⟨Tryd.func7, by kernel_rfl, by decide, of_decide_eq_true (by kernel_rfl), by kernel_rfl⟩
theorem d8 : DefOK Tryd.prog 8 Tryd.f8 (Tryd.f8.body.getD .skip) ⟨fun _ => none, fun _ _ => []⟩ := ⟨Tryd.func8, by kernel_rfl, by decide, of_decide_eq_true (by kernel_rfl), by kernel_rfl⟩
theorem d9 : DefOK Tryd.prog 9 Tryd.f9 (Tryd.f9.body.getD .skip) ⟨fun _ => none, fun _ _ => []⟩ := ⟨Tryd.func9, by kernel_rfl, by decide, of_decide_eq_true (by kernel_rfl), by kernel_rfl⟩
theorem d10 : DefOK Tryd.prog 10 Tryd.f10 (Tryd.f10.body.getD .skip) ⟨fun _ => none, fun _ _ => []⟩ := ⟨Tryd.func10, by kernel_rfl, by decide, of_decide_eq_true (by kernel_rfl), by kernel_rfl⟩
theorem d11 : DefOK Tryd.prog 11 Tryd.f11 (Tryd.f11.body.getD .skip) ⟨fun _ => none, fun _ _ => []⟩ := ⟨Tryd.func11, by kernel_rfl, by decide, of_decide_eq_true (by kernel_rfl), by kernel_rfl⟩
theorem d12 : DefOK Tryd.prog 12 Tryd.f12 (Tryd.f12.body.getD .skip) ⟨fun _ => none, fun _ _ => []⟩ := ⟨Tryd.func12, by kernel_rfl, by decide, of_decide_eq_true (by kernel_rfl), by kernel_rfl⟩
theorem d13 : DefOK Tryd.prog 13 Tryd.f13 (Tryd.f13.body.getD .skip) ⟨fun i => match i with | 2 => some [1, 9, 10, 11] | _ => none, fun _ _ => []⟩ := ⟨Tryd.func13, by kernel_rfl, by decide, of_decide_eq_true (by kernel_rfl), by kernel_rfl⟩
theorem d14 : DefOK Tryd.prog 14 Tryd.f14 (Tryd.f14.body.getD .skip) ⟨fun _ => none, fun i j => match i, j with | 5, 6 => [1] | _, _ => []⟩ := ⟨Tryd.func14, by kernel_rfl, by decide, of_decide_eq_true (by kernel_rfl), by kernel_rfl⟩
theorem d15 : DefOK Tryd.prog 15 Tryd.f15 (Tryd.f15.body.getD .skip) ⟨fun _ => none, fun _ _ => []⟩ := ⟨Tryd.func15, by kernel_rfl, by decide, of_decide_eq_true (by kernel_rfl), by kernel_rfl⟩
theorem d17 : DefOK Tryd.prog 17 Tryd.f17 (Tryd.f17.body.getD .skip) ⟨fun _ => none, fun _ _ => []⟩ := ⟨Tryd.func17, by kernel_rfl, by decide, of_decide_eq_true (by kernel_rfl), by kernel_rfl⟩
theorem d18 : DefOK Tryd.prog 18 Tryd.f18 (Tryd.f18.body.getD .skip) ⟨fun i => match i with | 4 => some [0, 8, 9] | _ => none, fun _ _ => []⟩ := ⟨Tryd.func18, by kernel_rfl, by decide, of_decide_eq_true (by kernel_rfl), by kernel_rfl⟩
theorem d19 : DefOK Tryd.prog 19 Tryd.f19 (Tryd.f19.body.getD .skip) ⟨fun i => match i with | 5 => some [0, 5, 12, 13] | _ => none, fun _ _ => []⟩ := ⟨Tryd.func19, by kernel_rfl, by decide, of_decide_eq_true (by kernel_rfl), by kernel_rfl⟩
theorem d22 : DefOK Tryd.prog 22 Tryd.f22 (Tryd.f22.body.getD .skip) ⟨fun _ => none, fun _ _ => []⟩ := ⟨Tryd.func22, by kernel_rfl, by decide, of_decide_eq_true (by kernel_rfl), by kernel_rfl⟩
theorem d23 : DefOK Tryd.prog 23 Tryd.f23 (Tryd.f23.body.getD .skip) ⟨fun i => match i with | 3 => some [3, 7, 8, 9] | _ => none, fun _ _ => []⟩ := ⟨Tryd.func23, by kernel_rfl, by decide, of_decide_eq_true (by kernel_rfl), by kernel_rfl⟩
theorem d24 : DefOK Tryd.prog 24 Tryd.f24 (Tryd.f24.body.getD .skip) ⟨fun i => match i with | 4 => some [0, 1, 12, 13] | _ => none, fun _ _ => []⟩ := ⟨Tryd.func24, by kernel_rfl, by decide, of_decide_eq_true (by kernel_rfl), by kernel_rfl⟩
theorem d25 : DefOK Tryd.prog 25 Tryd.f25 (Tryd.f25.body.getD .skip) ⟨fun _ => none, fun _ _ => []⟩ := ⟨Tryd.func25, by kernel_rfl, by decide, of_decide_eq_true (by kernel_rfl), by kernel_rfl⟩
theorem d26 : DefOK Tryd.prog 26 Tryd.f26 (Tryd.f26.body.getD .skip) ⟨fun i => match i with | 3 => some [0, 3, 4] | _ => none, fun i j => match i, j with | 5, 12 => [5] | _, _ => []⟩ := ⟨Tryd.func26, by kernel_rfl, by decide, of_decide_eq_true (by kernel_rfl), by kernel_rfl⟩
theorem d27 : DefOK Tryd.prog 27 Tryd.f27 (Tryd.f27.body.getD .skip) ⟨fun i => match i with | 2 => some [0, 1, 6] | _ => none, fun _ _ => []⟩ := ⟨Tryd.func27, by kernel_rfl, by decide, of_decide_eq_true (by kernel_rfl), by kernel_rfl⟩
theorem d28 : DefOK Tryd.prog 28 Tryd.f28 (Tryd.f28.body.getD .skip) ⟨fun i => match i with | 3 => some [0, 1, 5, 6] | _ => none, fun i j => match i, j with | 5, 13 => [5] | _, _ => []⟩ := ⟨Tryd.func28, by kernel_rfl, by decide, of_decide_eq_true (by kernel_rfl), by kernel_rfl⟩
theorem d29 : DefOK Tryd.prog 29 Tryd.f29 (Tryd.f29.body.getD .skip) ⟨fun i => match i with | 3 => some [0, 3, 4] | _ => none, fun _ _ => []⟩ := ⟨Tryd.func29, by kernel_rfl, by decide, of_decide_eq_true (by kernel_rfl), by kernel_rfl⟩
theorem d30 : DefOK Tryd.prog 30 Tryd.f30 (Tryd.f30.body.getD .skip) ⟨fun _ => none, fun i j => match i, j with | 1, 9 => [3] | _, _ => []⟩ := ⟨Tryd.func30, by kernel_rfl, by decide, of_decide_eq_true (by kernel_rfl), by kernel_rfl⟩
theorem d73 : DefOK Tryd.prog 73 Tryd.f73 (Tryd.f73.body.getD .skip) ⟨fun _ => none, fun _ _ => []⟩ := ⟨Tryd.func73, by kernel_rfl, by decide, of_decide_eq_true (by kernel_rfl), by kernel_rfl⟩
theorem envOK : EnvOK Tryd.prog env := by
  intro f
  by_cases h6 : f = 6
  · subst h6; exact d6
  by_cases h7 : f = 7
  · subst h7; exact d7
  by_cases h8 : f = 8
  · subst h8; exact d8
  by_cases h9 : f = 9
  · subst h9; exact d9
  by_cases h10 : f = 10
  · subst h10; exact d10
  by_cases h11 : f = 11
  · subst h11; exact d11
  by_cases h12 : f = 12
  · subst h12; exact d12
  by_cases h13 : f = 13
  · subst h13; exact d13
  by_cases h14 : f = 14
  · subst h14; exact d14
  by_cases h15 : f = 15
  · subst h15; exact d15
  by_cases h17 : f = 17
  · subst h17; exact d17
  by_cases h18 : f = 18
  · subst h18; exact d18
  by_cases h19 : f = 19
  · subst h19; exact d19
  by_cases h22 : f = 22
  · subst h22; exact d22
  by_cases h23 : f = 23
  · subst h23; exact d23
  by_cases h24 : f = 24
  · subst h24; exact d24
  by_cases h25 : f = 25
  · subst h25; exact d25
  by_cases h26 : f = 26
  · subst h26; exact d26
  by_cases h27 : f = 27
  · subst h27; exact d27
  by_cases h28 : f = 28
  · subst h28; exact d28
  by_cases h29 : f = 29
  · subst h29; exact d29
  by_cases h30 : f = 30
  · subst h30; exact d30
  by_cases h73 : f = 73
  · subst h73; exact d73
  by_cases h20 : f = 20
  · subst h20; exact Go.AM.Td.primAs
  by_cases h21 : f = 21
  · subst h21; exact Go.AM.Td.primIs
  by_cases h37 : f = 37
  · subst h37; exact Go.AM.Td.primItoa
  by_cases h16 : f = 16
  · subst h16; exact Go.AM.Td.primDigits
  have h : env f = .no := by
    unfold env
    split <;> first | rfl | contradiction
  rw [h]
  trivial
end Go.AM.Fw
