/-
  THE FUNCTIONS are as the machine takes them (printed).
-/
import Derived.Test.YtmbofnomfmhmdaaAm14
import Derived.Test.YtmbofnomfmhmdaaEnvRq
set_option linter.unusedVariables false
set_option linter.unusedSimpArgs false
set_option linter.unusedSectionVars false
namespace Go.AM.Rq
open Go.Proofs
theorem d5 : DefOK Try.prog 5 Try.f5 (Try.f5.body.getD .skip) ⟨fun i => match i with | 9 => some [0, 3, 4, 5, 6, 7, 8, 36, 37] | 37 => some [0, 3, 4, 5, 6, 7, 8, 10, 11, 17, 18, 36, 37, 140, 141] | 43 => some [0, 3, 4, 5, 6, 7, 8, 10, 11, 17, 18, 36, 37, 166, 167] | _ => none, fun _ _ => []⟩ := ⟨Try.func5, by kernel_rfl, by decide, of_decide_eq_true (by kernel_rfl), by kernel_rfl⟩
theorem d6 : DefOK Try.prog 6 Try.f6 (Try.f6.body.getD .skip) ⟨fun i => match i with | 9 => some [0, 2, 3, 9, 10, 12, 58, 59] | 15 => some [0, 3, 9, 10, 12, 16] | 23 => some [0, 3, 9, 10, 12, 16, 17, 101, 102] | 30 => some [0, 3, 9, 10, 12, 16, 20] | _ => none, fun _ _ => []⟩ := ⟨Try.func6, by kernel_rfl, by decide, of_decide_eq_true (by kernel_rfl), by kernel_rfl⟩
theorem d7 : DefOK Try.prog 7 Try.f7 (Try.f7.body.getD .skip) ⟨fun _ => none, fun _ _ => []⟩ := ⟨Try.func7, by kernel_rfl, by decide, of_decide_eq_true (by kernel_rfl), by kernel_rfl⟩
theorem d8 : DefOK Try.prog 8 Try.f8 (Try.f8.body.getD .skip) ⟨fun _ => none, fun _ _ => []⟩ := ⟨Try.func8, by kernel_rfl, by decide, of_decide_eq_true (by kernel_rfl), by kernel_rfl⟩
theorem d9 : DefOK Try.prog 9 Try.f9 (Try.f9.body.getD .skip) ⟨fun _ => none, fun _ _ => []⟩ := ⟨Try.func9, by kernel_rfl, by decide, of_decide_eq_true (by kernel_rfl), by kernel_rfl⟩
theorem d10 : DefOK Try.prog 10 Try.f10 (Try.f10.body.getD .skip) ⟨fun _ => none, fun _ _ => []⟩ := ⟨Try.func10, by kernel_rfl, by decide, of_decide_eq_true (by kernel_rfl), by kernel_rfl⟩
theorem d11 : DefOK Try.prog 11 Try.f11 (Try.f11.body.getD .skip) ⟨fun _ => none, fun _ _ => []⟩ := ⟨Try.func11, by kernel_rfl, by decide, of_decide_eq_true (by kernel_rfl), by kernel_rfl⟩
theorem d12 : DefOK Try.prog 12 Try.f12 (Try.f12.body.getD .skip) ⟨fun i => match i with | 5 => some [0, 3, 11, 12, 13] | _ => none, fun _ _ => []⟩ := ⟨Try.func12, by kernel_rfl, by decide, of_decide_eq_true (by kernel_rfl), by kernel_rfl⟩
theorem d13 : DefOK Try.prog 13 Try.f13 (Try.f13.body.getD .skip) ⟨fun _ => none, fun _ _ => []⟩ := ⟨Try.func13, by kernel_rfl, by decide, of_decide_eq_true (by kernel_rfl), by kernel_rfl⟩
theorem d14 : DefOK Try.prog 14 Try.f14 (Try.f14.body.getD .skip) ⟨fun i => match i with | 4 => some [0, 8, 9] | _ => none, fun _ _ => []⟩ := ⟨Try.func14, by kernel_rfl, by decide, of_decide_eq_true (by kernel_rfl), by kernel_rfl⟩
theorem d15 : DefOK Try.prog 15 Try.f15 (Try.f15.body.getD .skip) ⟨fun _ => none, fun _ _ => []⟩ := ⟨Try.func15, by kernel_rfl, by decide, of_decide_eq_true (by kernel_rfl), by kernel_rfl⟩
theorem d16 : DefOK Try.prog 16 Try.f16 (Try.f16.body.getD .skip) ⟨fun i => match i with | 3 => some [0, 3, 7, 8, 9] | _ => none, fun _ _ => []⟩ := ⟨Try.func16, by kernel_rfl, by decide, of_decide_eq_true (by kernel_rfl), by kernel_rfl⟩
theorem d17 : DefOK Try.prog 17 Try.f17 (Try.f17.body.getD .skip) ⟨fun _ => none, fun _ _ => []⟩ := ⟨Try.func17, by kernel_rfl, by decide, of_decide_eq_true (by kernel_rfl), by kernel_rfl⟩
theorem d18 : DefOK Try.prog 18 Try.f18 (Try.f18.body.getD .skip) ⟨fun _ => none, fun _ _ => []⟩ := ⟨Try.func18, by kernel_rfl, by decide, of_decide_eq_true (by kernel_rfl), by kernel_rfl⟩
theorem d19 : DefOK Try.prog 19 Try.f19 (Try.f19.body.getD .skip) ⟨fun i => match i with | 3 => some [0, 3, 7, 8, 9] | _ => none, fun _ _ => []⟩ := ⟨Try.func19, by kernel_rfl, by decide, of_decide_eq_true (by kernel_rfl), by kernel_rfl⟩
theorem d20 : DefOK Try.prog 20 Try.f20 (Try.f20.body.getD .skip) ⟨fun _ => none, fun _ _ => []⟩ := ⟨Try.func20, by kernel_rfl, by decide, of_decide_eq_true (by kernel_rfl), by kernel_rfl⟩
theorem d21 : DefOK Try.prog 21 Try.f21 (Try.f21.body.getD .skip) ⟨fun _ => none, fun _ _ => []⟩ := ⟨Try.func21, by kernel_rfl, by decide, of_decide_eq_true (by kernel_rfl), by kernel_rfl⟩
theorem d22 : DefOK Try.prog 22 Try.f22 (Try.f22.body.getD .skip) ⟨fun _ => none, fun _ _ => []⟩ := ⟨Try.func22, by kernel_rfl, by decide, of_decide_eq_true (by kernel_rfl), by kernel_rfl⟩
theorem d23 : DefOK Try.prog 23 Try.f23 (Try.f23.body.getD .skip) ⟨fun i => match i with | 2 => some [0, 1, 7, 8] | _ => none, fun _ _ => []⟩ := ⟨Try.func23, by kernel_rfl, by decide, of_decide_eq_true (by kernel_rfl), by kernel_rfl⟩
theorem envOK : EnvOK Try.prog env := by
  intro f
  by_cases h5 : f = 5
  · subst h5; exact d5
  by_cases h6 : f = 6
  · subst h6; exact d6
  by_cases h7 : f = 7
  · subst h7; exact d7
  by_cases h8 : f = 8
  · subst h8; exact d8
  by_cases h9 : f = 9
  · subst h9; exact d9
  by_cases h10 : f = 10
  · subst h10; exact d10
  by_cases h11 : f = 11
  · subst h11; exact d11
  by_cases h12 : f = 12
  · subst h12; exact d12
  by_cases h13 : f = 13
  · subst h13; exact d13
  by_cases h14 : f = 14
  · subst h14; exact d14
  by_cases h15 : f = 15
  · subst h15; exact d15
  by_cases h16 : f = 16
  · subst h16; exact d16
  by_cases h17 : f = 17
  · subst h17; exact d17
  by_cases h18 : f = 18
  · subst h18; exact d18
  by_cases h19 : f = 19
  · subst h19; exact d19
  by_cases h20 : f = 20
  · subst h20; exact d20
  by_cases h21 : f = 21
  · subst h21; exact d21
  by_cases h22 : f = 22
  · subst h22; exact d22
  by_cases h23 : f = 23
  · subst h23; exact d23
  have h : env f = .no := by
    unfold env
    split <;> first | rfl | contradiction
  rw [h]
  trivial
end Go.AM.Rq
