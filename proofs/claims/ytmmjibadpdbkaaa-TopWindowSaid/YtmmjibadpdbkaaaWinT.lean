/-
  Of what an argument's elements say: pairs of whole numbers.
-/
import Derived.Test.YtmmjibadpdbkaaaWinI
import Derived.Test.YtmmjibadpdbkaaaEnvW
set_option linter.unusedVariables false
set_option linter.unusedSimpArgs false
namespace Go.AM
open Go.Proofs
theorem fate2 {σ : St} {row : List Value} (h : Img Try.prog σ 47 row) : ∃ a : Small × Small, row = c2s a := by
  obtain ⟨h1, h2⟩ := h.struct_inv Try.underlying47
  have hl : row.length = 2 := by rw [h1]; kernel_rfl
  match row, hl with
  | [x, y], _ =>
    have hx := h2 _ (List.mem_of_getElem? (i := 0) rfl)
    have hy := h2 _ (List.mem_of_getElem? (i := 1) rfl)
    have e3 : Try.prog.cellsOf 3 = 1 := by kernel_rfl
    simp only [e3] at hx hy
    obtain ⟨n, e1, w1⟩ := Img.int_inv Try.underlying3 hx
    obtain ⟨m, e2, w2⟩ := Img.int_inv Try.underlying3 hy
    simp at e1 e2
    exact ⟨(⟨n, wf_i64 w1⟩, ⟨m, wf_i64 w2⟩), by rw [e1, e2]; rfl⟩
end Go.AM
