/-
  Of what the fates say.
-/
import Derived.Test.YtmmjibadpdbkaaaTwC
import Derived.Test.YtmmjibadpdbkaaaEnvW
set_option linter.unusedVariables false
set_option linter.unusedSimpArgs false
namespace Go.AM
open Go.Proofs

theorem fate5 {σ : St} {row : List Value} (h : Img Try.prog σ 55 row) : ∃ o : Fate, row = c5f o := by
  obtain ⟨h1, h2⟩ := h.struct_inv Try.underlying55
  have hl : row.length = 5 := by rw [h1]; kernel_rfl
  match row, hl with
  | [x, y, z, s, b], _ =>
    have hx := h2 _ (List.mem_of_getElem? (i := 0) rfl)
    have hy := h2 _ (List.mem_of_getElem? (i := 1) rfl)
    have hz := h2 _ (List.mem_of_getElem? (i := 2) rfl)
    have hs := h2 _ (List.mem_of_getElem? (i := 3) rfl)
    have hb := h2 _ (List.mem_of_getElem? (i := 4) rfl)
    have e3 : Try.prog.cellsOf 3 = 1 := by kernel_rfl
    have e9 : Try.prog.cellsOf 9 = 1 := by kernel_rfl
    have e53 : Try.prog.cellsOf 53 = 1 := by kernel_rfl
    simp only [e3] at hx hy hz
    simp only [e9] at hs
    simp only [e53] at hb
    obtain ⟨n0, w0, v0⟩ := Img.int_inv Try.underlying3 hx
    obtain ⟨n1, w1, v1⟩ := Img.int_inv Try.underlying3 hy
    obtain ⟨n2, w2, v2⟩ := Img.int_inv Try.underlying3 hz
    obtain ⟨t, w3, v3⟩ := Img.str_inv Try.underlying9 hs
    obtain ⟨n4, w4, v4⟩ := Img.int_inv Try.underlying53 hb
    simp at w0 w1 w2 w3 w4
    exact ⟨⟨⟨n0, wf_i64 v0⟩, ⟨n1, wf_i64 v1⟩, ⟨n2, wf_i64 v2⟩, ⟨t, v3⟩, n4⟩, by rw [w0, w1, w2, w3, w4]; rfl⟩
end Go.AM
