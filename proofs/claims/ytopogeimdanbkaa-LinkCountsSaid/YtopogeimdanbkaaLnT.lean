/-
  Of what a script's elements say.
-/
import Derived.Test.YtopogeimdanbkaaLnG
import Derived.Test.YtopogeimdanbkaaEnvLk
set_option linter.unusedVariables false
set_option linter.unusedSimpArgs false
namespace Go.AM.Lk
open Go.Proofs
theorem opOf {σ : St} {row : List Value} (h : Img Try.prog σ 29 row) : ∃ o : Op, row = c4 o := by
  obtain ⟨h1, h2⟩ := h.struct_inv Try.underlying29
  have hl : row.length = 4 := by rw [h1]; kernel_rfl
  match row, hl with
  | [x, y, s, b], _ =>
    have hx := h2 _ (List.mem_of_getElem? (i := 0) rfl)
    have hy := h2 _ (List.mem_of_getElem? (i := 1) rfl)
    have hs := h2 _ (List.mem_of_getElem? (i := 2) rfl)
    have hb := h2 _ (List.mem_of_getElem? (i := 3) rfl)
    have e3 : Try.prog.cellsOf 3 = 1 := by kernel_rfl
    have e9 : Try.prog.cellsOf 9 = 1 := by kernel_rfl
    have e4 : Try.prog.cellsOf 4 = 1 := by kernel_rfl
    simp only [e3] at hx hy
    simp only [e9] at hs
    simp only [e4] at hb
    obtain ⟨n, w1, v1⟩ := Img.int_inv Try.underlying3 hx
    obtain ⟨m, w2, v2⟩ := Img.int_inv Try.underlying3 hy
    obtain ⟨t, w3, v3⟩ := Img.str_inv Try.underlying9 hs
    obtain ⟨c, w4⟩ := Img.bool_inv Try.underlying4 hb
    simp at w1 w2 w3 w4
    exact ⟨⟨⟨n, wf_i64 v1⟩, ⟨m, wf_i64 v2⟩, ⟨t, v3⟩, c⟩, by rw [w1, w2, w3, w4]; rfl⟩
end Go.AM.Lk
