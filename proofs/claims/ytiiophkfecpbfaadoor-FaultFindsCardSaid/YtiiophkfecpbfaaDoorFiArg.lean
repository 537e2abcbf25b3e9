/-
  Of what the laws' arguments say: places.
-/
import Derived.Test.YtiiophkfecpbfaaDoorFiB
import Derived.Test.YtiiophkfecpbfaaDoorEnvFi
set_option linter.unusedVariables false
set_option linter.unusedSimpArgs false
set_option linter.unusedSectionVars false
namespace Go.AM.Fi
open Go.Proofs
set_option maxRecDepth 20000 in
theorem placeOf {σ : St} {row : List Value} (h : Go.AM.Img Tryd.prog σ 45 row) : ∃ p : ByteArray × Int, row = cP p := by
  obtain ⟨h1, h2⟩ := h.struct_inv Tryd.underlying45
  have hl : row.length = 2 := by rw [h1]; kernel_rfl
  match row, hl with
  | [x, y], _ =>
    have hx := h2 _ (List.mem_of_getElem? (i := 0) rfl)
    have hy := h2 _ (List.mem_of_getElem? (i := 1) rfl)
    have e3 : Tryd.prog.cellsOf 3 = 1 := by kernel_rfl
    have e9 : Tryd.prog.cellsOf 9 = 1 := by kernel_rfl
    simp only [e9] at hx
    simp only [e3] at hy
    obtain ⟨t, w0, _⟩ := Go.AM.Img.str_inv Tryd.underlying9 hx
    obtain ⟨n, w1, _⟩ := Go.AM.Img.int_inv Tryd.underlying3 hy
    simp at w0 w1
    exact ⟨(t, n), by rw [w0, w1]; rfl⟩
end Go.AM.Fi
