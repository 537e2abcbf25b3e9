/-
  Of what a record among the arguments says.
-/
import Derived.Test.YtacniifcgjcedaaDoorSdN
set_option linter.unusedVariables false
set_option linter.unusedSimpArgs false
set_option linter.unusedSectionVars false
namespace Go.AM.Sd
open Go.Proofs
set_option maxRecDepth 20000 in
theorem recOf {σ : St} {row : List Value} (h : Img Tryd.prog σ 23 row) : ∃ r : Rec, row = c5 r := by
  obtain ⟨h1, h2⟩ := h.struct_inv Tryd.underlying23
  have hl : row.length = 5 := by rw [h1]; kernel_rfl
  match row, hl with
  | [x, y, b, s, m], _ =>
    have hx := h2 _ (List.mem_of_getElem? (i := 0) rfl)
    have hy := h2 _ (List.mem_of_getElem? (i := 1) rfl)
    have hb := h2 _ (List.mem_of_getElem? (i := 2) rfl)
    have hs := h2 _ (List.mem_of_getElem? (i := 3) rfl)
    have hm := h2 _ (List.mem_of_getElem? (i := 4) rfl)
    have e3 : Tryd.prog.cellsOf 3 = 1 := by kernel_rfl
    have e9 : Tryd.prog.cellsOf 9 = 1 := by kernel_rfl
    simp only [e3] at hx hy hb hm
    simp only [e9] at hs
    obtain ⟨n0, w0, _⟩ := Img.int_inv Tryd.underlying3 hx
    obtain ⟨n1, w1, _⟩ := Img.int_inv Tryd.underlying3 hy
    obtain ⟨n2, w2, _⟩ := Img.int_inv Tryd.underlying3 hb
    obtain ⟨t, w3, _⟩ := Img.str_inv Tryd.underlying9 hs
    obtain ⟨n4, w4, _⟩ := Img.int_inv Tryd.underlying3 hm
    simp at w0 w1 w2 w3 w4
    exact ⟨⟨n0, n1, n2, t, n4⟩, by rw [w0, w1, w2, w3, w4]; rfl⟩
theorem nil_law (σ : St) (r : Rec) (n : Int) : ∃ σ', evCall Tryd.prog env 500 5 3 [r.agg, .int .i64 n] σ = some (.bool true, σ') := nil_holds 500 0 (by omega) σ r.seq r.kind r.block r.data r.number n
end Go.AM.Sd
