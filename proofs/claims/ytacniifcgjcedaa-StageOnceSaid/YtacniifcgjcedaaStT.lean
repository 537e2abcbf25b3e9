/-
  Of what the stage's scripts' elements say.
-/
import Derived.Test.YtacniifcgjcedaaStB
import Derived.Test.YtacniifcgjcedaaAm17
import Derived.Test.YtacniifcgjcedaaEnvSt
set_option linter.unusedVariables false
set_option linter.unusedSimpArgs false
namespace Go.AM.St
open Go.Proofs

theorem recOf {σ : St} {row : List Value} (h : Img Try.prog σ 34 row) : ∃ (s k b n : Small) (d : { s : ByteArray // s.size ≤ maxLen }), row = [.int .i64 s.1, .int .i64 k.1, .int .i64 b.1, .string d.1, .int .i64 n.1] := by
  obtain ⟨h1, h2⟩ := h.struct_inv Try.underlying34
  have hl : row.length = 5 := by rw [h1]; kernel_rfl
  match row, hl with
  | [x, y, z, s, b], _ =>
    have hx := h2 _ (List.mem_of_getElem? (i := 0) rfl)
    have hy := h2 _ (List.mem_of_getElem? (i := 1) rfl)
    have hz := h2 _ (List.mem_of_getElem? (i := 2) rfl)
    have hs := h2 _ (List.mem_of_getElem? (i := 3) rfl)
    have hb := h2 _ (List.mem_of_getElem? (i := 4) rfl)
    have e3 : Try.prog.cellsOf 3 = 1 := by kernel_rfl
    have e9 : Try.prog.cellsOf 9 = 1 := by kernel_rfl
    simp only [e3] at hx hy hz hb
    simp only [e9] at hs
    obtain ⟨n0, w0, v0⟩ := Img.int_inv Try.underlying3 hx
    obtain ⟨n1, w1, v1⟩ := Img.int_inv Try.underlying3 hy
    obtain ⟨n2, w2, v2⟩ := Img.int_inv Try.underlying3 hz
    obtain ⟨t, w3, v3⟩ := Img.str_inv Try.underlying9 hs
    obtain ⟨n4, w4, v4⟩ := Img.int_inv Try.underlying3 hb
    simp at w0 w1 w2 w3 w4
    exact ⟨⟨n0, wf_i64 v0⟩, ⟨n1, wf_i64 v1⟩, ⟨n2, wf_i64 v2⟩, ⟨n4, wf_i64 v4⟩, ⟨t, v3⟩, by rw [w0, w1, w2, w3, w4]⟩

theorem opOf {σ : St} {row : List Value} (h : Img Try.prog σ 47 row) : ∃ o : Op, row = c8 o := by
  obtain ⟨h1, h2⟩ := h.struct_inv Try.underlying47
  have hl : row.length = 8 := by rw [h1]; kernel_rfl
  match row, hl with
  | [x, y, r0, r1, r2, r3, r4, b], _ =>
    have hx := h2 _ (List.mem_of_getElem? (i := 0) rfl)
    have hy := h2 _ (List.mem_of_getElem? (i := 1) rfl)
    have hr := h2 _ (List.mem_of_getElem? (i := 2) rfl)
    have hb := h2 _ (List.mem_of_getElem? (i := 3) rfl)
    have e3 : Try.prog.cellsOf 3 = 1 := by kernel_rfl
    have e34 : Try.prog.cellsOf 34 = 5 := by kernel_rfl
    have e4 : Try.prog.cellsOf 4 = 1 := by kernel_rfl
    simp only [e3] at hx hy
    simp only [e34] at hr
    simp only [e4] at hb
    obtain ⟨n0, w0, v0⟩ := Img.int_inv Try.underlying3 hx
    obtain ⟨n1, w1, v1⟩ := Img.int_inv Try.underlying3 hy
    obtain ⟨s, k, b', n, d, w2⟩ := recOf hr
    obtain ⟨c, w3⟩ := Img.bool_inv Try.underlying4 hb
    simp at w0 w1 w2 w3
    obtain ⟨a0, a1, a2, a3, a4⟩ := w2
    exact ⟨⟨⟨n0, wf_i64 v0⟩, ⟨n1, wf_i64 v1⟩, ⟨s, k, b', d, n⟩, c⟩, by rw [w0, w1, w3, a0, a1, a2, a3, a4]; rfl⟩
theorem recOf5 {σ : St} {row : List Value} (h : Img Try.prog σ 34 row) : ∃ c : Rec, row = c5 c := by
  obtain ⟨s, k, b, n, d, e⟩ := recOf h
  exact ⟨⟨s.1, k.1, b.1, d.1, n.1⟩, e⟩
end Go.AM.St
