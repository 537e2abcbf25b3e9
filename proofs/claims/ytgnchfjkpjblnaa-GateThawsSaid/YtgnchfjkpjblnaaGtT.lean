/-
  Of what the gate's scripts' elements, and a call, say.
-/
import Derived.Test.YtgnchfjkpjblnaaGtB
import Derived.Test.YtgnchfjkpjblnaaEnvGt
set_option linter.unusedVariables false
set_option linter.unusedSimpArgs false
namespace Go.AM.Gt
open Go.Proofs

theorem calOf' {σ : St} {t : TypeId} {row : List Value} {fs : Array Field} (hu : Try.prog.underlying t = some (.struct fs)) (hf : fs.toList.map (fun f => (f.type, f.offset)) = [(3, 0), (3, 1), (9, 2)]) (hc : Try.prog.cellsOf t = 3) (h : Img Try.prog σ t row) : ∃ (x y : Small) (d : { s : ByteArray // s.size ≤ maxLen }), row = [.int .i64 x.1, .int .i64 y.1, .string d.1] := by
  obtain ⟨h1, h2⟩ := h.struct_inv hu
  have hl : row.length = 3 := by rw [h1, hc]
  have e3 : Try.prog.cellsOf 3 = 1 := by kernel_rfl
  have e9 : Try.prog.cellsOf 9 = 1 := by kernel_rfl
  have pick : ∀ (i t o : Nat), [(3, 0), (3, 1), (9, 2)][i]? = some (t, o) → Img Try.prog σ t ((row.drop o).take (Try.prog.cellsOf t)) := by
    intro i t o hi
    rw [← hf, List.getElem?_map] at hi
    cases hg : fs.toList[i]? with
    | none => rw [hg] at hi; cases hi
    | some f =>
      rw [hg] at hi
      simp only [Option.map_some, Option.some.injEq, Prod.mk.injEq] at hi
      have := h2 f (List.mem_of_getElem? hg)
      rw [hi.1, hi.2] at this
      exact this
  match row, hl with
  | [x, y, s], _ =>
    have hx := pick 0 3 0 rfl
    have hy := pick 1 3 1 rfl
    have hs := pick 2 9 2 rfl
    simp only [e3] at hx hy
    simp only [e9] at hs
    obtain ⟨n0, w0, v0⟩ := Img.int_inv Try.underlying3 hx
    obtain ⟨n1, w1, v1⟩ := Img.int_inv Try.underlying3 hy
    obtain ⟨t, w3, v3⟩ := Img.str_inv Try.underlying9 hs
    simp at w0 w1 w3
    exact ⟨⟨n0, wf_i64 v0⟩, ⟨n1, wf_i64 v1⟩, ⟨t, v3⟩, by rw [w0, w1, w3]⟩

theorem callOf {σ : St} {row : List Value} (h : Img Try.prog σ 30 row) : ∃ c : Cal, row = c3 c := by
  obtain ⟨x, y, d, e⟩ := calOf' Try.underlying30 (by kernel_rfl) (by kernel_rfl) h
  exact ⟨⟨x.1, y.1, d.1⟩, e⟩

theorem opOf {σ : St} {row : List Value} (h : Img Try.prog σ 32 row) : ∃ o : Op, row = c6 o := by
  obtain ⟨h1, h2⟩ := h.struct_inv Try.underlying32
  have hl : row.length = 6 := by rw [h1]; kernel_rfl
  match row, hl with
  | [x, y, z, r0, r1, r2], _ =>
    have hx := h2 _ (List.mem_of_getElem? (i := 0) rfl)
    have hy := h2 _ (List.mem_of_getElem? (i := 1) rfl)
    have hz := h2 _ (List.mem_of_getElem? (i := 2) rfl)
    have hr := h2 _ (List.mem_of_getElem? (i := 3) rfl)
    have e3 : Try.prog.cellsOf 3 = 1 := by kernel_rfl
    have e30 : Try.prog.cellsOf 30 = 3 := by kernel_rfl
    simp only [e3] at hx hy hz
    simp only [e30] at hr
    obtain ⟨n0, w0, v0⟩ := Img.int_inv Try.underlying3 hx
    obtain ⟨n1, w1, v1⟩ := Img.int_inv Try.underlying3 hy
    obtain ⟨n2, w2, v2⟩ := Img.int_inv Try.underlying3 hz
    obtain ⟨i, b, d, w3⟩ := calOf' Try.underlying30 (by kernel_rfl) (by kernel_rfl) hr
    simp at w0 w1 w2 w3
    obtain ⟨a0, a1, a2⟩ := w3
    exact ⟨⟨⟨n0, wf_i64 v0⟩, ⟨n1, wf_i64 v1⟩, ⟨n2, wf_i64 v2⟩, i, b, d⟩, by rw [w0, w1, w2, a0, a1, a2]; rfl⟩

end Go.AM.Gt
