/-
  Of what a command among the arguments says.
-/
import Derived.Test.YtmbofnomfmhmdaaDoorRzN
set_option linter.unusedVariables false
set_option linter.unusedSimpArgs false
set_option linter.unusedSectionVars false
namespace Go.AM.Rz
open Go.Proofs
structure Cmd where
  a : Int
  b : Int
  c : Int
def ccm (r : Cmd) : List Value := [.int .i64 r.a, .int .i64 r.b, .int .i64 r.c]
def Cmd.agg (r : Cmd) : Value := .agg [.int .i64 r.a, .int .i64 r.b, .int .i64 r.c].toArray
set_option maxRecDepth 20000 in
theorem cmdOf {σ : St} {row : List Value} (h : Img Tryd.prog σ 36 row) : ∃ r : Cmd, row = ccm r := by
  obtain ⟨h1, h2⟩ := h.struct_inv Tryd.underlying36
  have hl : row.length = 3 := by rw [h1]; kernel_rfl
  match row, hl with
  | [x, y, b], _ =>
    have hx := h2 _ (List.mem_of_getElem? (i := 0) rfl)
    have hy := h2 _ (List.mem_of_getElem? (i := 1) rfl)
    have hb := h2 _ (List.mem_of_getElem? (i := 2) rfl)
    have e3 : Tryd.prog.cellsOf 3 = 1 := by kernel_rfl
    simp only [e3] at hx hy hb
    obtain ⟨n0, w0, _⟩ := Img.int_inv Tryd.underlying3 hx
    obtain ⟨n1, w1, _⟩ := Img.int_inv Tryd.underlying3 hy
    obtain ⟨n2, w2, _⟩ := Img.int_inv Tryd.underlying3 hb
    simp at w0 w1 w2
    exact ⟨⟨n0, n1, n2⟩, by rw [w0, w1, w2]; rfl⟩
theorem intOf {σ : St} {row : List Value} (h : Img Tryd.prog σ 3 row) : ∃ n : Int, row = c1 n := by
  obtain ⟨n, w0, v0⟩ := Img.int_inv Tryd.underlying3 h
  exact ⟨n, w0⟩
theorem nil_law (σ : St) (r : Cmd) (ad : Option Addr) (m z : Nat) : ∃ σ', evCall Tryd.prog env 3000 6 4 [r.agg, .slice ad m z] σ = some (.bool true, σ') := nil_holds 3000 0 (by omega) σ r.a r.b r.c ad m z
end Go.AM.Rz
