/-
  Of what the laws' arguments say: places, with their numbers' bounds.
-/
import Derived.Test.YtiiophkfecpbfaaDoorFwK
set_option linter.unusedVariables false
set_option linter.unusedSimpArgs false
set_option linter.unusedSectionVars false
namespace Go.AM.Fw
open Go.Proofs
structure PB where
  s : ByteArray
  n : Int
  h0 : -9223372036854775808 ≤ n
  h1 : n ≤ 9223372036854775807
def PB.pl (p : PB) : ByteArray × Int := (p.s, p.n)
def cPB (p : PB) : List Value := cP p.pl
theorem holds_pb {σ : St} {ad : Option Addr} {l : List PB} (h : Holds σ 2 cPB ad l) : Holds σ 2 cP ad (l.map PB.pl) := by
  intro hne
  obtain ⟨q, vs, e, hc, hq, hl, hg⟩ := h (fun h0 => hne (by rw [h0]; rfl))
  refine ⟨q, vs, e, hc, hq, by simpa using hl, fun i a ha j v hj hv => ?_⟩
  rw [List.getElem?_map] at ha
  obtain ⟨p, hp, rfl⟩ := Option.map_eq_some_iff.1 ha
  exact hg i p hp j v hj hv
theorem PB.bd {l : List PB} : ∀ p ∈ l.map PB.pl, -9223372036854775808 ≤ p.2 ∧ p.2 ≤ 9223372036854775807 := by
  intro p hp
  obtain ⟨x, _, rfl⟩ := List.mem_map.1 hp
  exact ⟨x.h0, x.h1⟩
set_option maxRecDepth 20000 in
theorem placeOf {σ : St} {row : List Value} (h : Go.AM.Img Tryd.prog σ 45 row) : ∃ p : PB, row = cPB p := by
  obtain ⟨h1, h2⟩ := h.struct_inv Tryd.underlying45
  have hl : row.length = 2 := by rw [h1]; kernel_rfl
  match row, hl with
  | [x, y], _ =>
    have hx := h2 _ (List.mem_of_getElem? (i := 0) rfl)
    have hy := h2 _ (List.mem_of_getElem? (i := 1) rfl)
    have e3 : Tryd.prog.cellsOf 3 = 1 := by kernel_rfl
    have e9 : Tryd.prog.cellsOf 9 = 1 := by kernel_rfl
    simp only [e9] at hx
    simp only [e3] at hy
    obtain ⟨t, w0, _⟩ := Go.AM.Img.str_inv Tryd.underlying9 hx
    obtain ⟨n, w1, wf⟩ := Go.AM.Img.int_inv Tryd.underlying3 hy
    simp at w0 w1
    have hb := wf_i64 wf
    exact ⟨⟨t, n, hb.1, hb.2⟩, by rw [w0, w1]; rfl⟩
theorem tells_law (L k : Nat) (hL : 100000 < L) {σ0 : St} {ad : Option Addr} {l : List PB} (hH : Holds σ0 2 cPB ad l) (c : Int) (op : ByteArray) :
    ∃ σ', evCall Tryd.prog env L (k + 100) 8 [.slice ad l.length 0, .int .i64 c, .string op] σ0 = some (.bool true, σ') := by
  have h := tells_holds L k hL (holds_pb hH) PB.bd c op
  rwa [List.length_map] at h
end Go.AM.Fw
