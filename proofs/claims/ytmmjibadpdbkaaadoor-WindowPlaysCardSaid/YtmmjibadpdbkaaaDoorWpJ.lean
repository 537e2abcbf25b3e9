/-
  WindowPlays: the whole.
-/
import Derived.Test.YtmmjibadpdbkaaaDoorWpI
import Derived.Test.YtmmjibadpdbkaaaDoorWqC
set_option linter.unusedVariables false
set_option linter.unusedSimpArgs false
set_option linter.unusedSectionVars false
namespace Go.AM.Wp.S
open Go.Proofs Go.RowKit

set_option maxRecDepth 20000 in
theorem opOf {σ : St} {row : List Value} (h : Img Tryd.prog σ 51 row) : ∃ o : Op, row = c3w o := by
  obtain ⟨h1, h2⟩ := h.struct_inv Tryd.underlying51
  have hl : row.length = 3 := by rw [h1]; kernel_rfl
  match row, hl with
  | [x, y, s], _ =>
    have hx := h2 _ (List.mem_of_getElem? (i := 0) rfl)
    have hy := h2 _ (List.mem_of_getElem? (i := 1) rfl)
    have hs := h2 _ (List.mem_of_getElem? (i := 2) rfl)
    have e3 : Tryd.prog.cellsOf 3 = 1 := by kernel_rfl
    have e9 : Tryd.prog.cellsOf 9 = 1 := by kernel_rfl
    simp only [e3] at hx hy
    simp only [e9] at hs
    obtain ⟨n, w1, v1⟩ := Img.int_inv Tryd.underlying3 hx
    obtain ⟨m, w2, v2⟩ := Img.int_inv Tryd.underlying3 hy
    obtain ⟨t, w3, v3⟩ := Img.str_inv Tryd.underlying9 hs
    simp at w1 w2 w3
    exact ⟨⟨n, m, t⟩, by rw [w1, w2, w3]; rfl⟩

theorem few_loop (L k : Nat) {σ0 σ : St} {ad : Option Addr} {l : List Op} (hl : l.length ≤ 300) (hH : Holds σ0 3 c3w ad l) (hK : Kept' σ0.next σ0 σ) : ∀ (n i : Nat), i ≤ l.length → l.length - i < n →
    ∃ b, lpAt Tryd.prog env L k 14 [true, true, false, true] [] n [(0, .slice ad l.length 0), (8, .int .i64 l.length), (9, .int .i64 i)] σ = some (.bool b, σ)
  | 0, i, _, h => by omega
  | n + 1, i, hi, h => by
    rw [f14_l4]
    by_cases hil : i = l.length
    · rw [decide_eq_false (by omega), br_false]; exact ⟨true, rfl⟩
    · have hget : l[i]? = some l[i] := List.getElem?_eq_getElem (by omega)
      obtain ⟨q, e, hat⟩ := hH.ld hK hget
      generalize l[i] = o at hat
      obtain ⟨b, hb⟩ := few_loop L k hl hH hK n (i + 1) (by omega) (by omega)
      rw [decide_eq_true (by omega), br_true, need_of (by simp [inRange]; omega), e, adr_some, hat 2 (.string o.s) _ (by omega) rfl (by simp), asS_s, wrap_in ((i : Int) + 1) (by omega) (by omega), ← e]
      by_cases hs : ((o.s.size : Nat) : Int) > 100
      · rw [decide_eq_true hs, br_true]; exact ⟨false, rfl⟩
      · rw [decide_eq_false hs, br_false]
        exact ⟨b, by rw [← hb]; rfl⟩

theorem few_spec (L k : Nat) (hL : 400 < L) {σ0 σ : St} {ad : Option Addr} {l : List Op} (hH : Holds σ0 3 c3w ad l) (hK : Kept' σ0.next σ0 σ) :
    ∃ b, evCall Tryd.prog env L (k + 1) 14 [.slice ad l.length 0] σ = some (.bool b, σ) ∧ (b = true → l.length ≤ 300) := by
  rw [f14_eq]
  by_cases hl : l.length > 300
  · rw [decide_eq_true (by omega), br_true]; exact ⟨false, rfl, by simp⟩
  · rw [decide_eq_false (by omega), br_false]
    obtain ⟨b, hb⟩ := few_loop L k (by omega) hH hK L 0 (by omega) (by omega)
    exact ⟨b, hb, fun _ => by omega⟩

theorem plays_holds (L k : Nat) (hL : 1000 < L) {σ : St} {ad : Option Addr} {sc : List Op} (hH : Holds σ 3 c3w ad sc) :
    ∃ σ9, evCall Tryd.prog env L (k + 5) 4 [.slice ad sc.length 0] σ = some (.bool true, σ9) := by
  rw [f4_eq]
  have hk0 : Kept' σ.next σ σ := ⟨Nat.le_refl _, fun _ _ => rfl⟩
  obtain ⟨σ1, g1, s1⟩ := I.awake_spec L k (by omega) σ
  have hk1 := hk0.step s1 (by simp)
  rw [g1, bnd_some, asB_b, not_true, br_false]
  obtain ⟨b, hb, hb2⟩ := few_spec L (k + 3) (by omega) hH hk1
  rw [hb, bnd_some, asB_b]
  cases b with
  | false =>
    obtain ⟨σ2, g2, _⟩ := I.awake_spec L k (by omega) σ1
    rw [not_false, br_true, g2, bnd_some, asB_b]
    exact ⟨σ2, rfl⟩
  | true =>
    have hlen := hb2 rfl
    rw [not_true, br_false]
    generalize hσ2 : σ1.new (Blk.own [Value.slice none 0 0, Value.int IntKind.i64 0, Value.int IntKind.i64 0] 44) = σ2
    have n2 : σ2.next = σ1.next + 1 := by rw [← hσ2]; rfl
    have s2 : Same σ1 σ2 [] := by rw [← hσ2]; exact Same.new _ _ _
    have A2 : Send σ2 σ1.next [] [] (0 : Nat) (0 : Nat) := ⟨⟨none, 0, by rw [← hσ2, get_new_same]; rfl, Row.nil _ _ _ _⟩, by omega, by simp⟩
    generalize hσ3 : σ2.new (Blk.own [Value.slice none 0 0, Value.int IntKind.i64 0, Value.int IntKind.i64 0] 47) = σ3
    have n3 : σ3.next = σ2.next + 1 := by rw [← hσ3]; rfl
    have s3 : Same σ2 σ3 [] := by rw [← hσ3]; exact Same.new _ _ _
    have B3 : RSend σ3 σ2.next [] [] 0 0 := ⟨⟨none, 0, by rw [← hσ3, get_new_same]; rfl, Row.nil _ _ _ _⟩, by omega, by simp⟩
    generalize hσ4 : σ3.new (Blk.own [Value.slice none 0 0] 49) = σ4
    have n4 : σ4.next = σ3.next + 1 := by rw [← hσ4]; rfl
    have s4 : Same σ3 σ4 [] := by rw [← hσ4]; exact Same.new _ _ _
    have C4 : Recv σ4 σ3.next [] [] := ⟨⟨none, 0, by rw [← hσ4, get_new_same]; rfl, Row.nil _ _ _ _⟩, by omega, by simp⟩
    have hO1 : Owns σ σ1 [[]] := ⟨hk1, by simp, fun i j F G hij hF hG q hq => by
      have := List.mem_of_getElem? hF; simp at this; subst this; simp at hq⟩
    have hO2 : Owns σ σ2 [[σ1.next], []] := hO1.more s2 (fun q hq => by simp at hq; subst hq; omega)
    have hO3 : Owns σ σ3 [[σ2.next], [σ1.next], []] := hO2.more s3 (fun q hq => by simp at hq; subst hq; omega)
    have hO4 : Owns σ σ4 [[σ3.next], [σ2.next], [σ1.next], []] := hO3.more s4 (fun q hq => by simp at hq; subst hq; omega)
    exact plays_loop L k hL hlen hH L 0 σ4 none 0 [] [] 0 0 [] [] [] [] (by omega) (by omega) (by simp) (by simp) (by simp) (by omega) ((A2.same s3 (by simp) (by simp)).same s4 (by simp) (by simp)) (B3.same s4 (by simp) (by simp)) C4 (Row.nil _ _ _ _) (hO4.pick [2, 1, 0, 3] (by decide))

end Go.AM.Wp.S
