/-
  DOOR OF THE LINK: awake, and Cut.
-/
import Derived.Test.YtopogeimdanbkaaDoorLpA
import Derived.Test.YtopogeimdanbkaaDoorLpB
set_option linter.unusedVariables false
set_option linter.unusedSimpArgs false
set_option linter.unusedSectionVars false
namespace Go.AM.Lp
open Go.Proofs

theorem awake_spec (L k : Nat) (σ : St) : ∃ σ', evCall Tryd.prog env L (k + 6) 8 [] σ = some (.bool true, σ') ∧ Kept' σ.next σ σ' := by
  rw [f8_eq]
  have hk0 : Kept' σ.next σ σ := ⟨Nat.le_refl _, fun _ _ => rfl⟩
  obtain ⟨a, σ1, g1, hA1⟩ := I.At.new L (k + 4) hk0 2
  rw [g1, bnd_some, asP_p, show (some (⟨a, 0, none⟩ : Addr)).isNone = false from rfl, br_false]
  have h2 : mx 0 (mn 2 4096) = 2 := by decide
  rw [h2] at hA1
  rcases hA1.send L (k + 1) (by simp) 7 with ⟨_, σ2, g2, hA2⟩ | ⟨h, _⟩
  · rw [g2, bnd_some, eqNil_nil, not_true, br_false]
    rcases hA2.double L (k + 1) (by simp) 0 with ⟨x, _, hx, _, σ3, g3, hA3⟩ | ⟨_, _, h, _⟩ | ⟨h, _⟩
    · simp at hx
      subst hx
      rw [g3, bnd_some, eqNil_nil, not_true, br_false, hA3.len L (k + 4), bnd_some, asI_i]
      have hb : ((((([] : List Int) ++ [7]) ++ [7]).length : Int) != 2) = false := by decide
      rw [hb, br_false]
      rcases hA3.deliver L k (by simp) 1 with ⟨x, _, hx, σ4, g4, hA4⟩ | ⟨h, _⟩
      · simp at hx
        subst hx
        rw [g4, bnd_some, asT_t, toList2, uncons_c, asI_i, uncons_c, endl_n, show ((7 : Int) == 7) = true from rfl, br_true, eqNil_nil, br_true, hA4.len L (k + 4), bnd_some, asI_i]
        exact ⟨σ4, by simp, hA4.kept⟩
      · exact absurd (by simp) h
    · simp at h
    · exact absurd (by simp) h
  · simp at h

theorem S.At.cut (L k : Nat) {σ0 σ : St} {a : Nat} {l : List ByteArray} {room : Int} {cut : Bool} (h : S.At σ0 σ a l room cut) (b : Bool) :
    ∃ σ', evCall Tryd.prog env L (k + 1) 20 [.pointer (some ⟨a, 0, none⟩), .bool b] σ = some (.tuple #[], σ') ∧ S.At σ0 σ' a l room b := by
  obtain ⟨qs, h1, h2⟩ := h.ex
  obtain ⟨ad, z, hg, hrow⟩ := h1.ex
  rw [f20_eq, put_bool hg 2 b (by simp)]
  refine ⟨_, rfl, S.At.step h.kept h2 (qs := qs) (qs' := qs) ⟨⟨ad, z, get_set_same _ _ _, hrow.same (Same.set _ _ _) (fun q hq => by simp; rintro rfl; exact h1.ne hq)⟩, by simpa using h1.lt, h1.ne⟩ ((Same.set _ _ _).mono (by simp)) (fun q hq => .inl hq)⟩

end Go.AM.Lp
