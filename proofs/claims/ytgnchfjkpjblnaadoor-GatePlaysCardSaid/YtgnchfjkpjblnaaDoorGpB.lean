/-
  THE GATE, more: what a program that does nothing answers wrongly; a script's elements; GateOpen.
-/
import Derived.Test.YtgnchfjkpjblnaaDoorGpA
import Derived.Test.YtgnchfjkpjblnaaDoorAm18
import Derived.Test.YtgnchfjkpjblnaaDoorAm17
set_option linter.unusedVariables false
set_option linter.unusedSimpArgs false
set_option linter.unusedSectionVars false
namespace Go.AM.Gp
open Go.Proofs

theorem awake_spec (L k : Nat) (σ : St) : ∃ σ', evCall Tryd.prog env L (k + 4) 6 [] σ = some (.bool true, σ') ∧ Same σ σ' [] := by
  rw [f6_eq]
  obtain ⟨σ1, g1, hG1, hs1⟩ := new_spec L (k + 2) σ
  rw [g1, bnd_some, asP_p, show (some (⟨σ.next, 0, none⟩ : Addr)).isNone = false from rfl, br_false]
  have hok0 : GS.Ok ⟨0, 0, 0, []⟩ := ⟨fun _ => rfl, by simp, by simp, by simp, by simp, by simp, by simp⟩
  rcases freeze_spec hG1 L k 1 1 with ⟨g', σ2, e2, g2, hG2, hT2⟩ | ⟨_, _, e2, _⟩
  · obtain ⟨hok1, rfl, _⟩ := hok0.freeze (by omega) e2
    rw [g2, bnd_some, eqNil_nil, not_true, br_false]
    rcases enter_spec hG2 L k hok1 ⟨5, 0, ⟨#[]⟩⟩ with ⟨h, _⟩ | ⟨_, h, _⟩ | ⟨_, _, σ3, F3, g3, hG3, hT3⟩
    · simp at h
    · simp at h
    · rw [show Value.agg #[Value.int .i64 5, .int .i64 0, .string ⟨#[]⟩] = Cal.agg ⟨5, 0, ⟨#[]⟩⟩ from rfl, g3, bnd_some, asT_t, toList2, uncons_c, asB_b, uncons_c, endl_n]
      have hok3 : GS.Ok ⟨1, 1, 1, [] ++ [⟨5, 0, ⟨#[]⟩⟩]⟩ := ⟨by simp, by simp, by simp, by simp, by simp, by simp, by simp⟩
      obtain ⟨ad, z, qo, σ4, F4, g4, hG4, hR4, hT4, _⟩ := tick_spec hG3 L (k + 1) hok3
      have hout : (GS.tick ⟨1, 1, 1, [] ++ [⟨5, 0, ⟨#[]⟩⟩]⟩).2 = [⟨5, 0, ⟨#[]⟩⟩] := rfl
      rw [hout] at g4 hR4
      obtain ⟨q, e, hat⟩ := hR4.at c3_len (i := 0) (a := ⟨5, 0, ⟨#[]⟩⟩) rfl
      rw [g4, bnd_some, asSl_s, not_false, br_true, eqNil_nil, br_true, show ((([⟨5, 0, ⟨#[]⟩⟩] : List Cal).length : Int) == 1) = true from rfl, br_true, need_of (by rfl), e, adr_some, hat 0 (.int .i64 5) _ (by omega) rfl (by simp), asI_i, show ((5 : Int) == 5) = true from rfl, br_true, known_spec L (k + 2), bnd_some, asB_b]
      exact ⟨σ4, rfl, hs1.fresh ((hT2.trans hT3).trans hT4).same (fun x hx => .inr (by simp at hx; omega))⟩
  · simp [GS.freeze] at e2

end Go.AM.Gp
