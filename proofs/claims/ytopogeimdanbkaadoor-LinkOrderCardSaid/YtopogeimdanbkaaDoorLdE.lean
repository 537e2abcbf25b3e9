/-
  DOOR OF THE LINK: errors, and what fault.Code answers of them.
-/
import Derived.Test.YtopogeimdanbkaaDoorAm20
import Derived.Test.YtopogeimdanbkaaDoorEqLd
set_option linter.unusedVariables false
set_option linter.unusedSimpArgs false
set_option linter.unusedSectionVars false
namespace Go.AM.Ld
open Go.Proofs

/-- An error of the link's, with its number. -/
def Err (σ : St) (v : Value) (c : Int) : Prop := ∃ q s at_, v = .iface 72 (.pointer (some ⟨q, 0, none⟩)) ∧ σ.get q = some (.own [.string s, .int .i64 at_, .iface 29 (.int .i64 c)] 74) ∧ q < σ.next

theorem Err.nil {σ : St} {v : Value} {c : Int} (h : Err σ v c) {α : Type} (K : Bool → Option α) : eqNil v K = K false := by
  obtain ⟨q, s, a, rfl, _⟩ := h
  rfl
theorem Err.same {σ σ' : St} {v : Value} {c : Int} (h : Err σ v c) (hs : Same σ σ' []) : Err σ' v c := by
  obtain ⟨q, s, a, e, g, l⟩ := h
  exact ⟨q, s, a, e, by rw [hs.2 q l (by simp)]; exact g, by have := hs.1; omega⟩

theorem wrong_spec (L k : Nat) (σ : St) (at_ : Int) (e : Int) (he : e ≠ 0) : ∃ v σ', evCall Tryd.prog env L (k + 2) 30 [.int .i64 at_, .int .i64 e] σ = some (v, σ') ∧ Err σ' v e ∧ Same σ σ' [] := by
  rw [f30_eq, f38_eq, eqNil_iface, br_false]
  have hb : (e == 0) = false := by simpa using he
  have h : eqErr (.iface 29 (.int .i64 e)) 29 .i64 0 (fun v2 => br v2 (some (Value.nilIface, σ)) (need true (need (oneCell (.iface 29 (.int .i64 e))) (need true (some (Value.iface 72 (Value.pointer (some ⟨σ.next, 0, none⟩)), σ.new (Blk.own [Value.string ⟨#[108, 105, 110, 107]⟩, Value.int .i64 at_, .iface 29 (.int .i64 e)] 74))))))) =
      some (Value.iface 72 (Value.pointer (some ⟨σ.next, 0, none⟩)), σ.new (Blk.own [Value.string ⟨#[108, 105, 110, 107]⟩, Value.int .i64 at_, .iface 29 (.int .i64 e)] 74)) := by
    simp [eqErr, hb, oneCell]
  rw [h, bnd_some]
  exact ⟨_, _, rfl, ⟨_, _, _, rfl, get_new_same _ _, by simp⟩, Same.new _ _ _⟩

theorem as_prim (L k : Nat) (args : List Value) (σ : St) : evCall Tryd.prog env L (k + 1) 32 args σ = Td.asG args σ := rfl

theorem code_spec (L k : Nat) {σ : St} {v : Value} {c : Int} (h : Err σ v c) : ∃ σ', evCall Tryd.prog env L (k + 2) 11 [v] σ = some (.int .i64 c, σ') ∧ Same σ σ' [] := by
  obtain ⟨q, s, a, rfl, hg, hq⟩ := h
  have hg1 : (σ.new (Blk.own [Value.int .i64 0] 29)).get q = some (.own [.string s, .int .i64 a, .iface 29 (.int .i64 c)] 74) := by rw [get_new (by omega)]; exact hg
  rw [f11_eq, as_prim]
  have h : Td.asG [.iface 72 (.pointer (some ⟨q, 0, none⟩)), .iface 64 (.pointer (some ⟨σ.next, 0, none⟩))] (σ.new (Blk.own [Value.int .i64 0] 29)) =
      some (.bool true, (σ.new (Blk.own [Value.int .i64 0] 29)).set σ.next (.own [Value.int .i64 c] 29)) := by
    simp only [Td.asG, get_new_same]
    rw [if_pos (by simp), if_neg (by simp), if_neg (by simp), if_neg (by simp), if_pos (by simp), ld_own _ hg1 (v := .iface 29 (.int .i64 c)) rfl]
    exact put_own _ (get_new_same _ _) (by simp) rfl
  rw [h, bnd_some, asB_b, not_true, br_false, ld_own _ (get_set_same _ _ _) (v := .int .i64 c) rfl, asI_i]
  refine ⟨_, rfl, ⟨by simp, fun k hk _ => ?_⟩⟩
  rw [get_set (by omega), get_new (by omega)]

end Go.AM.Ld
