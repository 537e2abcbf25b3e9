/-
  DOOR OF window: errors, and what fault.Code and fault.First answer of them.
-/
import Derived.Test.YtmmjibadpdbkaaaDoorAm20
import Derived.Test.YtmmjibadpdbkaaaDoorEqWd
set_option linter.unusedVariables false
set_option linter.unusedSimpArgs false
set_option linter.unusedSectionVars false
namespace Go.AM.Wd
open Go.Proofs

/-- An error of the link's, with its number and its place. -/
def Err (σ : St) (v : Value) (c at_ : Int) : Prop := ∃ q, v = .iface 81 (.pointer (some ⟨q, 0, none⟩)) ∧ σ.get q = some (.own [.string ⟨#[119, 105, 110, 100, 111, 119]⟩, .int .i64 at_, .iface 30 (.int .i64 c)] 83) ∧ q < σ.next

theorem Err.nil {σ : St} {v : Value} {c a : Int} (h : Err σ v c a) {α : Type} (K : Bool → Option α) : eqNil v K = K false := by
  obtain ⟨q, rfl, _⟩ := h
  rfl
theorem Err.same {σ σ' : St} {v : Value} {c a : Int} {S : List Nat} (h : Err σ v c a) (hs : Same σ σ' S) (hS : S = [] := by rfl) : Err σ' v c a := by
  subst hS
  obtain ⟨q, e, g, l⟩ := h
  exact ⟨q, e, by rw [hs.2 q l (by simp)]; exact g, by have := hs.1; omega⟩

theorem as_prim (L k : Nat) (args : List Value) (σ : St) : evCall Tryd.prog env L (k + 1) 26 args σ = Td.asG args σ := rfl

theorem code_spec (L k : Nat) {σ : St} {v : Value} {c a : Int} (h : Err σ v c a) : ∃ σ', evCall Tryd.prog env L (k + 2) 10 [v] σ = some (.int .i64 c, σ') ∧ Same σ σ' [] := by
  obtain ⟨q, rfl, hg, hq⟩ := h
  have hg1 : (σ.new (Blk.own [Value.int .i64 0] 30)).get q = some (.own [.string ⟨#[119, 105, 110, 100, 111, 119]⟩, .int .i64 a, .iface 30 (.int .i64 c)] 83) := by rw [get_new (by omega)]; exact hg
  rw [f10_eq, as_prim]
  have h : Td.asG [.iface 81 (.pointer (some ⟨q, 0, none⟩)), .iface 75 (.pointer (some ⟨σ.next, 0, none⟩))] (σ.new (Blk.own [Value.int .i64 0] 30)) =
      some (.bool true, (σ.new (Blk.own [Value.int .i64 0] 30)).set σ.next (.own [Value.int .i64 c] 30)) := by
    simp only [Td.asG, get_new_same]
    rw [if_pos (by simp), if_neg (by simp), if_neg (by simp), if_neg (by simp), if_pos (by simp), ld_own _ hg1 (v := .iface 30 (.int .i64 c)) rfl]
    exact put_own _ (get_new_same _ _) (by simp) rfl
  rw [h, bnd_some, asB_b, not_true, br_false, ld_own _ (get_set_same _ _ _) (v := .int .i64 c) rfl, asI_i]
  refine ⟨_, rfl, ⟨by simp, fun k hk _ => ?_⟩⟩
  rw [get_set (by omega), get_new (by omega)]

theorem code_nil (L k : Nat) (σ : St) : ∃ σ', evCall Tryd.prog env L (k + 2) 10 [.nilIface] σ = some (.int .i64 0, σ') ∧ Same σ σ' [] := by
  rw [f10_eq, as_prim]
  exact ⟨_, rfl, Same.new _ _ _⟩


end Go.AM.Wd
