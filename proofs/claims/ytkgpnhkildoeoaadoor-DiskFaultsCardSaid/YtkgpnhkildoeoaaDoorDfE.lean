/-
  DOOR OF disk: errors, and what fault.Code and fault.First answer of them.
-/
import Derived.Test.YtkgpnhkildoeoaaDoorAm20
import Derived.Test.YtkgpnhkildoeoaaDoorEqDf
set_option linter.unusedVariables false
set_option linter.unusedSimpArgs false
set_option linter.unusedSectionVars false
namespace Go.AM.Df
open Go.Proofs

/-- An error of the link's, with its number and its place. -/
def Err (σ : St) (v : Value) (c at_ : Int) : Prop := ∃ q, v = .iface 79 (.pointer (some ⟨q, 0, none⟩)) ∧ σ.get q = some (.own [.string ⟨#[100, 105, 115, 107]⟩, .int .i64 at_, .iface 43 (.int .i64 c)] 81) ∧ q < σ.next

theorem Err.nil {σ : St} {v : Value} {c a : Int} (h : Err σ v c a) {α : Type} (K : Bool → Option α) : eqNil v K = K false := by
  obtain ⟨q, rfl, _⟩ := h
  rfl
theorem Err.same {σ σ' : St} {v : Value} {c a : Int} {S : List Nat} (h : Err σ v c a) (hs : Same σ σ' S) (hS : S = [] := by rfl) : Err σ' v c a := by
  subst hS
  obtain ⟨q, e, g, l⟩ := h
  exact ⟨q, e, by rw [hs.2 q l (by simp)]; exact g, by have := hs.1; omega⟩

theorem as_prim (L k : Nat) (args : List Value) (σ : St) : evCall Tryd.prog env L (k + 1) 33 args σ = Td.asG args σ := rfl

theorem code_spec (L k : Nat) {σ : St} {v : Value} {c a : Int} (h : Err σ v c a) : ∃ σ', evCall Tryd.prog env L (k + 2) 19 [v] σ = some (.int .i64 c, σ') ∧ Same σ σ' [] := by
  obtain ⟨q, rfl, hg, hq⟩ := h
  have hg1 : (σ.new (Blk.own [Value.int .i64 0] 43)).get q = some (.own [.string ⟨#[100, 105, 115, 107]⟩, .int .i64 a, .iface 43 (.int .i64 c)] 81) := by rw [get_new (by omega)]; exact hg
  rw [f19_eq, as_prim]
  have h : Td.asG [.iface 79 (.pointer (some ⟨q, 0, none⟩)), .iface 73 (.pointer (some ⟨σ.next, 0, none⟩))] (σ.new (Blk.own [Value.int .i64 0] 43)) =
      some (.bool true, (σ.new (Blk.own [Value.int .i64 0] 43)).set σ.next (.own [Value.int .i64 c] 43)) := by
    simp only [Td.asG, get_new_same]
    rw [if_pos (by simp), if_neg (by simp), if_neg (by simp), if_neg (by simp), if_pos (by simp), ld_own _ hg1 (v := .iface 43 (.int .i64 c)) rfl]
    exact put_own _ (get_new_same _ _) (by simp) rfl
  rw [h, bnd_some, asB_b, not_true, br_false, ld_own _ (get_set_same _ _ _) (v := .int .i64 c) rfl, asI_i]
  refine ⟨_, rfl, ⟨by simp, fun k hk _ => ?_⟩⟩
  rw [get_set (by omega), get_new (by omega)]

theorem code_nil (L k : Nat) (σ : St) : ∃ σ', evCall Tryd.prog env L (k + 2) 19 [.nilIface] σ = some (.int .i64 0, σ') ∧ Same σ σ' [] := by
  rw [f19_eq, as_prim]
  exact ⟨_, rfl, Same.new _ _ _⟩

theorem first_nil (L k : Nat) (hL : 3 < L) (σ : St) (s : ByteArray) : ∃ σ', evCall Tryd.prog env L (k + 3) 26 [.nilIface, .string s] σ = some (.tuple #[.int .i64 0, .bool false], σ') ∧ Same σ σ' [] := by
  obtain ⟨m, rfl⟩ : ∃ m, L = m + 4 := ⟨L - 4, by omega⟩
  rw [f26_eq, f34_eq, f34_l3, as_prim]
  have h : ∀ s4 σ1, Td.asG [.nilIface, s4] σ1 = some (.bool false, σ1) := fun _ _ => rfl
  rw [h, bnd_some, asB_b, br_false, bnd_some, asSl_s, f26_l2, decide_eq_false (by omega), br_false]
  exact ⟨_, rfl, Same.new _ _ _⟩

def cp (q : Nat) : List Value := [.pointer (some ⟨q, 0, none⟩)]

theorem first_spec (L k : Nat) (hL : 3 < L) {σ : St} {v : Value} {c a : Int} (h : Err σ v c a) : ∃ σ', evCall Tryd.prog env L (k + 3) 26 [v, .string ⟨#[100, 105, 115, 107]⟩] σ = some (.tuple #[.int .i64 a, .bool true], σ') ∧ Same σ σ' [] := by
  obtain ⟨m, rfl⟩ : ∃ m, L = m + 4 := ⟨L - 4, by omega⟩
  obtain ⟨q, rfl, hg, hq⟩ := h
  rw [f26_eq, f34_eq, f34_l3, as_prim]
  generalize hσ1 : σ.new (Blk.own [Value.pointer none] 79) = σ1
  have hs1 : Same σ σ1 [] := by rw [← hσ1]; exact Same.new _ _ _
  have hn1 : σ1.next = σ.next + 1 := by rw [← hσ1]; rfl
  have ht1 : σ1.get σ.next = some (Blk.own [Value.pointer none] 79) := by rw [← hσ1, get_new_same]
  have h : Td.asG [.iface 79 (.pointer (some ⟨q, 0, none⟩)), .iface 95 (.pointer (some ⟨σ.next, 0, none⟩))] σ1 = some (.bool true, σ1.set σ.next (.own [.pointer (some ⟨q, 0, none⟩)] 79)) := by
    simp only [Td.asG, ht1]
    rw [if_pos (by simp), if_pos (by simp)]
    exact put_own _ ht1 (by simp) rfl
  rw [h, bnd_some, asB_b, br_true, asP_p, adr_some]
  generalize hσ2 : σ1.set σ.next (.own [.pointer (some ⟨q, 0, none⟩)] 79) = σ2
  have hs2 : Same σ σ2 [] := by rw [← hσ2]; exact ⟨by simp; omega, fun k hk _ => by rw [get_set (by omega), hs1.2 k hk (by simp)]⟩
  have hn2 : σ2.next = σ.next + 1 := by rw [← hσ2]; simpa using hn1
  have ht2 : σ2.get σ.next = some (.own [.pointer (some ⟨q, 0, none⟩)] 79) := by rw [← hσ2, get_set_same]
  rw [ld_own _ ht2 (v := .pointer (some ⟨q, 0, none⟩)) rfl, asP_p, show (!(some (⟨q, 0, none⟩ : Addr)).isNone) = true from rfl, br_true, asP_p, adr_some, ld_own _ ht2 (v := .pointer (some ⟨q, 0, none⟩)) rfl, asP_p]
  generalize hσ3 : σ2.new (Blk.own [Value.pointer (some ⟨q, 0, none⟩)] 79) = σ3
  have hs3 : Same σ2 σ3 [] := by rw [← hσ3]; exact Same.new _ _ _
  have ht3 : σ3.get σ2.next = some (Blk.own [Value.pointer (some ⟨q, 0, none⟩)] 79) := by rw [← hσ3, get_new_same]
  rw [row_one ht3]
  obtain ⟨ad, z, qs, σ4, hgrow, hrow, hs4, hq4⟩ := grow_row (by_ := 8) (Row.nil cp 1 79 σ3) (fun _ => rfl) (fun _ => rfl) (by omega) [q] [Value.pointer (some ⟨q, 0, none⟩)] rfl 1 rfl (by unfold roomTop; simp) (by unfold sizeTop; simp)
  have hgrow' : ∀ K : Option Addr → Nat → Nat → St → Res, grow 79 1 8 none 0 0 1 [Value.pointer (some ⟨q, 0, none⟩)] σ3 K = K ad 1 z σ4 := hgrow
  have hs24 : Same σ2 σ4 [] := hs3.trans hs4
  have hs04 : Same σ σ4 [] := hs2.trans hs24
  have ht4 : σ4.get σ.next = some (.own [.pointer (some ⟨q, 0, none⟩)] 79) := by rw [hs24.2 _ (by omega) (by simp)]; exact ht2
  have hg4 : σ4.get q = some (.own [.string ⟨#[100, 105, 115, 107]⟩, .int .i64 a, .iface 43 (.int .i64 c)] 81) := by rw [hs04.2 q hq (by simp)]; exact hg
  rw [hgrow', asP_p, adr_some, ld_own _ ht4 (v := .pointer (some ⟨q, 0, none⟩)) rfl, asP_p, adr_some, ld_own _ hg4 (v := .iface 43 (.int .i64 c)) rfl, f34_l3, as_prim]
  have h5 : Td.asG [.iface 43 (.int .i64 c), .iface 95 (.pointer (some ⟨σ.next, 0, none⟩))] σ4 = some (.bool false, σ4) := by
    simp only [Td.asG, ht4]
    rw [if_pos (by simp), if_neg (by simp), if_pos (by simp)]
  obtain ⟨q9, e9, hat⟩ := hrow.at (fun _ => rfl) (i := 0) (a := q) rfl
  rw [h5, bnd_some, asB_b, br_false, bnd_some, asSl_s, f26_l2, decide_eq_true (by omega), br_true, need_of (by simp [inRange]), e9, adr_some, hat 0 (.pointer (some ⟨q, 0, none⟩)) _ (by omega) rfl (by simp), asP_p, adr_some, ld_own _ hg4 (v := .string ⟨#[100, 105, 115, 107]⟩) rfl, asS_s, beq_self_eq_true, br_true, adr_some, ld_own _ hg4 (v := .int .i64 a) rfl, asI_i]
  exact ⟨σ4, rfl, hs04⟩

end Go.AM.Df
