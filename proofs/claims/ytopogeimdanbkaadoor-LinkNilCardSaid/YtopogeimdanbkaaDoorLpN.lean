/-
  LinkNil, in plain words.
-/
import Derived.Test.YtopogeimdanbkaaDoorLpC
set_option linter.unusedVariables false
set_option linter.unusedSimpArgs false
set_option linter.unusedSectionVars false
namespace Go.AM.Lp
open Go.Proofs

abbrev nilErr (σ : St) : St := σ.new (.own [.string ⟨#[108, 105, 110, 107]⟩, .int .i64 0, .iface 29 (.int .i64 11)] 74)
theorem nil20 (L k : Nat) (σ : St) (b : Bool) : evCall Tryd.prog env L (k + 1) 20 [.pointer none, .bool b] σ = some (.tuple #[], σ) := by kernel_rfl
theorem nil12 (L k : Nat) (σ : St) : evCall Tryd.prog env L (k + 1) 12 [.pointer none] σ = some (.int .i64 0, σ) := by kernel_rfl
theorem nil13 (L k : Nat) (σ : St) (i : Int) : evCall Tryd.prog env L (k + 4) 13 [.pointer none, .int .i64 i] σ = some (.tuple #[.string { data := #[] }, .iface 72 (.pointer (some ⟨σ.next, 0, none⟩))], nilErr σ) := by kernel_rfl
theorem nil10 (L k : Nat) (σ : St) (x : ByteArray) : evCall Tryd.prog env L (k + 3) 10 [.pointer none, .string x] σ = some (.iface 72 (.pointer (some ⟨σ.next, 0, none⟩)), nilErr σ) := by kernel_rfl
theorem nil25 (L k : Nat) (σ : St) (i : Int) : evCall Tryd.prog env L (k + 4) 25 [.pointer none, .int .i64 i] σ = some (.iface 72 (.pointer (some ⟨σ.next, 0, none⟩)), nilErr σ) := by kernel_rfl
theorem nil27 (L k : Nat) (σ : St) (i : Int) : evCall Tryd.prog env L (k + 4) 27 [.pointer none, .int .i64 i] σ = some (.iface 72 (.pointer (some ⟨σ.next, 0, none⟩)), nilErr σ) := by kernel_rfl
theorem nilErr_err (σ : St) : Err (nilErr σ) (.iface 72 (.pointer (some ⟨σ.next, 0, none⟩))) 11 0 := ⟨_, rfl, get_new_same _ _, by simp⟩

theorem nil_holds (L k : Nat) (hL : 400 < L) (σ : St) (i : Int) (x : ByteArray) :
    ∃ σ9, evCall Tryd.prog env L (k + 7) 7 [.int .i64 i, .string x] σ = some (.bool true, σ9) := by
  rw [f7_eq]
  obtain ⟨σ1, g1, hk1⟩ := awake_spec L k σ
  rw [g1, bnd_some, asB_b, not_true, br_false]
  by_cases hl : (x.size : Int) > 100
  · obtain ⟨σ2, g2, _⟩ := awake_spec L k σ1
    rw [decide_eq_true hl, br_true, g2, bnd_some, asB_b]
    exact ⟨σ2, rfl⟩
  · rw [decide_eq_false hl, br_false, nil20 L (k + 5), bnd_some, asT_t, toList0, endl_n, nil13 L (k + 2), bnd_some, asT_t, toList2, uncons_c, asS_s, uncons_c, endl_n]
    have he := nilErr_err σ1
    generalize nilErr σ1 = σ2 at he
    obtain ⟨σ3, g3, s3⟩ := first_spec L (k + 3) (by omega) he
    rw [g3, bnd_some, asT_t, toList2, uncons_c, asI_i, uncons_c, asB_b, endl_n, beq_self_eq_true, br_true]
    have he3 := he.same s3
    generalize hσ4 : σ3.new (Blk.own [Value.slice none 0 0, Value.int .i64 0, Value.bool false] 59) = σ4
    have s4 : Same σ3 σ4 [] := by rw [← hσ4]; exact Same.new _ _ _
    have hA4 : S.Link σ4 σ3.next [] [] 0 false := by
      rw [← hσ4]
      exact ⟨⟨none, 0, by rw [get_new_same]; rfl, ⟨by simp, .inl ⟨rfl, rfl, rfl, rfl⟩⟩⟩, by simp, by simp⟩
    obtain ⟨σ5, g5, s5⟩ := code_spec L (k + 4) (he3.same s4)
    have hA5 := hA4.idle s5
    rw [g5, bnd_some, asI_i, show ((11 : Int) == 11) = true from rfl, br_true, show ((0 : Int) == 0) = true from rfl, br_true, br_true, nil10 L (k + 3), bnd_some]
    have h6 := nilErr_err σ5
    have s6 : Same σ5 (nilErr σ5) [] := Same.new _ _ _
    generalize nilErr σ5 = σ6 at h6 s6
    obtain ⟨σ7, g7, s7⟩ := code_spec L (k + 4) h6
    have hA7 := (hA5.idle s6).idle s7
    rw [g7, bnd_some, asI_i, show ((11 : Int) == 11) = true from rfl, br_true, nil25 L (k + 2), bnd_some]
    have h8 := nilErr_err σ7
    have s8 : Same σ7 (nilErr σ7) [] := Same.new _ _ _
    generalize nilErr σ7 = σ8 at h8 s8
    obtain ⟨σ9, g9, s9⟩ := code_spec L (k + 4) h8
    have hA9 := (hA7.idle s8).idle s9
    rw [g9, bnd_some, asI_i, show ((11 : Int) == 11) = true from rfl, br_true, nil27 L (k + 2), bnd_some]
    have h10 := nilErr_err σ9
    have s10 : Same σ9 (nilErr σ9) [] := Same.new _ _ _
    generalize nilErr σ9 = σ10 at h10 s10
    obtain ⟨σ11, g11, s11⟩ := code_spec L (k + 4) h10
    have hA11 := (hA9.idle s10).idle s11
    rw [g11, bnd_some, asI_i, show ((11 : Int) == 11) = true from rfl, br_true, nil12 L (k + 5), bnd_some, asI_i, show ((0 : Int) == 0) = true from rfl, br_true]
    rcases S.send_spec L (k + 2) hA11 (by simp) x with ⟨h, _⟩ | ⟨_, v, σ12, g12, he12, s12⟩
    · simp at h
    · obtain ⟨σ13, g13, s13⟩ := code_spec L (k + 4) he12
      rw [g12, bnd_some, g13, bnd_some, asI_i, show ((6 : Int) == 6) = true from rfl, br_true, S.len_spec L (k + 5) ((hA11.idle s12).idle s13), bnd_some, asI_i]
      exact ⟨σ13, rfl⟩

end Go.AM.Lp
