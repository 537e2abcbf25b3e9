/-
  RoundNil, in plain words.
-/
import Derived.Test.YtmbofnomfmhmdaaDoorRzB
import Derived.Test.YtmbofnomfmhmdaaDoorRzE
import Derived.Test.YtmbofnomfmhmdaaDoorAm17
set_option linter.unusedVariables false
set_option linter.unusedSimpArgs false
set_option linter.unusedSectionVars false
namespace Go.AM.Rz
open Go.Proofs

abbrev nilErr (σ : St) : St := σ.new (.own [.string ⟨#[114, 111, 117, 110, 100]⟩, .int .i64 0, .iface 61 (.int .i64 11)] 74)
section
variable (L k : Nat) (σ : St) (n x y : Int) (ad : Option Addr) (m z : Nat)
theorem nil7 : evCall Tryd.prog env L (k + 3) 7 [.pointer none, .int .i64 n, .slice ad m z] σ = some (.tuple #[.slice none 0 0, .iface 72 (.pointer (some ⟨σ.next, 0, none⟩))], nilErr σ) := by kernel_rfl
theorem nil12 : evCall Tryd.prog env L (k + 3) 12 [.pointer none, .agg #[.int .i64 n, .int .i64 x, .int .i64 y]] σ = some (.tuple #[.slice none 0 0, .iface 72 (.pointer (some ⟨σ.next + 1, 0, none⟩))], nilErr (σ.new (.own [.int .i64 n, .int .i64 x, .int .i64 y] 50))) := by kernel_rfl
theorem nil16 : evCall Tryd.prog env L (k + 1) 16 [.pointer none] σ = some (.tuple #[.int .i64 0, .bool false], σ) := by kernel_rfl
theorem nil14 : evCall Tryd.prog env L (k + 2) 14 [.pointer none] σ = some (.slice none 0 0, σ) := by kernel_rfl
theorem nil19 : evCall Tryd.prog env L (k + 1) 19 [.pointer none] σ = some (.slice none 0 0, σ) := by kernel_rfl
theorem nil17 : evCall Tryd.prog env L (k + 1) 17 [.pointer none] σ = some (.int .i64 0, σ) := by kernel_rfl
end
theorem nilErr_err (σ : St) : Err (nilErr σ) (.iface 72 (.pointer (some ⟨σ.next, 0, none⟩))) 11 0 := ⟨_, rfl, get_new_same _ _, by simp⟩

theorem place_ok (L k : Nat) (hL : 3 < L) {σ : St} {v : Value} (h : Err σ v 11 0) : ∃ σ', evCall Tryd.prog env L (k + 4) 11 [v, .int .i64 0, .int .i64 11] σ = some (.bool true, σ') ∧ Same σ σ' [] := by
  rw [f11_eq]
  obtain ⟨σ1, g1, s1⟩ := first_spec L k hL h
  obtain ⟨σ2, g2, s2⟩ := code_spec L (k + 1) (h.same s1)
  rw [g1, bnd_some, asT_t, toList2, uncons_c, asI_i, uncons_c, asB_b, endl_n, g2, bnd_some, asI_i, show ((11 : Int) == 11) = true from rfl, br_true, show (true == ((11 : Int) != 0)) = true from rfl, br_true, not_true, br_false, show ((0 : Int) == 0) = true from rfl]
  exact ⟨σ2, rfl, s1.trans s2⟩

theorem nil_holds (L k : Nat) (hL : 2000 < L) (σ : St) (a b c : Int) (ad : Option Addr) (m z : Nat) : ∃ σ', evCall Tryd.prog env L (k + 6) 4 [.agg [.int .i64 a, .int .i64 b, .int .i64 c].toArray, .slice ad m z] σ = some (.bool true, σ') := by
  rw [f4_eq]
  generalize hσ1 : σ.new (Blk.own [Value.int IntKind.i64 a, Value.int IntKind.i64 b, Value.int IntKind.i64 c] 36) = σ1
  have ht1 : σ1.get σ.next = some (Blk.own [Value.int IntKind.i64 a, Value.int IntKind.i64 b, Value.int IntKind.i64 c] 36) := by rw [← hσ1, get_new_same]
  have hn1 : σ1.next = σ.next + 1 := by rw [← hσ1]; rfl
  obtain ⟨σ2, g2, hs2⟩ := awake_spec L k hL σ1
  have hn2 := hs2.1
  have ht2 : σ2.get σ.next = _ := (hs2.2 σ.next (by omega) (by simp)).trans ht1
  rw [g2, bnd_some, asB_b, not_true, br_false]
  by_cases hl : (m : Int) > 20
  · obtain ⟨σ3, g3, _⟩ := awake_spec L k hL σ2
    rw [decide_eq_true hl, br_true, g3, bnd_some, asB_b]
    exact ⟨σ3, rfl⟩
  have h3 := nilErr_err σ2
  have hs3 : Same σ2 (nilErr σ2) [] := Same.new _ _ _
  rw [decide_eq_false hl, br_false, ld_at ht2 2 _ rfl, asI_i, nil7 L (k + 2), bnd_some, asT_t, toList2, uncons_c, asSl_s, uncons_c, endl_n]
  generalize nilErr σ2 = σ3 at h3 hs3
  have ht3 : σ3.get σ.next = _ := (hs3.2 σ.next (by omega) (by simp)).trans ht2
  rw [lds_all (n := 3) ht3 rfl, uncons_c, asI_i, uncons_c, asI_i, uncons_c, asI_i, endl_n, nil12 L (k + 2), bnd_some, asT_t, toList2, uncons_c, asSl_s, uncons_c, endl_n]
  generalize hσ4 : σ3.new (Blk.own [Value.int IntKind.i64 a, Value.int IntKind.i64 b, Value.int IntKind.i64 c] 50) = σ4
  have hs4 : Same σ3 σ4 [] := by rw [← hσ4]; exact Same.new _ _ _
  have hn4 : σ3.next + 1 = σ4.next := by rw [← hσ4]; rfl
  have h5 := nilErr_err σ4
  have hs5 : Same σ4 (nilErr σ4) [] := Same.new _ _ _
  rw [hn4]
  generalize nilErr σ4 = σ5 at h5 hs5
  obtain ⟨σ6, g6, hs6⟩ := place_ok L (k + 1) (by omega) ((h3.same hs4).same hs5)
  obtain ⟨σ7, g7, hs7⟩ := place_ok L (k + 1) (by omega) (h5.same hs6)
  rw [nil16 L (k + 4), bnd_some, asT_t, toList2, uncons_c, asI_i, uncons_c, asB_b, endl_n, nil14 L (k + 3), bnd_some, asSl_s, nil19 L (k + 4), bnd_some, asSl_s,
    show (IntKind.wrap .i64 (IntKind.wrap .i64 (IntKind.wrap .i64 (((0 : Nat) : Int) + ((0 : Nat) : Int)) + ((0 : Nat) : Int)) + ((0 : Nat) : Int)) == 0) = true from rfl, br_true, g6, bnd_some, asB_b, br_true, g7, bnd_some, asB_b, br_true, nil17 L (k + 4), bnd_some, asI_i, show ((0 : Int) == 0) = true from rfl, br_true, br_true]
  exact ⟨σ7, rfl⟩

end Go.AM.Rz
