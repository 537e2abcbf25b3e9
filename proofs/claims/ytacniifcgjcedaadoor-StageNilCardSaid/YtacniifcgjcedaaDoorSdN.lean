/-
  StageNil, in plain words.
-/
import Derived.Test.YtacniifcgjcedaaDoorSdB
import Derived.Test.YtacniifcgjcedaaDoorSdE
import Derived.Test.YtacniifcgjcedaaDoorAm17
set_option linter.unusedVariables false
set_option linter.unusedSimpArgs false
set_option linter.unusedSectionVars false
namespace Go.AM.Sd
open Go.Proofs

section
variable (L k : Nat) (σ : St) (n : Int)
theorem nil6 : evCall Tryd.prog env L (k + 1) 6 [.pointer none] σ = some (.tuple #[], σ) := by kernel_rfl
theorem nil7 : evCall Tryd.prog env L (k + 1) 7 [.pointer none, .int .i64 n] σ = some (.tuple #[], σ) := by kernel_rfl
theorem nil8 : evCall Tryd.prog env L (k + 1) 8 [.pointer none] σ = some (.tuple #[.int .i64 0, .int .i64 0], σ) := by kernel_rfl
theorem nil9 : evCall Tryd.prog env L (k + 1) 9 [.pointer none] σ = some (.tuple #[.int .i64 0, .int .i64 0], σ) := by kernel_rfl
theorem nil10 : evCall Tryd.prog env (L + 1) (k + 2) 10 [.pointer none, .int .i64 n] σ = some (.tuple #[.slice none 0 0, .bool false], σ.new (.own [.int .i64 n] 3)) := by kernel_rfl
theorem nil11 (a b c : Int) (s : ByteArray) (d : Int) : evCall Tryd.prog env L (k + 2) 11 [.pointer none, .agg #[.int .i64 a, .int .i64 b, .int .i64 c, .string s, .int .i64 d]] σ = some (.int .i64 0, σ.new (.own [.int .i64 a, .int .i64 b, .int .i64 c, .string s, .int .i64 d] 23)) := by kernel_rfl
theorem nil12 : evCall Tryd.prog env (L + 1) (k + 2) 12 [.pointer none] σ = some (.slice none 0 0, σ) := by kernel_rfl
theorem nil14 : evCall Tryd.prog env (L + 1) (k + 3) 14 [.pointer none, .int .i64 n] σ = some (.iface 68 (.pointer (some ⟨σ.next + 1, 0, none⟩)), (σ.new (.own [.int .i64 n] 3)).new (.own [.string ⟨#[115, 116, 97, 103, 101]⟩, .int .i64 n, .iface 35 (.int .i64 8)] 70)) := by kernel_rfl
theorem nil15 : evCall Tryd.prog env L (k + 1) 15 [.pointer none] σ = some (.int .i64 0, σ) := by kernel_rfl
end

theorem nil_holds (L k : Nat) (hL : 10 < L) (σ : St) (a b c : Int) (s : ByteArray) (d n : Int) : ∃ σ', evCall Tryd.prog env L (k + 5) 3 [.agg [.int .i64 a, .int .i64 b, .int .i64 c, .string s, .int .i64 d].toArray, .int .i64 n] σ = some (.bool true, σ') := by
  obtain ⟨m, rfl⟩ : ∃ m, L = m + 1 := ⟨L - 1, by omega⟩
  rw [f3_eq]
  generalize hσ1 : σ.new (Blk.own [Value.int IntKind.i64 a, Value.int IntKind.i64 b, Value.int IntKind.i64 c, Value.string s, Value.int IntKind.i64 d] 23) = σ1
  have ht1 : σ1.get σ.next = some (Blk.own [Value.int IntKind.i64 a, Value.int IntKind.i64 b, Value.int IntKind.i64 c, Value.string s, Value.int IntKind.i64 d] 23) := by rw [← hσ1, get_new_same]
  have hn1 : σ1.next = σ.next + 1 := by rw [← hσ1]; rfl
  obtain ⟨σ2, g2, hs2⟩ := awake_spec (m + 1) k hL σ1
  have ht2 : σ2.get σ.next = _ := (hs2.2 σ.next (by omega) (by simp)).trans ht1
  rw [g2, bnd_some, asB_b, not_true, br_false, ld_at ht2 3 _ rfl, asS_s]
  by_cases hl : (s.size : Int) > 100
  · obtain ⟨σ3, g3, _⟩ := awake_spec (m + 1) k hL σ2
    rw [decide_eq_true hl, br_true, g3, bnd_some, asB_b]
    exact ⟨σ3, rfl⟩
  rw [decide_eq_false hl, br_false, nil6 _ (k + 3), bnd_some, asT_t, toList0, endl_n, nil7 _ (k + 3), bnd_some, asT_t, toList0, endl_n, nil8 _ (k + 3), bnd_some, asT_t, toList2, uncons_c, asI_i, uncons_c, asI_i, endl_n, nil9 _ (k + 3), bnd_some, asT_t, toList2, uncons_c, asI_i, uncons_c, asI_i, endl_n,
    nil10 m (k + 2), bnd_some, asT_t, toList2, uncons_c, asSl_s, uncons_c, asB_b, endl_n, show (IntKind.wrap .i64 (0 + 0) == 0) = true from rfl, br_true]
  have hn2 := hs2.1
  have ht3 : (σ2.new (.own [.int .i64 n] 3)).get σ.next = _ := (get_new (by omega)).trans ht2
  rw [lds_all (n := 5) ht3 rfl, uncons_c, asI_i, uncons_c, asI_i, uncons_c, asI_i, uncons_c, asS_s, uncons_c, asI_i, endl_n, nil11 _ (k + 2), bnd_some, asI_i, show ((0 : Int) == 0) = true from rfl, br_true, br_true, nil12 m (k + 2), bnd_some, asSl_s, show (((0 : Nat) : Int) == 0) = true from rfl, br_true, br_true, not_false, br_true, nil14 m (k + 1), bnd_some]
  generalize (σ2.new (.own [.int .i64 n] 3)).new _ = σ4
  have he : Err ((σ4.new (.own [.int .i64 n] 3)).new (.own [.string ⟨#[115, 116, 97, 103, 101]⟩, .int .i64 n, .iface 35 (.int .i64 8)] 70)) (.iface 68 (.pointer (some ⟨σ4.next + 1, 0, none⟩))) 8 n := ⟨_, rfl, get_new_same _ _, by simp⟩
  obtain ⟨σ5, g5, hs5⟩ := code_spec (m + 1) (k + 2) he
  rw [g5, bnd_some, asI_i, show ((8 : Int) == 8) = true from rfl, br_true, nil15 _ (k + 3), bnd_some, asI_i]
  exact ⟨σ5, rfl⟩

end Go.AM.Sd
