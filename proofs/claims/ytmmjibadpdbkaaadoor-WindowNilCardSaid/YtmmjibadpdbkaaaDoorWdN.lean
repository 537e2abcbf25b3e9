/-
  WindowNil, in plain words.
-/
import Derived.Test.YtmmjibadpdbkaaaDoorWdC
import Derived.Test.YtmmjibadpdbkaaaDoorWdE
import Derived.Test.YtmmjibadpdbkaaaDoorAm20
import Derived.Test.YtmmjibadpdbkaaaDoorAm17
set_option linter.unusedVariables false
set_option linter.unusedSimpArgs false
set_option linter.unusedSectionVars false
namespace Go.AM.Wd
open Go.Proofs

section
variable (L k : Nat) (σ : St) (n : Int) (x : ByteArray)
theorem nil6 : evCall Tryd.prog env L (k + 1) 6 [.pointer none, .string x] σ = some (.tuple #[], σ) := by kernel_rfl
theorem nil7 : evCall Tryd.prog env L (k + 1) 7 [.pointer none] σ = some (.tuple #[.int .i64 0, .int .i64 0, .int .i64 0], σ) := by kernel_rfl
theorem nil8 : evCall Tryd.prog env L (k + 1) 8 [.pointer none] σ = some (.slice none 0 0, σ) := by kernel_rfl
theorem nil9 : evCall Tryd.prog env L (k + 1) 9 [.pointer none] σ = some (.slice none 0 0, σ) := by kernel_rfl
theorem nil11 : evCall Tryd.prog env L (k + 2) 11 [.pointer none, .int .i64 n] σ = some (.iface 81 (.pointer (some ⟨σ.next, 0, none⟩)), σ.new (.own [.string ⟨#[119, 105, 110, 100, 111, 119]⟩, .int .i64 n, .iface 30 (.int .i64 5)] 83)) := by kernel_rfl
theorem nil12 : evCall Tryd.prog env L (k + 1) 12 [.pointer none, .agg #[.int .i64 n, .string x]] σ = some (.int .i64 0, σ.new (.own [.int .i64 n, .string x] 37)) := by kernel_rfl
theorem nil13 : evCall Tryd.prog env L (k + 1) 13 [.pointer none] σ = some (.slice none 0 0, σ) := by kernel_rfl
end

theorem nil_holds (L k : Nat) (hL : 2 < L) (σ : St) (x : ByteArray) (n : Int) : ∃ σ', evCall Tryd.prog env L (k + 5) 3 [.string x, .int .i64 n] σ = some (.bool true, σ') := by
  rw [f3_eq]
  obtain ⟨σ1, g1, _⟩ := awake_spec L k hL σ
  rw [g1, bnd_some, asB_b, not_true, br_false]
  by_cases hl : (x.size : Int) > 100
  · obtain ⟨σ2, g2, _⟩ := awake_spec L k hL σ1
    rw [decide_eq_true hl, br_true, g2, bnd_some, asB_b]
    exact ⟨σ2, rfl⟩
  rw [decide_eq_false hl, br_false, nil6 L (k + 3), bnd_some, asT_t, toList0, endl_n, nil7 L (k + 3), bnd_some, asT_t, show (#[Value.int .i64 0, .int .i64 0, .int .i64 0] : Array Value).toList = [.int .i64 0, .int .i64 0, .int .i64 0] from rfl, uncons_c, asI_i, uncons_c, asI_i, uncons_c, asI_i, endl_n,
    show (IntKind.wrap .i64 (IntKind.wrap .i64 (0 + 0) + 0) == 0) = true from rfl, br_true, nil8 L (k + 3), bnd_some, asSl_s, nil9 L (k + 3), bnd_some, asSl_s, show (IntKind.wrap .i64 (((0 : Nat) : Int) + ((0 : Nat) : Int)) == 0) = true from rfl, br_true, nil11 L (k + 2), bnd_some]
  have he : Err (σ1.new (.own [.string ⟨#[119, 105, 110, 100, 111, 119]⟩, .int .i64 n, .iface 30 (.int .i64 5)] 83)) (.iface 81 (.pointer (some ⟨σ1.next, 0, none⟩))) 5 n := ⟨_, rfl, get_new_same _ _, by simp⟩
  obtain ⟨σ2, g2, _⟩ := code_spec L (k + 2) he
  rw [g2, bnd_some, asI_i, show ((5 : Int) == 5) = true from rfl, br_true, need_true, nil12 L (k + 3), bnd_some, asI_i, show ((0 : Int) == 0) = true from rfl, br_true, nil13 L (k + 3), bnd_some, asSl_s]
  exact ⟨_, rfl⟩

end Go.AM.Wd
