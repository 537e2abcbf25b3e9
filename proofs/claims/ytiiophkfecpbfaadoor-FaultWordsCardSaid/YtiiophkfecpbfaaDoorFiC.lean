/-
  FaultWords: each number's word.
-/
import Derived.Test.YtiiophkfecpbfaaDoorFiA
set_option linter.unusedVariables false
set_option linter.unusedSimpArgs false
set_option linter.unusedSectionVars false
namespace Go.AM.Fi
open Go.Proofs

theorem word_len (c : Int) : (word c).data.toList.length ≤ 10 := by
  by_cases h : 0 ≤ c ∧ c < 13
  · have h' : c = 0 ∨ c = 1 ∨ c = 2 ∨ c = 3 ∨ c = 4 ∨ c = 5 ∨ c = 6 ∨ c = 7 ∨ c = 8 ∨ c = 9 ∨ c = 10 ∨ c = 11 ∨ c = 12 := by omega
    rcases h' with rfl | rfl | rfl | rfl | rfl | rfl | rfl | rfl | rfl | rfl | rfl | rfl | rfl <;> decide
  · rw [word, if_neg h]; decide
theorem word_q (c : Int) : (ByteArray.toList (word c) == ByteArray.toList ⟨#[63]⟩) = !decide (0 ≤ c ∧ c < 13) := by
  by_cases h : 0 ≤ c ∧ c < 13
  · have h' : c = 0 ∨ c = 1 ∨ c = 2 ∨ c = 3 ∨ c = 4 ∨ c = 5 ∨ c = 6 ∨ c = 7 ∨ c = 8 ∨ c = 9 ∨ c = 10 ∨ c = 11 ∨ c = 12 := by omega
    rcases h' with rfl | rfl | rfl | rfl | rfl | rfl | rfl | rfl | rfl | rfl | rfl | rfl | rfl <;> decide +kernel
  · rw [word, if_neg h, beq_self_eq_true]; simp [h]
theorem word_two (a b : Int) (hne : a ≠ b) : (ByteArray.toList (word a) == ByteArray.toList (word b)) = true → (ByteArray.toList (word a) == ByteArray.toList ⟨#[63]⟩) = true := by
  by_cases h : 0 ≤ a ∧ a < 13
  · by_cases h2 : 0 ≤ b ∧ b < 13
    · obtain ⟨n, rfl⟩ : ∃ n : Nat, a = n := ⟨a.toNat, by omega⟩
      obtain ⟨m, rfl⟩ : ∃ m : Nat, b = m := ⟨b.toNat, by omega⟩
      have hn : n < 13 := by omega
      have hm : m < 13 := by omega
      have hh : n ≠ m := by omega
      have key : ∀ n : Fin 13, ∀ m : Fin 13, n ≠ m → (ByteArray.toList (word (n.val : Int)) == ByteArray.toList (word (m.val : Int))) = false := by decide +kernel
      intro e
      rw [key ⟨n, hn⟩ ⟨m, hm⟩ (by simpa using hh)] at e
      cases e
    · intro e
      rw [show word b = ⟨#[63]⟩ from if_neg h2] at e
      exact e
  · intro _
    rw [word_q]; simp [h]

theorem words_tail (L k : Nat) {σ : St} (a b : Int) : ∃ σ', (bnd (evCall Tryd.prog env L (k + 6) 11 [.int .i64 a] σ) fun v10 v11 => asS v10 fun v12 =>
    br (!(ByteArray.toList (word a) == ByteArray.toList v12)) (some (Value.bool false, v11)) (bnd (evCall Tryd.prog env L (k + 6) 12 [.string ⟨#[120]⟩, .int .i64 0, .iface 23 (.int .i64 a)] v11) fun v13 v14 => eqNil v13 fun v15 =>
    br (!(v15 == (a == 0))) (some (Value.bool false, v14)) (eqNil v13 fun v16 =>
    br (!v16) (aMeth Tryd.prog v13 "Error" fun v17 v18 =>
    bnd (evCall Tryd.prog env L (k + 6) v17 [v18] v14) fun v19 v20 => asS v19 fun v21 => need (decide (5 + ByteArray.size (word a) ≤ 4611686018427387904)) (br (!(ByteArray.toList v21 == ByteArray.toList ⟨⟨120 :: 32 :: 48 :: 58 :: 32 :: List.append [] (ByteArray.data (word a)).1⟩⟩)) (some (Value.bool false, v20)) (br (a == b) (some (Value.bool true, v20)) (br (!(ByteArray.toList (word a) == ByteArray.toList (word b))) (some (Value.bool true, v20)) (some (Value.bool (ByteArray.toList (word a) == ByteArray.toList ⟨#[63]⟩), v20)))))) (br (a == b) (some (Value.bool true, v14)) (br (!(ByteArray.toList (word a) == ByteArray.toList (word b))) (some (Value.bool true, v14)) (some (Value.bool (ByteArray.toList (word a) == ByteArray.toList ⟨#[63]⟩), v14))))))) = some (.bool true, σ') := by
  have last : ∀ σ' : St, (br (a == b) (some (Value.bool true, σ')) (br (!(ByteArray.toList (word a) == ByteArray.toList (word b))) (some (Value.bool true, σ')) (some (Value.bool (ByteArray.toList (word a) == ByteArray.toList ⟨#[63]⟩), σ')))) = some (.bool true, σ') := by
    intro σ'
    by_cases hab : a = b
    · rw [show (a == b) = true by simpa using hab, br_true]
    · rw [show (a == b) = false by simpa using hab, br_false]
      cases hw : (ByteArray.toList (word a) == ByteArray.toList (word b)) with
      | false => rw [not_false, br_true]
      | true => rw [not_true, br_false, word_two a b hab hw]
  obtain ⟨σ1, g1, s1⟩ := word11_spec L (k + 5) σ a
  rw [g1, bnd_some, asS_s, beq_self_eq_true, not_true, br_false]
  by_cases ha : a = 0
  · subst ha
    have hw : evCall Tryd.prog env L (k + 6) 12 [.string ⟨#[120]⟩, .int .i64 0, .iface 23 (.int .i64 0)] σ1 = some (.nilIface, σ1) := by rw [f12_eq]; rfl
    rw [hw, bnd_some]
    exact ⟨σ1, last σ1⟩
  · obtain ⟨g2, h2, s2⟩ := wrap_spec L (k + 5) (σ := σ1) (.num a ha) ⟨#[120]⟩ 0
    have hwl := word_len a
    obtain ⟨σ3, g3, s3⟩ := err_spec L h2 (by simp) (by simp only [textC, List.length_append, List.length_cons, List.length_nil]; have : (dg 0).data.toList.length = 1 := rfl; rw [this]; omega) (k + 3)
    rw [g2, bnd_some, h2.nil, show (!(false == (a == 0))) = false by simp [ha], br_false, h2.nil, not_false, br_true]
    have g3' := g3 (fun v19 v20 => asS v19 fun v21 => need (decide (5 + ByteArray.size (word a) ≤ 4611686018427387904)) (br (!(ByteArray.toList v21 == ByteArray.toList ⟨⟨120 :: 32 :: 48 :: 58 :: 32 :: List.append [] (ByteArray.data (word a)).1⟩⟩)) (some (Value.bool false, v20)) (br (a == b) (some (Value.bool true, v20)) (br (!(ByteArray.toList (word a) == ByteArray.toList (word b))) (some (Value.bool true, v20)) (some (Value.bool (ByteArray.toList (word a) == ByteArray.toList ⟨#[63]⟩), v20))))))
    refine ⟨σ3, g3'.trans ?_⟩
    rw [asS_s, need_of (decide_eq_true (by show 5 + (word a).data.size ≤ _; rw [← Array.length_toList]; omega)), show (⟨⟨textC [(⟨#[120]⟩, 0)] a⟩⟩ : ByteArray) = ⟨⟨120 :: 32 :: 48 :: 58 :: 32 :: List.append [] (ByteArray.data (word a)).1⟩⟩ from rfl, beq_self_eq_true, not_true, br_false]
    exact last σ3

theorem words_holds (L k : Nat) (σ0 : St) (a b : Int) : ∃ σ', evCall Tryd.prog env L (k + 7) 3 [.int .i64 a, .int .i64 b] σ0 = some (.bool true, σ') := by
  obtain ⟨σ1, g1, s1⟩ := awake_spec L k σ0
  obtain ⟨σ2, g2, s2⟩ := word10_spec L (k + 5) σ1 a
  obtain ⟨σ3, g3, s3⟩ := word10_spec L (k + 5) σ2 b
  obtain ⟨σ4, g4⟩ := words_tail L k (σ := σ3) a b
  refine ⟨σ4, ?_⟩
  rw [f3_eq, g1, bnd_some, asB_b, not_true, br_false, g2, bnd_some, asS_s, g3, bnd_some, asS_s]
  by_cases h0 : a ≥ 0
  · rw [decide_eq_true h0, br_true]
    have hq : (!((!(ByteArray.toList (word a) == ByteArray.toList ⟨#[63]⟩)) == decide (a ≤ 12))) = false := by
      rw [word_q]
      by_cases h1 : a ≤ 12
      · simp [h1, h0, show a < 13 by omega]
      · simp [h1, show ¬ a < 13 by omega]
    rw [hq, br_false]
    exact g4
  · rw [decide_eq_false h0, br_false]
    have hq : (!((!(ByteArray.toList (word a) == ByteArray.toList ⟨#[63]⟩)) == false)) = false := by
      rw [word_q]
      simp [show ¬ 0 ≤ a by omega]
    rw [hq, br_false]
    exact g4
end Go.AM.Fi
