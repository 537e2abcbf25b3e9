/-
  DiskFaults.
-/
import Derived.Test.YtkgpnhkildoeoaaDoorDfC
set_option linter.unusedVariables false
set_option linter.unusedSimpArgs false
set_option linter.unusedSectionVars false
namespace Go.AM.Df
open Go.Proofs

theorem faults_holds (L k : Nat) (hL : 100000 < L) (σ0 : St) (n i : Int) (b : ByteArray) (h0 : -9223372036854775808 ≤ i) (h1 : i ≤ 9223372036854775807) :
    ∃ σ', evCall Tryd.prog env L (k + 10) 8 [.int .i64 n, .int .i64 i, .string b] σ0 = some (.bool true, σ') := by
  obtain ⟨σ1, g1, s1⟩ := awake_spec L (k + 5) (by omega) σ0
  obtain ⟨σa, ga, sa⟩ := awake_spec L (k + 5) (by omega) σ1
  rw [f8_eq, g1, bnd_some, asB_b, not_true, br_false]
  by_cases hb : ((b.size : Nat) : Int) > 300
  · rw [decide_eq_true hb, br_true, ga, bnd_some, asB_b]; exact ⟨_, rfl⟩
  rw [decide_eq_false hb, br_false]
  obtain ⟨a, F, σ2, g2, hD, s2, _⟩ := new_spec L (k + 8) σ1 n
  rw [g2, bnd_some, asP_p, need_of (decide_eq_true (by omega))]
  have hD3 := hD.idle (Same.new σ2 (.ro (byteCells b)) [])
  have hB : Bytes (σ2.new (.ro (byteCells b))) (some ⟨σ2.next, 0, none⟩) b.data.toList [σ2.next] := Bytes.ro (by rw [get_new_same, byteCells_by8]) (by simp)
  obtain ⟨e, σ4, g4, hw⟩ := write_spec hD3 L (k + 6) (z := 0) hB (by simp) i
  have hbl : b.data.toList.length = b.size := rfl
  rw [hbl] at g4
  have hS : (((List.replicate (mx 0 (mn n 1024)).toNat zsec).length : Nat) : Int) = mx 0 (mn n 1024) := by
    rw [List.length_replicate]
    have : 0 ≤ mx 0 (mn n 1024) := by unfold mx; split <;> omega
    omega
  generalize hSd : List.replicate (mx 0 (mn n 1024)).toNat zsec = S at hD hD3 hw hS
  have hSl : S.length ≤ 1024 := by
    rw [← hSd, List.length_replicate]
    unfold mx mn
    split <;> split <;> omega
  have hN : mx 0 (mn n 1024) = (S.length : Int) := hS.symm
  rw [show (Value.pointer (some ⟨a, 0, none⟩)) = ptr a from rfl, g4, bnd_some]
  -- what the write left
  obtain ⟨F', W', hD4, hW', he⟩ : ∃ F' W', Disk σ4 a F' S W' ∧ W'.length ≤ 1 ∧ ((0 ≤ i ∧ i < S.length ∧ b.size = 64 ∧ e = .nilIface) ∨ (¬ (0 ≤ i ∧ i < S.length) ∧ Err σ4 e 5 i) ∨ ((0 ≤ i ∧ i < S.length) ∧ b.size ≠ 64 ∧ Err σ4 e 1 i)) := by
    rcases hw with ⟨F', hl, x0, x1, x2, x3, _⟩ | ⟨x0, x1, x2⟩ | ⟨x0, x1, x2, x3⟩
    · exact ⟨F', _, x3, by simp, .inl ⟨x0, x1, hl, x2⟩⟩
    · exact ⟨F, [], hD3.idle x2, by simp, .inr (.inl ⟨x0, x1⟩)⟩
    · exact ⟨F, [], hD3.idle x3, by simp, .inr (.inr ⟨x0, x1, x2⟩)⟩
  obtain ⟨v, σ5, g5, s5, hr⟩ := read_spec hD4 L (k + 6) (by omega) (by omega) i
  obtain ⟨x, f, hv, hf⟩ : ∃ x f, v = .tuple #[x, f] ∧ (∃ ad m z, x = .slice ad m z) ∧ ((0 ≤ i ∧ i < S.length ∧ f = .nilIface) ∨ (¬ (0 ≤ i ∧ i < S.length) ∧ Err σ5 f 5 i)) := by
    rcases hr with ⟨s, t, x0, x1, _, x2, _⟩ | ⟨v', x0, x1, x2⟩
    · exact ⟨_, _, x2, ⟨_, _, _, rfl⟩, .inl ⟨x0, x1, rfl⟩⟩
    · exact ⟨_, _, x1, ⟨_, _, _, rfl⟩, .inr ⟨x0, x2⟩⟩
  obtain ⟨⟨ad, m, z, rfl⟩, hf⟩ := hf
  subst hv
  have hD5 := hD4.idle s5
  have g6 := len_spec hD5 L (k + 8)
  rw [g5, bnd_some, asT_t, toList2, uncons_c, asSl_s, uncons_c, endl_n]
  have he5 : (0 ≤ i ∧ i < S.length ∧ b.size = 64 ∧ e = .nilIface) ∨ (¬ (0 ≤ i ∧ i < S.length) ∧ Err σ5 e 5 i) ∨ ((0 ≤ i ∧ i < S.length) ∧ b.size ≠ 64 ∧ Err σ5 e 1 i) := by
    rcases he with h | ⟨h, h'⟩ | ⟨h, h', h''⟩
    · exact .inl h
    · exact .inr (.inl ⟨h, h'.same s5⟩)
    · exact .inr (.inr ⟨h, h', h''.same s5⟩)
  have hask : ∃ σ', askE L (k + 9) i e f σ5 = some (.bool true, σ') := by
    refine askE_ok L (k + 6) (by omega) i h0 h1 ?_
    rcases he5 with ⟨x0, x1, _, rfl⟩ | ⟨x, h'⟩ | ⟨x, _, h''⟩
    · rcases hf with ⟨_, _, rfl⟩ | ⟨y, _⟩
      · exact .inl ⟨rfl, rfl⟩
      · exact absurd ⟨x0, x1⟩ y
    · rcases hf with ⟨y0, y1, _⟩ | ⟨_, hf'⟩
      · exact absurd ⟨y0, y1⟩ x
      · exact .inr ⟨5, h', .inr ⟨hf', rfl⟩⟩
    · rcases hf with ⟨_, _, rfl⟩ | ⟨y, _⟩
      · exact .inr ⟨1, h'', .inl rfl⟩
      · exact absurd x y
  obtain ⟨σ6, hask⟩ := hask
  refine ⟨σ6, ?_⟩
  have nn : ∀ K : Bool → Res, eqNil .nilIface K = K true := fun _ => rfl
  by_cases hi : i ≥ 0
  · rw [decide_eq_true hi, br_true, g6, bnd_some, asI_i, hN, show ((S.length : Int) != (S.length : Int)) = false by simp, br_false]
    by_cases hin : i < (S.length : Int)
    · have hfn : f = .nilIface := by
        rcases hf with ⟨_, _, rfl⟩ | ⟨y, _⟩
        · rfl
        · exact absurd ⟨hi, hin⟩ y
      subst hfn
      rw [nn, decide_eq_true hin, show (!(true == true)) = false from rfl, br_false]
      rcases he5 with ⟨_, _, hs, rfl⟩ | ⟨x, _⟩ | ⟨_, hs, h''⟩
      · rw [nn, br_true, hs, show (!(true == (((64 : Nat) : Int) == (64 : Int)))) = false from rfl, br_false]
        exact hask
      · exact absurd ⟨hi, hin⟩ x
      · rw [h''.nil, br_true, show (!(false == (((b.size : Nat) : Int) == (64 : Int)))) = false by simp; omega, br_false]
        exact hask
    · obtain ⟨_, hf'⟩ : ¬ (0 ≤ i ∧ i < S.length) ∧ Err σ5 f 5 i := by
        rcases hf with ⟨_, y, _⟩ | h
        · exact absurd y hin
        · exact h
      obtain ⟨_, he'⟩ : ¬ (0 ≤ i ∧ i < S.length) ∧ Err σ5 e 5 i := by
        rcases he5 with ⟨_, y, _⟩ | h | ⟨⟨_, y⟩, _⟩
        · exact absurd y hin
        · exact h
        · exact absurd y hin
      rw [hf'.nil, decide_eq_false hin, show (!(false == false)) = false from rfl, br_false, he'.nil, br_false, show (!(false == false)) = false from rfl, br_false]
      exact hask
  · obtain ⟨_, hf'⟩ : ¬ (0 ≤ i ∧ i < S.length) ∧ Err σ5 f 5 i := by
      rcases hf with ⟨y, _, _⟩ | h
      · exact absurd y hi
      · exact h
    obtain ⟨_, he'⟩ : ¬ (0 ≤ i ∧ i < S.length) ∧ Err σ5 e 5 i := by
      rcases he5 with ⟨y, _, _⟩ | h | ⟨⟨y, _⟩, _⟩
      · exact absurd y hi
      · exact h
      · exact absurd y hi
    rw [decide_eq_false hi, br_false, g6, bnd_some, asI_i, hN, show ((S.length : Int) != (S.length : Int)) = false by simp, br_false, hf'.nil, show (!(false == false)) = false from rfl, br_false, he'.nil, show (!(false == false)) = false from rfl, br_false]
    exact hask
end Go.AM.Df
