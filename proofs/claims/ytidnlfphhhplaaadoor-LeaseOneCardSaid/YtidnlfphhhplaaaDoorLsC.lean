/-
  LeaseBack, LeaseNil, LeaseSite, LeaseWaits, in plain words.
-/
import Derived.Test.YtidnlfphhhplaaaDoorLsB
set_option linter.unusedVariables false
set_option linter.unusedSimpArgs false
set_option linter.unusedSectionVars false
namespace Go.AM.Ls
open Go.Proofs

theorem tm_of {n t : Int} (h : n ≤ t) (h1 : t ≤ 1152921504606846976) : tm n t = t := by
  unfold tm mx mn
  split <;> split <;> omega
theorem tm_le {n t : Int} (h : t ≤ n) : tm n t = n := by
  unfold tm mx mn
  split <;> split <;> omega
theorem grant_ok {s : S} {ep t : Int} (h0 : 1 ≤ ep) (h1 : s.e ≤ ep) (h2 : s.now ≤ t) (h3 : t ≤ 1152921504606846976) (h4 : -1 ≤ t) : s.grant ep t = (0, ⟨t, ep, t + 10⟩) := by
  unfold S.grant
  rw [if_neg (by omega), if_neg (by omega), tm_of h2 h3, wrap_in (t + 10) (by omega) (by omega)]
theorem S.at_ok {s : S} {t : Int} (h2 : s.now ≤ t) (h3 : t ≤ 1152921504606846976) : s.at t = ⟨t, s.e, s.u⟩ := by
  unfold S.at; rw [tm_of h2 h3]
theorem Fe.at_ok {f : Fe} {t : Int} (h2 : f.now ≤ t) (h3 : t ≤ 1152921504606846976) : f.at t = ⟨t, f.e, f.since, f.till⟩ := by
  unfold Fe.at; rw [tm_of h2 h3]
theorem check_ok {s : S} {ep t : Int} (h2 : s.now ≤ t) (h3 : t ≤ 1152921504606846976) : s.check ep t = if s.e = 0 then 10 else if ep ≠ s.e then 10 else if t ≥ s.u then 11 else 0 := by
  unfold S.check; rw [tm_of h2 h3]
theorem renew_ok {f : Fe} {ep t : Int} (h0 : f.e ≠ 0) (h1 : ep = f.e) (h2 : f.now ≤ t) (h3 : t ≤ 1152921504606846976) (h4 : -1 ≤ t) (h5 : f.since ≤ t) : f.renew ep t = (0, ⟨t, f.e, f.since, t + 10⟩) := by
  unfold Fe.renew
  rw [if_neg h0, if_neg (by omega), tm_of h2 h3, if_neg (by omega), wrap_in (t + 10) (by omega) (by omega)]
theorem promote_ok {f : Fe} {t : Int} (h0 : f.e < 1073741824) (h2 : f.now ≤ t) (h3 : t ≤ 1152921504606846976) : ¬ f.full ∧ f.next t = ⟨t, f.e + 1, mx t f.till, f.till⟩ ∧ f.promote t = ⟨t, f.e + 1, mx t f.till, f.till⟩ := by
  have h : ¬ f.full := by unfold Fe.full; omega
  refine ⟨h, ?_, ?_⟩
  · unfold Fe.next; rw [tm_of h2 h3]
  · unfold Fe.promote; rw [if_neg h]; unfold Fe.next; rw [tm_of h2 h3]
theorem holds_ok {f : Fe} {t : Int} (h2 : f.now ≤ t) (h3 : t ≤ 1152921504606846976) : f.holds t = if t < f.since then 0 else f.e := by
  unfold Fe.holds; rw [tm_of h2 h3]

/-- A site of its own, made. -/
theorem new_site (σ : St) : ∃ σ', σ.new (.own [Value.int IntKind.i64 0, Value.int IntKind.i64 0, Value.int IntKind.i64 0] 28) = σ' ∧ Has σ' σ.next (S.cells ⟨0, 0, 0⟩) 28 ∧ Same σ σ' [] ∧ σ'.next = σ.next + 1 :=
  ⟨_, rfl, Has.new _ _ _, Same.new _ _ _, rfl⟩
theorem new_fence (σ : St) : ∃ σ', σ.new (.own [Value.int IntKind.i64 0, Value.int IntKind.i64 0, Value.int IntKind.i64 0, Value.int IntKind.i64 0] 39) = σ' ∧ Has σ' σ.next (Fe.cells ⟨0, 0, 0, 0⟩) 39 ∧ Same σ σ' [] ∧ σ'.next = σ.next + 1 :=
  ⟨_, rfl, Has.new _ _ _, Same.new _ _ _, rfl⟩

theorem u16_wrap {x : Int} (h : 0 ≤ x ∧ x ≤ 65535) : IntKind.wrap .i64 x = x := wrap_in x (by omega) (by omega)

/-! LeaseSite -/
theorem site_holds (L k : Nat) (σ : St) (a0 a1 a2 a3 : Int) (h0 : 0 ≤ a0 ∧ a0 ≤ 65535) (h1 : 0 ≤ a1 ∧ a1 ≤ 65535) (h2 : 0 ≤ a2 ∧ a2 ≤ 65535) (h3 : 0 ≤ a3 ∧ a3 ≤ 65535) :
    ∃ σ', evCall Tryd.prog env L (k + 5) 3 [.int .u16 a0, .int .u16 a1, .int .u16 a2, .int .u16 a3] σ = some (.bool true, σ') := by
  rw [f3_eq]
  obtain ⟨σ1, g1, _⟩ := awake_spec L k σ
  obtain ⟨σ2, q2, hs2, _, _⟩ := new_site σ1
  have m2 : 0 ≤ Int.tmod a2 20 ∧ Int.tmod a2 20 < 20 := by
    obtain ⟨m, rfl⟩ := Int.eq_ofNat_of_zero_le h2.1
    rw [show Int.tmod (m : Int) 20 = ((m % 20 : Nat) : Int) from rfl]; omega
  have m3 : 0 ≤ Int.tmod a3 20 ∧ Int.tmod a3 20 < 20 := by
    obtain ⟨m, rfl⟩ := Int.eq_ofNat_of_zero_le h3.1
    rw [show Int.tmod (m : Int) 20 = ((m % 20 : Nat) : Int) from rfl]; omega
  rw [g1, bnd_some, asB_b, not_true, br_false, q2, u16_wrap h0, u16_wrap h1, u16_wrap h2, u16_wrap h3]
  generalize Int.tmod a2 20 = x at m2
  generalize Int.tmod a3 20 = y at m3
  rw [wrap_in (1 + a0) (by omega) (by omega), wrap_in (a1 + x) (by omega) (by omega), wrap_in (a1 + x + y) (by omega) (by omega), wrap_in (a1 + x + 10) (by omega) (by omega), wrap_in (1 + a0 + 1) (by omega) (by omega), wrap_in (1 + a0 - 1) (by omega) (by omega)]
  obtain ⟨v3, σ3, g3, e3, hs3, _⟩ := grant_spec hs2 L (k + 1) (1 + a0) a1
  rw [grant_ok (by omega) (by simp only; omega) (by simp only; omega) (by omega) (by omega)] at e3 hs3
  obtain ⟨v4, σ4, g4, e4, hs4, _⟩ := check_spec hs3 L (k + 1) (1 + a0) a1
  rw [check_ok (by simp only; omega) (by omega), if_neg (by simp only; omega), if_neg (by simp), if_neg (by simp only; omega)] at e4
  rw [S.at_ok (by simp only; omega) (by omega)] at hs4
  obtain ⟨v5, σ5, g5, e5, hs5, _⟩ := check_spec hs4 L (k + 1) (1 + a0 + 1) a1
  rw [check_ok (by simp only; omega) (by omega), if_neg (by simp only; omega), if_pos (by simp only; omega)] at e5
  rw [S.at_ok (by simp only; omega) (by omega)] at hs5
  obtain ⟨σ6, g6, s6⟩ := code_ans L (k + 2) e5
  obtain ⟨v7, σ7, g7, e7, hs7, _⟩ := check_spec (hs5.same s6 (by simp)) L (k + 1) (1 + a0 - 1) a1
  rw [check_ok (by simp only; omega) (by omega), if_neg (by simp only; omega), if_pos (by simp only; omega)] at e7
  rw [S.at_ok (by simp only; omega) (by omega)] at hs7
  obtain ⟨σ8, g8, s8⟩ := code_ans L (k + 2) e7
  obtain ⟨v9, σ9, g9, e9, hs9, _⟩ := grant_spec (hs7.same s8 (by simp)) L (k + 1) (1 + a0) (a1 + x)
  rw [grant_ok (by omega) (by simp only; omega) (by simp only; omega) (by omega) (by omega)] at e9 hs9
  have g10 := epoch_spec hs9 L (k + 3)
  obtain ⟨v11, σ11, g11, e11, hs11, _⟩ := check_spec hs9 L (k + 1) (1 + a0) (a1 + x + y)
  rw [check_ok (by simp only; omega) (by omega), if_neg (by simp only; omega), if_neg (by simp)] at e11
  have t10 : ((10 : Int) != 10) = false := rfl
  rw [g3, bnd_some, e3.nil, decide_eq_true rfl, not_true, br_false, g4, bnd_some, e4.nil, decide_eq_true rfl, not_true, br_false, g5, bnd_some, g6, bnd_some, asI_i, t10, br_false, g7, bnd_some, g8, bnd_some, asI_i, t10, br_false,
    g9, bnd_some, e9.nil, decide_eq_true rfl, not_true, br_false, g10, bnd_some, asT_t, toList2, uncons_c, asI_i, uncons_c, asI_i, endl_n, g11, bnd_some, e11.nil]
  have hc : (decide ((if a1 + x + y ≥ a1 + x + 10 then (11 : Int) else 0) = 0) == decide (a1 + x + y < a1 + x + 10)) = true := by
    by_cases hy : a1 + x + y ≥ a1 + x + 10
    · rw [if_pos hy, decide_eq_false (by omega), decide_eq_false (by omega)]; rfl
    · rw [if_neg hy, decide_eq_true rfl, decide_eq_true (by omega)]; rfl
  rw [hc, br_true, beq_self_eq_true, br_true, beq_self_eq_true]
  exact ⟨σ11, rfl⟩

/-! LeaseWaits -/
theorem waits_holds (L k : Nat) (σ : St) (a0 a1 a2 : Int) (h0 : 0 ≤ a0 ∧ a0 ≤ 65535) (h1 : 0 ≤ a1 ∧ a1 ≤ 65535) (h2 : 0 ≤ a2 ∧ a2 ≤ 65535) :
    ∃ σ', evCall Tryd.prog env L (k + 5) 4 [.int .u16 a0, .int .u16 a1, .int .u16 a2] σ = some (.bool true, σ') := by
  rw [f4_eq]
  obtain ⟨σ1, g1, _⟩ := awake_spec L k σ
  obtain ⟨σ2, q2, hs2, _, _⟩ := new_fence σ1
  rw [g1, bnd_some, asB_b, not_true, br_false, q2, u16_wrap h0, u16_wrap h1, u16_wrap h2]
  rw [wrap_in (a0 + a1) (by omega) (by omega), wrap_in (a0 + a1 + a2) (by omega) (by omega), wrap_in (a0 + a1 + 10) (by omega) (by omega)]
  obtain ⟨f1, f2, f3⟩ := promote_ok (f := ⟨0, 0, 0, 0⟩) (t := a0) (by simp only; omega) (by simp only; omega) (by omega)
  obtain ⟨v3, σ3, g3, e3, hs3, _⟩ := promote_spec hs2 (by unfold Fe.Ok; decide) L (k + 1) a0
  rw [f3] at hs3
  rw [if_neg f1] at e3
  rw [if_neg f1, if_neg f1, f2] at g3
  have hm : mx a0 0 = a0 := by unfold mx; rw [if_neg (by omega)]
  simp only [hm] at hs3 g3
  obtain ⟨v4, σ4, g4, e4, hs4, _⟩ := renew_spec hs3 L (k + 1) 1 (a0 + a1)
  rw [renew_ok (by simp) (by simp) (by simp only; omega) (by omega) (by omega) (by simp only; omega)] at e4 hs4
  obtain ⟨f5, f6, f7⟩ := promote_ok (f := ⟨a0 + a1, 0 + 1, a0, a0 + a1 + 10⟩) (t := a0 + a1 + a2) (by simp only; omega) (by simp only; omega) (by omega)
  obtain ⟨v5, σ5, g5, e5, hs5, _⟩ := promote_spec hs4 (by unfold Fe.Ok; simp) L (k + 1) (a0 + a1 + a2)
  rw [f7] at hs5
  rw [if_neg f5] at e5
  rw [if_neg f5, if_neg f5, f6] at g5
  have hM : mx (a0 + a1 + a2) (a0 + a1 + 10) = if a0 + a1 + 10 > a0 + a1 + a2 then a0 + a1 + 10 else a0 + a1 + a2 := rfl
  have hM1 : a0 + a1 + a2 ≤ mx (a0 + a1 + a2) (a0 + a1 + 10) ∧ a0 + a1 + 10 ≤ mx (a0 + a1 + a2) (a0 + a1 + 10) ∧ mx (a0 + a1 + a2) (a0 + a1 + 10) ≤ 300000 := by
    rw [hM]; split <;> omega
  simp only at g5 hs5
  generalize mx (a0 + a1 + a2) (a0 + a1 + 10) = M at *
  obtain ⟨v6, σ6, g6, e6, hs6, _⟩ := renew_spec hs5 L (k + 1) 1 (a0 + a1 + a2)
  have r6 : Fe.renew ⟨a0 + a1 + a2, 0 + 1 + 1, M, a0 + a1 + 10⟩ 1 (a0 + a1 + a2) = (10, ⟨a0 + a1 + a2, 0 + 1 + 1, M, a0 + a1 + 10⟩) := by
    unfold Fe.renew
    rw [if_neg (by simp), if_pos (by simp), Fe.at_ok (by simp) (by omega)]
  rw [r6] at e6 hs6
  obtain ⟨σ7, g7, s7⟩ := code_ans L (k + 2) e6
  have hs7 := hs6.same s7 (by simp)
  have t10 : ((10 : Int) != 10) = false := rfl
  have t9 : ((9 : Int) != 9) = false := rfl
  rw [g3, bnd_some, asT_t, toList3, uncons_c, asI_i, uncons_c, asI_i, uncons_c, endl_n, show ((0 + 1 : Int) != 1) = false from rfl, br_false, show (a0 != a0) = false by simp, br_false, e3.nil, decide_eq_true rfl, not_true, br_false,
    g4, bnd_some, e4.nil, decide_eq_true rfl, not_true, br_false, g5, bnd_some, asT_t, toList3, uncons_c, asI_i, uncons_c, asI_i, uncons_c, endl_n, show ((0 + 1 + 1 : Int) != 2) = false from rfl, br_false, e5.nil, decide_eq_true rfl, not_true, br_false, show (M != M) = false by simp, br_false,
    g6, bnd_some, g7, bnd_some, asI_i, t10, br_false]
  have fin : ∀ (σ8 : St) (n : Int), n ≤ M → Has σ8 σ1.next (Fe.cells ⟨n, 0 + 1 + 1, M, a0 + a1 + 10⟩) 39 → ∃ σ' : St, (bnd (evCall Tryd.prog env L (k + 4) 16 [ptr σ1.next, .int .i64 M] σ8) fun v44 v45 => asI IntKind.i64 v44 fun v46 =>
      br (v46 == (2 : Int)) (bnd (evCall Tryd.prog env L (k + 4) 15 [ptr σ1.next, .int .i64 2, .int .i64 M] v45) fun v47 v48 => eqNil v47 fun v49 => some (Value.bool v49, v48)) (some (Value.bool false, v45))) = some (.bool true, σ') := by
    intro σ8 n hn h8
    obtain ⟨σ9, g9, hs9, _⟩ := holds_spec h8 L (k + 2) M
    rw [holds_ok (by simpa using hn) (by omega), if_neg (by simp)] at g9
    rw [Fe.at_ok (by simpa using hn) (by omega)] at hs9
    obtain ⟨v10, σ10, g10, e10, _, _⟩ := renew_spec hs9 L (k + 1) 2 M
    rw [renew_ok (by simp) (by simp) (by simp) (by omega) (by omega) (by simp)] at e10
    rw [g9, bnd_some, asI_i, show ((0 + 1 + 1 : Int) == 2) = true from rfl, br_true, g10, bnd_some, e10.nil, decide_eq_true rfl]
    exact ⟨σ10, rfl⟩
  by_cases hgt : M > a0 + a1 + a2
  · obtain ⟨σ8, g8, hs8, _⟩ := holds_spec hs7 L (k + 2) (M - 1)
    rw [holds_ok (by simp only; omega) (by omega), if_pos (by simp only; omega)] at g8
    rw [Fe.at_ok (by simp only; omega) (by omega)] at hs8
    obtain ⟨v9, σ9, g9, e9, hs9, _⟩ := renew_spec hs8 L (k + 1) 2 (M - 1)
    have r9 : Fe.renew ⟨M - 1, 0 + 1 + 1, M, a0 + a1 + 10⟩ 2 (M - 1) = (9, ⟨M - 1, 0 + 1 + 1, M, a0 + a1 + 10⟩) := by
      unfold Fe.renew
      rw [if_neg (by simp), if_neg (by simp), tm_of (by simp) (by omega), if_pos (by simp only; omega), Fe.at_ok (by simp) (by omega)]
    rw [r9] at e9 hs9
    obtain ⟨σ10, g10, s10⟩ := code_ans L (k + 2) e9
    rw [decide_eq_true hgt, br_true, wrap_in (M - 1) (by omega) (by omega), g8, bnd_some, asI_i, show ((0 : Int) != 0) = false from rfl, br_false, g9, bnd_some, g10, bnd_some, asI_i, t9, br_false]
    exact fin σ10 _ (by omega) (hs9.same s10 (by simp))
  · rw [decide_eq_false hgt, br_false]
    exact fin σ7 _ (by omega) hs7

/-! LeaseNil -/
abbrev nilErr (σ : St) : St := σ.new (.own [.string ⟨#[108, 101, 97, 115, 101]⟩, .int .i64 0, .iface 32 (.int .i64 11)] 88)
theorem nil10 (L k : Nat) (σ : St) (e t : Int) : evCall Tryd.prog env L (k + 3) 10 [.pointer none, .int .i64 e, .int .i64 t] σ = some (.iface 86 (.pointer (some ⟨σ.next, 0, none⟩)), nilErr σ) := by kernel_rfl
theorem nil11 (L k : Nat) (σ : St) (e t : Int) : evCall Tryd.prog env L (k + 3) 11 [.pointer none, .int .i64 e, .int .i64 t] σ = some (.iface 86 (.pointer (some ⟨σ.next, 0, none⟩)), nilErr σ) := by kernel_rfl
theorem nil15 (L k : Nat) (σ : St) (e t : Int) : evCall Tryd.prog env L (k + 3) 15 [.pointer none, .int .i64 e, .int .i64 t] σ = some (.iface 86 (.pointer (some ⟨σ.next, 0, none⟩)), nilErr σ) := by kernel_rfl
theorem nil14 (L k : Nat) (σ : St) (t : Int) : evCall Tryd.prog env L (k + 3) 14 [.pointer none, .int .i64 t] σ = some (.tuple #[.int .i64 0, .int .i64 0, .iface 86 (.pointer (some ⟨σ.next, 0, none⟩))], nilErr σ) := by kernel_rfl
theorem nil13 (L k : Nat) (σ : St) : evCall Tryd.prog env L (k + 1) 13 [.pointer none] σ = some (.tuple #[.int .i64 0, .int .i64 0], σ) := by kernel_rfl
theorem nil16 (L k : Nat) (σ : St) (t : Int) : evCall Tryd.prog env L (k + 1) 16 [.pointer none, .int .i64 t] σ = some (.int .i64 0, σ) := by kernel_rfl
theorem nilErr_ans (σ : St) : Ans (nilErr σ) (.iface 86 (.pointer (some ⟨σ.next, 0, none⟩))) 11 0 := .inr ⟨by decide, _, rfl, get_new_same _ _, by simp⟩
theorem nilErr_same (σ : St) : Same σ (nilErr σ) [] := Same.new _ _ _

theorem nil_holds (L k : Nat) (hL : 3 < L) (σ : St) (a0 a1 : Int) : ∃ σ', evCall Tryd.prog env L (k + 6) 8 [.int .i64 a0, .int .i64 a1] σ = some (.bool true, σ') := by
  rw [f8_eq]
  obtain ⟨σ1, g1, _⟩ := awake_spec L (k + 1) σ
  rw [g1, bnd_some, asB_b, not_true, br_false, nil13 L (k + 4), bnd_some, asT_t, toList2, uncons_c, asI_i, uncons_c, asI_i, endl_n, nil14 L (k + 2), bnd_some, asT_t, toList3, uncons_c, asI_i, uncons_c, asI_i, uncons_c, endl_n]
  have e2 := nilErr_ans σ1
  generalize nilErr σ1 = σ2 at e2
  obtain ⟨σ3, q3, hs3, s3, n3⟩ := new_site σ2
  rw [q3, nil10 L (k + 2), bnd_some]
  obtain ⟨σ5, g5, s5⟩ := place_spec L (k + 1) hL (nilErr_ans σ3)
  have s35 := (nilErr_same σ3).trans s5
  rw [g5, bnd_some, asB_b, br_true, nil11 L (k + 2), bnd_some]
  obtain ⟨σ6, g6, s6⟩ := place_spec L (k + 1) hL (nilErr_ans σ5)
  have s36 := s35.trans ((nilErr_same σ5).trans s6)
  rw [g6, bnd_some, asB_b, br_true, show (IntKind.wrap .i64 (0 + 0) == 0) = true from rfl, br_true, br_true]
  obtain ⟨σ7, g7, s7⟩ := place_spec L (k + 1) hL (e2.same (s3.trans s36))
  have s37 := s36.trans s7
  rw [g7, bnd_some, asB_b, br_true, nil15 L (k + 2), bnd_some]
  obtain ⟨σ8, g8, s8⟩ := place_spec L (k + 1) hL (nilErr_ans σ7)
  have s38 := s37.trans ((nilErr_same σ7).trans s8)
  rw [g8, bnd_some, asB_b, br_true, nil16 L (k + 4), bnd_some, asI_i, show ((0 : Int) == 0) = true from rfl, br_true]
  obtain ⟨v9, σ9, g9, e9, hs9, _⟩ := check_spec (hs3.same s38 (by simp)) L (k + 2) a0 a1
  rw [show S.check ⟨0, 0, 0⟩ a0 a1 = 10 from if_pos rfl] at e9
  obtain ⟨σ10, g10, s10⟩ := code_ans L (k + 3) e9
  obtain ⟨σ11, q11, hs11, _, _⟩ := new_fence σ10
  obtain ⟨σ12, g12, _, _⟩ := holds_spec hs11 L (k + 3) a1
  rw [g9, bnd_some, g10, bnd_some, asI_i, show ((10 : Int) == 10) = true from rfl, br_true, q11, g12, bnd_some, asI_i, show (Fe.holds ⟨0, 0, 0, 0⟩ a1 == 0) = true by unfold Fe.holds; split <;> rfl]
  exact ⟨σ12, rfl⟩

/-! LeaseBack -/
structure Bk (σ0 σ : St) (a b : Nat) (s : S) (f : Fe) (M : Int) : Prop where
  kept : Kept' σ0.next σ0 σ
  ha : Has σ a s.cells 28
  hb : Has σ b f.cells 39
  ord : σ0.next ≤ a ∧ a < b
  ok : f.Ok
  s0 : 0 ≤ s.e
  sM : s.now ≤ M
  fM : f.now ≤ M
  M0 : 0 ≤ M
  M1 : M ≤ 1152921504606846976

theorem tm_mono {n M t : Int} (h : n ≤ M) : tm n (mn t 1152921504606846976) ≤ mx M (mn t 1152921504606846976) := by
  unfold tm mx mn
  repeat' split <;> omega
theorem mx_bounds {M t : Int} (h0 : 0 ≤ M) (h1 : M ≤ 1152921504606846976) : 0 ≤ mx M (mn t 1152921504606846976) ∧ mx M (mn t 1152921504606846976) ≤ 1152921504606846976 ∧ M ≤ mx M (mn t 1152921504606846976) := by
  unfold mx mn
  repeat' split <;> omega
theorem mn_le (a b : Int) : mn a b ≤ b := by unfold mn; split <;> omega

set_option maxRecDepth 20000 in
theorem back (L k : Nat) (hL : 400 < L) {σ0 : St} {ad : Option Addr} {sc : List Op} (hlen : sc.length ≤ 300) (hH : Holds σ0 3 c3 ad sc) {a b : Nat} (ea : Int) : ∀ (n i : Nat) (σ : St) (s : S) (f : Fe) (M : Int),
    i ≤ sc.length → sc.length - i < n → Bk σ0 σ a b s f M →
    ∃ σ9, lpAt Tryd.prog env L (k + 4) 6 [true, true, true, true, false, true] [] n [(0, .slice ad sc.length 0), (1, .int .i64 ea), (5, ptr a), (6, ptr b), (7, .int .i64 M), (26, .int .i64 sc.length), (27, .int .i64 i)] σ = some (.bool true, σ9)
  | 0, i, σ, s, f, M, _, h, _ => by omega
  | n + 1, i, σ, s, f, M, hi, h, hB => by
    rw [f6_l6]
    obtain ⟨o0, o1⟩ := hB.ord
    by_cases hie : i = sc.length
    · rw [decide_eq_false (by omega), br_false]
      obtain ⟨v1, σ1, g1, e1, h1, s1⟩ := check_spec hB.ha L (k + 1) 0 M
      rw [S.at_ok hB.sM hB.M1] at h1
      have b1 := hB.hb.same s1 (by simp; omega)
      obtain ⟨σ2, g2, b2, s2⟩ := holds_spec b1 L (k + 2) M
      rw [Fe.at_ok hB.fM hB.M1] at b2
      have h2 := h1.same s2 (by simp; omega)
      have g3 := epoch_spec h2 L (k + 3)
      obtain ⟨v4, σ4, g4, e4, h4, s4⟩ := check_spec h2 L (k + 1) s.e (mn ea M)
      have b4 := b2.same s4 (by simp; omega)
      have hx : mn ea M ≤ M := mn_le _ _
      obtain ⟨σ5, g5, b5, s5⟩ := holds_spec b4 L (k + 2) (mn ea M)
      obtain ⟨σ6, g6, b6, s6⟩ := holds_spec b5 L (k + 2) M
      have c4 : S.check ⟨M, s.e, s.u⟩ s.e (mn ea M) = if s.e = 0 then 10 else if M ≥ s.u then 11 else 0 := by
        unfold S.check
        by_cases h0 : s.e = 0
        · rw [if_pos h0, if_pos h0]
        · rw [if_neg h0, if_neg h0, if_neg (by simp), tm_le hx]
      have c5 : Fe.holds ⟨M, f.e, f.since, f.till⟩ (mn ea M) = Fe.holds (Fe.at ⟨M, f.e, f.since, f.till⟩ (mn ea M)) M := by
        unfold Fe.holds Fe.at
        simp only
        rw [tm_le hx, tm_le (Int.le_refl M)]
      rw [g1, bnd_some, g2, bnd_some, asI_i, g3, bnd_some, asT_t, toList2, uncons_c, asI_i, uncons_c, asI_i, endl_n, g4, bnd_some, e4.nil, c4]
      by_cases h0 : s.e = 0
      · rw [decide_eq_false (by simp only [h0]; omega), br_false, if_pos h0, decide_eq_false (by omega), beq_self_eq_true, br_true, g5, bnd_some, asI_i, g6, bnd_some, asI_i, c5, beq_self_eq_true]
        exact ⟨σ6, rfl⟩
      · have h00 := hB.s0
        have hc : (decide ((if M ≥ s.u then (11 : Int) else 0) = 0) == decide (M < s.u)) = true := by
          by_cases hy : M ≥ s.u
          · rw [if_pos hy, decide_eq_false (by omega), decide_eq_false (by omega)]; rfl
          · rw [if_neg hy, decide_eq_true rfl, decide_eq_true (by omega)]; rfl
        rw [decide_eq_true (by simp only; omega), br_true, if_neg h0, hc, br_true, g5, bnd_some, asI_i, g6, bnd_some, asI_i, c5, beq_self_eq_true]
        exact ⟨σ6, rfl⟩
    · have hget : sc[i]? = some sc[i] := List.getElem?_eq_getElem (by omega)
      obtain ⟨q0, e0, hat⟩ := hH.ld hB.kept hget
      generalize sc[i] = o at hat
      have hw : IntKind.wrap .i64 ((i : Int) + 1) = ((i + 1 : Nat) : Int) := by rw [wrap_in _ (by omega) (by omega)]; omega
      have hn : ∀ K : Res, need (inRange (i : Int) (sc.length : Int)) K = K := fun K => need_of (by simp [inRange]; omega) K
      have r2 := fun K => hat 2 (.int .i64 o.now) (0 + (i : Int).toNat * 3 + 2) (by omega) rfl (by simp) K
      have r0 := fun K => hat 0 (.int .i64 o.kind) (0 + (i : Int).toNat * 3 + 0) (by omega) rfl (by simp) K
      have r1 := fun K => hat 1 (.int .i64 o.e) (0 + (i : Int).toNat * 3 + 1) (by omega) rfl (by simp) K
      rw [decide_eq_true (by omega), br_true]
      simp only [hn, e0, adr_some, r0, r1, r2, asI_i, hw]
      rw [← e0]
      obtain ⟨M0, M1, M2⟩ := mx_bounds (t := o.now) hB.M0 hB.M1
      by_cases k1 : o.kind = 1
      · obtain ⟨v, σ1, g1, e1, h1, s1⟩ := grant_spec hB.ha L (k + 1) o.e (mn o.now 1152921504606846976)
        rw [k1, show ((1 : Int) == 1) = true from rfl, br_true, g1, bnd_some]
        have hh : (s.grant o.e (mn o.now 1152921504606846976)).2.now = tm s.now (mn o.now 1152921504606846976) ∧ 0 ≤ (s.grant o.e (mn o.now 1152921504606846976)).2.e := by
          unfold S.grant
          split
          · exact ⟨rfl, hB.s0⟩
          split
          · exact ⟨rfl, hB.s0⟩
          · exact ⟨rfl, by simp only; omega⟩
        exact back L k hL hlen hH ea n (i + 1) σ1 _ f _ (by omega) (by omega) ⟨hB.kept.step s1 (by simp; omega), h1, hB.hb.same s1 (by simp; omega), hB.ord, hB.ok, hh.2, by rw [hh.1]; exact tm_mono hB.sM, by have := hB.fM; omega, M0, M1⟩
      · rw [show (o.kind == 1) = false by simpa using k1, br_false]
        by_cases k3 : o.kind = 3
        · obtain ⟨v, σ1, g1, e1, h1, s1⟩ := promote_spec hB.hb hB.ok L (k + 1) (mn o.now 1152921504606846976)
          rw [k3, show ((3 : Int) == 3) = true from rfl, br_true, g1, bnd_some, asT_t, toList3, uncons_c, asI_i, uncons_c, asI_i, uncons_c, endl_n]
          have hh : (f.promote (mn o.now 1152921504606846976)).now = tm f.now (mn o.now 1152921504606846976) := by
            unfold Fe.promote; split <;> rfl
          exact back L k hL hlen hH ea n (i + 1) σ1 s _ _ (by omega) (by omega) ⟨hB.kept.step s1 (by simp; omega), hB.ha.same s1 (by simp; omega), h1, hB.ord, Fe.ok_promote hB.ok _, hB.s0, by have := hB.sM; omega, by rw [hh]; exact tm_mono hB.fM, M0, M1⟩
        · rw [show (o.kind == 3) = false by simpa using k3, br_false]
          by_cases k4 : o.kind = 4
          · obtain ⟨v, σ1, g1, e1, h1, s1⟩ := renew_spec hB.hb L (k + 1) o.e (mn o.now 1152921504606846976)
            rw [k4, show ((4 : Int) == 4) = true from rfl, br_true, g1, bnd_some]
            have hh : (f.renew o.e (mn o.now 1152921504606846976)).2.now = tm f.now (mn o.now 1152921504606846976) := by
              unfold Fe.renew
              split
              · rfl
              split
              · rfl
              split <;> rfl
            exact back L k hL hlen hH ea n (i + 1) σ1 s _ _ (by omega) (by omega) ⟨hB.kept.step s1 (by simp; omega), hB.ha.same s1 (by simp; omega), h1, hB.ord, Fe.ok_renew hB.ok _ _, hB.s0, by have := hB.sM; omega, by rw [hh]; exact tm_mono hB.fM, M0, M1⟩
          · rw [show (o.kind == 4) = false by simpa using k4, br_false]
            exact back L k hL hlen hH ea n (i + 1) σ s f M (by omega) (by omega) hB

theorem back_holds (L k : Nat) (hL : 400 < L) {σ : St} {ad : Option Addr} {sc : List Op} (hH : Holds σ 3 c3 ad sc) (ea : Int) :
    ∃ σ9, evCall Tryd.prog env L (k + 5) 6 [.slice ad sc.length 0, .int .i64 ea] σ = some (.bool true, σ9) := by
  rw [f6_eq]
  obtain ⟨σ1, g1, s1⟩ := awake_spec L k σ
  rw [g1, bnd_some, asB_b, not_true, br_false]
  by_cases hlen : sc.length > 300
  · obtain ⟨σ2, g2, _⟩ := awake_spec L k σ1
    rw [decide_eq_true (by omega), br_true, g2, bnd_some, asB_b]
    exact ⟨σ2, rfl⟩
  · rw [decide_eq_false (by omega), br_false]
    obtain ⟨σ2, q2, a2, s2, n2⟩ := new_site σ1
    obtain ⟨σ3, q3, a3, s3, n3⟩ := new_fence σ2
    rw [q2, q3]
    have hk0 : Kept' σ.next σ σ := ⟨Nat.le_refl _, fun _ _ => rfl⟩
    have := s1.1
    exact back L k hL (by omega) hH ea L 0 σ3 ⟨0, 0, 0⟩ ⟨0, 0, 0, 0⟩ 0 (by omega) (by omega)
      ⟨((hk0.step s1 (by simp)).step s2 (by simp)).step s3 (by simp), a2.same s3 (by simp), a3, by omega, by unfold Fe.Ok; decide, by decide, by decide, by decide, by decide, by decide⟩

end Go.AM.Ls
