/-
  GateOnce and GateNil, in plain words.
-/
import Derived.Test.YtgnchfjkpjblnaaDoorGdB
set_option linter.unusedVariables false
set_option linter.unusedSimpArgs false
set_option linter.unusedSectionVars false
namespace Go.AM.Gd
open Go.Proofs

/-- What follows the first thaw in GateOnce. -/
noncomputable def ot (L k : Nat) (σ : St) (s7 o7 : Nat) (s8 s9 : Int) : Res := AM.bnd (AM.evCall Proofs.Tryd.prog AM.Gd.env L k 9 [Value.pointer (some { block := s7, off := o7 }), Value.int IntKind.i64 s8] σ) fun v6 v7 => AM.asT v6 fun v8 => AM.uncons v8 fun v9 v10 => AM.asSl v9 fun v11 v12 v13 => AM.uncons v10 fun v14 v15 => AM.endl v15 (AM.bnd (AM.evCall Proofs.Tryd.prog AM.Gd.env L k 11 [v14] v7) fun v16 v17 => AM.asI IntKind.i64 v16 fun v18 => AM.br (v18 == (9 : Int)) (AM.bnd (AM.evCall Proofs.Tryd.prog AM.Gd.env L k 8 [Value.pointer (some { block := s7, off := o7 }), Value.int IntKind.i64 s8, Value.int IntKind.i64 s9] v17) fun v19 v20 => AM.bnd (AM.evCall Proofs.Tryd.prog AM.Gd.env L k 11 [v19] v20) fun v21 v22 => AM.asI IntKind.i64 v21 fun v23 => AM.br (v23 == (10 : Int)) (AM.bnd (AM.evCall Proofs.Tryd.prog AM.Gd.env L k 8 [Value.pointer (some { block := s7, off := o7 }), Value.int IntKind.i64 (IntKind.wrap IntKind.i64 (s8 + (1 : Int))), Value.int IntKind.i64 s9] v22) fun v24 v25 => AM.eqNil v24 fun v26 => AM.br v26 (AM.bnd (AM.evCall Proofs.Tryd.prog AM.Gd.env L k 12 [Value.pointer (some { block := s7, off := o7 })] v25) fun v27 v28 => AM.asI IntKind.i64 v27 fun v29 => some (Value.bool (v29 == IntKind.wrap IntKind.i64 (s8 + (1 : Int))), v28)) (some (Value.bool false, v25))) (some (Value.bool false, v22))) (some (Value.bool false, v17)))
/-- What GateNil asks, for a code that is known, or not. -/
noncomputable def nt (L k : Nat) (st : St) (a0 a1 a2 : Int) (Ev Ef : Value) (n9 : Nat) (b9 : Bool) (i9 : Int) (b8 kn : Bool) : Res := AM.bnd (AM.evCall Proofs.Tryd.prog AM.Gd.env L k 8 [Value.pointer none, Value.int IntKind.i64 a0, Value.int IntKind.i64 a1] st) fun v31 v32 => AM.bnd (AM.evCall Proofs.Tryd.prog AM.Gd.env L k 11 [v31] v32) fun v33 v34 => AM.asI IntKind.i64 v33 fun v35 => AM.br (v35 == (9 : Int)) (AM.br ((↑n9 : Int) == (0 : Int)) (AM.bnd (AM.evCall Proofs.Tryd.prog AM.Gd.env L k 11 [Ev] v34) fun v36 v37 => AM.asI IntKind.i64 v36 fun v38 => AM.br (v38 == (9 : Int)) (AM.br (!b9) (AM.bnd (AM.evCall Proofs.Tryd.prog AM.Gd.env L k 11 [Ef] v37) fun v39 v40 => AM.asI IntKind.i64 v39 fun v41 => AM.br (v41 == (9 : Int)) (AM.br (i9 == (0 : Int)) (AM.br b8 (AM.bnd (AM.evCall Proofs.Tryd.prog AM.Gd.env L k 10 [Value.pointer none] v40) fun v42 v43 => AM.asSl v42 fun v44 v45 v46 => AM.br ((↑v45 : Int) == (0 : Int)) (AM.bnd (AM.evCall Proofs.Tryd.prog AM.Gd.env L k 12 [Value.pointer none] v43) fun v47 v48 => AM.asI IntKind.i64 v47 fun v49 => AM.bnd (AM.evCall Proofs.Tryd.prog AM.Gd.env L k 23 [Value.pointer none] v48) fun v50 v51 => AM.asI IntKind.i64 v50 fun v52 => AM.br (IntKind.wrap IntKind.i64 (v49 + v52) == (0 : Int)) (AM.bnd (AM.evCall Proofs.Tryd.prog AM.Gd.env L k 22 [Value.int IntKind.i64 a2] v51) fun v53 v54 => AM.asB v53 fun v55 => some (Value.bool (v55 == kn), v54)) (some (Value.bool false, v51))) (some (Value.bool false, v43))) (some (Value.bool false, v40))) (some (Value.bool false, v40))) (some (Value.bool false, v40))) (some (Value.bool false, v37))) (some (Value.bool false, v37))) (some (Value.bool false, v34))) (some (Value.bool false, v34))

theorem ot_ok (L k : Nat) {σ : St} {a : Nat} {F : List Nat} {N T : Int} (hN : 1 ≤ N ∧ N ≤ 65536) (hT : 1 ≤ T ∧ T ≤ 20) (hG : Gate σ a F ⟨0, 0, N, []⟩) : ∃ σ', ot L (k + 4) σ a 0 N T = some (.bool true, σ') := by
  unfold ot
  rcases thaw_spec hG L (k + 1) N with ⟨_, _, _, _, h, _⟩ | ⟨v, σ1, _, g1, he1, hs1⟩
  · simp [GS.thaw] at h
  obtain ⟨σ2, g2, hs2⟩ := code_spec L (k + 2) he1
  have hG2 := (hG.idle hs1).idle hs2
  rw [g1, bnd_some, asT_t, toList2, uncons_c, asSl_s, uncons_c, endl_n, g2, bnd_some, asI_i, show ((9 : Int) == 9) = true from rfl, br_true]
  rcases freeze_spec hG2 L (k + 1) N T with ⟨g', _, h, _⟩ | ⟨v3, σ3, _, g3, he3, hs3⟩
  · simp [GS.freeze] at h; omega
  have hc : fcode N T = 10 := by unfold fcode; rw [if_neg (by omega), if_neg (by omega)]
  rw [hc] at he3
  obtain ⟨σ4, g4, hs4⟩ := code_spec L (k + 2) he3
  have hG4 := (hG2.idle hs3).idle hs4
  rw [g3, bnd_some, g4, bnd_some, asI_i, show ((10 : Int) == 10) = true from rfl, br_true, wrap_in (N + 1) (by omega) (by omega)]
  rcases freeze_spec hG4 L (k + 1) (N + 1) T with ⟨g', σ5, e5, g5, hG5, _⟩ | ⟨v5, σ5, h, _⟩
  · have e6 : g' = ⟨N + 1, T, N + 1, []⟩ := by
      unfold GS.freeze at e5
      rw [if_neg (by omega), if_neg (by omega), if_neg (by simp only; omega)] at e5
      exact (Option.some.inj e5).symm
    subst e6
    rw [g5, bnd_some, eqNil_nil, br_true, frozen_spec hG5 L (k + 3), bnd_some, asI_i, show ((N + 1 : Int) == N + 1) = true by simp]
    exact ⟨σ5, rfl⟩
  · simp [GS.freeze] at h; omega

theorem once_loop (L k : Nat) {a : Nat} {N T : Int} (hN : 1 ≤ N ∧ N ≤ 65536) (hT : 1 ≤ T ∧ T ≤ 20) : ∀ (n : Nat) (j : Int) (σ : St) (F : List Nat) (g : GS), 0 ≤ j → j ≤ T → (T - j).toNat < n →
    g = (if j = T then ⟨0, 0, N, []⟩ else ⟨N, T - j, N, []⟩) → Gate σ a F g →
    ∃ σ', lpAt Tryd.prog env L (k + 4) 3 [true, true, true, true, true, false, true, true, true] [] n [(7, .pointer (some ⟨a, 0, none⟩)), (8, .int .i64 N), (9, .int .i64 T), (45, .int .i64 T), (46, .int .i64 j)] σ = some (.bool true, σ')
  | 0, j, σ, F, g, _, _, h, _, _ => by omega
  | n + 1, j, σ, F, g, h0, h1, h2, hg, hG => by
    rw [f3_l12]
    by_cases hj : j = T
    · rw [if_pos hj] at hg
      subst hg
      rw [decide_eq_false (by omega), br_false]
      exact ot_ok L k hN hT hG
    · rw [if_neg hj] at hg
      subst hg
      have hok : GS.Ok ⟨N, T - j, N, []⟩ := ⟨fun _ => rfl, by simp, ⟨by simp only; omega, by simp only; omega⟩, fun _ => by simp only; omega, by simp only; omega, fun _ => rfl, by simp only; omega⟩
      obtain ⟨ad, z, qo, σ1, F1, g1, hG1, _, _⟩ := tick_spec hG L (k + 2) hok
      rw [decide_eq_true (by omega), br_true, g1, bnd_some, asSl_s, wrap_in (j + 1) (by omega) (by omega)]
      refine once_loop L k hN hT n (j + 1) σ1 F1 _ (by omega) (by omega) (by omega) ?_ hG1
      unfold GS.tick
      simp only
      rw [if_neg (by omega)]
      by_cases hl : T - j - 1 > 0
      · rw [if_pos hl, if_neg (by omega)]
        simp only [GS.mk.injEq, true_and, and_true]
        omega
      · rw [if_neg hl, if_pos (by omega)]
        rfl

theorem once_holds (L k : Nat) (hL : 30 < L) (σ : St) (r t : Int) (by_ : Bool) (hr : 0 ≤ r ∧ r ≤ 65535) (ht : 0 ≤ t ∧ t ≤ 255) : ∃ σ', evCall Tryd.prog env L (k + 5) 3 [.int .u16 r, .int .u8 t, .bool by_] σ = some (.bool true, σ') := by
  rw [f3_eq]
  obtain ⟨σ1, g1, _⟩ := awake_spec L k σ
  obtain ⟨σ2, g2, hG2, _⟩ := new_spec L (k + 3) σ1
  rw [g1, bnd_some, asB_b, not_true, br_false, g2, bnd_some, asP_p]
  have hN : 1 ≤ IntKind.wrap .i64 (1 + IntKind.wrap .i64 r) ∧ IntKind.wrap .i64 (1 + IntKind.wrap .i64 r) ≤ 65536 := by
    rw [wrap_in r (by omega) (by omega), wrap_in _ (by omega) (by omega)]; omega
  obtain ⟨m, rfl⟩ := Int.eq_ofNat_of_zero_le ht.1
  have hT : 1 ≤ IntKind.wrap .i64 (1 + Int.tmod (IntKind.wrap .i64 (m : Int)) 20) ∧ IntKind.wrap .i64 (1 + Int.tmod (IntKind.wrap .i64 (m : Int)) 20) ≤ 20 := by
    rw [wrap_in (m : Int) (by omega) (by omega), show Int.tmod (m : Int) 20 = ((m % 20 : Nat) : Int) from rfl, wrap_in _ (by omega) (by omega)]; omega
  generalize IntKind.wrap .i64 (1 + IntKind.wrap .i64 r) = N at hN
  generalize IntKind.wrap .i64 (1 + Int.tmod (IntKind.wrap .i64 (m : Int)) 20) = T at hT
  rcases freeze_spec hG2 L (k + 1) N T with ⟨g', σ3, e3, g3, hG3, _⟩ | ⟨_, _, h, _⟩
  rotate_left
  · simp [GS.freeze] at h; omega
  have e4 : g' = ⟨N, T, N, []⟩ := by
    unfold GS.freeze at e3
    rw [if_neg (by omega), if_neg (by omega), if_neg (by simp only; omega)] at e3
    exact (Option.some.inj e3).symm
  subst e4
  rcases freeze_spec hG3 L (k + 1) N T with ⟨g', σ4, e4, g4, hG4, _⟩ | ⟨_, _, h, _⟩
  rotate_left
  · simp [GS.freeze] at h; omega
  have e5 : g' = ⟨N, T, N, []⟩ := by
    unfold GS.freeze at e4
    rw [if_neg (by omega), if_neg (by omega), if_neg (by simp)] at e4
    exact (Option.some.inj e4).symm
  subst e5
  rw [g3, bnd_some, eqNil_nil, not_true, br_false, g4, bnd_some, eqNil_nil, not_true, br_false]
  cases by_ with
  | true =>
    rw [br_true]
    rcases thaw_spec hG4 L (k + 1) N with ⟨ad, z, qo, σ5, _, g5, hG5, _⟩ | ⟨_, _, h, _⟩
    · rw [g5, bnd_some, asT_t, toList2, uncons_c, asSl_s, uncons_c, endl_n, eqNil_nil, not_true, br_false]
      exact ot_ok L k hN hT hG5
    · simp [GS.thaw] at h; omega
  | false =>
    rw [br_false]
    exact once_loop L k hN hT L 0 σ4 _ _ (by omega) (by omega) (by omega) (by rw [if_neg (by omega), Int.sub_zero]) hG4

/-! GateNil -/
abbrev nilErr (σ : St) : St := σ.new (.own [.string ⟨#[103, 97, 116, 101]⟩, .int .i64 0, .iface 33 (.int .i64 9)] 73)
theorem nil8 (L k : Nat) (σ : St) (r t : Int) : evCall Tryd.prog env L (k + 3) 8 [.pointer none, .int .i64 r, .int .i64 t] σ = some (.iface 71 (.pointer (some ⟨σ.next, 0, none⟩)), nilErr σ) := by kernel_rfl
theorem nil9 (L k : Nat) (σ : St) (r : Int) : evCall Tryd.prog env L (k + 3) 9 [.pointer none, .int .i64 r] σ = some (.tuple #[.slice none 0 0, .iface 71 (.pointer (some ⟨σ.next, 0, none⟩))], nilErr σ) := by kernel_rfl
theorem nil18 (L k : Nat) (σ : St) : evCall Tryd.prog env L (k + 3) 18 [.pointer none, .agg #[.int .i64 0, .int .i64 0, .string { data := #[] }]] σ =
    some (.tuple #[.bool false, .iface 71 (.pointer (some ⟨σ.next + 1, 0, none⟩))], nilErr (σ.new (.own [.int .i64 0, .int .i64 0, .string { data := #[] }] 56))) := by kernel_rfl
theorem nil10 (L k : Nat) (σ : St) : evCall Tryd.prog env L (k + 2) 10 [.pointer none] σ = some (.slice none 0 0, σ) := by kernel_rfl
theorem nil12 (L k : Nat) (σ : St) : evCall Tryd.prog env L (k + 1) 12 [.pointer none] σ = some (.int .i64 0, σ) := by kernel_rfl
theorem nil23 (L k : Nat) (σ : St) : evCall Tryd.prog env L (k + 1) 23 [.pointer none] σ = some (.int .i64 0, σ) := by kernel_rfl
theorem nilErr_err (σ : St) : Err (nilErr σ) (.iface 71 (.pointer (some ⟨σ.next, 0, none⟩))) 9 0 := ⟨_, rfl, get_new_same _ _, by simp⟩
theorem nilErr_same (σ : St) : Same σ (nilErr σ) [] := Same.new _ _ _

def kn (c : Int) : Bool := c == 1 || c == 7 || c == 9 || c == 10
theorem known (L k : Nat) (σ : St) (c : Int) : evCall Tryd.prog env L (k + 1) 22 [.int .i64 c] σ = some (.bool (kn c), σ) := by
  rw [f22_eq]
  unfold kn
  cases (c == 1) <;> cases (c == 7) <;> cases (c == 9) <;> cases (c == 10) <;> rfl

theorem nt_ok (L k : Nat) {σ : St} {Ev Ef : Value} (h1 : Err σ Ev 9 0) (h2 : Err σ Ef 9 0) (r t c : Int) : ∃ σ', nt L (k + 4) σ r t c Ev Ef 0 false 0 true (kn c) = some (.bool true, σ') := by
  unfold nt
  have h3 := nilErr_err σ
  have s3 := nilErr_same σ
  rw [nil8 L (k + 1), bnd_some]
  generalize nilErr σ = σ3 at h3 s3
  obtain ⟨σ4, g4, s4⟩ := code_spec L (k + 2) h3
  obtain ⟨σ5, g5, s5⟩ := code_spec L (k + 2) ((h1.same s3).same s4)
  obtain ⟨σ6, g6, s6⟩ := code_spec L (k + 2) (((h2.same s3).same s4).same s5)
  rw [g4, bnd_some, asI_i, show ((9 : Int) == 9) = true from rfl, br_true, show (((0 : Nat) : Int) == 0) = true from rfl, br_true, g5, bnd_some, asI_i, show ((9 : Int) == 9) = true from rfl, br_true, not_false, br_true, g6, bnd_some, asI_i, show ((9 : Int) == 9) = true from rfl, br_true,
    show ((0 : Int) == 0) = true from rfl, br_true, br_true, nil10 L (k + 2), bnd_some, asSl_s, show (((0 : Nat) : Int) == 0) = true from rfl, br_true, nil12 L (k + 3), bnd_some, asI_i, nil23 L (k + 3), bnd_some, asI_i, show (IntKind.wrap .i64 (0 + 0) == 0) = true from rfl, br_true, known L (k + 3), bnd_some, asB_b, beq_self_eq_true]
  exact ⟨σ6, rfl⟩

theorem nil_holds (L k : Nat) (hL : 30 < L) (σ : St) (r t c : Int) : ∃ σ', evCall Tryd.prog env L (k + 5) 5 [.int .i64 r, .int .i64 t, .int .i64 c] σ = some (.bool true, σ') := by
  rw [f5_eq]
  obtain ⟨σ1, g1, _⟩ := awake_spec L k σ
  rw [g1, bnd_some, asB_b, not_true, br_false, nil9 L (k + 1), bnd_some, asT_t, toList2, uncons_c, asSl_s, uncons_c, endl_n]
  have h2 := nilErr_err σ1
  generalize nilErr σ1 = σ2 at h2
  rw [nil18 L (k + 1), bnd_some, asT_t, toList2, uncons_c, asB_b, uncons_c, endl_n]
  generalize hσ3 : σ2.new (.own [.int .i64 0, .int .i64 0, .string { data := #[] }] 56) = σ3
  have s3 : Same σ2 σ3 [] := by rw [← hσ3]; exact Same.new _ _ _
  have hn3 : σ2.next + 1 = σ3.next := by rw [← hσ3]; rfl
  have h4 := nilErr_err σ3
  have s4 := nilErr_same σ3
  rw [hn3]
  generalize nilErr σ3 = σ4 at h4 s4
  obtain ⟨σ5, g5, s5⟩ := first_spec L (k + 1) (by omega) h4
  rw [g5, bnd_some, asT_t, toList2, uncons_c, asI_i, uncons_c, asB_b, endl_n]
  obtain ⟨σ6, g6⟩ := nt_ok L k (((h2.same s3).same s4).same s5) (h4.same s5) r t c
  refine ⟨σ6, ?_⟩
  by_cases c1 : c = 1
  · subst c1
    rw [show kn 1 = true from rfl] at g6
    rw [show ((1 : Int) == 1) = true from rfl, br_true]
    exact g6
  rw [show (c == 1) = false by simpa using c1, br_false]
  by_cases c7 : c = 7
  · subst c7
    rw [show kn 7 = true from rfl] at g6
    rw [show ((7 : Int) == 7) = true from rfl, br_true]
    exact g6
  rw [show (c == 7) = false by simpa using c7, br_false]
  by_cases c9 : c = 9
  · subst c9
    rw [show kn 9 = true from rfl] at g6
    rw [show ((9 : Int) == 9) = true from rfl, br_true]
    exact g6
  rw [show (c == 9) = false by simpa using c9, br_false]
  have hk : kn c = (c == 10) := by
    unfold kn
    rw [show (c == 1) = false by simpa using c1, show (c == 7) = false by simpa using c7, show (c == 9) = false by simpa using c9]; rfl
  rw [hk] at g6
  exact g6

end Go.AM.Gd
