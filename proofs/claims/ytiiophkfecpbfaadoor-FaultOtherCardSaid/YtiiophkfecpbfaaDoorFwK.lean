/-
  FaultTells.
-/
import Derived.Test.YtiiophkfecpbfaaDoorFwJ
set_option linter.unusedVariables false
set_option linter.unusedSimpArgs false
set_option linter.unusedSectionVars false
namespace Go.AM.Fw
open Go.Proofs
theorem tells_holds (L k : Nat) (hL : 100000 < L) {σ0 : St} {ad : Option Addr} {l : List (ByteArray × Int)} (hH : Holds σ0 2 cP ad l) (hbd : ∀ p ∈ l, -9223372036854775808 ≤ p.2 ∧ p.2 ≤ 9223372036854775807) (c : Int) (op : ByteArray) :
    ∃ σ', evCall Tryd.prog env L (k + 100) 8 [.slice ad l.length 0, .int .i64 c, .string op] σ0 = some (.bool true, σ') := by
  obtain ⟨σ1, g1, s1⟩ := awake_spec L (k + 93) σ0
  have hk1 : Kept' σ0.next σ0 σ1 := ⟨s1.1, fun q hq => s1.2 q hq (by simp)⟩
  obtain ⟨b, g2, hb⟩ := few_spec2 L (k + 98) hL hk1 0 hH
  obtain ⟨σa, ga, sa⟩ := awake_spec L (k + 93) σ1
  rw [f8_eq, g1, bnd_some, asB_b, not_true, br_false, g2, bnd_some, asB_b]
  cases b with
  | false => rw [not_false, br_true, ga, bnd_some, asB_b]; exact ⟨_, rfl⟩
  | true =>
  obtain ⟨hl, hsz⟩ := hb rfl
  rw [not_true, br_false]
  have hb2 : ∀ p ∈ l, p.1.size ≤ 10000 ∧ -9223372036854775808 ≤ p.2 ∧ p.2 ≤ 9223372036854775807 := fun p hp => ⟨by have := hsz p hp; omega, hbd p hp⟩
  by_cases hc : c = 0
  · subst hc
    have gm : evCall Tryd.prog env L (k + 99) 19 [.slice ad l.length 0, .int .i64 0] σ1 = some (.nilIface, σ1) := by
      rw [f19_eq, show ((0 : Int) != 0) = false from rfl, br_false]
      exact made0_loop L (k + 97) hk1 0 (by omega) hH L 0 (by omega) (by omega)
    obtain ⟨σ2, g3, s3⟩ := code_nil L (k + 97) σ1
    rw [gm, bnd_some, beq_self_eq_true, br_true, nn, br_true, g3, bnd_some, asI_i, beq_self_eq_true, br_true]
    obtain ⟨m, rfl⟩ : ∃ m, L = m + 4 := ⟨L - 4, by omega⟩
    have gp : evCall Tryd.prog env (m + 4) (k + 99) 23 [.nilIface] σ2 = some (.slice none 0 0, σ2.new (.own [.pointer none] 30)) := by
      have h : ∀ s4 σ1, Td.asG [.nilIface, s4] σ1 = some (.bool false, σ1) := fun _ _ => rfl
      rw [f23_eq, f29_eq, f29_l3, as_prim, h, bnd_some, asB_b, br_false, bnd_some, asSl_s, f23_l3, decide_eq_false (by omega), br_false]
    obtain ⟨σ4, g5, s5⟩ := code_nil (m + 4) (k + 96) (σ2.new (.own [.pointer none] 30))
    rw [gp, bnd_some, asSl_s, show (((0 : Nat) : Int) == (0 : Int)) = true from rfl, br_true, f22_eq, beq_self_eq_true, br_true, g5, bnd_some, asI_i, bnd_some, asB_b]
    exact ⟨σ4, rfl⟩
  · obtain ⟨v, σ2, g3, s3, h2⟩ := made_spec L (k + 97) hL hk1 0 (by omega) hH c hc
    have hlr : l.reverse.length ≤ 64 := by simp; omega
    have hbr : ∀ p ∈ l.reverse, p.1.size ≤ 10000 ∧ -9223372036854775808 ≤ p.2 ∧ p.2 ≤ 9223372036854775807 := fun p hp => hb2 p (by simpa using hp)
    obtain ⟨σ3, g4, s4⟩ := first_spec L (k + 96) (by omega) h2 hlr op
    have hk3 : Kept' σ0.next σ0 σ3 := (hk1.step s3 (by simp)).step s4 (by simp)
    have g5 := refFirst_spec L (k + 98) hL hk3 0 op (by omega) hH
    rw [g3, bnd_some, show (c == 0) = false by simpa using hc, br_false, g4, bnd_some, asT_t, toList2, uncons_c, asI_i, uncons_c, asB_b, endl_n, g5, bnd_some, asT_t, toList2, uncons_c, asI_i, uncons_c, asB_b, endl_n]
    have h3 := h2.same s4
    have hlen : (textC l.reverse c).length ≤ 100000 := by
      have key : ∀ (m : List (ByteArray × Int)), (∀ p ∈ m, p.1.size ≤ 200 ∧ -9223372036854775808 ≤ p.2 ∧ p.2 ≤ 9223372036854775807) → (textC m c).length ≤ 300 * m.length + 10 := by
        intro m
        induction m with
        | nil =>
          intro _
          have hwl : (word c).size ≤ 10 := by
            by_cases h : 0 ≤ c ∧ c < 13
            · have h' : c = 0 ∨ c = 1 ∨ c = 2 ∨ c = 3 ∨ c = 4 ∨ c = 5 ∨ c = 6 ∨ c = 7 ∨ c = 8 ∨ c = 9 ∨ c = 10 ∨ c = 11 ∨ c = 12 := by omega
              rcases h' with rfl | rfl | rfl | rfl | rfl | rfl | rfl | rfl | rfl | rfl | rfl | rfl | rfl <;> decide
            · rw [word, if_neg h]; decide
          exact hwl
        | cons p m ih =>
          intro hm
          obtain ⟨s, a⟩ := p
          have h1 := hm (s, a) (by simp)
          have h2 := ih fun p hp => hm p (List.mem_cons_of_mem _ hp)
          have hd : (dg a).data.toList.length ≤ 21 := Lib.itoa_length_le a h1.2.1 h1.2.2
          have hs : s.data.toList.length ≤ 200 := h1.1
          simp only [textC, List.length_append, List.length_cons, List.length_nil]
          omega
      have := key l.reverse fun p hp => ⟨hsz p (by simpa using hp), hbd p (by simpa using hp)⟩
      rw [List.length_reverse] at this
      omega
    obtain ⟨σ4, g6, s6⟩ := err_spec L h3 (fun p hp => hbd p (by simpa using hp)) hlen (k + (97 - l.length))
    rw [List.length_reverse, show k + (97 - l.length) + l.length + 2 = k + 99 by omega] at g6
    obtain ⟨σ5, g7, s7⟩ : ∃ σ', evCall Tryd.prog env L (k + 99) 28 [.slice ad l.length 0, .int .i64 c] σ4 = some (.string ⟨⟨textC l.reverse c⟩⟩, σ') ∧ Same σ4 σ' [] := by
      obtain ⟨σ', e, s⟩ := refText_loop L (k + 97) (hk3.step s6 (by simp)) 0 (by omega) hH c hb2 L l.length [] (by omega) (by omega) (by simp; omega)
      rw [List.take_length, List.nil_append] at e
      refine ⟨σ', ?_, s⟩
      rw [f28_eq, wrap_in _ (by omega) (by omega)]
      exact e
    have h5 := (h3.same s6).same s7
    have hk5 := (hk3.step s6 (by simp)).step s7 (by simp)
    obtain ⟨ad6, z6, qb6, σ6, g8, r6, s8, q6⟩ := path_spec L (k + 96) (by omega) h5 hlr hbr
    obtain ⟨ad7, z7, qb7, σ7, g9, s9, r7⟩ := refPath_spec L (k + 97) hL (hk5.step s8 (by simp)) 0 (by omega) hH hb2
    have r67 := r6.same s9 (by simp)
    have g10 := same_spec L (k + 98) (by omega) r67 r7 (by simp; omega)
    obtain ⟨σ8, g11, s11⟩ := code_spec L (k + 97) ((h5.same s8).same s9) hlr
    rw [List.length_map, List.length_reverse] at g10
    rw [List.length_reverse] at g8
    refine ⟨σ8, (g6 _).trans ?_⟩
    rw [asS_s, g7, bnd_some, asS_s, beq_self_eq_true, br_true, g8, bnd_some, asSl_s, g9, bnd_some, asSl_s, g10, bnd_some, asB_b, br_true, g11, bnd_some, asI_i]
    rw [beq_self_eq_true, br_true, beq_self_eq_true, br_true, beq_self_eq_true]
end Go.AM.Fw
