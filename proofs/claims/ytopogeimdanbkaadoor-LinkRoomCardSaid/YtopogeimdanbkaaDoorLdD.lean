/-
  LinkOrder, in plain words.
-/
import Derived.Test.YtopogeimdanbkaaDoorLdC
set_option linter.unusedVariables false
set_option linter.unusedSimpArgs false
set_option linter.unusedSectionVars false
namespace Go.AM.Ld
open Go.Proofs

theorem S.At.code (L k : Nat) {σ0 σ : St} {a : Nat} {l : List ByteArray} {room : Int} {cut : Bool} (h : S.At σ0 σ a l room cut) {v : Value} {c : Int} (he : Err σ v c) :
    ∃ σ', evCall Tryd.prog env L (k + 2) 11 [v] σ = some (.int .i64 c, σ') ∧ S.At σ0 σ' a l room cut := by
  obtain ⟨σ', g1, g2⟩ := code_spec L k he
  exact ⟨σ', g1, h.idle g2⟩
theorem I.At.code (L k : Nat) {σ0 σ : St} {a : Nat} {l : List Int} {room : Int} {cut : Bool} (h : I.At σ0 σ a l room cut) {v : Value} {c : Int} (he : Err σ v c) :
    ∃ σ', evCall Tryd.prog env L (k + 2) 11 [v] σ = some (.int .i64 c, σ') ∧ I.At σ0 σ' a l room cut := by
  obtain ⟨σ', g1, g2⟩ := code_spec L k he
  exact ⟨σ', g1, h.idle g2⟩

theorem beq_list (s : ByteArray) : (s.toList == s.toList) = true := beq_self_eq_true _

theorem order_come (L k : Nat) {σ0 : St} {ad : Option Addr} {l : List ByteArray} (hlen : l.length ≤ 200) (hH : Holds σ0 1 S.cc ad l) {a : Nat} {room : Int} (back : Bool) : ∀ (n i : Nat) (σ : St) (l' : List ByteArray),
    i ≤ l.length → l.length - i < n → l' = (if back then l.take (l.length - i) else l.drop i) → S.At σ0 σ a l' room false →
    ∃ σ9, lpAt Tryd.prog env L (k + 6) 3 [true, true, true, true, true, false, true] [] n [(0, .slice ad l.length 0), (1, .bool back), (5, .pointer (some ⟨a, 0, none⟩)), (43, .int .i64 l.length), (44, .int .i64 i)] σ = some (.bool true, σ9)
  | 0, i, σ, l', _, h, _, _ => by omega
  | n + 1, i, σ, l', hi, h, hl', hA => by
    rw [f3_l13]
    have hll : l'.length = l.length - i := by rw [hl']; split <;> simp
    by_cases hie : i = l.length
    · have hnil : l' = [] := List.length_eq_zero_iff.1 (by omega)
      subst hnil
      rw [decide_eq_false (by omega), br_false]
      rcases hA.deliver L (k + 1) (by simp) 0 with ⟨x, _, hx, _⟩ | ⟨_, v, σ1, g1, g2, g3⟩
      · simp at hx
      · obtain ⟨σ2, g4, g5⟩ := g3.code L (k + 4) g2
        rw [g1, bnd_some, asT_t, toList2, uncons_c, asS_s, uncons_c, endl_n, g3.len L (k + 5), bnd_some, asI_i, show (((([] : List ByteArray).length : Nat) : Int) == 0) = true from rfl, br_true, g4, bnd_some, asI_i]
        exact ⟨σ2, rfl⟩
    · have hget : l[i]? = some l[i] := List.getElem?_eq_getElem (by omega)
      obtain ⟨q0, e0, hat⟩ := hH.ld hA.kept hget
      have hk0 := hat 0 (Value.string l[i]) (0 + (i : Int).toNat * 1) (by omega) rfl (by simp)
      have hw : IntKind.wrap .i64 ((i : Int) + 1) = ((i + 1 : Nat) : Int) := by rw [wrap_in _ (by omega) (by omega)]; omega
      rw [decide_eq_true (by omega), br_true, need_of (by simp [inRange]; omega), e0, adr_some, hk0, asS_s]
      cases back with
      | false =>
        simp only [Bool.false_eq_true, if_false] at hl'
        rw [br_false]
        rcases hA.deliver L (k + 1) (by omega) 0 with ⟨x, _, hx, σ1, g1, g2⟩ | ⟨h, _⟩
        · have hx' : x = l[i] := by
            rw [hl', show ((0 : Int).toNat) = 0 from rfl, List.getElem?_drop, Nat.add_zero, hget] at hx
            exact (Option.some.inj hx).symm
          subst hx'
          rw [g1, bnd_some, asT_t, toList2, uncons_c, asS_s, uncons_c, endl_n, beq_list, not_true, br_false, eqNil_nil, not_true, br_false, hw, ← e0]
          exact order_come L k hlen hH false n (i + 1) σ1 _ (by omega) (by omega) (by simp [hl', List.tail_drop]) g2
        · exact absurd ⟨by omega, by omega⟩ h
      | true =>
        simp only [if_true] at hl'
        have hget2 : l[l.length - 1 - i]? = some l[l.length - 1 - i] := List.getElem?_eq_getElem (by omega)
        obtain ⟨q2, e2, hat2⟩ := hH.ld hA.kept hget2
        rw [e0] at e2
        cases e2
        have hw1 : IntKind.wrap .i64 (IntKind.wrap .i64 ((l.length : Int) - 1) - i) = ((l.length - 1 - i : Nat) : Int) := by rw [wrap_in ((l.length : Int) - 1) (by omega) (by omega), wrap_in _ (by omega) (by omega)]; omega
        have hk2 := hat2 0 (Value.string l[l.length - 1 - i]) (0 + ((l.length - 1 - i : Nat) : Int).toNat * 1) (by omega) rfl (by simp)
        rw [br_true, hA.len L (k + 5), bnd_some, asI_i, hw1, need_of (by simp [inRange]; omega), adr_some, hk2, asS_s, hk2, asS_s, chk_same, wrap_in ((l'.length : Int) - 1) (by omega) (by omega)]
        rcases hA.deliver L (k + 1) (by omega) ((l'.length : Int) - 1) with ⟨x, _, hx, σ1, g1, g2⟩ | ⟨h, _⟩
        · have hp : ((l'.length : Int) - 1).toNat = l.length - 1 - i := by omega
          rw [hp] at hx g2
          have hx' : x = l[l.length - 1 - i] := by
            rw [hl', List.getElem?_take_of_lt (by omega), hget2] at hx
            exact (Option.some.inj hx).symm
          subst hx'
          rw [g1, bnd_some, asT_t, toList2, uncons_c, asS_s, uncons_c, endl_n, beq_list, not_true, br_false, eqNil_nil, not_true, br_false, hw, ← e0]
          refine order_come L k hlen hH true n (i + 1) σ1 _ (by omega) (by omega) ?_ g2
          simp only [if_true]
          rw [List.eraseIdx_eq_take_drop_succ, List.drop_of_length_le (by omega), List.append_nil, hl', List.take_take]
          rw [show min (l.length - 1 - i) (l.length - i) = l.length - (i + 1) by omega]
        · exact absurd ⟨by omega, by omega⟩ h

theorem order_go (L k : Nat) (hL : 400 < L) {σ0 : St} {ad : Option Addr} {l : List ByteArray} (hlen : l.length ≤ 200) (hH : Holds σ0 1 S.cc ad l) {a : Nat} (back : Bool) : ∀ (n i : Nat) (σ : St),
    i ≤ l.length → l.length - i < n → S.At σ0 σ a (l.take i) l.length false →
    ∃ σ9, lpAt Tryd.prog env L (k + 6) 3 [true, true, true, false, true] [] n [(0, .slice ad l.length 0), (1, .bool back), (5, .pointer (some ⟨a, 0, none⟩)), (26, .int .i64 l.length), (27, .int .i64 i)] σ = some (.bool true, σ9)
  | 0, i, σ, _, h, _ => by omega
  | n + 1, i, σ, hi, h, hA => by
    rw [f3_l5]
    have hll : (l.take i).length = i := by simp; omega
    by_cases hie : i = l.length
    · subst hie
      rw [decide_eq_false (by omega), br_false]
      rcases hA.send L (k + 2) (by omega) { data := #[] } with ⟨h, _⟩ | ⟨_, v, σ1, g1, g2, g3⟩
      · omega
      · obtain ⟨σ2, g4, g5⟩ := g3.code L (k + 4) g2
        rw [g1, bnd_some, g4, bnd_some, asI_i, show ((6 : Int) != 6) = false from rfl, br_false]
        exact order_come L k hlen hH back L 0 σ2 _ (by omega) (by omega) (by cases back <;> simp) g5
    · have hget : l[i]? = some l[i] := List.getElem?_eq_getElem (by omega)
      obtain ⟨q0, e0, hat⟩ := hH.ld hA.kept hget
      have hk0 := hat 0 (Value.string l[i]) (0 + (i : Int).toNat * 1) (by omega) rfl (by simp)
      have hw : IntKind.wrap .i64 ((i : Int) + 1) = ((i + 1 : Nat) : Int) := by rw [wrap_in _ (by omega) (by omega)]; omega
      rw [decide_eq_true (by omega), br_true, need_of (by simp [inRange]; omega), e0, adr_some, hk0, asS_s]
      rcases hA.send L (k + 2) (by omega) l[i] with ⟨_, σ1, g1, g2⟩ | ⟨h, _⟩
      · rw [g1, bnd_some, eqNil_nil, not_true, br_false, hw, ← e0]
        rw [List.take_append_getElem] at g2
        exact order_go L k hL hlen hH back n (i + 1) σ1 (by omega) (by omega) g2
      · omega

theorem order_holds (L k : Nat) (hL : 400 < L) {σ : St} {ad : Option Addr} {l : List ByteArray} (hH : Holds σ 1 S.cc ad l) (back : Bool) :
    ∃ σ9, evCall Tryd.prog env L (k + 7) 3 [.slice ad l.length 0, .bool back] σ = some (.bool true, σ9) := by
  rw [f3_eq]
  obtain ⟨σ1, g1, hk1⟩ := awake_spec L k σ
  rw [g1, bnd_some, asB_b, not_true, br_false]
  by_cases hl : (l.length : Int) > 200
  · obtain ⟨σ2, g2, _⟩ := awake_spec L k σ1
    rw [decide_eq_true hl, br_true, g2, bnd_some, asB_b]
    exact ⟨σ2, rfl⟩
  · rw [decide_eq_false hl, br_false]
    obtain ⟨a, σ2, g2, hA⟩ := S.At.new L (k + 5) hk1 l.length
    rw [show mx 0 (mn (l.length : Int) 4096) = l.length by unfold mx mn; split <;> split <;> omega] at hA
    rw [g2, bnd_some, asP_p]
    exact order_go L k hL (by omega) hH back L 0 σ2 (by omega) (by omega) (by simpa using hA)

end Go.AM.Ld
