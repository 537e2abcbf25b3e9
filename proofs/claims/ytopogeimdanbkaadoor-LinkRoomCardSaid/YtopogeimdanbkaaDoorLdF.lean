/-
  LinkCut and LinkRoom, in plain words.
-/
import Derived.Test.YtopogeimdanbkaaDoorLdD
set_option linter.unusedVariables false
set_option linter.unusedSimpArgs false
set_option linter.unusedSectionVars false
namespace Go.AM.Ld
open Go.Proofs

theorem cut_come (L k : Nat) {σ0 : St} {ad : Option Addr} {l : List ByteArray} (hlen : l.length ≤ 200) (hH : Holds σ0 1 S.cc ad l) {a : Nat} {room : Int} : ∀ (n i : Nat) (σ : St),
    i ≤ l.length → l.length - i < n → S.At σ0 σ a (l.drop i) room false →
    ∃ σ9, lpAt Tryd.prog env L (k + 6) 5 [true, true, true, true, true, true, true, true, false, true] [] n [(0, .slice ad l.length 0), (5, .pointer (some ⟨a, 0, none⟩)), (62, .int .i64 l.length), (63, .int .i64 i)] σ = some (.bool true, σ9)
  | 0, i, σ, _, h, _ => by omega
  | n + 1, i, σ, hi, h, hA => by
    rw [f5_l17]
    have hll : (l.drop i).length = l.length - i := by simp
    by_cases hie : i = l.length
    · rw [decide_eq_false (by omega), br_false]
      exact ⟨σ, rfl⟩
    · have hget : l[i]? = some l[i] := List.getElem?_eq_getElem (by omega)
      have hw : IntKind.wrap .i64 ((i : Int) + 1) = ((i + 1 : Nat) : Int) := by rw [wrap_in _ (by omega) (by omega)]; omega
      rw [decide_eq_true (by omega), br_true]
      rcases hA.deliver L (k + 1) (by omega) 0 with ⟨x, _, hx, σ1, g1, g2⟩ | ⟨h, _⟩
      · have hx' : x = l[i] := by
          rw [show ((0 : Int).toNat) = 0 from rfl, List.getElem?_drop, Nat.add_zero, hget] at hx
          exact (Option.some.inj hx).symm
        subst hx'
        obtain ⟨q0, e0, hat⟩ := hH.ld g2.kept hget
        have hk0 := hat 0 (Value.string l[i]) (0 + (i : Int).toNat * 1) (by omega) rfl (by simp)
        rw [g1, bnd_some, asT_t, toList2, uncons_c, asS_s, uncons_c, endl_n, eqNil_nil, not_true, br_false, need_of (by simp [inRange]; omega), e0, adr_some, hk0, asS_s, beq_list, not_true, br_false, hw, ← e0]
        exact cut_come L k hlen hH n (i + 1) σ1 (by omega) (by omega) (by simpa [List.tail_drop] using g2)
      · exact absurd ⟨by omega, by omega⟩ h

theorem cut_go (L k : Nat) (hL : 400 < L) {σ0 : St} {ad : Option Addr} {l : List ByteArray} (hlen : l.length ≤ 200) (hH : Holds σ0 1 S.cc ad l) {a : Nat} (at_ : Int) : ∀ (n i : Nat) (σ : St) (cut : Bool),
    i ≤ l.length → l.length - i < n → S.At σ0 σ a (l.take i) l.length cut →
    ∃ σ9, lpAt Tryd.prog env L (k + 6) 5 [true, true, true, false, true] [] n [(0, .slice ad l.length 0), (1, .int .i64 at_), (5, .pointer (some ⟨a, 0, none⟩)), (24, .int .i64 l.length), (25, .int .i64 i)] σ = some (.bool true, σ9)
  | 0, i, σ, _, _, h, _ => by omega
  | n + 1, i, σ, cut, hi, h, hA => by
    rw [f5_l5]
    have hll : (l.take i).length = i := by simp; omega
    by_cases hie : i = l.length
    · subst hie
      rw [decide_eq_false (by omega), br_false]
      obtain ⟨σ1, g1, hA1⟩ := hA.cut L (k + 5) true
      obtain ⟨v, σ2, g2, he, hA2⟩ := hA1.deliver_cut L (k + 3) at_
      obtain ⟨σ3, g3, hA3⟩ := hA2.code L (k + 4) he
      obtain ⟨σ4, g4, hA4⟩ := hA3.cut L (k + 5) false
      have hb : (((l.take l.length).length : Int) != (l.length : Int)) = false := by simp
      rw [g1, bnd_some, asT_t, toList0, endl_n, g2, bnd_some, asT_t, toList2, uncons_c, asS_s, uncons_c, endl_n, g3, bnd_some, asI_i, show ((11 : Int) != 11) = false from rfl, br_false, hA3.len L (k + 5), bnd_some, asI_i, hb, br_false, g4, bnd_some, asT_t, toList0, endl_n]
      exact cut_come L k hlen hH L 0 σ4 (by omega) (by omega) (by simpa using hA4)
    · have hget : l[i]? = some l[i] := List.getElem?_eq_getElem (by omega)
      have hw : IntKind.wrap .i64 ((i : Int) + 1) = ((i + 1 : Nat) : Int) := by rw [wrap_in _ (by omega) (by omega)]; omega
      rw [decide_eq_true (by omega), br_true]
      obtain ⟨σ1, g1, hA1⟩ := hA.cut L (k + 5) (Int.tmod (i : Int) 2 == 0)
      obtain ⟨q0, e0, hat⟩ := hH.ld hA1.kept hget
      have hk0 := hat 0 (Value.string l[i]) (0 + (i : Int).toNat * 1) (by omega) rfl (by simp)
      rw [g1, bnd_some, asT_t, toList0, endl_n, need_of (by simp [inRange]; omega), e0, adr_some, hk0, asS_s]
      rcases hA1.send L (k + 2) (by omega) l[i] with ⟨_, σ2, g2, hA2⟩ | ⟨h, _⟩
      · rw [g2, bnd_some, eqNil_nil, not_true, br_false, hw, ← e0]
        rw [List.take_append_getElem] at hA2
        exact cut_go L k hL hlen hH at_ n (i + 1) σ2 _ (by omega) (by omega) hA2
      · omega

theorem cut_holds (L k : Nat) (hL : 400 < L) {σ : St} {ad : Option Addr} {l : List ByteArray} (hH : Holds σ 1 S.cc ad l) (at_ : Int) :
    ∃ σ9, evCall Tryd.prog env L (k + 7) 5 [.slice ad l.length 0, .int .i64 at_] σ = some (.bool true, σ9) := by
  rw [f5_eq]
  obtain ⟨σ1, g1, hk1⟩ := awake_spec L k σ
  rw [g1, bnd_some, asB_b, not_true, br_false]
  by_cases hl : (l.length : Int) > 200
  · obtain ⟨σ2, g2, _⟩ := awake_spec L k σ1
    rw [decide_eq_true hl, br_true, g2, bnd_some, asB_b]
    exact ⟨σ2, rfl⟩
  · rw [decide_eq_false hl, br_false]
    obtain ⟨a, σ2, g2, hA⟩ := S.At.new L (k + 5) hk1 l.length
    rw [show mx 0 (mn (l.length : Int) 4096) = l.length by unfold mx mn; split <;> split <;> omega] at hA
    rw [g2, bnd_some, asP_p]
    exact cut_go L k hL (by omega) hH at_ L 0 σ2 false (by omega) (by omega) (by simpa using hA)

theorem room_go (L k : Nat) {σ0 : St} {a : Nat} (R : Nat) (hR : R ≤ 4096) (drop : Bool) : ∀ (n i : Nat) (σ : St) (l : List Int),
    i ≤ R → R - i < n → l.length = i → (0 < i → l[0]? = some 0) → I.At σ0 σ a l R false →
    ∃ σ9, lpAt Tryd.prog env L (k + 6) 4 [true, true, true, true, false, true] [] n [(1, .bool drop), (5, .pointer (some ⟨a, 0, none⟩)), (6, .int .i64 R), (17, .int .i64 R), (18, .int .i64 i)] σ = some (.bool true, σ9)
  | 0, i, σ, l, _, h, _, _, _ => by omega
  | n + 1, i, σ, l, hi, h, hl, hf, hA => by
    rw [f4_l6]
    by_cases hie : i = R
    · subst hie
      rw [decide_eq_false (by omega), br_false]
      rcases hA.send L (k + 2) (by omega) 0 with ⟨h, _⟩ | ⟨_, v, σ1, g1, he1, hA1⟩
      · omega
      · obtain ⟨σ2, g2, hA2⟩ := hA1.code L (k + 4) he1
        have hb : ((l.length : Int) != (i : Int)) = false := by simp [hl]
        rw [g1, bnd_some, g2, bnd_some, asI_i, show ((6 : Int) != 6) = false from rfl, br_false, hA2.len L (k + 5), bnd_some, asI_i, hb, br_false]
        by_cases h0 : i = 0
        · subst h0
          rw [show (((0 : Nat) : Int) == 0) = true from rfl, br_true]
          rcases hA2.double L (k + 2) (by omega) 0 with ⟨x, _, hx, _⟩ | ⟨_, h, _⟩ | ⟨_, v3, σ3, g3, he3, hA3⟩
          · rw [List.length_eq_zero_iff.1 hl] at hx; simp at hx
          · omega
          · obtain ⟨σ4, g4, hA4⟩ := hA3.code L (k + 4) he3
            rw [g3, bnd_some, g4, bnd_some, asI_i]
            exact ⟨σ4, rfl⟩
        · rw [show ((i : Int) == 0) = false by simpa using h0, br_false, wrap_in ((i : Int) - 1) (by omega) (by omega)]
          rcases hA2.double L (k + 2) (by omega) ((i : Int) - 1) with ⟨x, _, _, h, _⟩ | ⟨_, _, _, v3, σ3, g3, he3, hA3⟩ | ⟨h, _⟩
          · omega
          · obtain ⟨σ4, g4, hA4⟩ := hA3.code L (k + 4) he3
            rw [g3, bnd_some, g4, bnd_some, asI_i, show ((6 : Int) != 6) = false from rfl, br_false]
            have hb1 : ∀ l' : List Int, l'.length = i - 1 → ((l'.length : Int) == (i : Int) - 1) = true := fun l' h => by simp [h]; omega
            have hel : (l.eraseIdx (0 : Int).toNat).length = i - 1 := by rw [List.length_eraseIdx_of_lt (by simp; omega), hl]
            have hb2 : (((l.eraseIdx (0 : Int).toNat ++ [9]).length : Int) == (i : Int)) = true := by rw [List.length_append, hel]; simp; omega
            cases drop with
            | true =>
              rw [br_true]
              rcases hA4.drop L (k + 2) (by omega) 0 with ⟨_, _, σ5, g5, hA5⟩ | ⟨h, _⟩
              · rw [g5, bnd_some, eqNil_nil, not_true, br_false, hA5.len L (k + 5), bnd_some, asI_i, hb1 _ hel, br_true]
                rcases hA5.send L (k + 2) (by omega) 9 with ⟨_, σ6, g6, hA6⟩ | ⟨h, _⟩
                · rw [g6, bnd_some, eqNil_nil, br_true, hA6.len L (k + 5), bnd_some, asI_i, hb2]
                  exact ⟨σ6, rfl⟩
                · omega
              · exact absurd ⟨by omega, by omega⟩ h
            | false =>
              rw [br_false]
              rcases hA4.deliver L (k + 1) (by omega) 0 with ⟨x, _, hx, σ5, g5, hA5⟩ | ⟨h, _⟩
              · have hx0 : x = 0 := by rw [show ((0 : Int).toNat) = 0 from rfl, hf (by omega)] at hx; exact (Option.some.inj hx).symm
                subst hx0
                rw [g5, bnd_some, asT_t, toList2, uncons_c, asI_i, uncons_c, endl_n, show ((0 : Int) != 0) = false from rfl, br_false, eqNil_nil, not_true, br_false, hA5.len L (k + 5), bnd_some, asI_i, hb1 _ hel, br_true]
                rcases hA5.send L (k + 2) (by omega) 9 with ⟨_, σ6, g6, hA6⟩ | ⟨h, _⟩
                · rw [g6, bnd_some, eqNil_nil, br_true, hA6.len L (k + 5), bnd_some, asI_i, hb2]
                  exact ⟨σ6, rfl⟩
                · omega
              · exact absurd ⟨by omega, by omega⟩ h
          · exact absurd ⟨by omega, by omega⟩ h
    · have hw : IntKind.wrap .i64 ((i : Int) + 1) = ((i + 1 : Nat) : Int) := by rw [wrap_in _ (by omega) (by omega)]; omega
      rw [decide_eq_true (by omega), br_true]
      rcases hA.send L (k + 2) (by omega) i with ⟨_, σ1, g1, hA1⟩ | ⟨h, _⟩
      · rw [g1, bnd_some, eqNil_nil, not_true, br_false, hw]
        refine room_go L k R hR drop n (i + 1) σ1 _ (by omega) (by omega) (by simp [hl]) (fun _ => ?_) hA1
        by_cases h0 : i = 0
        · subst h0
          rw [List.length_eq_zero_iff.1 hl]; rfl
        · rw [List.getElem?_append_left (by omega)]; exact hf (by omega)
      · omega

theorem room_holds (L k : Nat) (hL : 5000 < L) (σ : St) (room : Int) (drop : Bool) :
    ∃ σ9, evCall Tryd.prog env L (k + 7) 4 [.int .i64 room, .bool drop] σ = some (.bool true, σ9) := by
  rw [f4_eq]
  obtain ⟨σ1, g1, hk1⟩ := awake_spec L k σ
  rw [g1, bnd_some, asB_b, not_true, br_false]
  obtain ⟨a, σ2, g2, hA⟩ := I.At.new L (k + 5) hk1 room
  have hb : 0 ≤ mx 0 (mn room 4096) ∧ mx 0 (mn room 4096) ≤ 4096 := by unfold mx mn; split <;> split <;> omega
  rw [g2, bnd_some, asP_p]
  generalize mx 0 (mn room 4096) = r at hA hb
  obtain ⟨R, rfl⟩ := Int.eq_ofNat_of_zero_le hb.1
  exact room_go L k R (by omega) drop L 0 σ2 [] (by omega) (by omega) rfl (by simp) hA

end Go.AM.Ld
