/-
  WindowHeals, in plain words: if all that is sent anew comes and is acked, as often as there are things, all are taken.
-/
import Derived.Test.YtmmjibadpdbkaaaWinJ
set_option linter.unusedVariables false
set_option linter.unusedSimpArgs false
namespace Go.AM
open Go.Proofs

section
variable {σ0 σ : St} {a b : Nat} {adF : Option Addr} {zF : Nat} {fl : List (Int × Int)} {many sent acked took : Nat}
/-- What is sent anew takes the place of what flew. -/
theorem Pair.anew (h : Pair σ0 σ a b adF zF fl many sent acked took) (L k : Nat) (hL : 2000 < L) (hm : many ≤ 1000) :
    ∃ ad z l σ', evCall Try.prog env L (k + 2) 15 [.pointer (some ⟨a, 0, none⟩)] σ = some (.slice ad (sent - acked) z, σ') ∧ Pair σ0 σ' a b ad z (packs l acked (sent - acked)) many sent acked took := by
  obtain ⟨c, qS, qR, rF, l, rl, u1, u2, hS, hR, hF, e1, e2, e3, e4, e5, e7⟩ := h.ex
  have hSlt : ∀ q ∈ qS, q < σ.next := hS.ex.choose_spec.choose_spec.2.lt
  have hRlt : ∀ q ∈ qR, q < σ.next := hR.ex.choose_spec.choose_spec.2.lt
  have halt := hS.lt
  have hblt := hR.lt
  have hn1 := h.n1; have hn2 := h.n2; have hn3 := h.n3; have hn4 := h.n4
  obtain ⟨ad, z, rs, σ1, g1, hO, hS1, hs1, hq1⟩ := resend_spec L k hS (by omega) (by omega) (by omega) (by omega)
  have col : ∀ x, x < σ.next → (fun q => if σ.next ≤ q then 4 else c q) x = c x := fun x hx => by simp; omega
  refine ⟨ad, z, l, σ1, g1, h.kept.step hs1 (by simp), ⟨fun q => if σ.next ≤ q then 4 else c q, qS, qR, rs, l, rl, u1, u2, hS1, hR.same hs1 (by simp) (by simp), hO, ?_, ?_, ?_, ?_, ?_, ?_⟩, fun p hp => ?_, hn1, hn2, hn3, hn4⟩
  · rw [col a halt, e1]
  · rw [col b hblt, e2]
  · intro q hq; rw [col q (hSlt q hq), e3 q hq]
  · intro q hq; rw [col q (hRlt q hq), e4 q hq]
  · intro q hq; have := hq1 q hq; simp [this]
  · intro q hq; rw [col q (by have := h.kept.1; omega), e7 q hq]
  · have := packs_seq l (sent - acked) acked p hp; omega

theorem Pair.get (h : Pair σ0 σ a b adF zF fl many sent acked took) {j : Nat} {p : Int × Int} (hj : fl[j]? = some p) :
    ∃ q, adF = some ⟨q, 0, none⟩ ∧ ∀ (o : Nat), o = j * 2 → ∀ K : List Value → Res, σ.lds q o 2 K = K (c2 p) := by
  obtain ⟨c, qS, qR, rF, l, rl, u1, u2, hS, hR, hF, _⟩ := h.ex
  exact hF.lds c2_len hj
end

theorem heal_inner (L k m0 : Nat) {σ0 : St} {a b : Nat} {adF : Option Addr} {zF : Nat} {fl : List (Int × Int)} {many sent acked P : Nat} {r : Nat} (hm : many ≤ 1000) (hfl : fl.length = sent - acked) (hr : r ≤ 1000) (hseq : ∀ j p, fl[j]? = some p → p.1 = ((acked + j + 1 : Nat) : Int)) : ∀ (n j : Nat) (σ : St) (took : Nat),
    j ≤ sent - acked → sent - acked - j < n → Pair σ0 σ a b adF zF fl many sent acked took → acked + j ≤ took →
    ∃ σ', (lpAt Try.prog env L (k + 2) 6 [true, true, true, true, true, true, true, false, true, false, true, true, false, true, true, false, true] [m0] n [(5, .pointer (some ⟨a, 0, none⟩)), (6, .pointer (some ⟨b, 0, none⟩)), (10, .int .i64 P), (13, .slice adF fl.length zF), (14, .int .i64 took), (105, .int .i64 P), (106, .int .i64 r), (117, .int .i64 fl.length), (118, .int .i64 j)] σ =
      lpAt Try.prog env L (k + 2) 6 [true, true, true, true, true, true, true, false, true] [] m0 [(5, .pointer (some ⟨a, 0, none⟩)), (6, .pointer (some ⟨b, 0, none⟩)), (10, .int .i64 P), (105, .int .i64 P), (106, .int .i64 ((r : Int) + 1))] σ') ∧ Pair σ0 σ' a b adF zF fl many sent sent sent
  | 0, j, σ, took, _, h, _, _ => by omega
  | n + 1, j, σ, took, hj, h, hI, ht => by
    have hn1 := hI.n1; have hn2 := hI.n2; have hn3 := hI.n3; have hn4 := hI.n4
    rw [f6_l30]
    by_cases hjs : j = sent - acked
    · have hts : took = sent := by omega
      obtain ⟨σ1, g1, g2⟩ := hI.ack L (k + 1) took (Nat.le_refl _)
      rw [decide_eq_false (by omega), br_false, g1, bnd_some, eqNil_nil, show (!true) = false from rfl, br_false, wrap_in ((r : Int) + 1) (by omega) (by omega)]
      refine ⟨σ1, rfl, ?_⟩
      have : max acked took = sent := by omega
      rw [this, hts] at g2
      exact g2
    · obtain ⟨p, hget⟩ : ∃ p, fl[j]? = some p := ⟨_, List.getElem?_eq_getElem (by omega)⟩
      have hs := hseq j _ hget
      have hfp := hI.fl p (List.mem_of_getElem? hget)
      obtain ⟨q, e, hlds⟩ := hI.get hget
      rw [decide_eq_true (by omega), br_true, need_of (by simp [inRange]; omega), e, adr_some, hlds _ (by simp), show c2 p = [Value.int .i64 p.1, Value.int .i64 p.2] from rfl, uncons_c, asI_i, uncons_c, asI_i, endl_n]
      obtain ⟨σ1, g1, g2⟩ := hI.take L (k + 1) hm p.1 p.2 hfp.1 hfp.2
      rw [show evCall Try.prog env L (k + 2) 9 [Value.pointer (some ⟨b, 0, none⟩), Value.agg #[Value.int .i64 p.1, Value.int .i64 p.2]] σ = _ from g1, bnd_some, asI_i, wrap_in ((j : Int) + 1) (by omega) (by omega), ← e]
      obtain ⟨σ9, w1, w2⟩ := heal_inner L k m0 (P := P) (r := r) hm hfl hr hseq n (j + 1) σ1 _ (by omega) (by omega) g2 (by split <;> omega)
      refine ⟨σ9, ?_, w2⟩
      rw [show ((j + 1 : Nat) : Int) = (j : Int) + 1 by omega] at w1
      exact w1

theorem heal_rounds (L k : Nat) (hL : 2000 < L) {σ0 : St} {a b P : Nat} (hP : P ≤ 400) : ∀ (n r : Nat) (σ : St) (adF : Option Addr) (zF : Nat) (fl : List (Int × Int)) (sent acked took : Nat),
    r ≤ P → P - r < n → Pair σ0 σ a b adF zF fl P sent acked took → (r ≤ acked ∨ acked = P) →
    ∃ σ9, lpAt Try.prog env L (k + 2) 6 [true, true, true, true, true, true, true, false, true] [] n [(5, .pointer (some ⟨a, 0, none⟩)), (6, .pointer (some ⟨b, 0, none⟩)), (10, .int .i64 P), (105, .int .i64 P), (106, .int .i64 r)] σ = some (.bool true, σ9)
  | 0, r, σ, adF, zF, fl, sent, acked, took, _, h, _, _ => by omega
  | n + 1, r, σ, adF, zF, fl, sent, acked, took, h1, h2, hI, h3 => by
    have hn1 := hI.n1; have hn2 := hI.n2; have hn3 := hI.n3; have hn4 := hI.n4
    rw [f6_l26]
    by_cases hr : r = P
    · have ha : acked = P := by omega
      have hs : sent = P := by omega
      have ht : took = P := by omega
      subst ha; subst hs; subst ht; subst hr
      rw [decide_eq_false (by omega), br_false, hI.counts L (k + 1), bnd_some, asT_t]
      rw [show (#[Value.int .i64 (r : Int), Value.int .i64 (r : Int), Value.int .i64 (r : Int)] : Array Value).toList = [Value.int .i64 (r : Int), Value.int .i64 (r : Int), Value.int .i64 (r : Int)] from rfl, uncons_c, asI_i, uncons_c, asI_i, uncons_c, asI_i, endl_n]
      obtain ⟨ad, z, σ1, g1, hI1, _⟩ := hI.list L k (by omega)
      rw [g1, bnd_some, asSl_s, show (((r : Nat) : Int) == ((r : Nat) : Int)) = true by simp, br_true, br_true, br_true]
      obtain ⟨ad2, z2, rs2, l2, σ2, _, g2, _, hI2, _, _⟩ := hI1.send L k hL (by omega)
      have hz : min r (r + 4) - r = 0 := by omega
      rw [hz] at g2
      have hmr : min r (r + 4) = r := by omega
      rw [hmr] at hI2
      rw [g2, bnd_some, asSl_s, show (((0 : Nat) : Int) == (0 : Int)) = true from rfl, br_true]
      obtain ⟨ad3, z3, rs3, l3, σ3, g3, _, _, _, _⟩ := hI2.resend L k hL (by omega)
      rw [Nat.sub_self] at g3
      rw [g3, bnd_some, asSl_s]
      exact ⟨σ3, rfl⟩
    · rw [decide_eq_true (by omega), br_true]
      obtain ⟨ad1, z1, l1, σ1, g1, hI1⟩ := hI.anew L k hL (by omega)
      rw [g1, bnd_some, asSl_s]
      obtain ⟨ad2, z2, rs2, l2, σ2, hl2, g2, hR2, hI2, _, _⟩ := hI1.send L k hL (by omega)
      rw [g2, bnd_some, asSl_s, hR2.read c2_len _ (by rw [packs_length])]
      generalize hs' : min P (acked + 4) = s' at hI2 hR2 ⊢
      have hpl := packs_length l1 (sent - acked) acked
      obtain ⟨ad3, z3, σ3, g3, hI3⟩ := hI2.fly (packs l2 sent (s' - sent)) (s' - sent) (by rw [packs_length]) (by omega) (by omega) (fun p hp => by have := packs_seq l2 _ _ p hp; omega)
      rw [hpl] at g3
      rw [g3]
      obtain ⟨ad4, z4, σ4, g4, hI4, _⟩ := hI3.list L k (by omega)
      rw [g4, bnd_some, asSl_s]
      have hfl : (packs l1 acked (sent - acked) ++ packs l2 sent (s' - sent)).length = s' - acked := by rw [List.length_append, packs_length, packs_length]; omega
      have hseq : ∀ (j : Nat) (p : Int × Int), (packs l1 acked (sent - acked) ++ packs l2 sent (s' - sent))[j]? = some p → p.1 = ((acked + j + 1 : Nat) : Int) := by
        intro j p hp
        have hjl := (List.getElem?_eq_some_iff.1 hp).1
        by_cases hj : j < sent - acked
        · rw [List.getElem?_append_left (by rw [packs_length]; exact hj), packs_get l1 _ _ _ hj] at hp
          cases hp; simp
        · rw [List.getElem?_append_right (by rw [packs_length]; omega), packs_length, packs_get l2 _ _ _ (by omega)] at hp
          cases hp; simp; omega
      obtain ⟨σ5, g5, hI5⟩ := heal_inner L k n (P := P) (r := r) (many := P) (by omega) hfl (by omega) hseq L 0 σ4 took (by omega) (by omega) hI4 (by omega)
      rw [show ((0 : Nat) : Int) = 0 from rfl] at g5
      rw [g5]
      obtain ⟨σ9, h9⟩ := heal_rounds L k hL hP n (r + 1) σ5 _ _ _ s' s' s' (by omega) (by omega) hI5 (by omega)
      rw [show ((r + 1 : Nat) : Int) = (r : Int) + 1 by omega] at h9
      exact ⟨σ9, h9⟩

theorem heal_push (L k : Nat) (hL : 2000 < L) {σ0 : St} {a b N : Nat} {adF : Option Addr} {zF : Nat} {fl : List (Int × Int)} {sent acked took : Nat} (hN : N ≤ 20) : ∀ (n i : Nat) (σ : St) (many : Nat),
    i ≤ N → N - i < n → many ≤ 300 + i → Pair σ0 σ a b adF zF fl many sent acked took →
    ∃ σ9, lpAt Try.prog env L (k + 2) 6 [true, true, true, true, true, false, true] [] n [(5, .pointer (some ⟨a, 0, none⟩)), (6, .pointer (some ⟨b, 0, none⟩)), (90, .int .i64 N), (91, .int .i64 i)] σ = some (.bool true, σ9)
  | 0, i, σ, many, _, h, _, _ => by omega
  | n + 1, i, σ, many, h1, h2, h3, hI => by
    rw [f6_l20]
    by_cases hi : i = N
    · rw [decide_eq_false (by omega), br_false, hI.counts L (k + 1), bnd_some, asT_t]
      rw [show (#[Value.int .i64 (many : Int), Value.int .i64 (sent : Int), Value.int .i64 (acked : Int)] : Array Value).toList = [Value.int .i64 (many : Int), Value.int .i64 (sent : Int), Value.int .i64 (acked : Int)] from rfl, uncons_c, asI_i, uncons_c, asI_i, uncons_c, asI_i, endl_n]
      exact heal_rounds L k hL (by omega) L 0 σ _ _ _ sent acked took (by omega) (by omega) hI (by omega)
    · rw [decide_eq_true (by omega), br_true]
      obtain ⟨σ1, g1, hI1⟩ := hI.push L (k + 1) (by omega) (IntKind.wrap IntKind.i64 ((0 : Int) - i))
      rw [g1, bnd_some, asT_t, show (#[] : Array Value).toList = [] from rfl, endl_n, wrap_in ((i : Int) + 1) (by omega) (by omega)]
      obtain ⟨σ9, h9⟩ := heal_push L k hL hN n (i + 1) σ1 (many + 1) (by omega) (by omega) (by omega) hI1
      rw [show ((i + 1 : Nat) : Int) = (i : Int) + 1 by omega] at h9
      exact ⟨σ9, h9⟩

end Go.AM
