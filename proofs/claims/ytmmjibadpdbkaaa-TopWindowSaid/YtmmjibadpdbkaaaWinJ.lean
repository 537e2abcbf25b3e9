/-
  A SENDER AND A RECEIVER, of whatever things: what each call leaves of the counts.
-/
import Derived.Test.YtmmjibadpdbkaaaWinH
set_option linter.unusedVariables false
set_option linter.unusedSimpArgs false
namespace Go.AM
open Go.Proofs

/-- What lies where, and what belongs to whom (a colour for each); how much was pushed, sent, acked, taken. -/
structure Pair (σ0 σ : St) (a b : Nat) (adF : Option Addr) (zF : Nat) (fl : List (Int × Int)) (many sent acked took : Nat) : Prop where
  kept : Kept' σ0.next σ0 σ
  ex : ∃ (c : Nat → Nat) (qS qR rF : List Nat) (l rl : List Int), l.length = many ∧ rl.length = took ∧ Send σ a qS l sent acked ∧ Recv σ b qR rl ∧ Row c2 2 30 σ adF zF rF fl ∧
    c a = 0 ∧ c b = 1 ∧ (∀ q ∈ qS, c q = 2) ∧ (∀ q ∈ qR, c q = 3) ∧ (∀ q ∈ rF, c q = 4) ∧ ∀ q, q < σ0.next → c q = 9
  fl : ∀ p ∈ fl, 1 ≤ p.1 ∧ p.1 ≤ sent
  n1 : acked ≤ took
  n2 : took ≤ sent
  n3 : sent ≤ many
  n4 : sent ≤ acked + 4

section
variable {σ0 σ : St} {a b : Nat} {adF : Option Addr} {zF : Nat} {fl : List (Int × Int)} {many sent acked took : Nat}

/-- Nothing of it has turned. -/
theorem Pair.idle (h : Pair σ0 σ a b adF zF fl many sent acked took) {σ' : St} (hs : Same σ σ' []) : Pair σ0 σ' a b adF zF fl many sent acked took := by
  obtain ⟨c, qS, qR, rF, l, rl, u1, u2, hS, hR, hF, e1, e2, e3, e4, e5, e7⟩ := h.ex
  exact ⟨h.kept.step hs (by simp), ⟨c, qS, qR, rF, l, rl, u1, u2, hS.same hs (by simp) (by simp), hR.same hs (by simp) (by simp), hF.same hs (by simp), e1, e2, e3, e4, e5, e7⟩, h.fl, h.n1, h.n2, h.n3, h.n4⟩

theorem Pair.push (h : Pair σ0 σ a b adF zF fl many sent acked took) (L k : Nat) (hm : many ≤ 1000) (x : Int) :
    ∃ σ', evCall Try.prog env L (k + 1) 11 [.pointer (some ⟨a, 0, none⟩), .int .i64 x] σ = some (.tuple #[], σ') ∧ Pair σ0 σ' a b adF zF fl (many + 1) sent acked took := by
  obtain ⟨c, qS, qR, rF, l, rl, u1, u2, hS, hR, hF, e1, e2, e3, e4, e5, e7⟩ := h.ex
  have hSlt : ∀ q ∈ qS, q < σ.next := hS.ex.choose_spec.choose_spec.2.lt
  have hRlt : ∀ q ∈ qR, q < σ.next := hR.ex.choose_spec.choose_spec.2.lt
  have halt := hS.lt
  have hblt := hR.lt
  obtain ⟨qS', σ1, g1, g2, g3, g4⟩ := push_spec L k hS (by omega) x
  have hc : ∀ x, x < σ.next → (fun q => if σ.next ≤ q then 2 else c q) x = c x := fun x hx => by simp; omega
  have hn1 := h.n1; have hn2 := h.n2; have hn3 := h.n3; have hn4 := h.n4
  have hno : ∀ x, c x ≠ 0 → c x ≠ 2 → x ∉ a :: qS := fun x w1 w2 hx => by
    rcases List.mem_cons.1 hx with rfl | hx
    · exact w1 e1
    · exact w2 (e3 x hx)
  refine ⟨σ1, g1, h.kept.step g3 (fun x hx => ?_), ⟨fun q => if σ.next ≤ q then 2 else c q, qS', qR, rF, l ++ [x], rl, by simp [u1], u2, g2, hR.same g3 (hno b (by omega) (by omega)) (fun q hq => hno q (by have := e4 q hq; omega) (by have := e4 q hq; omega)), hF.same g3 (fun q hq => hno q (by have := e5 q hq; omega) (by have := e5 q hq; omega)), ?_, ?_, ?_, ?_, ?_, ?_⟩, h.fl, hn1, hn2, by omega, hn4⟩
  · rcases Nat.lt_or_ge x σ0.next with h | h
    · have := e7 x h
      rcases List.mem_cons.1 hx with rfl | hx
      · omega
      · have := e3 x hx; omega
    · exact h
  · rw [hc a halt, e1]
  · rw [hc b hblt, e2]
  · intro q hq; rcases g4 q hq with h | h
    · rw [hc q (hSlt q h), e3 q h]
    · simp [h]
  · intro q hq; rw [hc q (hRlt q hq), e4 q hq]
  · intro q hq; rw [hc q (hF.lt q hq), e5 q hq]
  · intro q hq; rw [hc q (by have := h.kept.1; omega), e7 q hq]

theorem Pair.ack (h : Pair σ0 σ a b adF zF fl many sent acked took) (L k : Nat) (n : Nat) (hn : n ≤ took) :
    ∃ σ', evCall Try.prog env L (k + 1) 14 [.pointer (some ⟨a, 0, none⟩), .int .i64 n] σ = some (.nilIface, σ') ∧ Pair σ0 σ' a b adF zF fl many sent (max acked n) took := by
  obtain ⟨c, qS, qR, rF, l, rl, u1, u2, hS, hR, hF, e1, e2, e3, e4, e5, e7⟩ := h.ex
  have hn1 := h.n1; have hn2 := h.n2; have hn3 := h.n3; have hn4 := h.n4
  obtain ⟨σ1, g1, g2, g3⟩ := ack_spec L k hS n (by omega) (by omega)
  have hmx : mx (acked : Int) n = ((max acked n : Nat) : Int) := by unfold mx; split <;> omega
  rw [hmx] at g2
  have hna : ∀ x, c x ≠ 0 → x ∉ [a] := fun x hx h => by simp at h; subst h; omega
  refine ⟨σ1, g1, h.kept.step g3 (fun x hx => ?_), ⟨c, qS, qR, rF, l, rl, u1, u2, g2, hR.same g3 (hna b (by omega)) (fun q hq => hna q (by have := e4 q hq; omega)), hF.same g3 (fun q hq => hna q (by have := e5 q hq; omega)), e1, e2, e3, e4, e5, e7⟩, h.fl, by omega, hn2, hn3, by omega⟩
  rcases Nat.lt_or_ge x σ0.next with h | h
  · have := e7 x h; simp at hx; subst hx; omega
  · exact h

theorem Pair.take (h : Pair σ0 σ a b adF zF fl many sent acked took) (L k : Nat) (hm : many ≤ 1000) (s x : Int) (h1 : 1 ≤ s) (h2 : s ≤ sent) :
    ∃ σ', evCall Try.prog env L (k + 1) 9 [.pointer (some ⟨b, 0, none⟩), .agg [.int .i64 s, .int .i64 x].toArray] σ = some (.int .i64 ((if s = took + 1 then took + 1 else took : Nat) : Int), σ') ∧
      Pair σ0 σ' a b adF zF fl many sent acked (if s = took + 1 then took + 1 else took) := by
  obtain ⟨c, qS, qR, rF, l, rl, u1, u2, hS, hR, hF, e1, e2, e3, e4, e5, e7⟩ := h.ex
  have hSlt : ∀ q ∈ qS, q < σ.next := hS.ex.choose_spec.choose_spec.2.lt
  have hRlt : ∀ q ∈ qR, q < σ.next := hR.ex.choose_spec.choose_spec.2.lt
  have halt := hS.lt
  have hblt := hR.lt
  have hn1 := h.n1; have hn2 := h.n2; have hn3 := h.n3; have hn4 := h.n4
  obtain ⟨qR', σ1, g1, g2, g3, g4⟩ := take_spec L k hR (by omega) s x
  have hlen : (if s = (rl.length : Int) + 1 then rl ++ [x] else rl).length = if s = took + 1 then took + 1 else took := by
    rw [u2]; split <;> simp [u2]
  rw [hlen] at g1
  have hc : ∀ x, x < σ.next → (fun q => if σ.next ≤ q then 3 else c q) x = c x := fun x hx => by simp; omega
  have hno : ∀ x, c x ≠ 1 → c x ≠ 3 → x ∉ b :: qR := fun x w1 w2 hx => by
    rcases List.mem_cons.1 hx with rfl | hx
    · exact w1 e2
    · exact w2 (e4 x hx)
  refine ⟨σ1, g1, h.kept.step g3 (fun x hx => ?_), ⟨fun q => if σ.next ≤ q then 3 else c q, qS, qR', rF, l, _, u1, hlen, hS.same g3 (hno a (by omega) (by omega)) (fun q hq => hno q (by have := e3 q hq; omega) (by have := e3 q hq; omega)), g2, hF.same g3 (fun q hq => hno q (by have := e5 q hq; omega) (by have := e5 q hq; omega)), ?_, ?_, ?_, ?_, ?_, ?_⟩, h.fl, by split <;> omega, by split <;> omega, hn3, hn4⟩
  · rcases Nat.lt_or_ge x σ0.next with h | h
    · have := e7 x h
      rcases List.mem_cons.1 hx with rfl | hx
      · omega
      · have := e4 x hx; omega
    · exact h
  · rw [hc a halt, e1]
  · rw [hc b hblt, e2]
  · intro q hq; rw [hc q (hSlt q hq), e3 q hq]
  · intro q hq; rcases g4 q hq with h | h
    · rw [hc q (hRlt q h), e4 q h]
    · simp [h]
  · intro q hq; rw [hc q (hF.lt q hq), e5 q hq]
  · intro q hq; rw [hc q (by have := h.kept.1; omega), e7 q hq]

theorem packs_seq (l : List Int) : ∀ (n i : Nat), ∀ p ∈ packs l i n, (i : Int) + 1 ≤ p.1 ∧ p.1 ≤ ((i + n : Nat) : Int)
  | 0, _, p, hp => by cases hp
  | n + 1, i, p, hp => by
    simp only [packs, List.mem_cons] at hp
    rcases hp with rfl | hp
    · simp; omega
    · have := packs_seq l n (i + 1) p hp; omega

theorem Pair.send (h : Pair σ0 σ a b adF zF fl many sent acked took) (L k : Nat) (hL : 2000 < L) (hm : many ≤ 1000) :
    ∃ ad z rs l σ', l.length = many ∧ evCall Try.prog env L (k + 2) 12 [.pointer (some ⟨a, 0, none⟩)] σ = some (.slice ad (min many (acked + 4) - sent) z, σ') ∧ Row c2 2 30 σ' ad z rs (packs l sent (min many (acked + 4) - sent)) ∧
      Pair σ0 σ' a b adF zF fl many (min many (acked + 4)) acked took ∧ Same σ σ' [a] ∧ ∀ q ∈ rs, σ.next ≤ q := by
  obtain ⟨c, qS, qR, rF, l, rl, u1, u2, hS, hR, hF, e1, e2, e3, e4, e5, e7⟩ := h.ex
  have hn1 := h.n1; have hn2 := h.n2; have hn3 := h.n3; have hn4 := h.n4
  obtain ⟨ad, z, rs, σ1, g1, hO, hS1, hs1, hq1⟩ := send_spec L k hS (by omega) (by omega) (by omega) (by omega)
  rw [u1] at g1 hO hS1
  have hmm : max sent (min many (acked + 4)) = min many (acked + 4) := by omega
  rw [hmm] at g1 hO hS1
  have hna : ∀ x, c x ≠ 0 → x ∉ [a] := fun x hx h => by simp at h; subst h; omega
  refine ⟨ad, z, rs, l, σ1, u1, g1, hO, ⟨h.kept.step hs1 (fun x hx => ?_), ⟨c, qS, qR, rF, l, rl, u1, u2, hS1, hR.same hs1 (hna b (by omega)) (fun q hq => hna q (by have := e4 q hq; omega)), hF.same hs1 (fun q hq => hna q (by have := e5 q hq; omega)), e1, e2, e3, e4, e5, e7⟩, fun p hp => by have := h.fl p hp; omega, hn1, by omega, by omega, by omega⟩, hs1, hq1⟩
  rcases Nat.lt_or_ge x σ0.next with h | h
  · have := e7 x h; simp at hx; subst hx; omega
  · exact h

theorem Pair.resend (h : Pair σ0 σ a b adF zF fl many sent acked took) (L k : Nat) (hL : 2000 < L) (hm : many ≤ 1000) :
    ∃ ad z rs l σ', evCall Try.prog env L (k + 2) 15 [.pointer (some ⟨a, 0, none⟩)] σ = some (.slice ad (sent - acked) z, σ') ∧ Row c2 2 30 σ' ad z rs (packs l acked (sent - acked)) ∧
      Pair σ0 σ' a b adF zF fl many sent acked took ∧ Same σ σ' [] ∧ ∀ q ∈ rs, σ.next ≤ q := by
  obtain ⟨c, qS, qR, rF, l, rl, u1, u2, hS, hR, hF, e1, e2, e3, e4, e5, e7⟩ := h.ex
  have hn1 := h.n1; have hn2 := h.n2; have hn3 := h.n3; have hn4 := h.n4
  obtain ⟨ad, z, rs, σ1, g1, hO, _, hs1, hq1⟩ := resend_spec L k hS (by omega) (by omega) (by omega) (by omega)
  exact ⟨ad, z, rs, l, σ1, g1, hO, h.idle hs1, hs1, hq1⟩

theorem Pair.list (h : Pair σ0 σ a b adF zF fl many sent acked took) (L k : Nat) (hm : many ≤ 1000) :
    ∃ ad z σ', evCall Try.prog env L (k + 2) 10 [.pointer (some ⟨b, 0, none⟩)] σ = some (.slice ad took z, σ') ∧ Pair σ0 σ' a b adF zF fl many sent acked took ∧ Same σ σ' [] := by
  obtain ⟨c, qS, qR, rF, l, rl, u1, u2, hS, hR, hF, e1, e2, e3, e4, e5, e7⟩ := h.ex
  have hn1 := h.n1; have hn2 := h.n2; have hn3 := h.n3
  obtain ⟨ad, z, rs, σ1, g1, hrow, hs, _⟩ := list_spec L k hR (by omega)
  rw [u2] at g1
  exact ⟨ad, z, σ1, g1, h.idle hs, hs⟩

theorem Pair.counts (h : Pair σ0 σ a b adF zF fl many sent acked took) (L k : Nat) :
    evCall Try.prog env L (k + 1) 13 [.pointer (some ⟨a, 0, none⟩)] σ = some (.tuple #[.int .i64 many, .int .i64 sent, .int .i64 acked], σ) := by
  obtain ⟨c, qS, qR, rF, l, rl, u1, u2, hS, hR, hF, e1, e2, e3, e4, e5, e7⟩ := h.ex
  rw [counts_spec L k hS, u1]

/-- What flies is more. -/
theorem Pair.fly (h : Pair σ0 σ a b adF zF fl many sent acked took) (news : List (Int × Int)) (m : Nat) (hm : m = news.length) (hm2 : m ≤ 100000) (hf2 : fl.length ≤ 100000) (hnews : ∀ p ∈ news, 1 ≤ p.1 ∧ p.1 ≤ sent) :
    ∃ adF' zF' σ', (∀ K, grow 30 2 16 adF fl.length zF m (news.flatMap c2) σ K = K adF' (fl ++ news).length zF' σ') ∧ Pair σ0 σ' a b adF' zF' (fl ++ news) many sent acked took := by
  obtain ⟨c, qS, qR, rF, l, rl, u1, u2, hS, hR, hF, e1, e2, e3, e4, e5, e7⟩ := h.ex
  have hSlt : ∀ q ∈ qS, q < σ.next := hS.ex.choose_spec.choose_spec.2.lt
  have hRlt : ∀ q ∈ qR, q < σ.next := hR.ex.choose_spec.choose_spec.2.lt
  have halt := hS.lt
  have hblt := hR.lt
  obtain ⟨adF', zF', rF', σ2, w1, w2, w3, w4⟩ := grow_row (by_ := 16) hF c2_len c2_one (by omega) news _ rfl m hm (by unfold roomTop; omega) (by unfold sizeTop; omega)
  have col : ∀ x, x < σ.next → (fun q => if σ.next ≤ q then 4 else c q) x = c x := fun x hx => by simp; omega
  have hnF : ∀ x, c x ≠ 4 → x ∉ rF := fun x hx h => hx (e5 x h)
  refine ⟨adF', zF', σ2, fun K => by rw [w1, List.length_append, hm], h.kept.step w3 (fun x hx => ?_), ⟨fun q => if σ.next ≤ q then 4 else c q, qS, qR, rF', l, rl, u1, u2, hS.same w3 (hnF a (by omega)) (fun q hq => hnF q (by have := e3 q hq; omega)), hR.same w3 (hnF b (by omega)) (fun q hq => hnF q (by have := e4 q hq; omega)), w2, ?_, ?_, ?_, ?_, ?_, ?_⟩, ?_, h.n1, h.n2, h.n3, h.n4⟩
  · rcases Nat.lt_or_ge x σ0.next with h | h
    · have := e7 x h; have := e5 x hx; omega
    · exact h
  · rw [col a halt, e1]
  · rw [col b hblt, e2]
  · intro q hq; rw [col q (hSlt q hq), e3 q hq]
  · intro q hq; rw [col q (hRlt q hq), e4 q hq]
  · intro q hq; rcases w4 q hq with h | h
    · rw [col q (hF.lt q h), e5 q h]
    · simp [h]
  · intro q hq; rw [col q (by have := h.kept.1; omega), e7 q hq]
  · intro p hp
    rcases List.mem_append.1 hp with hp | hp
    · exact h.fl p hp
    · exact hnews p hp
end

end Go.AM
