/-
  A WINDOW OVER A LINK: what each call leaves.
-/
import Derived.Test.YtmmjibadpdbkaaaTwA
import Derived.Test.YtmmjibadpdbkaaaAm20
set_option linter.unusedVariables false
set_option linter.unusedSimpArgs false
namespace Go.AM
open Go.Proofs

theorem turn_of {σ σ' : St} {a : Nat} {qs qs' : List Nat} (hs : Same σ σ' (a :: qs)) (ha : a < σ'.next) (hq : ∀ q ∈ qs', q < σ'.next) (hn : ∀ q ∈ qs', q ∈ qs ∨ σ.next ≤ q) : Turn σ σ' (a :: qs) (a :: qs') :=
  ⟨hs, fun q h => by
    rcases List.mem_cons.1 h with rfl | h
    · exact ⟨.inl (by simp), ha⟩
    · exact ⟨(hn q h).imp (fun h => by simp [h]) id, hq q h⟩⟩

def sq (n : Nat) : List Int := (List.range n).map fun (k : Nat) => (k : Int) * k
theorem sq_len (n : Nat) : (sq n).length = n := by simp [sq]
theorem sq_succ (n : Nat) : sq (n + 1) = sq n ++ [(n : Int) * n] := by simp [sq, List.range_succ]
theorem sq_get {n i : Nat} (h : i < n) : (sq n)[i]? = some ((i : Int) * i) := by simp [sq, h]
theorem sq_getD {n i : Nat} (h : i < n) : (sq n).getD i 0 = (i : Int) * i := by simp [List.getD, sq_get h]
theorem packs_append (l : List Int) : ∀ (n m i : Nat), packs l i (n + m) = packs l i n ++ packs l (i + n) m
  | 0, m, i => by simp [packs]
  | n + 1, m, i => by
    rw [show n + 1 + m = (n + m) + 1 by omega]
    simp only [packs, List.cons_append]
    rw [packs_append l n m (i + 1), show i + 1 + n = i + (n + 1) by omega]

/-- A packet of the window: its number, and what was pushed there. -/
def Pk (sent : Nat) (p : Int × Int) : Prop := ∃ j : Nat, p = ((j : Int) + 1, (j : Int) * j) ∧ j < sent
theorem Pk.mono {s t : Nat} {p : Int × Int} (h : Pk s p) (hst : s ≤ t) : Pk t p := by obtain ⟨j, e, hj⟩ := h; exact ⟨j, e, by omega⟩
theorem packs_pk {N i n : Nat} (h : i + n ≤ N) : ∀ p ∈ packs (sq N) i n, Pk (i + n) p := by
  intro p hp
  obtain ⟨j, hj, rfl⟩ := List.getElem_of_mem hp
  have hl := packs_length (sq N) n i
  have h1 := packs_get (sq N) n i j (by omega)
  rw [List.getElem?_eq_getElem hj] at h1
  rw [Option.some.inj h1, sq_getD (by omega)]
  exact ⟨i + j, rfl, by omega⟩

structure Tw (σ0 σ : St) (a b c : Nat) (E : List (List Nat)) (N sent acked took : Nat) (fl : List (Int × Int)) : Prop where
  ex : ∃ qS qR qL, Send σ a qS (sq N) sent acked ∧ Recv σ b qR (sq took) ∧ Link2 σ c qL fl 500 ∧ Owns σ0 σ ((a :: qS) :: (b :: qR) :: (c :: qL) :: E)
  pk : ∀ p ∈ fl, Pk sent p
  len : fl.length ≤ 500
  n0 : N ≤ 30
  n1 : acked ≤ took
  n2 : took ≤ sent
  n3 : sent ≤ N
  n4 : sent ≤ acked + 4

section
variable {σ0 σ : St} {a b c : Nat} {E : List (List Nat)} {N sent acked took : Nat} {fl : List (Int × Int)}
theorem Tw.kept (h : Tw σ0 σ a b c E N sent acked took fl) : Kept' σ0.next σ0 σ := by obtain ⟨_, _, _, _, _, _, hO⟩ := h.ex; exact hO.kept
theorem Tw.idle (h : Tw σ0 σ a b c E N sent acked took fl) {σ' : St} (hs : Same σ σ' []) : Tw σ0 σ' a b c E N sent acked took fl := by
  obtain ⟨qS, qR, qL, hS, hR, hL, hO⟩ := h.ex
  exact ⟨⟨qS, qR, qL, hS.same hs (by simp) (by simp), hR.same hs (by simp) (by simp), hL.idle hs, hO.idle hs⟩, h.pk, h.len, h.n0, h.n1, h.n2, h.n3, h.n4⟩
/-- One more thing of the call's own. -/
theorem Tw.more (h : Tw σ0 σ a b c [] N sent acked took fl) {σ' : St} (hs : Same σ σ' []) {q : List Nat} (hq : ∀ x ∈ q, σ.next ≤ x ∧ x < σ'.next) : Tw σ0 σ' a b c [q] N sent acked took fl := by
  obtain ⟨qS, qR, qL, hS, hR, hL, hO⟩ := h.ex
  exact ⟨⟨qS, qR, qL, hS.same hs (by simp) (by simp), hR.same hs (by simp) (by simp), hL.idle hs, (hO.more hs hq).pick [1, 2, 3, 0] (by decide)⟩, h.pk, h.len, h.n0, h.n1, h.n2, h.n3, h.n4⟩
theorem Tw.less (h : Tw σ0 σ a b c E N sent acked took fl) : Tw σ0 σ a b c [] N sent acked took fl := by
  obtain ⟨qS, qR, qL, hS, hR, hL, hO⟩ := h.ex
  exact ⟨⟨qS, qR, qL, hS, hR, hL, hO.pick [0, 1, 2] (by decide)⟩, h.pk, h.len, h.n0, h.n1, h.n2, h.n3, h.n4⟩

theorem Tw.take (h : Tw σ0 σ a b c E N sent acked took fl) (L k : Nat) (j : Nat) (hj : j < sent) :
    ∃ (took' : Nat) (σ' : St), evCall Try.prog env L (k + 1) 9 [.pointer (some ⟨b, 0, none⟩), .agg [.int .i64 ((j : Int) + 1), .int .i64 ((j : Int) * j)].toArray] σ = some (.int .i64 took', σ') ∧ took' = (if j = took then took + 1 else took) ∧ Tw σ0 σ' a b c E N sent acked took' fl ∧
      ∀ q rest, E = q :: rest → Same σ σ' [] ∨ ∃ S, Same σ σ' S ∧ ∀ x ∈ q, x ∉ S := by
  obtain ⟨qS, qR, qL, hS, hR, hL, hO⟩ := h.ex
  obtain ⟨qR', σ1, g1, g2, g3, g4⟩ := take_spec L k hR (by rw [sq_len]; have := h.n0; have := h.n2; have := h.n3; omega) ((j : Int) + 1) ((j : Int) * j)
  rw [sq_len] at g1 g2
  have e1 : (if (j : Int) + 1 = (took : Int) + 1 then sq took ++ [(j : Int) * j] else sq took) = sq (if j = took then took + 1 else took) := by
    by_cases hjt : j = took
    · subst hjt; rw [if_pos rfl, if_pos rfl, sq_succ]
    · rw [if_neg (by omega), if_neg hjt]
  rw [e1] at g1 g2
  rw [sq_len] at g1
  have hrl : ∀ q ∈ qR', q < σ1.next := by obtain ⟨_, _, _, hr⟩ := g2.ex; exact hr.lt
  have hT : Turn σ σ1 (b :: qR) (b :: qR') := turn_of g3 g2.lt hrl g4
  have o0 := hO.off 0 1 (by omega) rfl rfl
  have o2 := hO.off 2 1 (by omega) rfl rfl
  refine ⟨_, σ1, g1, rfl, ⟨⟨qS, qR', qL, hS.same g3 (o0 a (by simp)) (fun q hq => o0 q (by simp [hq])), g2, hL.same g3 (o2 c (by simp)) (fun q hq => o2 q (by simp [hq])), hO.turned 1 rfl hT⟩, h.pk, h.len, h.n0, ?_, ?_, h.n3, h.n4⟩, fun q rest hE => .inr ⟨_, g3, fun x hx => ?_⟩⟩
  · have := h.n1; split <;> omega
  · have := h.n2; split <;> omega
  · subst hE
    exact hO.off 3 1 (by omega) rfl rfl x hx

theorem Tw.ack (h : Tw σ0 σ a b c E N sent acked took fl) (L k : Nat) (n : Nat) (hn : n ≤ took) :
    ∃ σ', evCall Try.prog env L (k + 1) 14 [.pointer (some ⟨a, 0, none⟩), .int .i64 n] σ = some (.nilIface, σ') ∧ Tw σ0 σ' a b c E N sent (max acked n) took fl ∧ ∀ q rest, E = q :: rest → ∃ S, Same σ σ' S ∧ ∀ x ∈ q, x ∉ S := by
  obtain ⟨qS, qR, qL, hS, hR, hL, hO⟩ := h.ex
  have h1 := h.n1; have h2 := h.n2; have h3 := h.n3; have h4 := h.n4
  obtain ⟨σ1, g1, g2, g3⟩ := ack_spec L k hS n (by omega) (by omega)
  have hmx : mx (acked : Int) n = ((max acked n : Nat) : Int) := by unfold mx; split <;> omega
  rw [hmx] at g2
  have g3' : Same σ σ1 (a :: qS) := g3.mono (by simp)
  have hsl : ∀ q ∈ qS, q < σ1.next := by obtain ⟨_, _, _, hr⟩ := g2.ex; exact hr.lt
  have hT : Turn σ σ1 (a :: qS) (a :: qS) := turn_of g3' g2.lt hsl (fun q hq => .inl hq)
  have o1 := hO.off 1 0 (by omega) rfl rfl
  have o2 := hO.off 2 0 (by omega) rfl rfl
  refine ⟨σ1, g1, ⟨⟨qS, qR, qL, g2, hR.same g3' (o1 b (by simp)) (fun q hq => o1 q (by simp [hq])), hL.same g3' (o2 c (by simp)) (fun q hq => o2 q (by simp [hq])), hO.turned 0 rfl hT⟩, h.pk, h.len, h.n0, by omega, h2, h3, by omega⟩, fun q rest hE => ⟨_, g3', fun x hx => ?_⟩⟩
  subst hE
  exact hO.off 3 0 (by omega) rfl rfl x hx


theorem Tw.link (h : Tw σ0 σ a b c E N sent acked took fl) {P : Value → Prop}  {r : Res}
    (hr : ∀ qL, Link2 σ c qL fl 500 → Ends (fun v σ' => ∃ qL' fl', P v ∧ Link2 σ' c qL' fl' 500 ∧ Same σ σ' (c :: qL) ∧ (∀ q ∈ qL', q ∈ qL ∨ σ.next ≤ q) ∧ (∀ p ∈ fl', Pk sent p) ∧ fl'.length ≤ 500) r) :
    Ends (fun v σ' => P v ∧ (∃ fl', Tw σ0 σ' a b c E N sent acked took fl') ∧ ∀ q rest, E = q :: rest → ∃ S, Same σ σ' S ∧ ∀ x ∈ q, x ∉ S) r := by
  obtain ⟨qS, qR, qL, hS, hR, hL, hO⟩ := h.ex
  obtain ⟨v, σ1, g1, qL', fl', g2, g3, g4, g5, g6, g7⟩ := hr qL hL
  have hll : ∀ q ∈ qL', q < σ1.next := by obtain ⟨_, _, _, hr⟩ := g3.ex; exact hr.lt
  have hT : Turn σ σ1 (c :: qL) (c :: qL') := turn_of g4 g3.lt hll g5
  have o0 := hO.off 0 2 (by omega) rfl rfl
  have o1 := hO.off 1 2 (by omega) rfl rfl
  refine ⟨v, σ1, g1, g2, ⟨fl', ⟨⟨qS, qR, qL', hS.same g4 (o0 a (by simp)) (fun q hq => o0 q (by simp [hq])), hR.same g4 (o1 b (by simp)) (fun q hq => o1 q (by simp [hq])), g3, hO.turned 2 rfl hT⟩, g6, g7, h.n0, h.n1, h.n2, h.n3, h.n4⟩⟩, fun q rest hE => ⟨_, g4, fun x hx => ?_⟩⟩
  subst hE
  exact hO.off 3 2 (by omega) rfl rfl x hx

/-- All that isn't acked, and what may be sent. -/
theorem Tw.both (h : Tw σ0 σ a b c [] N sent acked took fl) (L k : Nat) (hL : 100 < L) :
    ∃ (sent' : Nat) (ad : Option Addr) (z n1 n2 : Nat) (ad1 : Option Addr) (z1 : Nat) (ad2 : Option Addr) (z2 : Nat) (q : List Nat) (σ1 σ2 σ3 : St),
      evCall Try.prog env L (k + 2) 15 [.pointer (some ⟨a, 0, none⟩)] σ = some (.slice ad1 n1 z1, σ1) ∧ evCall Try.prog env L (k + 2) 12 [.pointer (some ⟨a, 0, none⟩)] σ1 = some (.slice ad2 n2 z2, σ2) ∧
      (∀ K : Option Addr → Nat → Nat → St → Res, (σ2.row ad2 (n2 * 2) fun v => grow 30 2 16 ad1 n1 z1 n2 v σ2 K) = K ad (sent' - acked) z σ3) ∧ sent' = max sent (min N (acked + 4)) ∧ Row c2 2 30 σ3 ad z q (packs (sq N) acked (sent' - acked)) ∧ Tw σ0 σ3 a b c [q] N sent' acked took fl := by
  obtain ⟨qS, qR, qL, hS, hR, hL', hO⟩ := h.ex
  have h0 := h.n0; have h1 := h.n1; have h2 := h.n2; have h3 := h.n3; have h4 := h.n4
  obtain ⟨ad1, z1, q1, σ1, g1, hO1, hS1, hs1, hq1⟩ := resend_spec L k hS (by rw [sq_len]; omega) (by rw [sq_len]; omega) (by omega) (by rw [sq_len]; omega)
  obtain ⟨ad2, z2, q2, σ2, g2, hO2, hS2, hs2, hq2⟩ := send_spec L k hS1 (by rw [sq_len]; omega) (by rw [sq_len]; omega) (by omega) (by rw [sq_len]; omega)
  rw [sq_len] at g2 hO2 hS2
  generalize hst : max sent (min N (acked + 4)) = sent' at g2 hO2 hS2
  have n1 := hs1.1
  have hs1l : ∀ q ∈ qS, q < σ1.next := fun q hq => by obtain ⟨_, _, _, hr⟩ := hS1.ex; exact hr.lt q hq
  have haq : a ∉ q1 := fun hx => by have := hq1 a hx; have := hS.lt; omega
  have hO1' : Row c2 2 30 σ2 ad1 z1 q1 (packs (sq N) acked (sent - acked)) := hO1.same hs2 (fun q hq => by simp; rintro rfl; exact haq hq)
  have hl1 : (packs (sq N) acked (sent - acked)).length = sent - acked := packs_length _ _ _
  have hl2 : (packs (sq N) sent (sent' - sent)).length = sent' - sent := packs_length _ _ _
  obtain ⟨ad3, z3, q3, σ3, w1, w2, w3, w4⟩ := grow_row (by_ := 16) hO1' c2_len c2_one (by omega) (packs (sq N) sent (sent' - sent)) _ rfl (sent' - sent) hl2.symm (by rw [hl1]; unfold roomTop; omega) (by rw [hl1]; unfold sizeTop; omega)
  have hap : packs (sq N) acked (sent - acked) ++ packs (sq N) sent (sent' - sent) = packs (sq N) acked (sent' - acked) := by
    rw [show sent' - acked = (sent - acked) + (sent' - sent) by omega, packs_append, show acked + (sent - acked) = sent by omega]
  rw [hap] at w2
  rw [hl1] at w1
  have n2 := hs2.1
  have n3 := w3.1
  have hs2' : Same σ σ2 (a :: qS) := (hs1.mono (by simp)).trans (hs2.mono (by simp))
  have hT : Turn σ σ2 (a :: qS) (a :: qS) := turn_of hs2' hS2.lt (by obtain ⟨_, _, _, hr⟩ := hS2.ex; exact hr.lt) (fun q hq => .inl hq)
  have o1 := hO.off 1 0 (by omega) rfl rfl
  have o2 := hO.off 2 0 (by omega) rfl rfl
  have hR2 : Recv σ2 b qR (sq took) := hR.same hs2' (o1 b (by simp)) (fun q hq => o1 q (by simp [hq]))
  have hL2 : Link2 σ2 c qL fl 500 := hL'.same hs2' (o2 c (by simp)) (fun q hq => o2 q (by simp [hq]))
  have hO2' : Owns σ0 σ2 [a :: qS, b :: qR, c :: qL] := hO.turned 0 rfl hT
  have off : ∀ x, x < σ.next → x ∉ q1 := fun x hx h => by have := hq1 x h; omega
  have hS3 : Send σ3 a qS (sq N) sent' acked := hS2.same w3 (off a hS.lt) (fun q hq => off q (by obtain ⟨_, _, _, hr⟩ := hS.ex; exact hr.lt q hq))
  have hR3 : Recv σ3 b qR (sq took) := hR2.same w3 (off b hR.lt) (fun q hq => off q (by obtain ⟨_, _, _, hr⟩ := hR.ex; exact hr.lt q hq))
  have hL3 : Link2 σ3 c qL fl 500 := hL2.same w3 (off c hL'.lt) (fun q hq => off q (by obtain ⟨_, _, _, hr⟩ := hL'.ex; exact hr.lt q hq))
  have hq1' : ∀ x ∈ q1, σ.next ≤ x ∧ x < σ2.next := fun x hx => ⟨hq1 x hx, by have := hO1'.lt x hx; omega⟩
  have hOq : Owns σ0 σ2 [q1, a :: qS, b :: qR, c :: qL] := by
    have hlow : ∀ F ∈ [a :: qS, b :: qR, c :: qL], ∀ x ∈ F, x < σ.next := by
      intro F hF x hx
      exact (hO.own F hF x hx).2
    refine ⟨hO2'.kept, fun F hF q hq => ?_, fun i j F G hij hi hj q hqF hqG => ?_⟩
    · rcases List.mem_cons.1 hF with rfl | hF
      · have := hq1' q hq; have := hO.kept.1; omega
      · exact hO2'.own F hF q hq
    · cases i with
      | zero =>
        cases j with
        | zero => omega
        | succ j =>
          simp only [List.getElem?_cons_zero, Option.some.injEq] at hi
          subst hi
          have := hlow G (List.mem_of_getElem? (by simpa using hj)) q hqG
          have := hq1' q hqF
          omega
      | succ i =>
        cases j with
        | zero =>
          simp only [List.getElem?_cons_zero, Option.some.injEq] at hj
          subst hj
          have := hlow F (List.mem_of_getElem? (by simpa using hi)) q hqF
          have := hq1' q hqG
          omega
        | succ j => exact hO2'.dis i j F G (by omega) (by simpa using hi) (by simpa using hj) q hqF hqG
  have hOq3 : Owns σ0 σ3 [q3, a :: qS, b :: qR, c :: qL] := hOq.turn 0 rfl w3 (fun q hq => ⟨w4 q hq, w2.lt q hq⟩)
  refine ⟨sent', ad3, z3, sent - acked, sent' - sent, ad1, z1, ad2, z2, q3, σ1, σ2, σ3, g1, g2, fun K => ?_, rfl, w2, ⟨⟨qS, qR, qL, hS3, hR3, hL3, hOq3.pick [1, 2, 3, 0] (by decide)⟩, fun p hp => (h.pk p hp).mono (by omega), h.len, h0, h1, by omega, by omega, by omega⟩⟩
  rw [hO2.read c2_len _ (by rw [hl2]), w1, show sent - acked + (sent' - sent) = sent' - acked by omega]
end

end Go.AM
