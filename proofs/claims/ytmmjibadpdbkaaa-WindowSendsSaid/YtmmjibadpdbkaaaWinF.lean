/-
  WindowSends, in plain words: each thing is sent once, in order, no more than four at a time not acked.
-/
import Derived.Test.YtmmjibadpdbkaaaWinE
set_option linter.unusedVariables false
set_option linter.unusedSimpArgs false
namespace Go.AM
open Go.Proofs

/-- The first multiples of seven. -/
def sevs (m : Nat) : List Int := (List.range m).map fun (j : Nat) => (j : Int) * 7
theorem sevs_length (m : Nat) : (sevs m).length = m := by simp [sevs]
theorem sevs_snoc (m : Nat) : sevs m ++ [(m : Int) * 7] = sevs (m + 1) := by simp [sevs, List.range_succ]
theorem sevs_get {m i : Nat} (h : i < m) : (sevs m).getD i 0 = (i : Int) * 7 := by simp [sevs, List.getD, h]

theorem sends_inner (L k m0 : Nat) {σ : St} {a N kk sent' : Nat} {ad : Option Addr} {z : Nat} {rs : List Nat} {fro m r : Nat} (hN : N ≤ 60) (hm : fro + m ≤ N) (hR : Row c2 2 30 σ ad z rs (packs (sevs N) fro m)) : ∀ (n j : Nat), j ≤ m → m - j < n →
    ∃ n', lpAt Try.prog env L k 4 [true, true, true, true, true, true, false, true, false, true, true, false, true, false, true] [m0] n [(5, .int .i64 N), (6, .int .i64 kk), (7, .pointer (some ⟨a, 0, none⟩)), (9, .int .i64 ((fro + j : Nat) : Int)), (10, .slice ad m z), (36, .int .i64 ((N : Int) + 1)), (37, .int .i64 r), (42, .int .i64 m), (43, .int .i64 j)] σ =
      lpAt Try.prog env L k 4 [true, true, true, true, true, true, false, true, false, true, true, false, true, false, true] [m0] (n' + 1) [(5, .int .i64 N), (6, .int .i64 kk), (7, .pointer (some ⟨a, 0, none⟩)), (9, .int .i64 ((fro + m : Nat) : Int)), (10, .slice ad m z), (36, .int .i64 ((N : Int) + 1)), (37, .int .i64 r), (42, .int .i64 m), (43, .int .i64 m)] σ
  | 0, j, _, h => by omega
  | n + 1, j, hj, h => by
    by_cases hjm : j = m
    · subst hjm; exact ⟨n, rfl⟩
    · have hb : decide ((j : Int) < (m : Int)) = true := by simp; omega
      obtain ⟨q, e, hat⟩ := hR.at c2_len (packs_get (sevs N) m fro j (by omega))
      rw [sevs_get (by omega)] at hat
      obtain ⟨n', h'⟩ := sends_inner L k m0 (a := a) (kk := kk) (sent' := sent') (r := r) hN hm hR n (j + 1) (by omega) (by omega)
      refine ⟨n', ?_⟩
      rw [f4_l15, hb, br_true, need_of (by simp [inRange]; omega), e, adr_some, hat 0 (.int .i64 (((fro + j : Nat) : Int) + 1)) _ (by omega) rfl (by simp), asI_i, wrap_in _ (by omega) (by omega)]
      rw [show (((fro + j : Nat) : Int) + 1 != ((fro + j : Nat) : Int) + 1) = false by simp, br_false, need_of (by simp [inRange]; omega), adr_some, hat 1 (.int .i64 (((fro + j : Nat) : Int) * 7)) _ (by omega) rfl (by simp), asI_i, wrap_in (((fro + j : Nat) : Int) * 7) (by omega) (by omega)]
      rw [show (((fro + j : Nat) : Int) * 7 != ((fro + j : Nat) : Int) * 7) = false by simp, br_false, wrap_in ((j : Int) + 1) (by omega) (by omega), ← e]
      rw [show ((fro + j : Nat) : Int) + 1 = ((fro + (j + 1) : Nat) : Int) by omega, show (j : Int) + 1 = ((j + 1 : Nat) : Int) by omega]
      exact h'

theorem sends_loop (L k : Nat) (hL : 100 < L) {N kk : Nat} (hN : N < 60) (hk1 : 1 ≤ kk) (hk4 : kk ≤ 4) : ∀ (n r : Nat) (σ : St) (a : Nat) (qs : List Nat) (sent acked : Nat),
    r ≤ N + 1 → N + 1 - r < n → Send σ a qs (sevs N) sent acked → acked ≤ sent → sent ≤ N → sent ≤ acked + 4 → (r ≤ acked ∨ acked = N) → (r ≤ sent ∨ sent = N) →
    ∃ σ', lpAt Try.prog env L (k + 2) 4 [true, true, true, true, true, true, false, true] [] n [(5, .int .i64 N), (6, .int .i64 kk), (7, .pointer (some ⟨a, 0, none⟩)), (9, .int .i64 sent), (36, .int .i64 ((N : Int) + 1)), (37, .int .i64 r)] σ = some (.bool true, σ')
  | 0, r, σ, a, qs, sent, acked, _, h, _, _, _, _, _, _ => by omega
  | n + 1, r, σ, a, qs, sent, acked, h1, h2, hS, g1, g2, g3, g4, g5 => by
    rw [f4_l12]
    by_cases hr : r = N + 1
    · subst hr
      have hb : decide (((N + 1 : Nat) : Int) < (N : Int) + 1) = false := decide_eq_false (by omega)
      rw [hb, br_false]
      have : sent = N := by omega
      subst this
      exact ⟨σ, by simp⟩
    · have hb : decide ((r : Int) < (N : Int) + 1) = true := by simp; omega
      rw [hb, br_true]
      obtain ⟨ad, z, rs, σ2, e1, hR, hS2, hs2, hq2⟩ := send_spec L k hS (by rw [sevs_length]; omega) (by rw [sevs_length]; exact g2) g1 (by rw [sevs_length]; omega)
      rw [e1, bnd_some, asSl_s]
      rw [sevs_length] at hR hS2 ⊢
      have hm : max sent (min N (acked + 4)) = min N (acked + 4) := by omega
      rw [hm] at hR hS2 ⊢
      generalize hs' : min N (acked + 4) = s' at hR hS2 ⊢
      have hss : sent + (s' - sent) = s' := by omega
      obtain ⟨n', e2⟩ := sends_inner L (k + 2) n (a := a) (kk := kk) (sent' := s') (r := r) (N := N) (fro := sent) (m := s' - sent) (by omega) (by omega) hR L 0 (by omega) (by omega)
      rw [hss] at e2
      rw [show ((sent : Nat) : Int) = ((sent + 0 : Nat) : Int) by simp, show (0 : Int) = ((0 : Nat) : Int) by simp, e2, f4_l15]
      have hbz : decide (((s' - sent : Nat) : Int) < ((s' - sent : Nat) : Int)) = false := by simp
      rw [hbz, br_false, counts_spec L (k + 1) hS2, bnd_some, asT_t]
      rw [show (#[Value.int .i64 ((sevs N).length : Int), Value.int .i64 (s' : Int), Value.int .i64 (acked : Int)] : Array Value).toList = [Value.int .i64 ((sevs N).length : Int), Value.int .i64 (s' : Int), Value.int .i64 (acked : Int)] from rfl, uncons_c, asI_i, uncons_c, asI_i, uncons_c, asI_i, endl_n]
      rw [show ((s' : Int) != (s' : Int)) = false by simp, br_false, wrap_in ((s' : Int) - acked) (by omega) (by omega)]
      rw [show decide ((s' : Int) - acked > 4) = false by simp; omega, br_false, wrap_in ((acked : Int) + kk) (by omega) (by omega)]
      have hmn : mn ((acked : Int) + kk) s' = ((min (acked + kk) s' : Nat) : Int) := by unfold mn; split <;> omega
      rw [hmn]
      obtain ⟨σ3, e3, hS3, _⟩ := ack_spec L (k + 1) hS2 ((min (acked + kk) s' : Nat) : Int) (by omega) (by omega)
      have hmx : mx (acked : Int) ((min (acked + kk) s' : Nat) : Int) = ((min (acked + kk) s' : Nat) : Int) := by unfold mx; split <;> omega
      rw [hmx] at hS3
      rw [e3, bnd_some, eqNil_nil, show (!true) = false from rfl, br_false, wrap_in ((r : Int) + 1) (by omega) (by omega)]
      obtain ⟨σ9, h9⟩ := sends_loop L k hL hN hk1 hk4 n (r + 1) σ3 a qs s' (min (acked + kk) s') (by omega) (by omega) hS3 (by omega) (by omega) (by omega) (by omega) (by omega)
      rw [show ((r + 1 : Nat) : Int) = (r : Int) + 1 by omega] at h9
      by_cases hlt : s' < N
      · rw [show decide ((s' : Int) < (N : Int)) = true by simp; omega, br_true, show ((s' : Int) - acked != 4) = false by simp; omega, br_false]
        exact ⟨σ9, h9⟩
      · rw [show decide ((s' : Int) < (N : Int)) = false by simp; omega, br_false]
        exact ⟨σ9, h9⟩

theorem sends_push (L k : Nat) (hL : 100 < L) {N kk : Nat} (hN : N < 60) (hk1 : 1 ≤ kk) (hk4 : kk ≤ 4) : ∀ (n i : Nat) (σ : St) (a : Nat) (qs : List Nat), i ≤ N → N - i < n → Send σ a qs (sevs i) (0 : Nat) (0 : Nat) →
    ∃ σ', lpAt Try.prog env L (k + 2) 4 [true, true, true, true, false, true] [] n [(5, .int .i64 N), (6, .int .i64 kk), (7, .pointer (some ⟨a, 0, none⟩)), (26, .int .i64 N), (27, .int .i64 i)] σ = some (.bool true, σ')
  | 0, i, σ, a, qs, _, h, _ => by omega
  | n + 1, i, σ, a, qs, h1, h2, hS => by
    rw [f4_l6]
    by_cases hi : i = N
    · subst hi
      rw [show decide ((i : Int) < (i : Int)) = false by simp, br_false, wrap_in ((i : Int) + 1) (by omega) (by omega)]
      exact sends_loop L k hL hN hk1 hk4 L 0 σ a qs 0 0 (by omega) (by omega) hS (by omega) (by omega) (by omega) (by omega) (by omega)
    · rw [show decide ((i : Int) < (N : Int)) = true by simp; omega, br_true, wrap_in ((i : Int) * 7) (by omega) (by omega)]
      obtain ⟨qs', σ', e1, hS', _, _⟩ := push_spec L (k + 1) hS (by rw [sevs_length]; omega) ((i : Int) * 7)
      rw [sevs_snoc] at hS'
      rw [e1, bnd_some, asT_t, show (#[] : Array Value).toList = [] from rfl, endl_n, wrap_in ((i : Int) + 1) (by omega) (by omega)]
      obtain ⟨σ9, h9⟩ := sends_push L k hL hN hk1 hk4 n (i + 1) σ' a qs' (by omega) (by omega) hS'
      exact ⟨σ9, by rw [← h9]; rfl⟩

theorem sends {σ0 : St} (many step : Int) (h0 : 0 ≤ many ∧ many ≤ 255) (h1 : 0 ≤ step ∧ step ≤ 255) : ∃ σ', evCall Try.prog env 2000 10 4 [.int .u8 many, .int .u8 step] σ0 = some (.bool true, σ') := by
  rw [f4_eq]
  obtain ⟨σ1, g1, hs1⟩ := awake_spec 2000 5 (by omega) σ0
  rw [g1, bnd_some, asB_b, show (!true) = false from rfl, br_false, wrap_in many (by omega) (by omega), wrap_in step (by omega) (by omega)]
  have ht0 : 0 ≤ Int.tmod many 60 := Int.tmod_nonneg _ (by omega)
  have ht1 : Int.tmod many 60 < 60 := Int.tmod_lt_of_pos many (by omega)
  have ht2 : 0 ≤ Int.tmod step 4 := Int.tmod_nonneg _ (by omega)
  have ht3 : Int.tmod step 4 < 4 := Int.tmod_lt_of_pos step (by omega)
  rw [wrap_in (1 + Int.tmod step 4) (by omega) (by omega)]
  obtain ⟨N, hN⟩ := Int.eq_ofNat_of_zero_le ht0
  obtain ⟨kk, hkk⟩ := Int.eq_ofNat_of_zero_le (show 0 ≤ 1 + Int.tmod step 4 by omega)
  rw [hN, hkk]
  generalize hσ2 : σ1.new (Blk.own [Value.slice none 0 0, Value.int IntKind.i64 0, Value.int IntKind.i64 0] 35) = σ2
  have hS : Send σ2 σ1.next [] (sevs 0) (0 : Nat) (0 : Nat) := ⟨⟨none, 0, by rw [← hσ2, get_new_same]; rfl, ⟨by simp, .inl ⟨rfl, rfl, rfl, rfl⟩⟩⟩, by rw [← hσ2]; simp, by simp⟩
  exact sends_push 2000 7 (by omega) (N := N) (kk := kk) (by omega) (by omega) (by omega) 2000 0 σ2 σ1.next [] (by omega) (by omega) hS

end Go.AM
