/-
  WindowLossy, in plain words: whatever of what was sent comes, in whatever order, however often: what was taken is the beginning of what was pushed; no more is acked than was taken.
-/
import Derived.Test.YtmmjibadpdbkaaaWinE
import Derived.Test.YtmmjibadpdbkaaaAm17
set_option linter.unusedVariables false
set_option linter.unusedSimpArgs false
namespace Go.AM
open Go.Proofs

/-- The first multiples of three. -/
def thr (m : Nat) : List Int := (List.range m).map fun (j : Nat) => 3 * ((j : Int) + 1)
theorem thr_length (m : Nat) : (thr m).length = m := by simp [thr]
theorem thr_snoc (m : Nat) : thr m ++ [3 * ((m : Int) + 1)] = thr (m + 1) := by simp [thr, List.range_succ]
theorem thr_get {m i : Nat} (h : i < m) : (thr m)[i]? = some (3 * ((i : Int) + 1)) := by simp [thr, h]
theorem thr_getD {m i : Nat} (h : i < m) : (thr m).getD i 0 = 3 * ((i : Int) + 1) := by simp [List.getD, thr_get h]
theorem packs_mem {m : Nat} : ∀ (n i : Nat), i + n ≤ m → ∀ p ∈ packs (thr m) i n, ∃ j : Nat, p = ((j : Int) + 1, 3 * ((j : Int) + 1)) ∧ j < i + n
  | 0, _, _, p, hp => by cases hp
  | n + 1, i, h, p, hp => by
    simp only [packs, List.mem_cons] at hp
    rcases hp with rfl | hp
    · exact ⟨i, by rw [thr_getD (by omega)], by omega⟩
    · obtain ⟨j, e, hj⟩ := packs_mem n (i + 1) (by omega) p hp
      exact ⟨j, e, by omega⟩

/-- What lies where, and what belongs to whom (a colour for each). -/
structure Lossy (σ0 σ : St) (a b : Nat) (adF : Option Addr) (zF : Nat) (fl : List (Int × Int)) (adA : Option Addr) (zA : Nat) (ac : List Int) (many sent acked took : Nat) : Prop where
  kept : Kept' σ0.next σ0 σ
  ex : ∃ (c : Nat → Nat) (qS qR rF rA : List Nat), Send σ a qS (thr many) sent acked ∧ Recv σ b qR (thr took) ∧ Row c2 2 30 σ adF zF rF fl ∧ Row c1 1 3 σ adA zA rA ac ∧
    c a = 0 ∧ c b = 1 ∧ (∀ q ∈ qS, c q = 2) ∧ (∀ q ∈ qR, c q = 3) ∧ (∀ q ∈ rF, c q = 4) ∧ (∀ q ∈ rA, c q = 5) ∧ ∀ q, q < σ0.next → c q = 9
  fl : ∀ p ∈ fl, ∃ j : Nat, p = ((j : Int) + 1, 3 * ((j : Int) + 1)) ∧ j < sent
  ac : ∀ x ∈ ac, 0 ≤ x ∧ x ≤ took
  n1 : acked ≤ took
  n2 : took ≤ sent
  n3 : sent ≤ many
  n4 : sent ≤ acked + 4

theorem lossy_inner (L k m0 : Nat) {σ : St} {s0 : Option Addr} {s0n s0z a b : Nat} {s5 : Option Addr} {s5n s5z : Nat} {s6 : Option Addr} {s6n s6z : Nat} {s7 s27 : Int} {i : Nat} (hi : i ≤ 1000) {ad : Option Addr} {z : Nat} {rs : List Nat} {took : Nat} (ht : took ≤ 1000) (hR : Row c1 1 3 σ ad z rs (thr took)) : ∀ (n j : Nat), j ≤ took → took - j < n →
    lpAt Try.prog env L k 5 [true, true, true, true, true, true, false, true, false, true, true, false, true, true, true, true, true, true] [m0] n [(0, .slice s0 s0n s0z), (3, .pointer (some ⟨a, 0, none⟩)), (4, .pointer (some ⟨b, 0, none⟩)), (5, .slice s5 s5n s5z), (6, .slice s6 s6n s6z), (7, .int .i64 s7), (9, .slice ad took z), (27, .int .i64 s27), (28, .int .i64 i), (156, .int .i64 took), (157, .int .i64 j)] σ =
    lpAt Try.prog env L k 5 [true, true, true, true, true, true, false, true] [] m0 [(0, .slice s0 s0n s0z), (3, .pointer (some ⟨a, 0, none⟩)), (4, .pointer (some ⟨b, 0, none⟩)), (5, .slice s5 s5n s5z), (6, .slice s6 s6n s6z), (7, .int .i64 s7), (27, .int .i64 s27), (28, .int .i64 ((i : Int) + 1))] σ
  | 0, j, _, h => by omega
  | n + 1, j, hj, h => by
    rw [f5_l30]
    by_cases hjt : j = took
    · subst hjt
      rw [decide_eq_false (by omega), br_false, wrap_in ((i : Int) + 1) (by omega) (by omega)]
    · obtain ⟨q, e, hat⟩ := hR.at c1_len (thr_get (show j < took by omega))
      rw [decide_eq_true (by omega), br_true, need_of (by simp [inRange]; omega), e, adr_some, hat 0 (.int .i64 (3 * ((j : Int) + 1))) _ (by omega) rfl (by simp), asI_i, wrap_in ((j : Int) + 1) (by omega) (by omega), wrap_in (3 * ((j : Int) + 1)) (by omega) (by omega)]
      rw [show (3 * ((j : Int) + 1) != 3 * ((j : Int) + 1)) = false by simp, br_false, ← e]
      have := lossy_inner L k m0 (a := a) (b := b) (s0 := s0) (s0n := s0n) (s0z := s0z) (s5 := s5) (s5n := s5n) (s5z := s5z) (s6 := s6) (s6n := s6n) (s6z := s6z) (s7 := s7) (s27 := s27) hi ht hR n (j + 1) (by omega) (by omega)
      rw [show ((j + 1 : Nat) : Int) = (j : Int) + 1 by omega] at this
      exact this

/-- The end of a round: what was taken and the counts are looked at; then the next round. -/
theorem lossy_tail (L k : Nat) (hL : 5000 < L) {σ0 σ : St} {s0 : Option Addr} {s0n s0z a b : Nat} {adF : Option Addr} {zF : Nat} {fl : List (Int × Int)} {adA : Option Addr} {zA : Nat} {ac : List Int} {many sent acked took : Nat} {s27 : Int} {i n : Nat} (hi : i ≤ 400) (hmany : many ≤ 401)
    (hI : Lossy σ0 σ a b adF zF fl adA zA ac many sent acked took)
    (next : ∀ σ', Lossy σ0 σ' a b adF zF fl adA zA ac many sent acked took → ∃ σ9, lpAt Try.prog env L (k + 2) 5 [true, true, true, true, true, true, false, true] [] n [(0, .slice s0 s0n s0z), (3, .pointer (some ⟨a, 0, none⟩)), (4, .pointer (some ⟨b, 0, none⟩)), (5, .slice adF fl.length zF), (6, .slice adA ac.length zA), (7, .int .i64 many), (27, .int .i64 s27), (28, .int .i64 ((i : Int) + 1))] σ' = some (.bool true, σ9)) :
    ∃ σ9, (AM.bnd (AM.evCall Proofs.Try.prog AM.env L (k + 2) (10 : Nat) [Value.pointer (some { block := b, off := 0 })] σ) fun v246 v247 =>
                      AM.asSl v246 fun v248 v249 v250 =>
                        AM.bnd (AM.evCall Proofs.Try.prog AM.env L (k + 2) (13 : Nat) [Value.pointer (some { block := a, off := 0 })] v247) fun v251 v252 =>
                          AM.asT v251 fun v253 =>
                            AM.uncons v253 fun v254 v255 =>
                              AM.asI IntKind.i64 v254 fun v256 =>
                                AM.uncons v255 fun v257 v258 =>
                                  AM.asI IntKind.i64 v257 fun v259 =>
                                    AM.uncons v258 fun v260 v261 =>
                                      AM.asI IntKind.i64 v260 fun v262 =>
                                        AM.endl v261
                                          (AM.br (v256 != (many : Int)) (some (Value.bool false, v252))
                                            (AM.br (decide (v262 > (↑v249 : Int))) (some (Value.bool false, v252))
                                              (AM.br (decide ((↑v249 : Int) > v259)) (some (Value.bool false, v252))
                                                (AM.br (decide (v259 > v256)) (some (Value.bool false, v252))
                                                  (AM.br (decide (IntKind.wrap IntKind.i64 (v259 - v262) > (4 : Int))) (some (Value.bool false, v252))
                                                    (AM.lpAt Proofs.Try.prog AM.env L (k + 2) (5 : Nat) [true, true, true, true, true, true, false, true, false, true, true, false, true, true, true, true, true, true] [n] L
                                                      [((0 : Nat), Value.slice s0 s0n s0z), ((3 : Nat), Value.pointer (some { block := a, off := 0 })), ((4 : Nat), Value.pointer (some { block := b, off := 0 })),
                                                        ((5 : Nat), Value.slice adF fl.length zF), ((6 : Nat), Value.slice adA ac.length zA), ((7 : Nat), Value.int IntKind.i64 many), ((9 : Nat), Value.slice v248 v249 v250),
                                                        ((27 : Nat), Value.int IntKind.i64 s27), ((28 : Nat), Value.int IntKind.i64 i), ((156 : Nat), Value.int IntKind.i64 (↑v249 : Int)), ((157 : Nat), Value.int IntKind.i64 (0 : Int))]
                                                      v252))))))) = some (.bool true, σ9) := by
  obtain ⟨c, qS, qR, rF, rA, hS, hR, hF, hA, e1, e2, e3, e4, e5, e6, e7⟩ := hI.ex
  have hn := hI.n1; have hn2 := hI.n2; have hn3 := hI.n3; have hn4 := hI.n4
  obtain ⟨ad, z, rs, σ1, g1, hrow, hs, _⟩ := list_spec L k hR (by rw [thr_length]; omega)
  rw [g1, bnd_some, asSl_s]
  have hS1 := hS.same hs (by simp) (by simp)
  rw [counts_spec L (k + 1) hS1, bnd_some, asT_t]
  rw [show (#[Value.int .i64 ((thr many).length : Int), Value.int .i64 (sent : Int), Value.int .i64 (acked : Int)] : Array Value).toList = [Value.int .i64 ((thr many).length : Int), Value.int .i64 (sent : Int), Value.int .i64 (acked : Int)] from rfl, uncons_c, asI_i, uncons_c, asI_i, uncons_c, asI_i, endl_n, thr_length, thr_length]
  rw [show ((many : Int) != (many : Int)) = false by simp, br_false, decide_eq_false (by omega), br_false, decide_eq_false (by omega), br_false, decide_eq_false (by omega), br_false, wrap_in ((sent : Int) - acked) (by omega) (by omega), decide_eq_false (by omega), br_false]
  have hin := lossy_inner L (k + 2) n (a := a) (b := b) (s0 := s0) (s0n := s0n) (s0z := s0z) (s5 := adF) (s5n := fl.length) (s5z := zF) (s6 := adA) (s6n := ac.length) (s6z := zA) (s7 := many) (s27 := s27) (i := i) (by omega) (took := took) (by omega) hrow L 0 (by omega) (by omega)
  rw [show ((0 : Nat) : Int) = 0 from rfl] at hin
  rw [hin]
  exact next σ1 ⟨hI.kept.step hs (by simp), ⟨c, qS, qR, rF, rA, hS1, hR.same hs (by simp) (by simp), hF.same hs (by simp), hA.same hs (by simp), e1, e2, e3, e4, e5, e6, e7⟩, hI.fl, hI.ac, hn, hn2, hn3, hn4⟩

end Go.AM
