/-
  WINDOW over texts: Counts, Resend, Ack, List; what is alike.
-/
import Derived.Test.YtmmjibadpdbkaaaDoorWpB
import Derived.Test.YtmmjibadpdbkaaaDoorWpE
set_option linter.unusedVariables false
set_option linter.unusedSimpArgs false
set_option linter.unusedSectionVars false
namespace Go.AM.Wp.S
open Go.Proofs Go.RowKit

theorem same_packets (L k : Nat) {σ : St} {e1 e2 : TypeId} {ad1 ad2 : Option Addr} {z1 z2 : Nat} {q1 q2 : List Nat} {l : List (Int × ByteArray)} (h1 : Row cP 2 e1 σ ad1 z1 q1 l) (h2 : Row cP 2 e2 σ ad2 z2 q2 l) (hl : l.length ≤ 1000000) (hL : l.length < L) :
    evCall Tryd.prog env L (k + 1) 15 [.slice ad1 l.length z1, .slice ad2 l.length z2] σ = some (.bool true, σ) := by
  have loop : ∀ (n i : Nat), i ≤ l.length → l.length - i < n → lpAt Tryd.prog env L k 15 [true, true, false, true] [] n [(0, .slice ad1 l.length z1), (1, .slice ad2 l.length z2), (12, .int .i64 l.length), (13, .int .i64 i)] σ = some (.bool true, σ) := by
    intro n
    induction n with
    | zero => intro i _ h; omega
    | succ n ih =>
      intro i hi hn
      rw [f15_l4]
      by_cases hie : i = l.length
      · rw [decide_eq_false (by omega), br_false]
      · have hget : l[i]? = some l[i] := List.getElem?_eq_getElem (by omega)
        obtain ⟨p1, e1', r1⟩ := h1.lds cP_len hget
        obtain ⟨p2, e2', r2⟩ := h2.lds cP_len hget
        have hx : (l[i].2 == l[i].2) = true := by rw [beq_toListBytes]; simp
        have hb : (!(l[i].1 == l[i].1 && (l[i].2 == l[i].2 && true))) = false := by rw [hx]; simp
        rw [decide_eq_true (by omega), br_true, need_of (by simp [inRange]; omega), e1', adr_some, r1 _ (by simp), show cP l[i] = [.int .i64 l[i].1, .string l[i].2] from rfl, uncons_c, asI_i, uncons_c, asS_s, endl_n,
          need_of (by simp [inRange]; omega), e2', adr_some, r2 _ (by simp), show cP l[i] = [.int .i64 l[i].1, .string l[i].2] from rfl, uncons_c, asI_i, uncons_c, asS_s, endl_n, hb, br_false, wrap_in ((i : Int) + 1) (by omega) (by omega), ← e1', ← e2']
        exact ih (i + 1) (by omega) (by omega)
  rw [f15_eq, show (((l.length : Nat) : Int) != (l.length : Int)) = false by simp, br_false]
  exact loop L 0 (by omega) (by omega)

theorem same_texts (L k : Nat) {σ : St} {ad1 ad2 : Option Addr} {z1 z2 : Nat} {q1 q2 : List Nat} {l : List ByteArray} (h1 : Row cS 1 9 σ ad1 z1 q1 l) (h2 : Row cS 1 9 σ ad2 z2 q2 l) (hl : l.length ≤ 1000000) (hL : l.length < L) :
    evCall Tryd.prog env L (k + 1) 21 [.slice ad1 l.length z1, .slice ad2 l.length z2] σ = some (.bool true, σ) := by
  have loop : ∀ (n i : Nat), i ≤ l.length → l.length - i < n → lpAt Tryd.prog env L k 21 [true, true, false, true] [] n [(0, .slice ad1 l.length z1), (1, .slice ad2 l.length z2), (12, .int .i64 l.length), (13, .int .i64 i)] σ = some (.bool true, σ) := by
    intro n
    induction n with
    | zero => intro i _ h; omega
    | succ n ih =>
      intro i hi hn
      rw [f21_l4]
      by_cases hie : i = l.length
      · rw [decide_eq_false (by omega), br_false]
      · have hget : l[i]? = some l[i] := List.getElem?_eq_getElem (by omega)
        obtain ⟨p1, e1', r1⟩ := h1.at cS_len hget
        obtain ⟨p2, e2', r2⟩ := h2.at cS_len hget
        rw [decide_eq_true (by omega), br_true, need_of (by simp [inRange]; omega), e1', adr_some, r1 0 (.string l[i]) _ (by omega) rfl (by simp), asS_s,
          need_of (by simp [inRange]; omega), e2', adr_some, r2 0 (.string l[i]) _ (by omega) rfl (by simp), asS_s, beq_self_eq_true, not_true, br_false, wrap_in ((i : Int) + 1) (by omega) (by omega), ← e1', ← e2']
        exact ih (i + 1) (by omega) (by omega)
  rw [f21_eq, show (((l.length : Nat) : Int) != (l.length : Int)) = false by simp, br_false]
  exact loop L 0 (by omega) (by omega)

section
variable {σ : St} {a : Nat} {qs : List Nat} {l : List ByteArray} {sent acked : Nat} (hS : Send σ a qs l sent acked) (L k : Nat)
include hS
theorem counts_spec : evCall Tryd.prog env L (k + 1) 7 [.pointer (some ⟨a, 0, none⟩)] σ = some (.tuple #[.int .i64 l.length, .int .i64 sent, .int .i64 acked], σ) := by
  obtain ⟨ad, z, hg, hrow⟩ := hS.ex
  rw [f7_eq, ld_own _ hg (v := .slice ad l.length z) rfl, asSl_s, ld_own _ hg (v := .int .i64 sent) rfl, asI_i, ld_own _ hg (v := .int .i64 acked) rfl, asI_i]

theorem resend_spec (hl : l.length ≤ 1000000) (h1 : sent ≤ l.length) (h2 : acked ≤ sent) (hL : l.length < L) :
    ∃ ad z rs σ', evCall Tryd.prog env L (k + 2) 9 [.pointer (some ⟨a, 0, none⟩)] σ = some (.slice ad (sent - acked) z, σ') ∧ Row cP 2 37 σ' ad z rs (packs l acked (sent - acked)) ∧ Same σ σ' [] ∧ ∀ q ∈ rs, σ.next ≤ q := by
  obtain ⟨ad, z, hg, hrow⟩ := hS.ex
  obtain ⟨ad3, z3, rs, σ3, g1, g2, g3, g4⟩ := packets_spec L k hS hl acked sent h2 h1 (by omega)
  rw [f9_eq, ld_own _ hg (v := .int .i64 acked) rfl, asI_i, ld_own _ hg (v := .int .i64 sent) rfl, asI_i, g1, bnd_some, asSl_s]
  exact ⟨ad3, z3, rs, σ3, rfl, g2, g3, g4⟩
end

end Go.AM.Wp.S
