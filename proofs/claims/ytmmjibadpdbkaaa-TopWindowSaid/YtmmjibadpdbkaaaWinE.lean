/-
  THE WINDOW's SENDER: Counts, Ack, Resend.
-/
import Derived.Test.YtmmjibadpdbkaaaWinC
set_option linter.unusedVariables false
set_option linter.unusedSimpArgs false
namespace Go.AM
open Go.Proofs

theorem counts_spec (L k : Nat) {σ : St} {a : Nat} {qs : List Nat} {l : List Int} {sent acked : Int} (hS : Send σ a qs l sent acked) :
    evCall Try.prog env L (k + 1) 13 [.pointer (some ⟨a, 0, none⟩)] σ = some (.tuple #[.int .i64 l.length, .int .i64 sent, .int .i64 acked], σ) := by
  obtain ⟨ad, z, hg, hrow⟩ := hS.ex
  rw [f13_eq, ld_own _ hg (v := .slice ad l.length z) rfl, asSl_s, ld_own _ hg (v := .int .i64 sent) rfl, asI_i, ld_own _ hg (v := .int .i64 acked) rfl, asI_i]

theorem ack_spec (L k : Nat) {σ : St} {a : Nat} {qs : List Nat} {l : List Int} {sent acked : Int} (hS : Send σ a qs l sent acked) (n : Int) (h0 : 0 ≤ n) (h1 : n ≤ sent) :
    ∃ σ', evCall Try.prog env L (k + 1) 14 [.pointer (some ⟨a, 0, none⟩), .int .i64 n] σ = some (.nilIface, σ') ∧ Send σ' a qs l sent (mx acked n) ∧ Same σ σ' [a] := by
  obtain ⟨ad, z, hg, hrow⟩ := hS.ex
  have hqa := hS.ne
  have hb1 : decide (n < 0) = false := by simp; omega
  have hb2 : decide (n > sent) = false := by simp; omega
  rw [f14_eq, hb1, br_false, ld_own _ hg (v := .int .i64 sent) rfl, asI_i, hb2, br_false, ld_own _ hg (v := .int .i64 acked) rfl, asI_i, put_own _ hg (by simp) rfl]
  have hs2 : Same σ (σ.set a (Blk.own (over [Value.slice ad l.length z, Value.int .i64 sent, Value.int .i64 acked] 2 [Value.int .i64 (mx acked n)]) 35)) [a] := ⟨by simp, fun k hk hS => get_set (by simpa using hS)⟩
  exact ⟨_, rfl, ⟨⟨ad, z, by rw [get_set_same]; rfl, hrow.same hs2 (fun q hq h => by simp at h; subst h; exact hqa hq)⟩, by simpa using hS.lt, hqa⟩, hs2⟩

/-- Resend: what isn't acked. -/
theorem resend_spec (L k : Nat) {σ : St} {a : Nat} {qs : List Nat} {l : List Int} {sent acked : Nat} (hS : Send σ a qs l sent acked) (hl : l.length ≤ 1000000) (h1 : sent ≤ l.length) (h2 : acked ≤ sent) (hL : l.length < L) :
    ∃ ad z rs σ', evCall Try.prog env L (k + 2) 15 [.pointer (some ⟨a, 0, none⟩)] σ = some (.slice ad (sent - acked) z, σ') ∧ Row c2 2 30 σ' ad z rs (packs l acked (sent - acked)) ∧
      Send σ' a qs l sent acked ∧ Same σ σ' [] ∧ ∀ q ∈ rs, σ.next ≤ q := by
  obtain ⟨ad, z, hg, hrow⟩ := hS.ex
  rw [f15_eq, ld_own _ hg (v := .int .i64 acked) rfl, asI_i, ld_own _ hg (v := .int .i64 sent) rfl, asI_i]
  obtain ⟨ad3, z3, rs, σ3, g1, g2, g3, g4⟩ := packets_spec L k hS hl acked sent h2 h1 (by omega)
  rw [g1, bnd_some, asSl_s]
  exact ⟨ad3, z3, rs, σ3, rfl, g2, hS.same g3 (by simp) (by simp), g3, g4⟩

theorem packs_get (l : List Int) : ∀ (n i j : Nat), j < n → (packs l i n)[j]? = some (((i + j : Nat) : Int) + 1, l.getD (i + j) 0)
  | 0, i, j, h => by omega
  | n + 1, i, 0, h => by simp [packs]
  | n + 1, i, j + 1, h => by
    simp only [packs, List.getElem?_cons_succ]
    rw [packs_get l n (i + 1) j (by omega), show i + 1 + j = i + (j + 1) by omega]

end Go.AM
