/-
  WINDOW over texts: what the document's sender tells; packets told again.
-/
import Derived.Test.YtmmjibadpdbkaaaDoorWpD
set_option linter.unusedVariables false
set_option linter.unusedSimpArgs false
set_option linter.unusedSectionVars false
namespace Go.AM.Wp.S
open Go.Proofs Go.RowKit

theorem rresend_loop (L k : Nat) {l : List ByteArray} {b : Nat} {qs : List Nat} {sent acked : Nat} (hl : l.length ≤ 1000000) (hsl : sent ≤ l.length) : ∀ (n i : Nat) (σ : St) (ad : Option Addr) (z : Nat) (rs : List Nat),
    acked ≤ i → i ≤ sent → sent - i < n → RSend σ b qs l sent acked → Row cP 2 78 σ ad z rs (packs l acked (i - acked)) → b ∉ rs → (∀ q ∈ qs, q ∉ rs) →
    ∃ ad' z' rs' σ', lpAt Tryd.prog env L k 18 [true, true, false, true] [] n [(0, .pointer (some ⟨b, 0, none⟩)), (3, .slice ad (i - acked) z), (4, .int .i64 i)] σ = some (.slice ad' (sent - acked) z', σ') ∧
      Row cP 2 78 σ' ad' z' rs' (packs l acked (sent - acked)) ∧ Same σ σ' rs ∧ ∀ q ∈ rs', q ∈ rs ∨ σ.next ≤ q
  | 0, i, σ, ad, z, rs, _, _, h, _, _, _, _ => by omega
  | n + 1, i, σ, ad, z, rs, h1, h2, h3, hS, hR, hna, hnq => by
    rw [f18_l3]
    obtain ⟨ad0, z0, hg, hrow⟩ := hS.ex
    have hlt := hS.lt
    rw [ld_own _ hg (v := .int .i64 sent) rfl, asI_i]
    by_cases hi : i = sent
    · subst hi
      rw [decide_eq_false (by omega), br_false]
      exact ⟨ad, z, rs, σ, rfl, hR, Same.refl _ _, fun q hq => .inl hq⟩
    · have hil : i < l.length := by omega
      have hget : l[i]? = some l[i] := List.getElem?_eq_getElem hil
      obtain ⟨q0, e0, hat⟩ := hrow.at cS_len hget
      rw [decide_eq_true (by omega), br_true, ld_own _ hg (v := .slice ad0 l.length z0) rfl, asSl_s, need_of (by simp [inRange]; omega), e0, adr_some, hat 0 (.string l[i]) _ (by omega) rfl (by simp), asS_s, need_true, need_true, need_true, wrap_in ((i : Int) + 1) (by omega) (by omega)]
      generalize hσ2 : σ.new (Blk.own [Value.int IntKind.i64 ((i : Int) + 1), Value.string l[i]] 78) = σ2
      have hnew : σ2.get σ.next = some (Blk.own [Value.int IntKind.i64 ((i : Int) + 1), Value.string l[i]] 78) := by rw [← hσ2, get_new_same]
      have hsame : ∀ S, Same σ σ2 S := fun S => by rw [← hσ2]; exact Same.new _ _ _
      rw [row_all (n := 2) hnew rfl (by omega)]
      have hR2 : Row cP 2 78 σ2 ad z rs (packs l acked (i - acked)) := hR.same (hsame []) (fun _ _ => by simp)
      have hpl := packs_length l (i - acked) acked
      obtain ⟨ad', z', rs', σ3, hgrow, hrow3, hs3, hq3⟩ := grow_row (by_ := 24) hR2 cP_len cP_one (by omega) [((i : Int) + 1, l[i])] [Value.int IntKind.i64 ((i : Int) + 1), Value.string l[i]] rfl 1 rfl (by unfold roomTop; omega) (by unfold sizeTop; omega)
      rw [hpl] at hgrow
      rw [hgrow]
      have hn2 : σ2.next = σ.next + 1 := by rw [← hσ2]; rfl
      have hs4 : Same σ σ3 rs := (hsame rs).trans hs3
      have hS3 : RSend σ3 b qs l sent acked := hS.same hs4 hna hnq
      have hpk : packs l acked (i - acked) ++ [((i : Int) + 1, l[i])] = packs l acked (i + 1 - acked) := by
        rw [show i + 1 - acked = (i - acked) + 1 by omega, packs_snoc, show acked + (i - acked) = i by omega]
        simp [List.getD, hget]
      rw [hpk] at hrow3
      have hqlt : ∀ q ∈ qs, q < σ.next := hrow.lt
      obtain ⟨ad5, z5, rs5, σ5, g1, g2, g3, g4⟩ := rresend_loop L k hl hsl n (i + 1) σ3 ad' z' rs' (by omega) (by omega) (by omega) hS3 hrow3
        (fun h => by rcases hq3 b h with h | h; exact hna h; omega) (fun q hq h => by rcases hq3 q h with h | h; exact hnq q hq h; have := hqlt q hq; omega)
      rw [show i + 1 - acked = i - acked + 1 by omega] at g1
      refine ⟨ad5, z5, rs5, σ5, by simpa using g1, g2, hs4.fresh g3 (fun q hq => ?_), fun q hq => ?_⟩
      · rcases hq3 q hq with h | h; exact .inl h; exact .inr (by omega)
      · rcases g4 q hq with h | h
        · rcases hq3 q h with h | h; exact .inl h; exact .inr (by omega)
        · exact .inr (by have := hs4.1; omega)

theorem rresend_spec (L k : Nat) {σ : St} {b : Nat} {qs : List Nat} {l : List ByteArray} {sent acked : Nat} (hS : RSend σ b qs l sent acked) (hl : l.length ≤ 1000000) (h1 : sent ≤ l.length) (h2 : acked ≤ sent) (hL : l.length < L) :
    ∃ ad z rs σ', evCall Tryd.prog env L (k + 1) 18 [.pointer (some ⟨b, 0, none⟩)] σ = some (.slice ad (sent - acked) z, σ') ∧ Row cP 2 78 σ' ad z rs (packs l acked (sent - acked)) ∧ Same σ σ' [] ∧ ∀ q ∈ rs, σ.next ≤ q := by
  obtain ⟨ad, z, hg, hrow⟩ := hS.ex
  rw [f18_eq, ld_own _ hg (v := .int .i64 acked) rfl, asI_i]
  obtain ⟨ad, z, rs, σ', g1, g2, g3, g4⟩ := rresend_loop L k hl h1 L acked σ none 0 [] (Nat.le_refl _) h2 (by omega) hS ⟨by simp, .inl ⟨rfl, by simp [packs], rfl, rfl⟩⟩ (by simp) (by simp)
  rw [Nat.sub_self] at g1
  exact ⟨ad, z, rs, σ', g1, g2, g3, fun q hq => by rcases g4 q hq with h | h; cases h; exact h⟩

end Go.AM.Wp.S
