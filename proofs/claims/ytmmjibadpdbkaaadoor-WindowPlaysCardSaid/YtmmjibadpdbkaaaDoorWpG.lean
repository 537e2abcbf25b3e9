/-
  WINDOW over texts: what the document's sender sends; packets of the document's type; few.
-/
import Derived.Test.YtmmjibadpdbkaaaDoorWpF
import Derived.Test.YtmmjibadpdbkaaaDoorAm17
set_option linter.unusedVariables false
set_option linter.unusedSimpArgs false
set_option linter.unusedSectionVars false
namespace Go.AM.Wp.S
open Go.Proofs Go.RowKit

theorem rsend_loop (L k : Nat) {l : List ByteArray} {b : Nat} {qs : List Nat} {sent acked : Nat} (hl : l.length ≤ 1000000) (has : acked ≤ sent) (hsl : sent ≤ l.length) : ∀ (n j : Nat) (σ : St) (ad : Option Addr) (z : Nat) (rs : List Nat),
    sent + j ≤ max sent (min l.length (acked + 4)) → max sent (min l.length (acked + 4)) - (sent + j) < n → RSend σ b qs l (sent + j) acked → Row cP 2 78 σ ad z rs (packs l sent j) → b ∉ rs → (∀ q ∈ qs, q ∉ rs) →
    ∃ ad' z' rs' σ', lpAt Tryd.prog env L k 17 [true, true, false] [] n [(0, .pointer (some ⟨b, 0, none⟩)), (3, .slice ad j z)] σ = some (.slice ad' (max sent (min l.length (acked + 4)) - sent) z', σ') ∧
      Row cP 2 78 σ' ad' z' rs' (packs l sent (max sent (min l.length (acked + 4)) - sent)) ∧ RSend σ' b qs l (max sent (min l.length (acked + 4))) acked ∧ Same σ σ' (b :: rs) ∧ ∀ q ∈ rs', q ∈ rs ∨ σ.next ≤ q
  | 0, j, σ, ad, z, rs, _, h, _, _, _, _ => by omega
  | n + 1, j, σ, ad, z, rs, h1, h3, hS, hR, hna, hnq => by
    rw [f17_l2]
    obtain ⟨ad0, z0, hg, hrow⟩ := hS.ex
    have hlt := hS.lt
    have hbq := hS.ne
    have done : sent + j = max sent (min l.length (acked + 4)) → ∃ ad' z' rs' σ', (some (Value.slice ad j z, σ) : Res) = some (.slice ad' (max sent (min l.length (acked + 4)) - sent) z', σ') ∧
      Row cP 2 78 σ' ad' z' rs' (packs l sent (max sent (min l.length (acked + 4)) - sent)) ∧ RSend σ' b qs l (max sent (min l.length (acked + 4))) acked ∧ Same σ σ' (b :: rs) ∧ ∀ q ∈ rs', q ∈ rs ∨ σ.next ≤ q := fun e => by
      rw [← e, show sent + j - sent = j by omega]
      exact ⟨ad, z, rs, σ, rfl, hR, hS, Same.refl _ _, fun q hq => .inl hq⟩
    rw [ld_own _ hg (v := .int .i64 ((sent + j : Nat) : Int)) rfl, asI_i, ld_own _ hg (v := .slice ad0 l.length z0) rfl, asSl_s]
    by_cases hi : sent + j < l.length
    · rw [decide_eq_true (by omega), br_true, ld_own _ hg (v := .int .i64 ((sent + j : Nat) : Int)) rfl, asI_i, ld_own _ hg (v := .int .i64 (acked : Int)) rfl, asI_i, wrap_in (((sent + j : Nat) : Int) - (acked : Int)) (by omega) (by omega)]
      by_cases h4 : sent + j < acked + 4
      · have hget : l[sent + j]? = some l[sent + j] := List.getElem?_eq_getElem hi
        rw [decide_eq_true (by omega), br_true, ld_own _ hg (v := .int .i64 ((sent + j : Nat) : Int)) rfl, asI_i, wrap_in (((sent + j : Nat) : Int) + 1) (by omega) (by omega), put_int hg 1 _ _ (by simp)]
        generalize hσ1 : σ.set b _ = σ1
        have hg1 : σ1.get b = some (.own [.slice ad0 l.length z0, .int .i64 (((sent + j : Nat) : Int) + 1), .int .i64 acked] 47) := by rw [← hσ1, get_set_same]; rfl
        have hs1 : Same σ σ1 [b] := by rw [← hσ1]; exact Same.set _ _ _
        have hrow1 : Row cS 1 9 σ1 ad0 z0 qs l := hrow.same hs1 (fun q hq => by simp; rintro rfl; exact hbq hq)
        obtain ⟨q0, e0, hat⟩ := hrow1.at cS_len hget
        rw [ld_own _ hg1 (v := .int .i64 (((sent + j : Nat) : Int) + 1)) rfl, asI_i, ld_own _ hg1 (v := .slice ad0 l.length z0) rfl, asSl_s, ld_own _ hg1 (v := .int .i64 (((sent + j : Nat) : Int) + 1)) rfl, asI_i,
          show ((sent + j : Nat) : Int) + 1 - 1 = ((sent + j : Nat) : Int) by omega, wrap_in ((sent + j : Nat) : Int) (by omega) (by omega), need_of (by simp [inRange]; omega), e0, adr_some, hat 0 (.string l[sent + j]) _ (by omega) rfl (by omega), asS_s, need_true, need_true, need_true]
        generalize hσ2 : σ1.new (Blk.own [Value.int IntKind.i64 (((sent + j : Nat) : Int) + 1), Value.string l[sent + j]] 78) = σ2
        have hnew : σ2.get σ1.next = some (Blk.own [Value.int IntKind.i64 (((sent + j : Nat) : Int) + 1), Value.string l[sent + j]] 78) := by rw [← hσ2, get_new_same]
        have hs2 : Same σ1 σ2 [] := by rw [← hσ2]; exact Same.new _ _ _
        have hn2 : σ2.next = σ1.next + 1 := by rw [← hσ2]; rfl
        have hn1 : σ1.next = σ.next := by rw [← hσ1]; rfl
        rw [row_all (n := 2) hnew rfl (by omega)]
        have hR2 : Row cP 2 78 σ2 ad z rs (packs l sent j) := (hR.same hs1 (fun q hq => by simp; rintro rfl; exact hna hq)).same hs2 (by simp)
        have hpl := packs_length l j sent
        obtain ⟨ad', z', rs', σ3, hgrow, hrow3, hs3, hq3⟩ := grow_row (by_ := 24) hR2 cP_len cP_one (by omega) [(((sent + j : Nat) : Int) + 1, l[sent + j])] [Value.int IntKind.i64 (((sent + j : Nat) : Int) + 1), Value.string l[sent + j]] rfl 1 rfl (by unfold roomTop; omega) (by unfold sizeTop; omega)
        rw [hpl] at hgrow
        rw [hgrow]
        have hqlt : ∀ q ∈ qs, q < σ.next := hrow.lt
        have hg3 : σ3.get b = some (.own [.slice ad0 l.length z0, .int .i64 ((sent + (j + 1) : Nat) : Int), .int .i64 acked] 47) := by
          rw [hs3.2 b (by omega) hna, hs2.2 b (by omega) (by simp), hg1, show ((sent + (j + 1) : Nat) : Int) = ((sent + j : Nat) : Int) + 1 by omega]
        have hS3 : RSend σ3 b qs l (sent + (j + 1)) acked := ⟨⟨ad0, z0, hg3, (hrow1.same hs2 (by simp)).same hs3 hnq⟩, by have := hs3.1; omega, hbq⟩
        have hpk : packs l sent j ++ [(((sent + j : Nat) : Int) + 1, l[sent + j])] = packs l sent (j + 1) := by
          rw [packs_snoc]; simp [List.getD, hget]
        rw [hpk] at hrow3
        have hs03 : Same σ σ3 (b :: rs) := ((hs1.mono (by simp)).trans (hs2.mono (by simp))).trans (hs3.mono (fun q hq => by simp [hq]))
        obtain ⟨ad5, z5, rs5, σ5, g1, g2, g2', g3, g4⟩ := rsend_loop L k hl has hsl n (j + 1) σ3 ad' z' rs' (by omega) (by omega) hS3 hrow3
          (fun h => by rcases hq3 b h with h | h; exact hna h; omega) (fun q hq h => by rcases hq3 q h with h | h; exact hnq q hq h; have := hqlt q hq; omega)
        refine ⟨ad5, z5, rs5, σ5, g1, g2, g2', hs03.fresh g3 (fun q hq => ?_), fun q hq => ?_⟩
        · rcases List.mem_cons.1 hq with rfl | hq
          · exact .inl (by simp)
          · rcases hq3 q hq with h | h; exact .inl (by simp [h]); exact .inr (by omega)
        · rcases g4 q hq with h | h
          · rcases hq3 q h with h | h; exact .inl h; exact .inr (by omega)
          · exact .inr (by have := hs03.1; omega)
      · rw [decide_eq_false (by omega), br_false]
        exact done (by omega)
    · rw [decide_eq_false (by omega), br_false]
      exact done (by omega)

theorem rsend_spec (L k : Nat) {σ : St} {b : Nat} {qs : List Nat} {l : List ByteArray} {sent acked : Nat} (hS : RSend σ b qs l sent acked) (hl : l.length ≤ 1000000) (h1 : sent ≤ l.length) (h2 : acked ≤ sent) (hL : l.length < L) :
    ∃ ad z rs σ', evCall Tryd.prog env L (k + 1) 17 [.pointer (some ⟨b, 0, none⟩)] σ = some (.slice ad (max sent (min l.length (acked + 4)) - sent) z, σ') ∧ Row cP 2 78 σ' ad z rs (packs l sent (max sent (min l.length (acked + 4)) - sent)) ∧
      RSend σ' b qs l (max sent (min l.length (acked + 4))) acked ∧ Same σ σ' [b] ∧ ∀ q ∈ rs, σ.next ≤ q := by
  rw [f17_eq]
  obtain ⟨ad, z, rs, σ', g1, g2, g2', g3, g4⟩ := rsend_loop L k hl h2 h1 L 0 σ none 0 [] (by omega) (by omega) hS ⟨by simp, .inl ⟨rfl, by simp [packs], rfl, rfl⟩⟩ (by simp) (by simp)
  exact ⟨ad, z, rs, σ', g1, g2, g2', g3, fun q hq => by rcases g4 q hq with h | h; cases h; exact h⟩

/-- Packets, told in the document's type. -/
theorem conv_spec (L k : Nat) {σs : St} {ad0 : Option Addr} {z0 : Nat} {qs : List Nat} {l : List (Int × ByteArray)} (h0 : Row cP 2 37 σs ad0 z0 qs l) (hl : l.length ≤ 1000000) (hL : l.length < L) :
    ∃ ad z rs σ', evCall Tryd.prog env L (k + 1) 16 [.slice ad0 l.length z0] σs = some (.slice ad l.length z, σ') ∧ Row cP 2 78 σ' ad z rs l ∧ Same σs σ' [] ∧ ∀ q ∈ rs, σs.next ≤ q := by
  have loop : ∀ (n i : Nat) (σ : St) (ad : Option Addr) (z : Nat) (rs : List Nat), i ≤ l.length → l.length - i < n → Same σs σ [] → Row cP 2 78 σ ad z rs (l.take i) → (∀ q ∈ rs, σs.next ≤ q) →
      ∃ ad' z' rs' σ', lpAt Tryd.prog env L k 16 [true, true, false, true] [] n [(0, .slice ad0 l.length z0), (3, .slice ad i z), (6, .int .i64 l.length), (7, .int .i64 i)] σ = some (.slice ad' l.length z', σ') ∧ Row cP 2 78 σ' ad' z' rs' l ∧ Same σs σ' [] ∧ ∀ q ∈ rs', σs.next ≤ q := by
    intro n
    induction n with
    | zero => intro i σ ad z rs _ h; omega
    | succ n ih =>
      intro i σ ad z rs hi hn hs hR hq
      rw [f16_l3]
      by_cases hie : i = l.length
      · subst hie
        rw [decide_eq_false (by omega), br_false]
        exact ⟨ad, z, rs, σ, rfl, by simpa using hR, hs, hq⟩
      · have hget : l[i]? = some l[i] := List.getElem?_eq_getElem (by omega)
        obtain ⟨p, e, hlds⟩ := (h0.same hs (by simp)).lds cP_len hget
        have hti : (l.take i).length = i := by rw [List.length_take]; omega
        rw [decide_eq_true (by omega), br_true, need_of (by simp [inRange]; omega), e, adr_some, hlds _ (by simp), show cP l[i] = [.int .i64 l[i].1, .string l[i].2] from rfl, uncons_c, asI_i, uncons_c, asS_s, endl_n]
        generalize hσ2 : σ.new (Blk.own [Value.int IntKind.i64 l[i].1, Value.string l[i].2] 78) = σ2
        have hnew : σ2.get σ.next = some (Blk.own [Value.int IntKind.i64 l[i].1, Value.string l[i].2] 78) := by rw [← hσ2, get_new_same]
        have hs2 : Same σ σ2 [] := by rw [← hσ2]; exact Same.new _ _ _
        rw [row_all (n := 2) hnew rfl (by omega)]
        obtain ⟨ad', z', rs', σ3, hgrow, hrow3, hs3, hq3⟩ := grow_row (by_ := 24) (hR.same hs2 (by simp)) cP_len cP_one (by omega) [l[i]] [Value.int IntKind.i64 l[i].1, Value.string l[i].2] rfl 1 rfl (by unfold roomTop; omega) (by unfold sizeTop; omega)
        rw [hti] at hgrow
        rw [List.take_append_getElem] at hrow3
        rw [hgrow, wrap_in ((i : Int) + 1) (by omega) (by omega), ← e]
        have hs03 : Same σs σ3 [] := (hs.trans hs2).fresh hs3 (fun q hq' => .inr (hq q hq'))
        exact ih (i + 1) σ3 ad' z' rs' (by omega) (by omega) hs03 hrow3 (fun q hq' => by
          rcases hq3 q hq' with h | h
          · exact hq q h
          · have := (hs.trans hs2).1; omega)
  rw [f16_eq]
  exact loop L 0 σs none 0 [] (by omega) (by omega) (Same.refl _ _) (by simpa using Row.nil cP 2 78 σs) (by simp)

end Go.AM.Wp.S
