/-
  THE WINDOW's SENDER: Push, packets, Send.
-/
import Derived.Test.YtmmjibadpdbkaaaDoorWpA
set_option linter.unusedVariables false
set_option linter.unusedSimpArgs false
set_option linter.unusedSectionVars false
namespace Go.AM.Wp.S
open Go.Proofs

structure Send (σ : St) (a : Nat) (qs : List Nat) (l : List ByteArray) (sent acked : Int) : Prop where
  ex : ∃ ad z, σ.get a = some (.own [.slice ad l.length z, .int .i64 sent, .int .i64 acked] 44) ∧ Row cS 1 9 σ ad z qs l
  lt : a < σ.next
  ne : a ∉ qs

theorem push_spec (L k : Nat) {σ : St} {a : Nat} {qs : List Nat} {l : List ByteArray} {sent acked : Int} (hS : Send σ a qs l sent acked) (hl : l.length ≤ 1000000) (x : ByteArray) :
    ∃ qs' σ', evCall Tryd.prog env L (k + 1) 6 [.pointer (some ⟨a, 0, none⟩), .string x] σ = some (.tuple #[], σ') ∧ Send σ' a qs' (l ++ [x]) sent acked ∧ Same σ σ' (a :: qs) ∧ ∀ q ∈ qs', q ∈ qs ∨ σ.next ≤ q := by
  obtain ⟨ad, z, hg, hrow⟩ := hS.ex
  have hlt := hS.lt
  have hqa := hS.ne
  rw [f6_eq, ld_own _ hg (v := .slice ad l.length z) rfl, asSl_s]
  generalize hσ2 : σ.new (Blk.own [Value.string x] 9) = σ2
  have hnew : σ2.get σ.next = some (Blk.own [Value.string x] 9) := by rw [← hσ2, get_new_same]
  have hsame : ∀ S, Same σ σ2 S := fun S => by rw [← hσ2]; exact Same.new _ _ _
  have hn2 : σ2.next = σ.next + 1 := by rw [← hσ2]; rfl
  have hrow2 : Row cS 1 9 σ2 ad z qs l := hrow.same (hsame []) (fun _ _ => by simp)
  rw [row_one hnew]
  obtain ⟨ad', z', qs', σ3, hgrow, hrow3, hs3, hq3⟩ := grow_row (by_ := 16) hrow2 cS_len cS_one (by omega) [x] [Value.string x] rfl 1 rfl (by unfold roomTop; omega) (by unfold sizeTop; omega)
  rw [hgrow]
  have hg3 : σ3.get a = some (.own [.slice ad l.length z, .int .i64 sent, .int .i64 acked] 44) := by
    rw [hs3.2 a (by omega) hqa, (hsame []).2 a hlt (by simp)]; exact hg
  rw [put_own _ hg3 (by simp) rfl]
  have hq' : ∀ q ∈ qs', q ∈ qs ∨ σ.next ≤ q := fun q hq => by rcases hq3 q hq with h | h; exact .inl h; exact .inr (by omega)
  have hne' : a ∉ qs' := fun h => by rcases hq' a h with h | h; exact hqa h; omega
  refine ⟨qs', _, rfl, ?_, ?_, hq'⟩
  · refine ⟨⟨ad', z', by simp [over], ⟨fun q hq => by simpa using hrow3.lt q hq, ?_⟩⟩, by have := hs3.1; simp; omega, hne'⟩
    rcases hrow3.is with h | ⟨q, rest, e1, e2, e3, e4⟩
    · exact .inl h
    · exact .inr ⟨q, rest, e1, e2, e3, by rw [get_set (fun h => hne' (by rw [e1, ← h]; simp))]; exact e4⟩
  · refine ⟨by have := hs3.1; simp; omega, fun k hk hS => ?_⟩
    simp only [List.mem_cons, not_or] at hS
    rw [get_set hS.1, hs3.2 k (by omega) hS.2, (hsame []).2 k hk (by simp)]

/-- The packets of the things from the i-th on. -/
def packs (l : List ByteArray) (i : Nat) : Nat → List (Int × ByteArray)
  | 0 => []
  | n + 1 => ((i : Int) + 1, l.getD i ⟨#[]⟩) :: packs l (i + 1) n
theorem packs_length (l : List ByteArray) : ∀ (n i : Nat), (packs l i n).length = n
  | 0, _ => rfl
  | n + 1, i => by simp [packs, packs_length l n]
theorem packs_snoc (l : List ByteArray) : ∀ (n i : Nat), packs l i (n + 1) = packs l i n ++ [(((i + n : Nat) : Int) + 1, l.getD (i + n) ⟨#[]⟩)]
  | 0, i => by simp [packs]
  | n + 1, i => by
    have := packs_snoc l n (i + 1)
    rw [packs, this, packs, List.cons_append, show i + 1 + n = i + (n + 1) by omega]

theorem Send.same {σ σ' : St} {a : Nat} {qs : List Nat} {l : List ByteArray} {sent acked : Int} {S : List Nat} (h : Send σ a qs l sent acked) (hs : Same σ σ' S) (ha : a ∉ S) (hq : ∀ q ∈ qs, q ∉ S) : Send σ' a qs l sent acked := by
  obtain ⟨ad, z, hg, hrow⟩ := h.ex
  exact ⟨⟨ad, z, by rw [hs.2 a h.lt ha]; exact hg, hrow.same hs hq⟩, by have := hs.1; have := h.lt; omega, h.ne⟩
theorem Recv.same {σ σ' : St} {a : Nat} {qs : List Nat} {l : List ByteArray} {S : List Nat} (h : Recv σ a qs l) (hs : Same σ σ' S) (ha : a ∉ S) (hq : ∀ q ∈ qs, q ∉ S) : Recv σ' a qs l := by
  obtain ⟨ad, z, hg, hrow⟩ := h.ex
  exact ⟨⟨ad, z, by rw [hs.2 a h.lt ha]; exact hg, hrow.same hs hq⟩, by have := hs.1; have := h.lt; omega, h.ne⟩

theorem packets_loop (L k : Nat) {l : List ByteArray} {a : Nat} {qs : List Nat} {sent acked : Int} (hl : l.length ≤ 1000000) (fro to : Nat) (hto : to ≤ l.length) : ∀ (n i : Nat) (σ : St) (ad : Option Addr) (z : Nat) (rs : List Nat),
    fro ≤ i → i ≤ to → to - i < n → Send σ a qs l sent acked → Row cP 2 37 σ ad z rs (packs l fro (i - fro)) → a ∉ rs → (∀ q ∈ qs, q ∉ rs) →
    ∃ ad' z' rs' σ', lpAt Tryd.prog env L k 25 [true, true, false, true] [] n [(0, .pointer (some ⟨a, 0, none⟩)), (2, .int .i64 to), (7, .slice ad (i - fro) z), (8, .int .i64 i)] σ = some (.slice ad' (to - fro) z', σ') ∧
      Row cP 2 37 σ' ad' z' rs' (packs l fro (to - fro)) ∧ Same σ σ' rs ∧ ∀ q ∈ rs', q ∈ rs ∨ σ.next ≤ q
  | 0, i, σ, ad, z, rs, _, _, h, _, _, _, _ => by omega
  | n + 1, i, σ, ad, z, rs, h1, h2, h3, hS, hR, hna, hnq => by
    rw [f25_l3]
    by_cases hi : i = to
    · subst hi
      have hb : decide ((i : Int) < (i : Int)) = false := by simp
      rw [hb, br_false]
      exact ⟨ad, z, rs, σ, rfl, hR, Same.refl _ _, fun q hq => .inl hq⟩
    · have hb : decide ((i : Int) < (to : Int)) = true := by simp; omega
      obtain ⟨ad0, z0, hg, hrow⟩ := hS.ex
      have hlt := hS.lt
      have hil : i < l.length := by omega
      have hget : l[i]? = some l[i] := List.getElem?_eq_getElem hil
      obtain ⟨q0, e0, hat⟩ := hrow.at cS_len hget
      rw [hb, br_true, ld_own _ hg (v := .slice ad0 l.length z0) rfl, asSl_s, need_of (by simp [inRange]; omega), e0, adr_some, hat 0 (.string l[i]) _ (by omega) rfl (by simp), asS_s]
      rw [wrap_in ((i : Int) + 1) (by omega) (by omega)]
      generalize hσ2 : σ.new (Blk.own [Value.int IntKind.i64 ((i : Int) + 1), Value.string l[i]] 37) = σ2
      have hnew : σ2.get σ.next = some (Blk.own [Value.int IntKind.i64 ((i : Int) + 1), Value.string l[i]] 37) := by rw [← hσ2, get_new_same]
      have hsame : ∀ S, Same σ σ2 S := fun S => by rw [← hσ2]; exact Same.new _ _ _
      have hread : ∀ K : List Value → Res, σ2.row (some ⟨σ.next, 0, none⟩) 2 K = K [Value.int IntKind.i64 ((i : Int) + 1), Value.string l[i]] := fun K => by
        simp only [St.row, adr_some]
        rw [if_neg (by omega), lds_own _ hnew (by simp)]
        rfl
      rw [hread]
      have hR2 : Row cP 2 37 σ2 ad z rs (packs l fro (i - fro)) := hR.same (hsame []) (fun _ _ => by simp)
      have hpl := packs_length l (i - fro) fro
      obtain ⟨ad', z', rs', σ3, hgrow, hrow3, hs3, hq3⟩ := grow_row (by_ := 24) hR2 cP_len cP_one (by omega) [((i : Int) + 1, l[i])] [Value.int IntKind.i64 ((i : Int) + 1), Value.string l[i]] rfl 1 rfl (by unfold roomTop; omega) (by unfold sizeTop; omega)
      rw [hpl] at hgrow
      rw [hgrow]
      have hn2 : σ2.next = σ.next + 1 := by rw [← hσ2]; rfl
      have hs4 : Same σ σ3 rs := (hsame rs).trans hs3
      have hS3 : Send σ3 a qs l sent acked := hS.same hs4 hna hnq
      have hpk : packs l fro (i - fro) ++ [((i : Int) + 1, l[i])] = packs l fro (i + 1 - fro) := by
        rw [show i + 1 - fro = (i - fro) + 1 by omega, packs_snoc, show fro + (i - fro) = i by omega]
        simp [List.getD, hget]
      rw [hpk] at hrow3
      have hqlt : ∀ q ∈ qs, q < σ.next := hrow.lt
      obtain ⟨ad5, z5, rs5, σ5, g1, g2, g3, g4⟩ := packets_loop L k hl fro to hto n (i + 1) σ3 ad' z' rs' (by omega) (by omega) (by omega) hS3 hrow3
        (fun h => by rcases hq3 a h with h | h; exact hna h; omega) (fun q hq h => by rcases hq3 q h with h | h; exact hnq q hq h; have := hqlt q hq; omega)
      rw [show i + 1 - fro = i - fro + 1 by omega] at g1
      refine ⟨ad5, z5, rs5, σ5, by simpa using g1, g2, hs4.fresh g3 (fun q hq => ?_), fun q hq => ?_⟩
      · rcases hq3 q hq with h | h; exact .inl h; exact .inr (by omega)
      · rcases g4 q hq with h | h
        · rcases hq3 q h with h | h; exact .inl h; exact .inr (by omega)
        · exact .inr (by have := hs4.1; omega)

theorem packets_spec (L k : Nat) {σ : St} {a : Nat} {qs : List Nat} {l : List ByteArray} {sent acked : Int} (hS : Send σ a qs l sent acked) (hl : l.length ≤ 1000000) (fro to : Nat) (hf : fro ≤ to) (hto : to ≤ l.length) (hL : to - fro < L) :
    ∃ ad z rs σ', evCall Tryd.prog env L (k + 1) 25 [.pointer (some ⟨a, 0, none⟩), .int .i64 fro, .int .i64 to] σ = some (.slice ad (to - fro) z, σ') ∧ Row cP 2 37 σ' ad z rs (packs l fro (to - fro)) ∧ Same σ σ' [] ∧ ∀ q ∈ rs, σ.next ≤ q := by
  rw [f25_eq]
  obtain ⟨ad, z, rs, σ', h1, h2, h3, h4⟩ := packets_loop L k hl fro to hto L fro σ none 0 [] (Nat.le_refl _) hf hL hS ⟨by simp, .inl ⟨rfl, by simp [packs], rfl, rfl⟩⟩ (by simp) (by simp)
  rw [Nat.sub_self] at h1
  exact ⟨ad, z, rs, σ', h1, h2, h3, fun q hq => by rcases h4 q hq with h | h; cases h; exact h⟩

/-- Send: what is new, as far as the window goes. -/
theorem send_spec (L k : Nat) {σ : St} {a : Nat} {qs : List Nat} {l : List ByteArray} {sent acked : Nat} (hS : Send σ a qs l sent acked) (hl : l.length ≤ 1000000) (h1 : sent ≤ l.length) (h2 : acked ≤ sent) (hL : l.length < L) :
    ∃ ad z rs σ', evCall Tryd.prog env L (k + 2) 8 [.pointer (some ⟨a, 0, none⟩)] σ = some (.slice ad (max sent (min l.length (acked + 4)) - sent) z, σ') ∧ Row cP 2 37 σ' ad z rs (packs l sent (max sent (min l.length (acked + 4)) - sent)) ∧
      Send σ' a qs l (max sent (min l.length (acked + 4)) : Nat) acked ∧ Same σ σ' [a] ∧ ∀ q ∈ rs, σ.next ≤ q := by
  obtain ⟨ad, z, hg, hrow⟩ := hS.ex
  have hlt := hS.lt
  have hqa := hS.ne
  rw [f8_eq, ld_own _ hg (v := .int .i64 sent) rfl, asI_i, ld_own _ hg (v := .int .i64 sent) rfl, asI_i, ld_own _ hg (v := .slice ad l.length z) rfl, asSl_s, ld_own _ hg (v := .int .i64 acked) rfl, asI_i]
  rw [wrap_in ((acked : Int) + 4) (by omega) (by omega)]
  have hmm : mx (sent : Int) (mn (l.length : Int) ((acked : Int) + 4)) = ((max sent (min l.length (acked + 4)) : Nat) : Int) := by
    unfold mx mn; split <;> split <;> omega
  rw [hmm]
  generalize hm : max sent (min l.length (acked + 4)) = m
  have hml : m ≤ l.length := by omega
  have hsm : sent ≤ m := by omega
  rw [put_own _ hg (by simp) rfl]
  generalize hσ2 : σ.set a (Blk.own (over [Value.slice ad l.length z, Value.int .i64 sent, Value.int .i64 acked] 1 [Value.int .i64 (m : Int)]) 44) = σ2
  have hg2 : σ2.get a = some (Blk.own [Value.slice ad l.length z, Value.int .i64 (m : Int), Value.int .i64 acked] 44) := by rw [← hσ2, get_set_same]; rfl
  have hs2 : Same σ σ2 [a] := by rw [← hσ2]; exact ⟨by simp, fun k hk hS => get_set (by simpa using hS)⟩
  have hS2 : Send σ2 a qs l m acked := ⟨⟨ad, z, hg2, hrow.same hs2 (fun q hq h => by simp at h; subst h; exact hqa hq)⟩, by have := hs2.1; omega, hqa⟩
  rw [ld_own _ hg2 (v := .int .i64 (m : Int)) rfl, asI_i]
  obtain ⟨ad3, z3, rs, σ3, g1, g2, g3, g4⟩ := packets_spec L k hS2 hl sent m hsm hml (by omega)
  rw [g1, bnd_some, asSl_s]
  refine ⟨ad3, z3, rs, σ3, rfl, g2, hS2.same g3 (by simp) (by simp), hs2.trans (g3.mono (by simp)), fun q hq => by have := g4 q hq; have := hs2.1; omega⟩
end Go.AM.Wp.S
