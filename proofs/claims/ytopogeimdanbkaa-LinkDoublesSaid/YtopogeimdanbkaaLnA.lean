/-
  THE LINK's calls, one by one: what each answers, what it leaves.
-/
import Derived.Test.YtopogeimdanbkaaAm18
import Derived.Test.YtopogeimdanbkaaEqLk
set_option linter.unusedVariables false
set_option linter.unusedSimpArgs false
namespace Go.AM.Lk
open Go.Proofs

/-- A link: what is on its way, its room; it isn't cut. -/
structure Link (σ : St) (a : Nat) (qs : List Nat) (l : List Int) (room : Int) : Prop where
  ex : ∃ ad z, σ.get a = some (.own [.slice ad l.length z, .int .i64 room, .bool false] 39) ∧ Row c1 1 3 σ ad z qs l
  lt : a < σ.next
  ne : a ∉ qs

theorem Link.same {σ σ' : St} {a : Nat} {qs : List Nat} {l : List Int} {room : Int} {S : List Nat} (h : Link σ a qs l room) (hs : Same σ σ' S) (ha : a ∉ S) (hq : ∀ q ∈ qs, q ∉ S) : Link σ' a qs l room := by
  obtain ⟨ad, z, hg, hrow⟩ := h.ex
  exact ⟨⟨ad, z, by rw [hs.2 a h.lt ha]; exact hg, hrow.same hs hq⟩, by have := hs.1; have := h.lt; omega, h.ne⟩

theorem new_spec (L k : Nat) (σ : St) (room : Int) (h0 : 0 ≤ room) (h1 : room ≤ 4096) : ∃ σ', evCall Try.prog env L (k + 1) 7 [.int .i64 room] σ = some (.pointer (some ⟨σ.next, 0, none⟩), σ') ∧ Link σ' σ.next [] [] room ∧ Same σ σ' [] := by
  rw [f7_eq]
  have : mx 0 (mn room 4096) = room := by unfold mx mn; split <;> split <;> omega
  rw [this]
  exact ⟨_, rfl, ⟨⟨none, 0, by rw [get_new_same]; rfl, ⟨by simp, .inl ⟨rfl, rfl, rfl, rfl⟩⟩⟩, by simp, by simp⟩, Same.new _ _ _⟩

/-- An error: what it is plays no part; it is none that is nil. -/
theorem wrong_spec (L k : Nat) (σ : St) (at_ : Int) (e : Int) (he : e ≠ 0) : ∃ v σ', evCall Try.prog env L (k + 2) 13 [.int .i64 at_, .int .i64 e] σ = some (.iface 44 v, σ') ∧ Same σ σ' [] := by
  rw [f13_eq, f16_eq, eqNil_iface, br_false]
  have h : eqErr (.iface 41 (.int .i64 e)) 41 .i64 0 (fun v2 => br v2 (some (Value.nilIface, σ)) (need true (need (oneCell (.iface 41 (.int .i64 e))) (need true (some (Value.iface 44 (Value.pointer (some ⟨σ.next, 0, none⟩)), σ.new (Blk.own [Value.string ⟨#[108, 105, 110, 107]⟩, Value.int .i64 at_, .iface 41 (.int .i64 e)] 46))))))) =
      some (Value.iface 44 (Value.pointer (some ⟨σ.next, 0, none⟩)), σ.new (Blk.own [Value.string ⟨#[108, 105, 110, 107]⟩, Value.int .i64 at_, .iface 41 (.int .i64 e)] 46)) := by
    have hb : (e == 0) = false := by simpa using he
    simp [eqErr, hb, oneCell]
  rw [h, bnd_some]
  exact ⟨_, _, rfl, Same.new _ _ _⟩

/-- Is there such a place? -/
theorem there_spec (L k : Nat) {σ : St} {a : Nat} {qs : List Nat} {l : List Int} {room : Int} (hK : Link σ a qs l room) (i : Int) :
    (0 ≤ i ∧ i < l.length ∧ evCall Try.prog env L (k + 3) 15 [.pointer (some ⟨a, 0, none⟩), .int .i64 i] σ = some (.nilIface, σ)) ∨
    (¬ (0 ≤ i ∧ i < l.length) ∧ ∃ v σ', evCall Try.prog env L (k + 3) 15 [.pointer (some ⟨a, 0, none⟩), .int .i64 i] σ = some (.iface 44 v, σ') ∧ Same σ σ' []) := by
  obtain ⟨ad, z, hg, hrow⟩ := hK.ex
  rw [f15_eq]
  by_cases h0 : i < 0
  · obtain ⟨v, σ', g1, g2⟩ := wrong_spec L k σ i 5 (by omega)
    rw [decide_eq_true h0, br_true, g1, bnd_some]
    exact .inr ⟨by omega, v, σ', rfl, g2⟩
  · rw [decide_eq_false h0, br_false, ld_own _ hg (v := .slice ad l.length z) rfl, asSl_s]
    by_cases h1 : i ≥ (l.length : Int)
    · obtain ⟨v, σ', g1, g2⟩ := wrong_spec L k σ i 5 (by omega)
      rw [decide_eq_true h1, br_true, g1, bnd_some]
      exact .inr ⟨by omega, v, σ', rfl, g2⟩
    · rw [decide_eq_false h1, br_false]
      exact .inl ⟨by omega, by omega, rfl⟩

theorem put_spec (L k : Nat) {σ : St} {a : Nat} {qs : List Nat} {l : List Int} {room : Int} (hK : Link σ a qs l room) (hl : l.length ≤ 100000) (x at_ : Int) :
    ((l.length : Int) < room ∧ ∃ qs' σ', evCall Try.prog env L (k + 3) 14 [.pointer (some ⟨a, 0, none⟩), .int .i64 x, .int .i64 at_] σ = some (.nilIface, σ') ∧ Link σ' a qs' (l ++ [x]) room ∧ Same σ σ' (a :: qs) ∧ ∀ q ∈ qs', q ∈ qs ∨ σ.next ≤ q) ∨
    (room ≤ l.length ∧ ∃ v σ', evCall Try.prog env L (k + 3) 14 [.pointer (some ⟨a, 0, none⟩), .int .i64 x, .int .i64 at_] σ = some (.iface 44 v, σ') ∧ Same σ σ' []) := by
  obtain ⟨ad, z, hg, hrow⟩ := hK.ex
  have hlt := hK.lt
  have hqa := hK.ne
  rw [f14_eq, ld_own _ hg (v := .slice ad l.length z) rfl, asSl_s, ld_own _ hg (v := .int .i64 room) rfl, asI_i]
  by_cases h0 : (l.length : Int) ≥ room
  · obtain ⟨v, σ', g1, g2⟩ := wrong_spec L k σ at_ 6 (by omega)
    rw [decide_eq_true h0, br_true, g1, bnd_some]
    exact .inr ⟨by omega, v, σ', rfl, g2⟩
  · rw [decide_eq_false h0, br_false, ld_own _ hg (v := .slice ad l.length z) rfl, asSl_s]
    refine .inl ⟨by omega, ?_⟩
    generalize hσ2 : σ.new (Blk.own [Value.int IntKind.i64 x] 3) = σ2
    have hnew : σ2.get σ.next = some (Blk.own [Value.int IntKind.i64 x] 3) := by rw [← hσ2, get_new_same]
    have hsame : ∀ S, Same σ σ2 S := fun S => by rw [← hσ2]; exact Same.new _ _ _
    have hn2 : σ2.next = σ.next + 1 := by rw [← hσ2]; rfl
    have hrow2 : Row c1 1 3 σ2 ad z qs l := hrow.same (hsame []) (fun _ _ => by simp)
    rw [row_one hnew]
    obtain ⟨ad', z', qs', σ3, hgrow, hrow3, hs3, hq3⟩ := grow_row (by_ := 8) hrow2 c1_len c1_one (by omega) [x] [Value.int .i64 x] rfl 1 rfl (by unfold roomTop; omega) (by unfold sizeTop; omega)
    rw [hgrow]
    have hg3 : σ3.get a = some (.own [.slice ad l.length z, .int .i64 room, .bool false] 39) := by
      rw [hs3.2 a (by omega) hqa, (hsame []).2 a hlt (by simp)]; exact hg
    rw [put_own _ hg3 (by simp) rfl]
    have hq' : ∀ q ∈ qs', q ∈ qs ∨ σ.next ≤ q := fun q hq => by rcases hq3 q hq with h | h; exact .inl h; exact .inr (by omega)
    have hne' : a ∉ qs' := fun h => by rcases hq' a h with h | h; exact hqa h; omega
    refine ⟨qs', _, rfl, ?_, ?_, hq'⟩
    · refine ⟨⟨ad', z', by simp [over], ⟨fun q hq => by simpa using hrow3.lt q hq, ?_⟩⟩, by have := hs3.1; simp; omega, hne'⟩
      rcases hrow3.is with h | ⟨q, rest, e1, e2, e3, e4⟩
      · exact .inl h
      · exact .inr ⟨q, rest, e1, e2, e3, by rw [get_set (fun h => hne' (by rw [e1, ← h]; simp))]; exact e4⟩
    · refine ⟨by have := hs3.1; simp; omega, fun k hk hS => ?_⟩
      simp only [List.mem_cons, not_or] at hS
      rw [get_set hS.1, hs3.2 k (by omega) hS.2, (hsame []).2 k hk (by simp)]

end Go.AM.Lk
