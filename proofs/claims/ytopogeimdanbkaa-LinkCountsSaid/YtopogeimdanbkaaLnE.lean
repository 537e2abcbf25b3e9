/-
  LinkCounts, in plain words: what arrives was sent; what didn't come, and wasn't lost, is still on its way.
-/
import Derived.Test.YtopogeimdanbkaaLnD
set_option linter.unusedVariables false
set_option linter.unusedSimpArgs false
namespace Go.AM.Lk
open Go.Proofs

structure Cnt (σ0 σ : St) (a b : Nat) (l : List Int) (sent : Nat) : Prop where
  kept : Kept' σ0.next σ0 σ
  ex : ∃ (qs : List Nat) (ow : List Value), Link σ a qs l 4096 ∧ σ.get b = some (.own ow 3) ∧ ow.length = 400 ∧ (∀ v ∈ ow, ∃ n, v = .int .i64 n) ∧ b ≠ a ∧ b ∉ qs ∧ b < σ.next ∧ σ0.next ≤ a ∧ σ0.next ≤ b ∧ ∀ q ∈ qs, σ0.next ≤ q
  all : ∀ x ∈ l, 0 ≤ x ∧ x < sent

section
variable {σ0 σ σ' : St} {a b : Nat} {l l' : List Int} {sent sent' : Nat}
/-- Behind a call of the link's. -/
theorem Cnt.step (h : Cnt σ0 σ a b l sent) {qs qs' : List Nat} (hL : Link σ a qs l 4096) (hqs : ∃ ow, σ.get b = some (.own ow 3) ∧ ow.length = 400 ∧ (∀ v ∈ ow, ∃ n, v = Value.int .i64 n) ∧ b ≠ a ∧ b ∉ qs ∧ b < σ.next ∧ σ0.next ≤ a ∧ σ0.next ≤ b ∧ ∀ q ∈ qs, σ0.next ≤ q)
    (hL' : Link σ' a qs' l' 4096) (hs : Same σ σ' (a :: qs)) (hq : ∀ q ∈ qs', q ∈ qs ∨ σ.next ≤ q) (hall : ∀ x ∈ l', 0 ≤ x ∧ x < sent') : Cnt σ0 σ' a b l' sent' := by
  obtain ⟨ow, e1, e2, e3, e4, e5, e6, e7, e8, e9⟩ := hqs
  have hn := h.kept.1
  refine ⟨h.kept.step hs (fun x hx => by rcases List.mem_cons.1 hx with rfl | hx; exact e7; exact e9 x hx), ⟨qs', ow, hL', by rw [hs.2 b e6 (by simp; exact ⟨e4, e5⟩)]; exact e1, e2, e3, e4, fun hb => ?_, by have := hs.1; omega, e7, e8, fun q hq' => ?_⟩, hall⟩
  · rcases hq b hb with h | h
    · exact e5 h
    · omega
  · rcases hq q hq' with h | h
    · exact e9 q h
    · omega

/-- A number of the counting row is another one. -/
theorem Cnt.tally (h : Cnt σ0 σ a b l sent) (i : Nat) (hi : i < 400) : ∃ n : Int, (∀ K : Value → Res, σ.ld b i K = K (.int .i64 n)) ∧ ∀ m : Int, ∃ σ', (∀ K : St → Res, σ.put b i [.int .i64 m] K = K σ') ∧ Cnt σ0 σ' a b l sent := by
  obtain ⟨qs, ow, hL, e1, e2, e3, e4, e5, e6, e7, e8, e9⟩ := h.ex
  obtain ⟨v, hv⟩ : ∃ v, ow[i]? = some v := ⟨_, List.getElem?_eq_getElem (by omega)⟩
  obtain ⟨n, rfl⟩ := e3 v (List.mem_of_getElem? hv)
  refine ⟨n, fun K => ld_own K e1 hv, fun m => ⟨_, fun K => put_own K e1 (by simp; omega) rfl, ?_⟩⟩
  have hs : Same σ (σ.set b (Blk.own (over ow i [Value.int .i64 m]) 3)) [b] := ⟨by simp, fun k hk hS => get_set (by simpa using hS)⟩
  refine ⟨h.kept.step hs (by simp; exact e8), ⟨qs, _, hL.same hs (by simp; exact fun h => e4 h.symm) (fun q hq hb => by simp at hb; subst hb; exact e5 hq), get_set_same _ _ _, by rw [over_length (by simp; omega)]; exact e2, fun v hv => ?_, e4, e5, by simpa using e6, e7, e8, e9⟩, h.all⟩
  simp only [over, List.mem_append] at hv
  rcases hv with (hv | hv) | hv
  · exact e3 v (List.mem_of_mem_take hv)
  · simp at hv; exact ⟨m, hv⟩
  · exact e3 v (List.mem_of_mem_drop hv)
end

end Go.AM.Lk
