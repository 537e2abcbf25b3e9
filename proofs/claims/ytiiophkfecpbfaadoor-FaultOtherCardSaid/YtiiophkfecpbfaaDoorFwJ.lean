/-
  Places with their bounds; few, told in full; made of the number 0.
-/
import Derived.Test.YtiiophkfecpbfaaDoorFwI
set_option linter.unusedVariables false
set_option linter.unusedSimpArgs false
set_option linter.unusedSectionVars false
namespace Go.AM.Fw
open Go.Proofs
theorem few_loop2 (L k : Nat) {σ0 σ : St} (hk : Kept' σ0.next σ0 σ) {ad : Option Addr} {l : List (ByteArray × Int)} (z : Nat) (hl : l.length ≤ 1000) (hH : Holds σ0 2 cP ad l) : ∀ (n i : Nat), i ≤ l.length → l.length - i < n → (∀ j, j < i → ∀ p, l[j]? = some p → p.1.size ≤ 200) →
    ∃ b, lpAt Tryd.prog env L k 18 [true, true, false, true] [] n [(0, .slice ad l.length z), (8, .int .i64 l.length), (9, .int .i64 i)] σ = some (.bool b, σ) ∧ (b = true → ∀ p ∈ l, p.1.size ≤ 200)
  | 0, i, _, hn, _ => by omega
  | n + 1, i, hi, hn, hp => by
    rw [f18_l4]
    by_cases hie : i = l.length
    · rw [decide_eq_false (by omega), br_false]
      refine ⟨true, rfl, fun _ p hx => ?_⟩
      obtain ⟨j, hj⟩ := List.mem_iff_getElem?.1 hx
      exact hp j (by have := (List.getElem?_eq_some_iff.1 hj).1; omega) p hj
    have hget : l[i]? = some l[i] := List.getElem?_eq_getElem (by omega)
    obtain ⟨q, e, hat⟩ := hH.ld hk hget
    subst e
    have hw : IntKind.wrap .i64 ((i : Int) + 1) = ((i + 1 : Nat) : Int) := by rw [wrap_in _ (by omega) (by omega)]; omega
    rw [decide_eq_true (by omega), br_true, need_of (by simp [inRange]; omega), adr_some, hat 0 (.string l[i].1) _ (by omega) rfl (by simp), asS_s, hw]
    by_cases h : ((l[i].1.size : Nat) : Int) > 200
    · rw [decide_eq_true h, br_true]; exact ⟨false, rfl, fun h => by cases h⟩
    · rw [decide_eq_false h, br_false]
      refine few_loop2 L k hk z hl hH n (i + 1) (by omega) (by omega) (fun j hj p hx => ?_)
      by_cases hji : j = i
      · subst hji
        rw [hget] at hx
        cases hx
        omega
      · exact hp j (by omega) p hx
theorem few_spec2 (L k : Nat) (hL : 100000 < L) {σ0 σ : St} (hk : Kept' σ0.next σ0 σ) {ad : Option Addr} {l : List (ByteArray × Int)} (z : Nat) (hH : Holds σ0 2 cP ad l) :
    ∃ b, evCall Tryd.prog env L (k + 1) 18 [.slice ad l.length z] σ = some (.bool b, σ) ∧ (b = true → l.length ≤ 50 ∧ ∀ p ∈ l, p.1.size ≤ 200) := by
  rw [f18_eq]
  by_cases h : ((l.length : Nat) : Int) > 50
  · rw [decide_eq_true h, br_true]; exact ⟨false, rfl, fun h => by cases h⟩
  · rw [decide_eq_false h, br_false]
    obtain ⟨b, e, hb⟩ := few_loop2 L k hk z (by omega) hH L 0 (by omega) (by omega) (fun j hj => by omega)
    exact ⟨b, e, fun h => ⟨by omega, hb h⟩⟩
theorem made0_loop (L k : Nat) {σ0 σ : St} (hk : Kept' σ0.next σ0 σ) {ad : Option Addr} {l : List (ByteArray × Int)} (z : Nat) (hl : l.length ≤ 1000) (hH : Holds σ0 2 cP ad l) : ∀ (n i : Nat), i ≤ l.length → l.length - i < n →
    lpAt Tryd.prog env L (k + 1) 19 [true, true, true, false, true] [] n [(0, .slice ad l.length z), (5, .nilIface), (12, .int .i64 l.length), (13, .int .i64 i)] σ = some (.nilIface, σ)
  | 0, i, _, hn => by omega
  | n + 1, i, hi, hn => by
    rw [f19_l5]
    by_cases hie : i = l.length
    · rw [decide_eq_false (by omega), br_false]; rfl
    have hget : l[i]? = some l[i] := List.getElem?_eq_getElem (by omega)
    obtain ⟨q, e, hat⟩ := hH.ld hk hget
    subst e
    have hw : IntKind.wrap .i64 ((i : Int) + 1) = ((i + 1 : Nat) : Int) := by rw [wrap_in _ (by omega) (by omega)]; omega
    have w1 : evCall Tryd.prog env L (k + 1) 12 [.string l[i].1, .int .i64 l[i].2, .nilIface] σ = some (.nilIface, σ) := by rw [f12_eq]; rfl
    rw [decide_eq_true (by omega), br_true, need_of (by simp [inRange]; omega), adr_some, hat 0 (.string l[i].1) _ (by omega) rfl (by simp), asS_s, need_of (by simp [inRange]; omega), adr_some, hat 1 (.int .i64 l[i].2) _ (by omega) rfl (by simp), asI_i, w1, bnd_some, hw]
    exact made0_loop L k hk z hl hH n (i + 1) (by omega) (by omega)
end Go.AM.Fw
