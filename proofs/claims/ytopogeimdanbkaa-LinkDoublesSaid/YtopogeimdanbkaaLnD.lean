/-
  THE LINK's scripts.
-/
import Derived.Test.YtopogeimdanbkaaLnC
set_option linter.unusedVariables false
set_option linter.unusedSimpArgs false
namespace Go.AM.Lk
open Go.Proofs

structure Op where
  kind : Small
  i : Small
  s : { s : ByteArray // s.size ≤ maxLen }
  on : Bool
def c4 (o : Op) : List Value := [.int .i64 o.kind.1, .int .i64 o.i.1, .string o.s.1, .bool o.on]

theorem few_loop (L k : Nat) {σ0 σ : St} {ad : Option Addr} {l : List Op} (hl : l.length ≤ 300) (hH : Holds σ0 4 c4 ad l) (hK : Kept' σ0.next σ0 σ) : ∀ (n i : Nat), i ≤ l.length → l.length - i < n →
    ∃ b, lpAt Try.prog env L k 6 [true, true, false, true] [] n [(0, .slice ad l.length 0), (8, .int .i64 l.length), (9, .int .i64 i)] σ = some (.bool b, σ)
  | 0, i, _, h => by omega
  | n + 1, i, hi, h => by
    rw [f6_l4]
    by_cases hil : i = l.length
    · rw [decide_eq_false (by omega), br_false]; exact ⟨true, rfl⟩
    · have hget : l[i]? = some l[i] := List.getElem?_eq_getElem (by omega)
      obtain ⟨q, e, hat⟩ := hH.ld hK hget
      generalize l[i] = o at hat
      obtain ⟨b, hb⟩ := few_loop L k hl hH hK n (i + 1) (by omega) (by omega)
      rw [decide_eq_true (by omega), br_true, need_of (by simp [inRange]; omega), e, adr_some, hat 2 (.string o.s.1) _ (by omega) rfl (by simp), asS_s, wrap_in ((i : Int) + 1) (by omega) (by omega), ← e]
      by_cases hs : ((o.s.1.size : Nat) : Int) > 100
      · rw [decide_eq_true hs, br_true]; exact ⟨false, rfl⟩
      · rw [decide_eq_false hs, br_false]
        exact ⟨b, by rw [← hb]; rfl⟩

theorem few_spec (L k : Nat) (hL : 400 < L) {σ0 σ : St} {ad : Option Addr} {l : List Op} (hH : Holds σ0 4 c4 ad l) (hK : Kept' σ0.next σ0 σ) :
    ∃ b, evCall Try.prog env L (k + 1) 6 [.slice ad l.length 0] σ = some (.bool b, σ) ∧ (b = true → l.length ≤ 300) := by
  rw [f6_eq]
  by_cases hl : l.length > 300
  · rw [decide_eq_true (by omega), br_true]; exact ⟨false, rfl, by simp⟩
  · rw [decide_eq_false (by omega), br_false]
    obtain ⟨b, hb⟩ := few_loop L k (by omega) hH hK L 0 (by omega) (by omega)
    exact ⟨b, hb, fun _ => by omega⟩

end Go.AM.Lk
