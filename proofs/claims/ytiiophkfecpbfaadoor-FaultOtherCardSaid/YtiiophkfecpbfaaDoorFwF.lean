/-
  ref.Same: of alike rows of texts.
-/
import Derived.Test.YtiiophkfecpbfaaDoorFwE
set_option linter.unusedVariables false
set_option linter.unusedSimpArgs false
set_option linter.unusedSectionVars false
namespace Go.AM.Fw
open Go.Proofs
def cs (s : ByteArray) : List Value := [.string s]
theorem same_loop (L k : Nat) {σ : St} {ad ad2 : Option Addr} {z z2 : Nat} {qb qb2 : List Nat} {A : List ByteArray} (h1 : Row cs 1 9 σ ad z qb A) (h2 : Row cs 1 9 σ ad2 z2 qb2 A) (hl : A.length ≤ 1000) : ∀ (n i : Nat), i ≤ A.length → A.length - i < n →
    lpAt Tryd.prog env L k 24 [true, true, false, true] [] n [(0, .slice ad A.length z), (1, .slice ad2 A.length z2), (12, .int .i64 A.length), (13, .int .i64 i)] σ = some (.bool true, σ)
  | 0, i, _, hn => by omega
  | n + 1, i, hi, hn => by
    rw [f24_l4]
    by_cases hie : i = A.length
    · rw [decide_eq_false (by omega), br_false]
    have hget : A[i]? = some A[i] := List.getElem?_eq_getElem (by omega)
    obtain ⟨q, e, hat⟩ := h1.at (fun _ => rfl) hget
    obtain ⟨q2, e2, hat2⟩ := h2.at (fun _ => rfl) hget
    have hw : IntKind.wrap .i64 ((i : Int) + 1) = ((i + 1 : Nat) : Int) := by rw [wrap_in _ (by omega) (by omega)]; omega
    have ih := same_loop L k h1 h2 hl n (i + 1) (by omega) (by omega)
    rw [decide_eq_true (by omega), br_true, need_of (by simp [inRange]; omega), e, adr_some, hat 0 (.string A[i]) _ (by omega) rfl (by simp), asS_s, need_of (by simp [inRange]; omega), e2, adr_some, hat2 0 (.string A[i]) _ (by omega) rfl (by simp), asS_s, beq_self_eq_true, not_true, br_false, hw, ← e, ← e2]
    exact ih
theorem same_spec (L k : Nat) (hL : 1000 < L) {σ : St} {ad ad2 : Option Addr} {z z2 : Nat} {qb qb2 : List Nat} {A : List ByteArray} (h1 : Row cs 1 9 σ ad z qb A) (h2 : Row cs 1 9 σ ad2 z2 qb2 A) (hl : A.length ≤ 1000) :
    evCall Tryd.prog env L (k + 1) 24 [.slice ad A.length z, .slice ad2 A.length z2] σ = some (.bool true, σ) := by
  rw [f24_eq, show ((A.length : Int) != (A.length : Int)) = false by simp, br_false]
  exact same_loop L k h1 h2 hl L 0 (by omega) (by omega)
end Go.AM.Fw
