/-
  ref.First: the document's.
-/
import Derived.Test.YtiiophkfecpbfaaDoorFwD
set_option linter.unusedVariables false
set_option linter.unusedSimpArgs false
set_option linter.unusedSectionVars false
namespace Go.AM.Fw
open Go.Proofs
theorem refFirst_loop (L k : Nat) {σ0 σ : St} (hk : Kept' σ0.next σ0 σ) {ad : Option Addr} {l : List (ByteArray × Int)} (z : Nat) (op : ByteArray) (hl : l.length ≤ 1000) (hH : Holds σ0 2 cP ad l) : ∀ (n m : Nat), m ≤ l.length → m < n →
    lpAt Tryd.prog env L k 27 [true, false, true] [] n [(0, .slice ad l.length z), (1, .string op), (6, .int .i64 ((m : Int) - 1))] σ = some (.tuple #[.int .i64 (firstOf op (l.take m).reverse).1, .bool (firstOf op (l.take m).reverse).2], σ)
  | 0, m, _, hn => by omega
  | n + 1, 0, hm, hn => by
    rw [f27_l2, decide_eq_false (by omega), br_false]; rfl
  | n + 1, m + 1, hm, hn => by
    rw [f27_l2]
    have hget : l[m]? = some l[m] := List.getElem?_eq_getElem (by omega)
    obtain ⟨q, e, hat⟩ := hH.ld hk hget
    subst e
    have hs6 : (((m + 1 : Nat) : Int) - 1) = (m : Int) := by omega
    have ht : (l.take (m + 1)).reverse = (l[m].1, l[m].2) :: (l.take m).reverse := by
      rw [List.take_add_one, hget, List.reverse_append]; rfl
    have hw : IntKind.wrap .i64 ((m : Int) - 1) = (m : Int) - 1 := wrap_in _ (by omega) (by omega)
    rw [hs6, decide_eq_true (by omega), br_true, need_of (by simp [inRange]; omega), adr_some, hat 0 (.string l[m].1) _ (by omega) rfl (by simp), asS_s, ht]
    cases hb : (ByteArray.toList l[m].1 == ByteArray.toList op) with
    | true =>
      rw [br_true, need_of (by simp [inRange]; omega), adr_some, hat 1 (.int .i64 l[m].2) _ (by omega) rfl (by simp), asI_i]
      simp [firstOf, hb]
    | false =>
      rw [br_false, hw, refFirst_loop L k hk z op hl hH n m (by omega) (by omega)]
      simp [firstOf, hb]
theorem refFirst_spec (L k : Nat) (hL : 100000 < L) {σ0 σ : St} (hk : Kept' σ0.next σ0 σ) {ad : Option Addr} {l : List (ByteArray × Int)} (z : Nat) (op : ByteArray) (hl : l.length ≤ 1000) (hH : Holds σ0 2 cP ad l) :
    evCall Tryd.prog env L (k + 1) 27 [.slice ad l.length z, .string op] σ = some (.tuple #[.int .i64 (firstOf op l.reverse).1, .bool (firstOf op l.reverse).2], σ) := by
  rw [f27_eq, wrap_in _ (by omega) (by omega), refFirst_loop L k hk z op hl hH L l.length (by omega) (by omega), List.take_length]
end Go.AM.Fw
