/-
  fault.First, over chains of any length.
-/
import Derived.Test.YtiiophkfecpbfaaDoorFwC
set_option linter.unusedVariables false
set_option linter.unusedSimpArgs false
set_option linter.unusedSectionVars false
namespace Go.AM.Fw
open Go.Proofs

/-- The outermost one of a name. -/
def firstOf (op : ByteArray) : List (ByteArray × Int) → Int × Bool
  | [] => (0, false)
  | (s, n) :: l => if (ByteArray.toList s == ByteArray.toList op) = true then (n, true) else firstOf op l

theorem Lks.get {σ : St} {ps : List Nat} {l : List (ByteArray × Int)} (h : Lks σ ps l) : ∀ i, i < l.length → ∃ q s n y, ps[i]? = some q ∧ l[i]? = some (s, n) ∧ σ.get q = some (.own [.string s, .int .i64 n, y] 32) := by
  induction h with
  | nil => intro i hi; simp at hi
  | cons q s n y ps l hg hq _ ih =>
    intro i hi
    cases i with
    | zero => exact ⟨q, s, n, y, rfl, rfl, hg⟩
    | succ i => simpa using ih i (by simpa using hi)

theorem first_loop (L k : Nat) {σ : St} {ad : Option Addr} {z : Nat} {qb ps : List Nat} {l : List (ByteArray × Int)} (op : ByteArray) (hL : Lks σ ps l) (hR : Row cp 1 30 σ ad z qb ps) (hl : l.length ≤ 1000) : ∀ (n i : Nat), i ≤ l.length → l.length - i < n →
    lpAt Tryd.prog env L k 13 [true, false, true] [] n [(1, .string op), (9, .slice ad l.length z), (10, .int .i64 l.length), (11, .int .i64 i)] σ = some (.tuple #[.int .i64 (firstOf op (l.drop i)).1, .bool (firstOf op (l.drop i)).2], σ)
  | 0, i, _, hn => by omega
  | n + 1, i, hi, hn => by
    rw [f13_l2]
    by_cases hie : i = l.length
    · subst hie
      rw [decide_eq_false (by omega), br_false, List.drop_length]; rfl
    obtain ⟨q, s, a, y, hp, hx, hg⟩ := hL.get i (by omega)
    obtain ⟨q9, e9, hat⟩ := hR.at (fun _ => rfl) (i := i) (a := q) hp
    have hw : IntKind.wrap .i64 ((i : Int) + 1) = ((i + 1 : Nat) : Int) := by rw [wrap_in _ (by omega) (by omega)]; omega
    have hdrop : l.drop i = (s, a) :: l.drop (i + 1) := by
      have hlt : i < l.length := by omega
      rw [List.drop_eq_getElem_cons hlt]
      have := List.getElem?_eq_getElem hlt
      rw [hx] at this
      rw [← Option.some.inj this]
    rw [decide_eq_true (by omega), br_true, need_of (by simp [inRange]; omega), e9, adr_some, hat 0 (.pointer (some ⟨q, 0, none⟩)) _ (by omega) rfl (by simp), asP_p, adr_some, ld_own _ hg (v := .string s) rfl, asS_s, hdrop]
    cases hb : (ByteArray.toList s == ByteArray.toList op) with
    | true =>
      rw [br_true, adr_some, ld_own _ hg (v := .int .i64 a) rfl, asI_i]
      simp [firstOf, hb]
    | false =>
      rw [br_false, hw, ← e9, first_loop L k op hL hR hl n (i + 1) (by omega) (by omega)]
      simp [firstOf, hb]

theorem first_spec (L k : Nat) (hL : 1000 < L) {σ : St} {v : Value} {c : Int} {l : List (ByteArray × Int)} (h : Ch σ v c l) (hl : l.length ≤ 64) (op : ByteArray) :
    ∃ σ', evCall Tryd.prog env L (k + 3) 13 [v, .string op] σ = some (.tuple #[.int .i64 (firstOf op l).1, .bool (firstOf op l).2], σ') ∧ Same σ σ' [] := by
  obtain ⟨ad, z, qb, σ', ps, e, hLk, hR, hpl, hs⟩ := faults_spec L k hL h hl
  refine ⟨σ', ?_, hs⟩
  rw [f13_eq, e, bnd_some, asSl_s]
  exact first_loop L (k + 2) op hLk hR (by omega) L 0 (by omega) (by omega)
end Go.AM.Fw
