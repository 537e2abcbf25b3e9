/-
  ref.Text: the document's.
-/
import Derived.Test.YtiiophkfecpbfaaDoorFwH
set_option linter.unusedVariables false
set_option linter.unusedSimpArgs false
set_option linter.unusedSectionVars false
namespace Go.AM.Fw
open Go.Proofs
theorem refText_loop (L k : Nat) {σ0 σ : St} (hk : Kept' σ0.next σ0 σ) {ad : Option Addr} {l : List (ByteArray × Int)} (z : Nat) (hl : l.length ≤ 1000) (hH : Holds σ0 2 cP ad l) (c : Int)
    (hb : ∀ p ∈ l, p.1.size ≤ 10000 ∧ -9223372036854775808 ≤ p.2 ∧ p.2 ≤ 9223372036854775807) : ∀ (n m : Nat) (T : List UInt8), m ≤ l.length → m < n → T.length + 11000 * m ≤ 100000000 →
    ∃ σ', lpAt Tryd.prog env L (k + 1) 28 [true, true, false, true] [] n [(0, .slice ad l.length z), (1, .int .i64 c), (5, .string ⟨⟨T⟩⟩), (6, .int .i64 ((m : Int) - 1))] σ = some (.string ⟨⟨T ++ textC (l.take m).reverse c⟩⟩, σ') ∧ Same σ σ' []
  | 0, m, _, _, hn, _ => by omega
  | n + 1, 0, T, hm, hn, hT => by
    obtain ⟨σ', g, s⟩ := word11_spec L k σ c
    have hwl : (word c).size ≤ 10 := by
      by_cases h : 0 ≤ c ∧ c < 13
      · have h' : c = 0 ∨ c = 1 ∨ c = 2 ∨ c = 3 ∨ c = 4 ∨ c = 5 ∨ c = 6 ∨ c = 7 ∨ c = 8 ∨ c = 9 ∨ c = 10 ∨ c = 11 ∨ c = 12 := by omega
        rcases h' with rfl | rfl | rfl | rfl | rfl | rfl | rfl | rfl | rfl | rfl | rfl | rfl | rfl <;> decide
      · rw [word, if_neg h]; decide
    rw [f28_l3, decide_eq_false (by omega), br_false, g, bnd_some, asS_s, need_of (decide_eq_true (by show T.length + (word c).size ≤ _; omega))]
    exact ⟨σ', rfl, s⟩
  | n + 1, m + 1, T, hm, hn, hT => by
    have hget : l[m]? = some l[m] := List.getElem?_eq_getElem (by omega)
    obtain ⟨q, e, hat⟩ := hH.ld hk hget
    subst e
    have hbx := hb l[m] (List.getElem_mem _)
    have hs6 : (((m + 1 : Nat) : Int) - 1) = (m : Int) := by omega
    have hw : IntKind.wrap .i64 ((m : Int) - 1) = (m : Int) - 1 := wrap_in _ (by omega) (by omega)
    have hi : Td.itoaG [.int .i64 l[m].2] σ = some (.string (dg l[m].2), σ) := by simp only [Td.itoaG]; rw [if_pos hbx.2]; rfl
    have hd : (dg l[m].2).data.toList.length ≤ 21 := Lib.itoa_length_le _ hbx.2.1 hbx.2.2
    have hos : l[m].1.data.toList.length ≤ 10000 := hbx.1
    obtain ⟨σ', e, s⟩ := refText_loop L k hk z hl hH c hb n m (T ++ l[m].1.data.toList ++ [32] ++ (dg l[m].2).data.toList ++ [58, 32]) (by omega) (by omega) (by simp only [List.length_append, List.length_cons, List.length_nil]; omega)
    have ht : T ++ textC (l.take (m + 1)).reverse c = (T ++ l[m].1.data.toList ++ [32] ++ (dg l[m].2).data.toList ++ [58, 32]) ++ textC (l.take m).reverse c := by
      rw [List.take_add_one, hget, List.reverse_append]
      show T ++ (l[m].1.data.toList ++ [32] ++ (dg l[m].2).data.toList ++ [58, 32] ++ textC (l.take m).reverse c) = _
      simp only [List.append_assoc]
    rw [ht]
    refine ⟨σ', ?_, s⟩
    rw [f28_l3, hs6, decide_eq_true (by omega), br_true, need_of (by simp [inRange]; omega), adr_some, hat 0 (.string l[m].1) _ (by omega) rfl (by simp), asS_s,
      need_of (decide_eq_true (by show T.length + l[m].1.data.toList.length ≤ _; omega)), need_of (decide_eq_true (by show (T ++ l[m].1.data.toList).length + 1 ≤ _; simp only [List.length_append]; omega)), need_of (by simp [inRange]; omega), adr_some, hat 1 (.int .i64 l[m].2) _ (by omega) rfl (by simp), asI_i, digits_prim2, hi, bnd_some, asS_s, hat 0 (.string l[m].1) _ (by omega) rfl (by simp), asS_s, chk_same,
      need_of (decide_eq_true (by show (T ++ l[m].1.data.toList ++ [32]).length + (dg l[m].2).data.toList.length ≤ _; simp only [List.length_append, List.length_cons, List.length_nil]; omega)), need_of (decide_eq_true (by show (T ++ l[m].1.data.toList ++ [32] ++ (dg l[m].2).data.toList).length + 2 ≤ _; simp only [List.length_append, List.length_cons, List.length_nil]; omega)), hw]
    exact e
end Go.AM.Fw
