/-
  ref.Path: the document's.
-/
import Derived.Test.YtiiophkfecpbfaaDoorFwG
set_option linter.unusedVariables false
set_option linter.unusedSimpArgs false
set_option linter.unusedSectionVars false
namespace Go.AM.Fw
open Go.Proofs
theorem digits_prim2 (L k : Nat) (args : List Value) (σ : St) : evCall Tryd.prog env L (k + 1) 16 args σ = Td.itoaG args σ := rfl
theorem refPath_loop (L k : Nat) {σ0 : St} {ad : Option Addr} {l : List (ByteArray × Int)} (z : Nat) (hl : l.length ≤ 1000) (hH : Holds σ0 2 cP ad l)
    (hb : ∀ p ∈ l, p.1.size ≤ 10000 ∧ -9223372036854775808 ≤ p.2 ∧ p.2 ≤ 9223372036854775807) : ∀ (n m : Nat) (σ1 σ : St) (ad2 : Option Addr) (z2 : Nat) (qb2 : List Nat) (B : List ByteArray), m ≤ l.length → m < n → B.length + m ≤ 1000 → Kept' σ0.next σ0 σ1 → Same σ1 σ [] →
    Row cs 1 9 σ ad2 z2 qb2 B → (∀ q ∈ qb2, σ1.next ≤ q) →
    ∃ ad' z' qb' σ', lpAt Tryd.prog env L (k + 1) 26 [true, true, false, true] [] n [(0, .slice ad l.length z), (3, .slice ad2 B.length z2), (4, .int .i64 ((m : Int) - 1))] σ = some (.slice ad' (B ++ (l.take m).reverse.map plc).length z', σ') ∧ Same σ1 σ' [] ∧ Row cs 1 9 σ' ad' z' qb' (B ++ (l.take m).reverse.map plc)
  | 0, m, _, _, _, _, _, _, _, hn, _, _, _, _, _ => by omega
  | n + 1, 0, σ1, σ, ad2, z2, qb2, B, hm, hn, hB, hk, hs, hr, hq => by
    rw [f26_l3, decide_eq_false (by omega), br_false]
    exact ⟨ad2, z2, qb2, σ, by simp, hs, by simpa using hr⟩
  | n + 1, m + 1, σ1, σ, ad2, z2, qb2, B, hm, hn, hB, hk, hs, hr, hq => by
    rw [f26_l3]
    have hget : l[m]? = some l[m] := List.getElem?_eq_getElem (by omega)
    obtain ⟨q, e, hat⟩ := hH.ld (hk.step hs (by simp)) hget
    subst e
    have hbx := hb l[m] (List.getElem_mem _)
    have hs6 : (((m + 1 : Nat) : Int) - 1) = (m : Int) := by omega
    have hw : IntKind.wrap .i64 ((m : Int) - 1) = (m : Int) - 1 := wrap_in _ (by omega) (by omega)
    have hi : Td.itoaG [.int .i64 l[m].2] σ = some (.string (dg l[m].2), σ) := by simp only [Td.itoaG]; rw [if_pos hbx.2]; rfl
    have hd : (dg l[m].2).size ≤ 21 := Lib.itoa_length_le _ hbx.2.1 hbx.2.2
    have hos : l[m].1.data.toList.length = l[m].1.size := rfl
    obtain ⟨ad3, z3, qs3, σ3, hgrow, hrow, hs3, hq3⟩ := grow_row (by_ := 16) (hr.same (Same.new σ (.own [.string (plc l[m])] 9) []) (by simp)) (fun _ => rfl) (fun _ => rfl) (by omega) [plc l[m]] [Value.string (plc l[m])] rfl 1 rfl (by unfold roomTop; omega) (by unfold sizeTop; omega)
    have hs4 : Same σ1 σ3 [] := (hs.trans (Same.new _ _ _)).fresh hs3 (fun x hx => .inr (hq x hx))
    obtain ⟨ad', z', qb', σ', e, h1, h2⟩ := refPath_loop L k z hl hH hb n m σ1 σ3 ad3 z3 qs3 (B ++ [plc l[m]]) (by omega) (by omega) (by simp; omega) hk hs4 hrow (fun x hx => by
      rcases hq3 x hx with h | h
      · exact hq x h
      · have := hs.1; simp at h; omega)
    have ht : B ++ (l.take (m + 1)).reverse.map plc = (B ++ [plc l[m]]) ++ (l.take m).reverse.map plc := by
      rw [List.take_add_one, hget, List.reverse_append, List.append_assoc]; rfl
    rw [ht]
    refine ⟨ad', z', qb', σ', ?_, h1, h2⟩
    rw [hs6, decide_eq_true (by omega), br_true, need_of (by simp [inRange]; omega), adr_some, hat 0 (.string l[m].1) _ (by omega) rfl (by simp), asS_s, need_of (decide_eq_true (by omega)), need_of (by simp [inRange]; omega), adr_some, hat 1 (.int .i64 l[m].2) _ (by omega) rfl (by simp), asI_i, digits_prim2, hi, bnd_some, asS_s, hat 0 (.string l[m].1) _ (by omega) rfl (by simp), asS_s, chk_same,
      need_of (decide_eq_true (by show (l[m].1.data.toList ++ [32]).length + (dg l[m].2).size ≤ _; rw [List.length_append]; simp only [List.length_cons, List.length_nil]; omega)), row_one (get_new_same _ _), hw]
    rw [List.length_append] at e
    exact (hgrow _).trans e
end Go.AM.Fw
namespace Go.AM.Fw
open Go.Proofs
theorem refPath_spec (L k : Nat) (hL : 100000 < L) {σ0 σ : St} (hk : Kept' σ0.next σ0 σ) {ad : Option Addr} {l : List (ByteArray × Int)} (z : Nat) (hl : l.length ≤ 50) (hH : Holds σ0 2 cP ad l)
    (hb : ∀ p ∈ l, p.1.size ≤ 10000 ∧ -9223372036854775808 ≤ p.2 ∧ p.2 ≤ 9223372036854775807) :
    ∃ ad' z' qb' σ', evCall Tryd.prog env L (k + 2) 26 [.slice ad l.length z] σ = some (.slice ad' l.length z', σ') ∧ Same σ σ' [] ∧ Row cs 1 9 σ' ad' z' qb' (l.reverse.map plc) := by
  obtain ⟨ad', z', qb', σ', e, h1, h2⟩ := refPath_loop L k z (by omega) hH hb L l.length σ σ none 0 [] [] (by omega) (by omega) (by simp; omega) hk (Same.refl _ _) (Row.nil cs 1 9 _) (by simp)
  rw [List.take_length, List.nil_append] at e h2
  rw [List.length_map, List.length_reverse] at e
  refine ⟨ad', z', qb', σ', ?_, h1, h2⟩
  rw [f26_eq, wrap_in _ (by omega) (by omega)]
  exact e
end Go.AM.Fw
