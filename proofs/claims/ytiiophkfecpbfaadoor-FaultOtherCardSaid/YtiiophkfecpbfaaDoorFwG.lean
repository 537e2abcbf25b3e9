/-
  fault.Path: the places of a chain.
-/
import Derived.Test.YtiiophkfecpbfaaDoorFwF
set_option linter.unusedVariables false
set_option linter.unusedSimpArgs false
set_option linter.unusedSectionVars false
namespace Go.AM.Fw
open Go.Proofs
/-- A place's text. -/
def plc (p : ByteArray × Int) : ByteArray := ⟨⟨p.1.data.toList ++ [32] ++ (dg p.2).data.toList⟩⟩
theorem path_loop (L k : Nat) {ad : Option Addr} {z : Nat} {qb ps : List Nat} {l : List (ByteArray × Int)} {σ0 : St} (hL : Lks σ0 ps l) (hR : Row cp 1 30 σ0 ad z qb ps) (hl : l.length ≤ 1000)
    (hb : ∀ p ∈ l, p.1.size ≤ 10000 ∧ -9223372036854775808 ≤ p.2 ∧ p.2 ≤ 9223372036854775807) : ∀ (n i : Nat) (σ : St) (ad2 : Option Addr) (z2 : Nat) (qb2 : List Nat), i ≤ l.length → l.length - i < n →
    Same σ0 σ [] → Row cs 1 9 σ ad2 z2 qb2 ((l.take i).map plc) → (∀ q ∈ qb2, σ0.next ≤ q) →
    ∃ ad' z' qb' σ', lpAt Tryd.prog env L (k + 2) 23 [true, true, false, true] [] n [(3, .slice ad2 i z2), (7, .slice ad l.length z), (8, .int .i64 l.length), (9, .int .i64 i)] σ = some (.slice ad' l.length z', σ') ∧ Same σ0 σ' [] ∧ Row cs 1 9 σ' ad' z' qb' (l.map plc) ∧ (∀ q ∈ qb', σ0.next ≤ q)
  | 0, i, _, _, _, _, _, hn, _, _, _ => by omega
  | n + 1, i, σ, ad2, z2, qb2, hi, hn, hs, hr, hq => by
    rw [f23_l3]
    by_cases hie : i = l.length
    · subst hie
      rw [decide_eq_false (by omega), br_false]
      rw [List.take_length] at hr
      exact ⟨ad2, z2, qb2, σ, rfl, hs, hr, hq⟩
    obtain ⟨q, s, a, y, hp, hx, hg⟩ := (hL.same hs).get i (by omega)
    have hbx := hb (s, a) (List.mem_of_getElem? hx)
    have hR' : Row cp 1 30 σ ad z qb ps := hR.same hs (by simp)
    obtain ⟨q9, e9, hat⟩ := hR'.at (fun _ => rfl) (i := i) (a := q) hp
    have hw : IntKind.wrap .i64 ((i : Int) + 1) = ((i + 1 : Nat) : Int) := by rw [wrap_in _ (by omega) (by omega)]; omega
    have hli : ((l.take i).map plc).length = i := by rw [List.length_map, List.length_take]; omega
    obtain ⟨ad3, z3, qs3, σ3, hgrow, hrow, hs3, hq3⟩ := grow_row (by_ := 16) (hr.same (Same.new σ (.own [.string (plc (s, a))] 9) []) (by simp)) (fun _ => rfl) (fun _ => rfl) (by omega) [plc (s, a)] [Value.string (plc (s, a))] rfl 1 rfl (by rw [hli]; unfold roomTop; omega) (by rw [hli]; unfold sizeTop; omega)
    rw [hli] at hgrow
    have ht : (l.take i).map plc ++ [plc (s, a)] = (l.take (i + 1)).map plc := by rw [List.take_add_one, hx, List.map_append]; rfl
    rw [ht] at hrow
    have hs4 : Same σ0 σ3 [] := (hs.trans (Same.new _ _ _)).fresh hs3 (fun x hx => .inr (hq x hx))
    obtain ⟨ad', z', qb', σ', e, h1, h2, h3⟩ := path_loop L k hL hR hl hb n (i + 1) σ3 ad3 z3 qs3 (by omega) (by omega) hs4 hrow (fun x hx => by
      rcases hq3 x hx with h | h
      · exact hq x h
      · have := hs.1; simp at h; omega)
    refine ⟨ad', z', qb', σ', ?_, h1, h2, h3⟩
    rw [decide_eq_true (by omega), br_true, need_of (by simp [inRange]; omega), e9, adr_some, hat 0 (.pointer (some ⟨q, 0, none⟩)) _ (by omega) rfl (by simp), asP_p, place_spec L k hg hbx.2 (Nat.le_trans hbx.1 (by omega)), bnd_some, asS_s, row_one (get_new_same _ _)]
    rw [← e9, hw]
    exact (hgrow _).trans e
end Go.AM.Fw
namespace Go.AM.Fw
open Go.Proofs
theorem path_spec (L k : Nat) (hL0 : 1000 < L) {σ : St} {v : Value} {c : Int} {l : List (ByteArray × Int)} (h : Ch σ v c l) (hl : l.length ≤ 64) (hb : ∀ p ∈ l, p.1.size ≤ 10000 ∧ -9223372036854775808 ≤ p.2 ∧ p.2 ≤ 9223372036854775807) :
    ∃ ad z qb σ', evCall Tryd.prog env L (k + 3) 23 [v] σ = some (.slice ad l.length z, σ') ∧ Row cs 1 9 σ' ad z qb (l.map plc) ∧ Same σ σ' [] ∧ (∀ q ∈ qb, σ.next ≤ q) := by
  obtain ⟨ad, z, qb, σ1, ps, e, hLk, hR, hpl, hs⟩ := faults_spec L k hL0 h hl
  obtain ⟨ad', z', qb', σ2, e2, s2, r2, q2⟩ := path_loop L k hLk hR (by omega) hb L 0 σ1 none 0 [] (by omega) (by omega) (Same.refl _ _) (Row.nil cs 1 9 _) (by simp)
  refine ⟨ad', z', qb', σ2, ?_, r2, hs.trans s2, fun q hq => by have := q2 q hq; have := hs.1; omega⟩
  rw [f23_eq, e, bnd_some, asSl_s]
  exact e2
end Go.AM.Fw
