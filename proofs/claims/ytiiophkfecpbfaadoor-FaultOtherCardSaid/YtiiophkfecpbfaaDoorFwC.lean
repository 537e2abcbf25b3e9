/-
  fault.faults: all faults of an error, the outermost one first, for chains of any length.
-/
import Derived.Test.YtiiophkfecpbfaaDoorFwB
set_option linter.unusedVariables false
set_option linter.unusedSimpArgs false
set_option linter.unusedSectionVars false
namespace Go.AM.Fw
open Go.Proofs

def cp (q : Nat) : List Value := [.pointer (some ⟨q, 0, none⟩)]
/-- The blocks of a chain's faults, the outermost one first. -/
inductive Lks (σ : St) : List Nat → List (ByteArray × Int) → Prop
  | nil : Lks σ [] []
  | cons (q : Nat) (s : ByteArray) (n : Int) (y : Value) (ps : List Nat) (l : List (ByteArray × Int)) : σ.get q = some (.own [.string s, .int .i64 n, y] 32) → q < σ.next → Lks σ ps l → Lks σ (q :: ps) ((s, n) :: l)
theorem Lks.same {σ σ' : St} {ps : List Nat} {l : List (ByteArray × Int)} (h : Lks σ ps l) (hs : Same σ σ' []) : Lks σ' ps l := by
  induction h with
  | nil => exact .nil
  | cons q s n y ps l hg hq _ ih => exact .cons q s n y ps l (by rw [hs.2 q hq (by simp)]; exact hg) (by have := hs.1; omega) ih

theorem as_flt {σ : St} {q t : Nat} {old : Value} (ht : σ.get t = some (.own [old] 30)) : Td.asG [.iface 30 (.pointer (some ⟨q, 0, none⟩)), .iface 43 (.pointer (some ⟨t, 0, none⟩))] σ = some (.bool true, σ.set t (.own [.pointer (some ⟨q, 0, none⟩)] 30)) := by
  simp only [Td.asG, ht]
  rw [if_pos (by simp), if_pos (by simp)]
  exact put_own _ ht (by simp) rfl
theorem as_no {σ : St} {c : Int} {t : Nat} {old : Value} (ht : σ.get t = some (.own [old] 30)) : Td.asG [.iface 23 (.int .i64 c), .iface 43 (.pointer (some ⟨t, 0, none⟩))] σ = some (.bool false, σ) := by
  simp only [Td.asG, ht]
  rw [if_pos (by simp), if_neg (by simp), if_pos (by simp)]

theorem faults_loop (L k : Nat) {σ0 : St} {t : Nat} (ht0 : σ0.next ≤ t) {v : Value} {c : Int} {l : List (ByteArray × Int)} (h : Ch σ0 v c l) : ∀ (n : Nat) (σ : St) (ad : Option Addr) (z : Nat) (qb acc : List Nat) (old : Value), l.length < n → acc.length + l.length ≤ 1000 →
    Kept' σ0.next σ0 σ → σ.get t = some (.own [old] 30) → t < σ.next → Row cp 1 30 σ ad z qb acc → (∀ q ∈ qb, σ0.next ≤ q ∧ q < σ.next ∧ q ≠ t) →
    ∃ ad' z' qb' σ' ps, lpAt Tryd.prog env L (k + 1) 29 [true, true, true, false] [] n [(0, v), (3, .slice ad acc.length z), (4, .pointer (some ⟨t, 0, none⟩))] σ = some (.slice ad' (acc ++ ps).length z', σ') ∧ Lks σ0 ps l ∧ Row cp 1 30 σ' ad' z' qb' (acc ++ ps) ∧ Kept' σ0.next σ0 σ' ∧ (∀ q ∈ qb', σ0.next ≤ q ∧ q < σ'.next) := by
  induction h with
  | num c hc =>
    intro n σ ad z qb acc old hn hlen hk ht htn hr hq
    obtain ⟨m, rfl⟩ : ∃ m, n = m + 1 := ⟨n - 1, by omega⟩
    rw [f29_l3, as_prim, as_no ht, bnd_some, asB_b, br_false]
    exact ⟨ad, z, qb, σ, [], by rw [List.append_nil], .nil, by rw [List.append_nil]; exact hr, hk, fun q hx => ⟨(hq q hx).1, (hq q hx).2.1⟩⟩
  | flt q s a y c l hg hqn hy ih =>
    intro n σ ad z qb acc old hn hlen hk ht htn hr hq
    obtain ⟨m, rfl⟩ : ∃ m, n = m + 1 := ⟨n - 1, by omega⟩
    simp only [List.length_cons] at hn hlen
    rw [f29_l3, as_prim, as_flt ht, bnd_some, asB_b, br_true, asP_p, adr_some]
    generalize hσ2 : σ.set t (.own [.pointer (some ⟨q, 0, none⟩)] 30) = σ2
    have hs2 : Same σ σ2 [t] := by rw [← hσ2]; exact Same.set _ _ _
    have ht2 : σ2.get t = some (.own [.pointer (some ⟨q, 0, none⟩)] 30) := by rw [← hσ2, get_set_same]
    have hk2 := hk.step hs2 (by simpa using ht0)
    have hr2 := hr.same hs2 (fun x hx => by simpa using (hq x hx).2.2)
    rw [ld_own _ ht2 (v := .pointer (some ⟨q, 0, none⟩)) rfl, asP_p, show (!(some (⟨q, 0, none⟩ : Addr)).isNone) = true from rfl, br_true, asP_p, adr_some, ld_own _ ht2 (v := .pointer (some ⟨q, 0, none⟩)) rfl, asP_p]
    generalize hσ3 : σ2.new (Blk.own [Value.pointer (some ⟨q, 0, none⟩)] 30) = σ3
    have hs3 : Same σ2 σ3 [] := by rw [← hσ3]; exact Same.new _ _ _
    have ht3 : σ3.get σ2.next = some (Blk.own [Value.pointer (some ⟨q, 0, none⟩)] 30) := by rw [← hσ3, get_new_same]
    rw [row_one ht3]
    have hr3 := hr2.same hs3 (by simp)
    obtain ⟨ad', z', qs, σ4, hgrow, hrow, hs4, hq4⟩ := grow_row (by_ := 8) hr3 (fun _ => rfl) (fun _ => rfl) (by omega) [q] [Value.pointer (some ⟨q, 0, none⟩)] rfl 1 rfl (by unfold roomTop; omega) (by unfold sizeTop; omega)
    have hk3 := hk2.step hs3 (by simp)
    have hk4 := hk3.step hs4 (fun x hx => (hq x hx).1)
    have n2 : σ2.next = σ.next := by rw [← hσ2]; rfl
    have n3 : σ3.next = σ2.next + 1 := by rw [← hσ3]; rfl
    have ht4 : σ4.get t = some (.own [.pointer (some ⟨q, 0, none⟩)] 30) := by
      rw [hs4.2 t (by omega) (fun hx => (hq t hx).2.2 rfl), hs3.2 t (by omega) (by simp)]; exact ht2
    have hg4 : σ4.get q = some (.own [.string s, .int .i64 a, y] 32) := by rw [hk4.2 q hqn]; exact hg
    have htn4 : t < σ4.next := by have := hs4.1; omega
    have hq4' : ∀ x ∈ qs, σ0.next ≤ x ∧ x < σ4.next ∧ x ≠ t := fun x hx => by
      have hlt := hrow.lt x hx
      rcases hq4 x hx with h | h
      · exact ⟨(hq x h).1, hlt, (hq x h).2.2⟩
      · exact ⟨by omega, hlt, by omega⟩
    obtain ⟨ad5, z5, qb5, σ5, ps, e5, hL, hR, hK, hQ⟩ := ih m σ4 ad' z' qs (acc ++ [q]) _ (by omega) (by simp; omega) hk4 ht4 htn4 hrow hq4'
    refine ⟨ad5, z5, qb5, σ5, q :: ps, ?_, .cons q s a y ps l hg hqn hL, by simpa using hR, hK, hQ⟩
    rw [hgrow, asP_p, adr_some, ld_own _ ht4 (v := .pointer (some ⟨q, 0, none⟩)) rfl, asP_p, adr_some, ld_own _ hg4 (v := y) rfl]
    rw [List.length_append] at e5
    rw [show acc ++ q :: ps = (acc ++ [q]) ++ ps by simp]
    exact e5

theorem faults_spec (L k : Nat) (hL : 1000 < L) {σ : St} {v : Value} {c : Int} {l : List (ByteArray × Int)} (h : Ch σ v c l) (hl : l.length ≤ 64) :
    ∃ ad z qb σ' ps, evCall Tryd.prog env L (k + 2) 29 [v] σ = some (.slice ad l.length z, σ') ∧ Lks σ' ps l ∧ Row cp 1 30 σ' ad z qb ps ∧ ps.length = l.length ∧ Same σ σ' [] := by
  have hlen : ∀ {ps : List Nat} {l : List (ByteArray × Int)}, Lks σ ps l → ps.length = l.length := by
    intro ps l h
    induction h with
    | nil => rfl
    | cons q s n y ps l _ _ _ ih => simp [ih]
  rw [f29_eq]
  obtain ⟨ad, z, qb, σ', ps, e, hL', hR, hK, hQ⟩ := faults_loop L k (Nat.le_refl _) h L (σ.new (Blk.own [Value.pointer none] 30)) none 0 [] [] _ (by omega) (by simp; omega) ⟨by simp, fun x hx => get_new (by omega)⟩ (get_new_same _ _) (by simp) (Row.nil cp 1 30 _) (by simp)
  have hs : Same σ σ' [] := ⟨hK.1, fun x hx _ => hK.2 x hx⟩
  rw [List.nil_append] at e hR
  rw [hlen hL'] at e
  exact ⟨ad, z, qb, σ', ps, e, hL'.same hs, hR, hlen hL', hs⟩
end Go.AM.Fw
