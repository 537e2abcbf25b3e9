/-
  THE LINK's calls: Double, Deliver.
-/
import Derived.Test.YtopogeimdanbkaaLnB
set_option linter.unusedVariables false
set_option linter.unusedSimpArgs false
namespace Go.AM.Lk
open Go.Proofs

theorem double_spec (L k : Nat) {σ : St} {a : Nat} {qs : List Nat} {l : List Int} {room : Int} (hK : Link σ a qs l room) (hl : l.length ≤ 100000) (i : Int) :
    (∃ x, 0 ≤ i ∧ l[i.toNat]? = some x ∧ (l.length : Int) < room ∧ ∃ qs' σ', evCall Try.prog env L (k + 4) 10 [.pointer (some ⟨a, 0, none⟩), .int .i64 i] σ = some (.nilIface, σ') ∧ Link σ' a qs' (l ++ [x]) room ∧ Same σ σ' (a :: qs) ∧ ∀ q ∈ qs', q ∈ qs ∨ σ.next ≤ q) ∨
    (¬ (0 ≤ i ∧ i < l.length ∧ (l.length : Int) < room) ∧ ∃ v σ', evCall Try.prog env L (k + 4) 10 [.pointer (some ⟨a, 0, none⟩), .int .i64 i] σ = some (.iface 44 v, σ') ∧ Same σ σ' []) := by
  rw [f10_eq]
  rcases there_spec L k hK i with ⟨h0, h1, g1⟩ | ⟨h0, v, σ', g1, g2⟩
  · obtain ⟨ad, z, hg, hrow⟩ := hK.ex
    have hget : l[i.toNat]? = some l[i.toNat] := List.getElem?_eq_getElem (by omega)
    obtain ⟨q, e, hat⟩ := hrow.at c1_len hget
    rw [g1, bnd_some, eqNil_nil, show (!true) = false from rfl, br_false, ld_own _ hg (v := .slice ad l.length z) rfl, asSl_s, need_of (by simp [inRange]; omega), e, adr_some, hat 0 (.int .i64 l[i.toNat]) _ (by omega) rfl (by simp), asI_i]
    rcases put_spec L k hK hl l[i.toNat] i with ⟨w0, qs', σ', w1, w2⟩ | ⟨w0, v, σ', w1, w2⟩
    · rw [w1, bnd_some]; exact .inl ⟨_, h0, hget, w0, qs', σ', rfl, w2⟩
    · rw [w1, bnd_some]; exact .inr ⟨by omega, v, σ', rfl, w2⟩
  · rw [g1, bnd_some, eqNil_iface, show (!false) = true from rfl, br_true]
    exact .inr ⟨by omega, v, σ', rfl, g2⟩

theorem deliver_spec (L k : Nat) {σ : St} {a : Nat} {qs : List Nat} {l : List Int} {room : Int} (hK : Link σ a qs l room) (hl : l.length ≤ 100000) (i : Int) :
    (∃ x, 0 ≤ i ∧ l[i.toNat]? = some x ∧ ∃ σ', evCall Try.prog env L (k + 5) 9 [.pointer (some ⟨a, 0, none⟩), .int .i64 i] σ = some (.tuple #[.int .i64 x, .nilIface], σ') ∧ Link σ' a qs (l.eraseIdx i.toNat) room ∧ Same σ σ' (a :: qs)) ∨
    (¬ (0 ≤ i ∧ i < l.length) ∧ ∃ v σ', evCall Try.prog env L (k + 5) 9 [.pointer (some ⟨a, 0, none⟩), .int .i64 i] σ = some (.tuple #[.int .i64 0, .iface 44 v], σ') ∧ Same σ σ' []) := by
  obtain ⟨ad, z, hg, hrow⟩ := hK.ex
  rw [f9_eq, ld_own _ hg (v := .bool false) rfl, asB_b, br_false]
  rcases there_spec L (k + 1) hK i with ⟨h0, h1, g1⟩ | ⟨h0, v, σ', g1, g2⟩
  · have hget : l[i.toNat]? = some l[i.toNat] := List.getElem?_eq_getElem (by omega)
    obtain ⟨q, e, hat⟩ := hrow.at c1_len hget
    rw [g1, bnd_some, eqNil_nil, show (!true) = false from rfl, br_false, ld_own _ hg (v := .slice ad l.length z) rfl, asSl_s, need_of (by simp [inRange]; omega), e, adr_some, hat 0 (.int .i64 l[i.toNat]) _ (by omega) rfl (by simp), asI_i]
    rcases drop_spec L k hK hl i with ⟨_, _, σ', w1, w2, w3⟩ | ⟨w0, _⟩
    · rw [w1, bnd_some]; exact .inl ⟨_, h0, hget, σ', rfl, w2, w3⟩
    · exact absurd ⟨h0, h1⟩ w0
  · rw [g1, bnd_some, eqNil_iface, show (!false) = true from rfl, br_true]
    exact .inr ⟨by omega, v, σ', rfl, g2⟩

/-- What a program that does nothing answers wrongly. -/
theorem awake_spec (L k : Nat) (σ : St) : ∃ σ', evCall Try.prog env L (k + 6) 5 [] σ = some (.bool true, σ') ∧ Same σ σ' [] := by
  rw [f5_eq]
  obtain ⟨σ1, g1, hK1, hs1⟩ := new_spec L (k + 4) σ 2 (by omega) (by omega)
  rw [g1, bnd_some, asP_p, show (some (⟨σ.next, 0, none⟩ : Addr)).isNone = false from rfl, br_false]
  rcases send_spec L (k + 1) hK1 (by simp) 7 with ⟨_, qs2, σ2, g2, hK2, hs2, hq2⟩ | ⟨h, _⟩
  · rw [g2, bnd_some, eqNil_nil, show (!true) = false from rfl, br_false]
    rcases double_spec L (k + 1) hK2 (by simp) 0 with ⟨x, _, hx, _, qs3, σ3, g3, hK3, hs3, hq3⟩ | ⟨h, _⟩
    · simp at hx
      subst hx
      rw [g3, bnd_some, eqNil_nil, show (!true) = false from rfl, br_false, len_spec L (k + 4) hK3, bnd_some, asI_i]
      have hb : ((((([] : List Int) ++ [7]) ++ [7]).length : Int) != 2) = false := by decide
      rw [hb, br_false]
      rcases deliver_spec L k hK3 (by simp) 1 with ⟨x, _, hx, σ4, g4, hK4, hs4⟩ | ⟨h, _⟩
      · simp at hx
        subst hx
        rw [g4, bnd_some, asT_t, show (#[Value.int .i64 7, Value.nilIface] : Array Value).toList = [Value.int .i64 7, Value.nilIface] from rfl, uncons_c, asI_i, uncons_c, endl_n, show ((7 : Int) == 7) = true from rfl, br_true, eqNil_nil, br_true, len_spec L (k + 4) hK4, bnd_some, asI_i]
        refine ⟨σ4, by simp, ?_⟩
        have h1 := hs1.1
        have f2 : ∀ q ∈ qs2, σ.next ≤ q := fun q hq => by rcases hq2 q hq with h | h; cases h; omega
        have h12 : Same σ σ2 [] := hs1.fresh hs2 (fun x hx => .inr (by simp at hx; omega))
        have h13 : Same σ σ3 [] := h12.fresh hs3 (fun x hx => .inr (by rcases List.mem_cons.1 hx with rfl | hx; exact Nat.le_refl _; exact f2 x hx))
        have f3 : ∀ q ∈ qs3, σ.next ≤ q := fun q hq => by rcases hq3 q hq with h | h; exact f2 q h; have := h12.1; omega
        exact h13.fresh hs4 (fun x hx => .inr (by rcases List.mem_cons.1 hx with rfl | hx; exact Nat.le_refl _; exact f3 x hx))
      · exact absurd (by simp) h
    · exact absurd (by simp) h
  · simp at h

end Go.AM.Lk
