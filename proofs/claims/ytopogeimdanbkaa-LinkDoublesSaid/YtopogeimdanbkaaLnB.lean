/-
  THE LINK's calls: Send, Len, Drop.
-/
import Derived.Test.YtopogeimdanbkaaLnA
set_option linter.unusedVariables false
set_option linter.unusedSimpArgs false
namespace Go.AM.Lk
open Go.Proofs

theorem flat_c1 (l : List Int) : l.flatMap c1 = l.map (Value.int .i64) := by
  induction l with
  | nil => rfl
  | cons x l ih => rw [List.flatMap_cons, ih]; rfl

theorem send_spec (L k : Nat) {σ : St} {a : Nat} {qs : List Nat} {l : List Int} {room : Int} (hK : Link σ a qs l room) (hl : l.length ≤ 100000) (x : Int) :
    ((l.length : Int) < room ∧ ∃ qs' σ', evCall Try.prog env L (k + 4) 8 [.pointer (some ⟨a, 0, none⟩), .int .i64 x] σ = some (.nilIface, σ') ∧ Link σ' a qs' (l ++ [x]) room ∧ Same σ σ' (a :: qs) ∧ ∀ q ∈ qs', q ∈ qs ∨ σ.next ≤ q) ∨
    (room ≤ l.length ∧ ∃ v σ', evCall Try.prog env L (k + 4) 8 [.pointer (some ⟨a, 0, none⟩), .int .i64 x] σ = some (.iface 44 v, σ') ∧ Same σ σ' []) := by
  obtain ⟨ad, z, hg, hrow⟩ := hK.ex
  rw [f8_eq, ld_own _ hg (v := .slice ad l.length z) rfl, asSl_s]
  rcases put_spec L k hK hl x l.length with ⟨h0, qs', σ', g1, g2⟩ | ⟨h0, v, σ', g1, g2⟩
  · rw [g1, bnd_some]; exact .inl ⟨h0, qs', σ', rfl, g2⟩
  · rw [g1, bnd_some]; exact .inr ⟨h0, v, σ', rfl, g2⟩

theorem len_spec (L k : Nat) {σ : St} {a : Nat} {qs : List Nat} {l : List Int} {room : Int} (hK : Link σ a qs l room) :
    evCall Try.prog env L (k + 1) 12 [.pointer (some ⟨a, 0, none⟩)] σ = some (.int .i64 l.length, σ) := by
  obtain ⟨ad, z, hg, hrow⟩ := hK.ex
  rw [f12_eq, ld_own _ hg (v := .slice ad l.length z) rfl, asSl_s]

theorem drop_spec (L k : Nat) {σ : St} {a : Nat} {qs : List Nat} {l : List Int} {room : Int} (hK : Link σ a qs l room) (hl : l.length ≤ 100000) (i : Int) :
    (0 ≤ i ∧ i < l.length ∧ ∃ σ', evCall Try.prog env L (k + 4) 11 [.pointer (some ⟨a, 0, none⟩), .int .i64 i] σ = some (.nilIface, σ') ∧ Link σ' a qs (l.eraseIdx i.toNat) room ∧ Same σ σ' (a :: qs)) ∨
    (¬ (0 ≤ i ∧ i < l.length) ∧ ∃ v σ', evCall Try.prog env L (k + 4) 11 [.pointer (some ⟨a, 0, none⟩), .int .i64 i] σ = some (.iface 44 v, σ') ∧ Same σ σ' []) := by
  rw [f11_eq]
  rcases there_spec L k hK i with ⟨h0, h1, g1⟩ | ⟨h0, v, σ', g1, g2⟩
  · refine .inl ⟨h0, h1, ?_⟩
    obtain ⟨ad, z, hg, hrow⟩ := hK.ex
    obtain ⟨I, hI⟩ := Int.eq_ofNat_of_zero_le h0
    subst hI
    have hIl : I < l.length := by omega
    rcases hrow.is with ⟨_, e2, _⟩ | ⟨q, rest, e0, e1, e2, e3⟩
    · subst e2; simp at hIl
    · have hqa : q ≠ a := fun h => hK.ne (by rw [e0, ← h]; simp)
      rw [g1, bnd_some, eqNil_nil, show (!true) = false from rfl, br_false, ld_own _ hg (v := .slice ad l.length z) rfl, asSl_s, need_of (by rw [e2]; rfl), need_of (by simp [inRange]; omega), ld_own _ hg (v := .slice ad l.length z) rfl, asSl_s, need_of (by rw [e2]; rfl), wrap_in ((I : Int) + 1) (by omega) (by omega), need_of (by simp [inRange]; omega)]
      have hk1 : ((I : Int) + 1).toNat = I + 1 := by omega
      have hk2 : (I : Int).toNat = I := by omega
      rw [hk1, hk2, show min (l.length - (I + 1)) (l.length - I) = l.length - (I + 1) by omega, e1]
      have hF := flat_c1 l
      have hFl : (l.flatMap c1).length = l.length := by rw [hF]; simp
      -- the copy
      obtain ⟨σ1, hcp, hq1, hs1⟩ : ∃ σ1, (∀ K : St → Res, cpy 1 (subA (some ⟨q, 0, none⟩) (I * 1)) (subA (some ⟨q, 0, none⟩) ((I + 1) * 1)) (l.length - (I + 1)) σ K = K σ1) ∧ (∃ rest', σ1.get q = some (.own ((l.eraseIdx I).flatMap c1 ++ rest') 3)) ∧ Same σ σ1 [q] := by
        have her : (l.eraseIdx I).flatMap c1 = (l.flatMap c1).take I ++ (l.flatMap c1).drop (I + 1) := by
          rw [hF, flat_c1, List.eraseIdx_eq_take_drop_succ, List.map_append, List.map_take, List.map_drop]
        by_cases hz : l.length - (I + 1) = 0
        · refine ⟨σ, fun K => by simp [cpy, hz], ⟨(l.flatMap c1).drop I ++ rest, ?_⟩, Same.refl _ _⟩
          rw [e3, her, List.drop_of_length_le (by omega : (l.flatMap c1).length ≤ I + 1), List.append_nil, ← List.append_assoc, List.take_append_drop]
        · have hnew : (((l.flatMap c1 ++ rest).drop (I + 1)).take (l.length - (I + 1))) = (l.flatMap c1).drop (I + 1) := by
            rw [List.drop_append_of_le_length (by omega), List.take_left' (by rw [List.length_drop, hFl])]
          have hone : ((l.flatMap c1).drop (I + 1)).all oneCell = true := by
            rw [List.all_eq_true]
            intro x hx
            have h9 := List.mem_of_mem_drop hx
            rw [hF] at h9
            obtain ⟨n, _, rfl⟩ := List.mem_map.1 h9
            rfl
          refine ⟨σ.set q (.own (over (l.flatMap c1 ++ rest) I ((l.flatMap c1).drop (I + 1))) 3), fun K => ?_, ⟨(l.flatMap c1 ++ rest).drop (I + ((l.flatMap c1).drop (I + 1)).length), ?_⟩, ⟨by simp, fun k hk hS => get_set (by simpa using hS)⟩⟩
          · simp only [cpy, Nat.mul_one, hz, if_false, subA, adr_some, Nat.zero_add]
            rw [lds_own _ e3 (by rw [List.length_append]; omega), hnew, put_own _ e3 (by rw [List.length_drop, List.length_append, hFl]; omega) hone]
          · rw [get_set_same, her, over, List.take_append_of_le_length (by omega)]
      obtain ⟨rest', hq1⟩ := hq1
      rw [hcp]
      have hg1 : σ1.get a = some (.own [.slice ad l.length z, .int .i64 room, .bool false] 39) := by rw [hs1.2 a hK.lt (by simp; exact fun h => hqa h.symm)]; exact hg
      rw [ld_own _ hg1 (v := .slice ad l.length z) rfl, asSl_s, need_of (by rw [e2]; rfl)]
      rw [wrap_in ((I : Int) + ((l.length - (I + 1) : Nat) : Int)) (by omega) (by omega), need_of (by simp [inRange]; omega), put_own _ hg1 (by simp) rfl]
      refine ⟨_, rfl, ⟨⟨some ⟨q, 0, none⟩, z, ?_, ⟨fun q' hq' => by have := hrow.lt q' hq'; have := hs1.1; simp; omega, .inr ⟨q, rest', e0, rfl, e2, by rw [get_set hqa]; exact hq1⟩⟩⟩, by have := hs1.1; have := hK.lt; simp; omega, hK.ne⟩, ?_⟩
      · rw [get_set_same]
        have hlen : (l.eraseIdx I).length = ((I : Int) + ((l.length - (I + 1) : Nat) : Int)).toNat - 0 := by rw [List.length_eraseIdx_of_lt hIl]; omega
        rw [hlen, e1]
        rfl
      · refine ⟨by have := hs1.1; simp; omega, fun k hk hS => ?_⟩
        simp only [List.mem_cons, not_or] at hS
        rw [get_set hS.1, hs1.2 k hk (by simp; rintro rfl; exact hS.2 (by rw [e0]; simp))]
  · rw [g1, bnd_some, eqNil_iface, show (!false) = true from rfl, br_true]
    exact .inr ⟨h0, v, σ', rfl, g2⟩

end Go.AM.Lk
