/-
  WHAT A PROGRAM THAT DOES NOTHING ANSWERS WRONGLY; the receiver's list.
-/
import Derived.Test.YtmmjibadpdbkaaaWinB
set_option linter.unusedVariables false
set_option linter.unusedSimpArgs false
namespace Go.AM
open Go.Proofs

theorem awake_spec (L k : Nat) (hL : 2 < L) (σ : St) : ∃ σ', evCall Try.prog env L (k + 4) 8 [] σ = some (.bool true, σ') ∧ Same σ σ' [] := by
  rw [f8_eq]
  generalize hσ1 : σ.new (Blk.own [Value.slice none 0 0, Value.int IntKind.i64 0, Value.int IntKind.i64 0] 35) = σ1
  have hs1 : Same σ σ1 [] := by rw [← hσ1]; exact Same.new _ _ _
  have hn1 : σ1.next = σ.next + 1 := by rw [← hσ1]; rfl
  have hS1 : Send σ1 σ.next [] [] (0 : Nat) (0 : Nat) := ⟨⟨none, 0, by rw [← hσ1, get_new_same]; rfl, ⟨by simp, .inl ⟨rfl, rfl, rfl, rfl⟩⟩⟩, by omega, by simp⟩
  obtain ⟨qs2, σ2, g1, hS2, hs2, hq2⟩ := push_spec L (k + 2) hS1 (by simp) 7
  rw [g1, bnd_some, asT_t, show (#[] : Array Value).toList = [] from rfl, endl_n]
  obtain ⟨ad, z, rs, σ3, g3, hR3, hS3, hs3, hq3⟩ := send_spec L (k + 1) hS2 (by simp) (by simp) (Nat.le_refl _) (by simpa using (by omega : 1 < L))
  have e1 : max 0 (min ([] ++ [7] : List Int).length (0 + 4)) - 0 = 1 := rfl
  rw [e1] at g3 hR3
  rw [g3, bnd_some, asSl_s, show (((1 : Nat) : Int) == (1 : Int)) = true from rfl, br_true, need_of (by rfl)]
  have hpk : packs ([] ++ [7]) 0 1 = [((1 : Int), (7 : Int))] := by simp [packs]
  rw [hpk] at hR3
  generalize hσ4 : σ3.new (Blk.own [Value.slice none 0 0] 27) = σ4
  have hs4 : ∀ S, Same σ3 σ4 S := fun S => by rw [← hσ4]; exact Same.new _ _ _
  have hR4 : Row c2 2 30 σ4 ad z rs [((1 : Int), (7 : Int))] := hR3.same (hs4 []) (fun _ _ => by simp)
  obtain ⟨q, eq, hat⟩ := hR4.at c2_len (i := 0) (a := (1, 7)) rfl
  rw [eq, adr_some, hat 0 (.int .i64 1) _ (by omega) rfl rfl, asI_i, show ((1 : Int) == (1 : Int)) = true from rfl, br_true, need_of (by rfl), adr_some, hat 1 (.int .i64 7) _ (by omega) rfl rfl, asI_i, show ((7 : Int) == (7 : Int)) = true from rfl, br_true, need_of (by rfl), adr_some]
  have hblk : ∃ rest, σ4.get q = some (.own ([Value.int .i64 1, Value.int .i64 7] ++ rest) 30) := by
    rcases hR4.is with ⟨_, h, _⟩ | ⟨q', rest, _, h, _, h'⟩
    · cases h
    · rw [eq] at h; cases h; exact ⟨rest, h'⟩
  obtain ⟨rest, hblk⟩ := hblk
  rw [lds_own _ hblk (by simp)]
  have hRv : Recv σ4 σ3.next [] [] := ⟨⟨none, 0, by rw [← hσ4, get_new_same]; rfl, ⟨by simp, .inl ⟨rfl, rfl, rfl, rfl⟩⟩⟩, by rw [← hσ4]; simp, by simp⟩
  obtain ⟨qs5, σ5, g5, hR5, hs5, _⟩ := take_spec L (k + 2) hRv (by simp) 1 7
  rw [show ((List.drop (0 + 0) ([Value.int IntKind.i64 1, Value.int IntKind.i64 7] ++ rest)).take 2) = [Value.int IntKind.i64 1, Value.int IntKind.i64 7] from rfl]
  rw [uncons_c, asI_i, uncons_c, asI_i, endl_n, g5, bnd_some, asI_i]
  refine ⟨σ5, by simp, ?_⟩
  have h12 : Same σ σ2 [] := hs1.fresh hs2 (fun x hx => .inr (by simp at hx; omega))
  have h13 : Same σ σ3 [] := h12.fresh hs3 (fun x hx => .inr (by simp at hx; omega))
  have h14 : Same σ σ4 [] := h13.trans (hs4 [])
  exact h14.fresh hs5 (fun x hx => .inr (by simp at hx; have := h13.1; omega))

theorem clone_spec (L k : Nat) {σ : St} {ad : Option Addr} {z : Nat} {qs : List Nat} {l : List Int} (hR : Row c1 1 3 σ ad z qs l) (hl : l.length ≤ 1000000) :
    ∃ ad' z' qs' σ', evCall Try.prog env L (k + 1) 21 [.slice ad l.length z] σ = some (.slice ad' l.length z', σ') ∧ Row c1 1 3 σ' ad' z' qs' l ∧ Same σ σ' [] ∧ ∀ q ∈ qs', σ.next ≤ q := by
  rw [f21_eq]
  rcases hR.is with ⟨e1, e2, _⟩ | ⟨q, rest, e0, e1, e2, e3⟩
  · subst e1; subst e2
    exact ⟨none, 0, [], σ, rfl, ⟨by simp, .inl ⟨rfl, rfl, rfl, rfl⟩⟩, Same.refl _ _, by simp⟩
  · rw [e1, show (some (⟨q, 0, none⟩ : Addr)).isNone = false from rfl, br_false, ← e1]
    generalize hσ2 : σ.new (Blk.own [] 3) = σ2
    have hs : ∀ S, Same σ σ2 S := fun S => by rw [← hσ2]; exact Same.new _ _ _
    have hR2 := hR.same (hs []) (fun _ _ => by simp)
    rw [hR2.read c1_len (l.length * 1) rfl]
    have hE : Row c1 1 3 σ2 (some ⟨σ.next, 0, none⟩) 1 [σ.next] [] := ⟨by rw [← hσ2]; simp, .inr ⟨_, [], rfl, rfl, rfl, by rw [← hσ2, get_new_same]; rfl⟩⟩
    obtain ⟨ad', z', qs', σ3, hgrow, hrow3, hs3, hq3⟩ := grow_row (by_ := 8) hE c1_len c1_one (by omega) l (l.flatMap c1) rfl l.length rfl (by unfold roomTop; simp; omega) (by unfold sizeTop; simp; omega)
    have hgrow2 := hgrow
    simp only [List.length_nil, Nat.zero_add] at hgrow2
    rw [hgrow2]
    refine ⟨ad', z', qs', σ3, rfl, by simpa using hrow3, (hs []).fresh hs3 (fun x hx => .inr (by simp at hx; omega)), fun q' hq' => ?_⟩
    rcases hq3 q' hq' with h | h
    · simp at h; omega
    · have := (hs []).1; omega

theorem list_spec (L k : Nat) {σ : St} {a : Nat} {qs : List Nat} {l : List Int} (hR : Recv σ a qs l) (hl : l.length ≤ 1000000) :
    ∃ ad' z' qs' σ', evCall Try.prog env L (k + 2) 10 [.pointer (some ⟨a, 0, none⟩)] σ = some (.slice ad' l.length z', σ') ∧ Row c1 1 3 σ' ad' z' qs' l ∧ Same σ σ' [] ∧ ∀ q ∈ qs', σ.next ≤ q := by
  obtain ⟨ad, z, hg, hrow⟩ := hR.ex
  rw [f10_eq, ld_own _ hg (v := .slice ad l.length z) rfl, asSl_s]
  obtain ⟨ad', z', qs', σ', g1, g2, g3, g4⟩ := clone_spec L k hrow hl
  rw [g1, bnd_some, asSl_s]
  exact ⟨ad', z', qs', σ', rfl, g2, g3, g4⟩

end Go.AM
