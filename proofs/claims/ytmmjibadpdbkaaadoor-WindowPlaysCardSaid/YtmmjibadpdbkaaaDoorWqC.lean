/-
  WHAT A PROGRAM THAT DOES NOTHING ANSWERS WRONGLY; the receiver's list.
-/
import Derived.Test.YtmmjibadpdbkaaaDoorWqB
set_option linter.unusedVariables false
set_option linter.unusedSimpArgs false
set_option linter.unusedSectionVars false
namespace Go.AM.Wp.I
open Go.Proofs

theorem awake_spec (L k : Nat) (hL : 2 < L) (σ : St) : ∃ σ', evCall Tryd.prog env L (k + 4) 5 [] σ = some (.bool true, σ') ∧ Same σ σ' [] := by
  rw [f5_eq]
  generalize hσ1 : σ.new (Blk.own [Value.slice none 0 0, Value.int IntKind.i64 0, Value.int IntKind.i64 0] 63) = σ1
  have hs1 : Same σ σ1 [] := by rw [← hσ1]; exact Same.new _ _ _
  have hn1 : σ1.next = σ.next + 1 := by rw [← hσ1]; rfl
  have hS1 : Send σ1 σ.next [] [] (0 : Nat) (0 : Nat) := ⟨⟨none, 0, by rw [← hσ1, get_new_same]; rfl, ⟨by simp, .inl ⟨rfl, rfl, rfl, rfl⟩⟩⟩, by omega, by simp⟩
  obtain ⟨qs2, σ2, g1, hS2, hs2, hq2⟩ := push_spec L (k + 2) hS1 (by simp) 7
  rw [g1, bnd_some, asT_t, show (#[] : Array Value).toList = [] from rfl, endl_n]
  obtain ⟨ad, z, rs, σ3, g3, hR3, hS3, hs3, hq3⟩ := send_spec L (k + 1) hS2 (by simp) (by simp) (Nat.le_refl _) (by simpa using (by omega : 1 < L))
  have e1 : max 0 (min ([] ++ [7] : List Int).length (0 + 4)) - 0 = 1 := rfl
  rw [e1] at g3 hR3
  rw [g3, bnd_some, asSl_s, show (((1 : Nat) : Int) == (1 : Int)) = true from rfl, br_true, need_of (by rfl)]
  have hpk : packs ([] ++ [7]) 0 1 = [((1 : Int), (7 : Int))] := by simp [packs]
  rw [hpk] at hR3
  generalize hσ4 : σ3.new (Blk.own [Value.slice none 0 0] 69) = σ4
  have hs4 : ∀ S, Same σ3 σ4 S := fun S => by rw [← hσ4]; exact Same.new _ _ _
  have hR4 : Row c2 2 71 σ4 ad z rs [((1 : Int), (7 : Int))] := hR3.same (hs4 []) (fun _ _ => by simp)
  obtain ⟨q, eq, hat⟩ := hR4.at c2_len (i := 0) (a := (1, 7)) rfl
  rw [eq, adr_some, hat 0 (.int .i64 1) _ (by omega) rfl rfl, asI_i, show ((1 : Int) == (1 : Int)) = true from rfl, br_true, need_of (by rfl), adr_some, hat 1 (.int .i64 7) _ (by omega) rfl rfl, asI_i, show ((7 : Int) == (7 : Int)) = true from rfl, br_true, need_of (by rfl), adr_some]
  have hblk : ∃ rest, σ4.get q = some (.own ([Value.int .i64 1, Value.int .i64 7] ++ rest) 71) := by
    rcases hR4.is with ⟨_, h, _⟩ | ⟨q', rest, _, h, _, h'⟩
    · cases h
    · rw [eq] at h; cases h; exact ⟨rest, h'⟩
  obtain ⟨rest, hblk⟩ := hblk
  rw [lds_own _ hblk (by simp)]
  have hRv : Recv σ4 σ3.next [] [] := ⟨⟨none, 0, by rw [← hσ4, get_new_same]; rfl, ⟨by simp, .inl ⟨rfl, rfl, rfl, rfl⟩⟩⟩, by rw [← hσ4]; simp, by simp⟩
  obtain ⟨qs5, σ5, g5, hR5, hs5, _⟩ := take_spec L (k + 2) hRv (by simp) 1 7
  rw [show ((List.drop (0 + 0) ([Value.int IntKind.i64 1, Value.int IntKind.i64 7] ++ rest)).take 2) = [Value.int IntKind.i64 1, Value.int IntKind.i64 7] from rfl]
  rw [uncons_c, asI_i, uncons_c, asI_i, endl_n, g5, bnd_some, asI_i]
  refine ⟨σ5, by simp, ?_⟩
  have h12 : Same σ σ2 [] := hs1.fresh hs2 (fun x hx => .inr (by simp at hx; omega))
  have h13 : Same σ σ3 [] := h12.fresh hs3 (fun x hx => .inr (by simp at hx; omega))
  have h14 : Same σ σ4 [] := h13.trans (hs4 [])
  exact h14.fresh hs5 (fun x hx => .inr (by simp at hx; have := h13.1; omega))
end Go.AM.Wp.I
