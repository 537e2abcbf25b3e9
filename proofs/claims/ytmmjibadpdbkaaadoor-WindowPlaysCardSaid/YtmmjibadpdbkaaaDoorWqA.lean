/-
  THE WINDOW's RECEIVER, and what a program that does nothing answers wrongly.
-/
import Derived.Test.YtmmjibadpdbkaaaDoorAm18
import Derived.Test.YtmmjibadpdbkaaaDoorEqWp
set_option linter.unusedVariables false
set_option linter.unusedSimpArgs false
set_option linter.unusedSectionVars false
namespace Go.AM.Wp.I
open Go.Proofs

structure Recv (σ : St) (a : Nat) (qs : List Nat) (l : List Int) : Prop where
  ex : ∃ ad z, σ.get a = some (.own [.slice ad l.length z] 69) ∧ Row c1 1 3 σ ad z qs l
  lt : a < σ.next
  ne : a ∉ qs

theorem take_spec (L k : Nat) {σ : St} {a : Nat} {qs : List Nat} {l : List Int} (hR : Recv σ a qs l) (hl : l.length ≤ 1000000) (s x : Int) :
    ∃ qs' σ', evCall Tryd.prog env L (k + 1) 24 [.pointer (some ⟨a, 0, none⟩), .agg [.int .i64 s, .int .i64 x].toArray] σ = some (.int .i64 (if s = l.length + 1 then l ++ [x] else l).length, σ') ∧
      Recv σ' a qs' (if s = l.length + 1 then l ++ [x] else l) ∧ Same σ σ' (a :: qs) ∧ ∀ q ∈ qs', q ∈ qs ∨ σ.next ≤ q := by
  obtain ⟨ad, z, hg, hrow⟩ := hR.ex
  have hlt := hR.lt
  have hg1 : ∀ b, (σ.new b).get a = some (.own [.slice ad l.length z] 69) := fun b => by rw [get_new (by omega)]; exact hg
  have hw := wrap_in ((l.length : Int) + 1) (by omega) (by omega)
  rw [f24_eq, ld_own _ (get_new_same _ _) (v := .int .i64 s) rfl, asI_i, ld_own _ (hg1 _) (v := .slice ad l.length z) rfl, asSl_s, hw]
  by_cases hs : s = (l.length : Int) + 1
  · have hb : (s == (l.length : Int) + 1) = true := by simpa using hs
    rw [hb, br_true, ld_own _ (hg1 _) (v := .slice ad l.length z) rfl, asSl_s, ld_own _ (get_new_same _ _) (v := .int .i64 x) rfl, asI_i]
    have hg2 : ∀ b b', ((σ.new b).new b').get a = some (.own [.slice ad l.length z] 69) := fun b b' => by rw [get_new (by simp; omega)]; exact hg1 b
    rw [ld_own _ (hg2 _ _) (v := .slice ad l.length z) rfl, asSl_s, chk_same]
    generalize hσ2 : ((σ.new (Blk.own [Value.int IntKind.i64 s, Value.int IntKind.i64 x] 71)).new (Blk.own [Value.int IntKind.i64 x] 3)) = σ2
    have hnew : σ2.get (σ.new (Blk.own [Value.int IntKind.i64 s, Value.int IntKind.i64 x] 71)).next = some (Blk.own [Value.int IntKind.i64 x] 3) := by rw [← hσ2, get_new_same]
    have hsame : ∀ S, Same σ σ2 S := fun S => by rw [← hσ2]; exact (Same.new _ _ _).trans (Same.new _ _ _)
    have hn2 : σ2.next = σ.next + 2 := by rw [← hσ2]; rfl
    have hrow2 : Row c1 1 3 σ2 ad z qs l := hrow.same (hsame []) (fun _ _ => by simp)
    have hread : ∀ K, σ2.row (some ⟨(σ.new (Blk.own [Value.int IntKind.i64 s, Value.int IntKind.i64 x] 71)).next, 0, none⟩) 1 K = K [Value.int .i64 x] := fun K => by
      simp only [St.row, adr_some]
      rw [if_neg (by omega), lds_own _ hnew (by simp)]
      rfl
    rw [hread]
    obtain ⟨ad', z', qs', σ3, hgrow, hrow3, hs3, hq3⟩ := grow_row (by_ := 8) hrow2 c1_len c1_one (by omega) [x] [Value.int .i64 x] rfl 1 rfl (by unfold roomTop; omega) (by unfold sizeTop; omega)
    rw [hgrow]
    have hqa : a ∉ qs := hR.ne
    have hg3 : σ3.get a = some (.own [.slice ad l.length z] 69) := by
      rw [hs3.2 a (by omega) hqa, ← hσ2]; exact hg2 _ _
    rw [put_own _ hg3 (by simp) rfl, ld_own _ (get_set_same _ _ _) (v := .slice ad' (l.length + 1) z') rfl, asSl_s]
    have hq' : ∀ q ∈ qs', q ∈ qs ∨ σ.next ≤ q := fun q hq => by rcases hq3 q hq with h | h; exact .inl h; exact .inr (by omega)
    have hne' : a ∉ qs' := fun h => by rcases hq' a h with h | h; exact hqa h; omega
    refine ⟨qs', _, by rw [if_pos hs, List.length_append]; rfl, ?_, ?_, hq'⟩
    · rw [if_pos hs]
      refine ⟨⟨ad', z', by simp [over], ⟨fun q hq => by simpa using hrow3.lt q hq, ?_⟩⟩, by have := hs3.1; simp; omega, hne'⟩
      rcases hrow3.is with h | ⟨q, rest, e1, e2, e3, e4⟩
      · exact .inl h
      · exact .inr ⟨q, rest, e1, e2, e3, by rw [get_set (fun h => hne' (by rw [e1, ← h]; simp))]; exact e4⟩
    · refine ⟨by have := hs3.1; simp; omega, fun k hk hS => ?_⟩
      simp only [List.mem_cons, not_or] at hS
      rw [get_set hS.1, hs3.2 k (by omega) hS.2, (hsame []).2 k hk (by simp)]
  · have hb : (s == (l.length : Int) + 1) = false := by simpa using hs
    rw [hb, br_false, ld_own _ (hg1 _) (v := .slice ad l.length z) rfl, asSl_s]
    refine ⟨qs, _, by rw [if_neg hs], ?_, Same.new _ _ _, fun q hq => .inl hq⟩
    rw [if_neg hs]
    exact ⟨⟨ad, z, hg1 _, hrow.same (Same.new _ _ []) (by simp)⟩, by simp; omega, hR.ne⟩
end Go.AM.Wp.I
