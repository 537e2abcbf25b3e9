/-
  WINDOW over texts: Ack, List; the document's sender.
-/
import Derived.Test.YtmmjibadpdbkaaaDoorWpC
import Derived.Test.YtmmjibadpdbkaaaDoorAm20
set_option linter.unusedVariables false
set_option linter.unusedSimpArgs false
set_option linter.unusedSectionVars false
namespace Go.AM.Wp.S
open Go.Proofs Go.RowKit

theorem wrap_w (L k : Nat) (σ : St) (n : Int) : evCall Tryd.prog env L (k + 1) 27 [.string ⟨#[119, 105, 110, 100, 111, 119]⟩, .int .i64 n, .iface 30 (.int .i64 5)] σ =
    some (.iface 81 (.pointer (some ⟨σ.next, 0, none⟩)), σ.new (.own [.string ⟨#[119, 105, 110, 100, 111, 119]⟩, .int .i64 n, .iface 30 (.int .i64 5)] 83)) := by kernel_rfl
theorem err_w (σ : St) (n : Int) : Err (σ.new (.own [.string ⟨#[119, 105, 110, 100, 111, 119]⟩, .int .i64 n, .iface 30 (.int .i64 5)] 83)) (.iface 81 (.pointer (some ⟨σ.next, 0, none⟩))) 5 n := ⟨_, rfl, get_new_same _ _, by simp⟩

theorem ack_spec (L k : Nat) {σ : St} {a : Nat} {qs : List Nat} {l : List ByteArray} {sent acked : Nat} (hS : Send σ a qs l sent acked) (n : Int) :
    (0 ≤ n ∧ n ≤ sent ∧ ∃ σ', evCall Tryd.prog env L (k + 2) 11 [.pointer (some ⟨a, 0, none⟩), .int .i64 n] σ = some (.nilIface, σ') ∧ Send σ' a qs l sent (max acked n.toNat : Nat) ∧ Same σ σ' [a]) ∨
    (¬ (0 ≤ n ∧ n ≤ sent) ∧ ∃ v σ', evCall Tryd.prog env L (k + 2) 11 [.pointer (some ⟨a, 0, none⟩), .int .i64 n] σ = some (v, σ') ∧ Err σ' v 5 n ∧ Same σ σ' []) := by
  obtain ⟨ad, z, hg, hrow⟩ := hS.ex
  rw [f11_eq]
  by_cases h0 : n < 0
  · rw [decide_eq_true h0, br_true, wrap_w L k, bnd_some]
    exact .inr ⟨by omega, _, _, rfl, err_w σ n, Same.new _ _ _⟩
  rw [decide_eq_false h0, br_false, ld_own _ hg (v := .int .i64 sent) rfl, asI_i]
  by_cases h1 : n > (sent : Int)
  · rw [decide_eq_true h1, br_true, wrap_w L k, bnd_some]
    exact .inr ⟨by omega, _, _, rfl, err_w σ n, Same.new _ _ _⟩
  obtain ⟨m, rfl⟩ := Int.eq_ofNat_of_zero_le (by omega : 0 ≤ n)
  have hm : mx (acked : Int) (m : Int) = ((max acked m : Nat) : Int) := by unfold mx; split <;> omega
  rw [decide_eq_false h1, br_false, ld_own _ hg (v := .int .i64 acked) rfl, asI_i, hm, put_int hg 2 _ _ (by simp)]
  refine .inl ⟨by omega, by omega, _, rfl, ⟨⟨ad, z, by rw [get_set_same]; rfl, hrow.same (Same.set _ _ _) (fun q hq => by simp; rintro rfl; exact hS.ne hq)⟩, by simpa using hS.lt, hS.ne⟩, Same.set _ _ _⟩

theorem list_spec (L k : Nat) {σ : St} {a : Nat} {qs : List Nat} {l : List ByteArray} (hR : Recv σ a qs l) (hl : l.length ≤ 1000000) :
    ∃ ad' z' qs' σ', evCall Tryd.prog env L (k + 2) 13 [.pointer (some ⟨a, 0, none⟩)] σ = some (.slice ad' l.length z', σ') ∧ Row cS 1 9 σ' ad' z' qs' l ∧ Same σ σ' [] ∧ ∀ q ∈ qs', σ.next ≤ q := by
  obtain ⟨ad, z, hg, hrow⟩ := hR.ex
  rw [f13_eq, ld_own _ hg (v := .slice ad l.length z) rfl, asSl_s, f28_eq]
  rcases hrow.is with ⟨e1, e2, _⟩ | ⟨q, rest, e0, e1, e2, e3⟩
  · subst e1; subst e2
    exact ⟨none, 0, [], σ, rfl, ⟨by simp, .inl ⟨rfl, rfl, rfl, rfl⟩⟩, Same.refl _ _, by simp⟩
  · rw [e1, show (some (⟨q, 0, none⟩ : Addr)).isNone = false from rfl, br_false, ← e1]
    generalize hσ2 : σ.new (Blk.own [] 9) = σ2
    have hs : ∀ S, Same σ σ2 S := fun S => by rw [← hσ2]; exact Same.new _ _ _
    have hR2 := hrow.same (hs []) (fun _ _ => by simp)
    rw [hR2.read cS_len (l.length * 1) rfl]
    have hE : Row cS 1 9 σ2 (some ⟨σ.next, 0, none⟩) 1 [σ.next] [] := ⟨by rw [← hσ2]; simp, .inr ⟨_, [], rfl, rfl, rfl, by rw [← hσ2, get_new_same]; rfl⟩⟩
    obtain ⟨ad', z', qs', σ3, hgrow, hrow3, hs3, hq3⟩ := grow_row (by_ := 16) hE cS_len cS_one (by omega) l (l.flatMap cS) rfl l.length rfl (by unfold roomTop; simp; omega) (by unfold sizeTop; simp; omega)
    have hgrow2 := hgrow
    simp only [List.length_nil, Nat.zero_add] at hgrow2
    rw [hgrow2, bnd_some, asSl_s]
    refine ⟨ad', z', qs', σ3, rfl, by simpa using hrow3, (hs []).fresh hs3 (fun x hx => .inr (by simp at hx; omega)), fun q' hq' => ?_⟩
    rcases hq3 q' hq' with h | h
    · simp at h; omega
    · have := (hs []).1; omega

/-- The document's sender. -/
structure RSend (σ : St) (b : Nat) (qs : List Nat) (l : List ByteArray) (sent acked : Nat) : Prop where
  ex : ∃ ad z, σ.get b = some (.own [.slice ad l.length z, .int .i64 sent, .int .i64 acked] 47) ∧ Row cS 1 9 σ ad z qs l
  lt : b < σ.next
  ne : b ∉ qs
theorem RSend.same {σ σ' : St} {b : Nat} {qs : List Nat} {l : List ByteArray} {sent acked : Nat} {S : List Nat} (h : RSend σ b qs l sent acked) (hs : Same σ σ' S) (hb : b ∉ S) (hq : ∀ q ∈ qs, q ∉ S) : RSend σ' b qs l sent acked := by
  obtain ⟨ad, z, hg, hrow⟩ := h.ex
  exact ⟨⟨ad, z, by rw [hs.2 b h.lt hb]; exact hg, hrow.same hs hq⟩, by have := hs.1; have := h.lt; omega, h.ne⟩

theorem rack_spec (L k : Nat) {σ : St} {b : Nat} {qs : List Nat} {l : List ByteArray} {sent acked : Nat} (hS : RSend σ b qs l sent acked) (n : Int) :
    (0 ≤ n ∧ n ≤ sent ∧ ∃ σ', evCall Tryd.prog env L (k + 1) 20 [.pointer (some ⟨b, 0, none⟩), .int .i64 n] σ = some (.int .i64 0, σ') ∧ RSend σ' b qs l sent (max acked n.toNat) ∧ Same σ σ' [b]) ∨
    (¬ (0 ≤ n ∧ n ≤ sent) ∧ evCall Tryd.prog env L (k + 1) 20 [.pointer (some ⟨b, 0, none⟩), .int .i64 n] σ = some (.int .i64 5, σ)) := by
  obtain ⟨ad, z, hg, hrow⟩ := hS.ex
  rw [f20_eq]
  by_cases h0 : n < 0
  · rw [decide_eq_true h0, br_true]; exact .inr ⟨by omega, rfl⟩
  rw [decide_eq_false h0, br_false, ld_own _ hg (v := .int .i64 sent) rfl, asI_i]
  by_cases h1 : n > (sent : Int)
  · rw [decide_eq_true h1, br_true]; exact .inr ⟨by omega, rfl⟩
  obtain ⟨m, rfl⟩ := Int.eq_ofNat_of_zero_le (by omega : 0 ≤ n)
  have hm : mx (acked : Int) (m : Int) = ((max acked m : Nat) : Int) := by unfold mx; split <;> omega
  rw [decide_eq_false h1, br_false, ld_own _ hg (v := .int .i64 acked) rfl, asI_i, hm, put_int hg 2 _ _ (by simp)]
  exact .inl ⟨by omega, by omega, _, rfl, ⟨⟨ad, z, by rw [get_set_same]; rfl, hrow.same (Same.set _ _ _) (fun q hq => by simp; rintro rfl; exact hS.ne hq)⟩, by simpa using hS.lt, hS.ne⟩, Same.set _ _ _⟩

end Go.AM.Wp.S
