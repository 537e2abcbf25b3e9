/-
  LinkCounts: the whole.
-/
import Derived.Test.YtopogeimdanbkaaLnF
set_option linter.unusedVariables false
set_option linter.unusedSimpArgs false
namespace Go.AM.Lk
open Go.Proofs

theorem zeros_own : ∀ n : Nat, (zerosN [Value.int IntKind.i64 0] n).length = n ∧ ∀ v ∈ zerosN [Value.int IntKind.i64 0] n, ∃ m, v = .int .i64 m
  | 0 => ⟨rfl, fun v h => by cases h⟩
  | n + 1 => by
    obtain ⟨h1, h2⟩ := zeros_own n
    refine ⟨by simp [zerosN, h1], fun v hv => ?_⟩
    simp only [zerosN, List.mem_append] at hv
    rcases hv with hv | hv
    · simp at hv; exact ⟨0, hv⟩
    · exact h2 v hv

theorem counts {σ0 : St} {ad0 : Option Addr} {script : List Op} (hH : Holds σ0 4 c4 ad0 script) : ∃ σ', evCall Try.prog env 10000 12 3 [.slice ad0 script.length 0] σ0 = some (.bool true, σ') := by
  rw [f3_eq]
  obtain ⟨σ1, g1, hs1⟩ := awake_spec 10000 5 σ0
  rw [g1, bnd_some, asB_b, show (!true) = false from rfl, br_false]
  obtain ⟨b, g2, hb⟩ := few_spec 10000 10 (by omega) hH ⟨hs1.1, fun k hk => hs1.2 k hk (by simp)⟩
  rw [g2, bnd_some, asB_b]
  cases b with
  | false =>
    obtain ⟨σ2, g3, _⟩ := awake_spec 10000 5 σ1
    rw [show (!false) = true from rfl, br_true, g3, bnd_some, asB_b]
    exact ⟨σ2, rfl⟩
  | true =>
    obtain ⟨σ2, g3, hL, hs2⟩ := new_spec 10000 10 σ1 4096 (by omega) (by omega)
    rw [show (!true) = false from rfl, br_false, g3, bnd_some, asP_p]
    generalize hσ3 : σ2.new (Blk.own (zerosN [Value.int IntKind.i64 0] 400) 3) = σ3
    have hs3 : Same σ2 σ3 [] := by rw [← hσ3]; exact Same.new _ _ _
    have hlt := hL.lt
    have h1n := hs1.1
    have hs := (hs1.trans hs2).trans hs3
    have hz := zeros_own 400
    have hI : Cnt σ0 σ3 σ1.next σ2.next [] 0 := ⟨⟨hs.1, fun k hk => hs.2 k hk (by simp)⟩, ⟨[], _, hL.same hs3 (by simp) (by simp), by rw [← hσ3, get_new_same], hz.1, hz.2, by omega, by simp, by rw [← hσ3]; simp, h1n, by have := hs2.1; omega, by simp⟩, by simp⟩
    obtain ⟨σ9, h9⟩ := counts_loop 10000 6 (hb rfl) hH 10000 0 σ3 [] 0 0 0 (by omega) (by have := hb rfl; omega) (by omega) (by omega) (by omega) (by simp) hI
    exact ⟨σ9, by simpa using h9⟩

end Go.AM.Lk
