/-
  WindowLossy: the whole.
-/
import Derived.Test.YtmmjibadpdbkaaaWinH
set_option linter.unusedVariables false
set_option linter.unusedSimpArgs false
namespace Go.AM
open Go.Proofs

def c2s (p : Small × Small) : List Value := [.int .i64 p.1.1, .int .i64 p.2.1]

theorem lossy {σ0 : St} {ad0 : Option Addr} {script : List (Small × Small)} (hH : Holds σ0 2 c2s ad0 script) : ∃ σ', evCall Try.prog env 10000 10 5 [.slice ad0 script.length 0] σ0 = some (.bool true, σ') := by
  rw [f5_eq]
  obtain ⟨σ1, g1, hs1⟩ := awake_spec 10000 5 (by omega) σ0
  rw [g1, bnd_some, asB_b, show (!true) = false from rfl, br_false]
  by_cases hl : script.length > 400
  · obtain ⟨σ2, g2, _⟩ := awake_spec 10000 5 (by omega) σ1
    rw [decide_eq_true (by omega), br_true, g2, bnd_some, asB_b]
    exact ⟨σ2, rfl⟩
  · rw [decide_eq_false (by omega), br_false]
    generalize hσ2 : σ1.new (Blk.own [Value.slice none 0 0, Value.int IntKind.i64 0, Value.int IntKind.i64 0] 35) = σ2
    generalize hσ3 : σ2.new (Blk.own [Value.slice none 0 0] 27) = σ3
    have hs2 : Same σ1 σ2 [] := by rw [← hσ2]; exact Same.new _ _ _
    have hs3 : Same σ2 σ3 [] := by rw [← hσ3]; exact Same.new _ _ _
    have hn2 : σ2.next = σ1.next + 1 := by rw [← hσ2]; rfl
    have hn3 : σ3.next = σ2.next + 1 := by rw [← hσ3]; rfl
    have hs := (hs1.trans hs2).trans hs3
    have hS : Send σ3 σ1.next [] (thr 0) (0 : Nat) (0 : Nat) := ⟨⟨none, 0, by rw [← hσ3, get_new (by omega), ← hσ2, get_new_same]; rfl, ⟨by simp, .inl ⟨rfl, rfl, rfl, rfl⟩⟩⟩, by omega, by simp⟩
    have hR : Recv σ3 σ2.next [] (thr 0) := ⟨⟨none, 0, by rw [← hσ3, get_new_same]; rfl, ⟨by simp, .inl ⟨rfl, rfl, rfl, rfl⟩⟩⟩, by omega, by simp⟩
    have h1n := hs1.1
    have hI : Lossy σ0 σ3 σ1.next σ2.next none 0 [] none 0 [] 0 0 0 0 :=
      ⟨⟨hs.1, fun k hk => hs.2 k hk (by simp)⟩, ⟨fun q => if q < σ0.next then 9 else if q = σ1.next then 0 else 1, [], [], [], [], hS, hR, ⟨by simp, .inl ⟨rfl, rfl, rfl, rfl⟩⟩, ⟨by simp, .inl ⟨rfl, rfl, rfl, rfl⟩⟩,
        by show (if σ1.next < σ0.next then 9 else if σ1.next = σ1.next then 0 else 1) = 0; rw [if_neg (by omega), if_pos rfl], by show (if σ2.next < σ0.next then 9 else if σ2.next = σ1.next then 0 else 1) = 1; rw [if_neg (by omega), if_neg (by omega)], by simp, by simp, by simp, by simp, fun q hq => by simp only []; rw [if_pos hq]⟩, by simp, by simp, by omega, by omega, by omega, by omega⟩
    have hH2 : Holds σ0 2 c2 ad0 (script.map fun p => (p.1.1, p.2.1)) := by
      intro hne
      obtain ⟨q, vs, c1, c2, c3, c4, c5⟩ := hH (fun h => hne (by rw [h]; rfl))
      refine ⟨q, vs, c1, c2, c3, by simpa using c4, fun i a hi j v hj hv => ?_⟩
      rw [List.getElem?_map, Option.map_eq_some_iff] at hi
      obtain ⟨b, hb, rfl⟩ := hi
      exact c5 i b hb j v hj hv
    have := lossy_loop 10000 7 (by omega) (by rw [List.length_map]; omega) hH2 (fun p hp => by obtain ⟨b, _, rfl⟩ := List.mem_map.1 hp; exact b.2.2) 10000 0 σ3 σ1.next σ2.next none 0 [] none 0 [] 0 0 0 0 (by omega) (by rw [List.length_map]; omega) (by omega) (by simp) (by simp) hI
    rw [List.length_map] at this
    obtain ⟨σ', h⟩ := this
    exact ⟨σ', by simpa using h⟩

end Go.AM
