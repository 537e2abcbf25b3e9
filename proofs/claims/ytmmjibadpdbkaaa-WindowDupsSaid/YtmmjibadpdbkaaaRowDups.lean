/-
  WindowDups: for every list of small numbers, a fresh receiver that takes the packets which these numbers name answers each time how many it has taken in order, and holds in the end the squares of the first numbers, each once. No condition: the list may be nil, empty, of any length.
-/
import Derived.Test.YtmmjibadpdbkaaaRows
import Derived.Test.YtmmjibadpdbkaaaWinD
import Derived.Test.YtmmjibadpdbkaaaOkW
set_option linter.unusedVariables false
set_option linter.unusedSimpArgs false
namespace Go.Proofs.Ytmmjibadpdbkaaa.windowDups
open Go Go.Proofs Go.ChangeShapes Go.WideShapes Go.ChangeAt Go.RowKit
theorem own : ownKnob Try.prog.godebug = none := by kernel_rfl
theorem laidOut : laidOutB Try.prog = true := by kernel_rfl
set_option maxRecDepth 100000 in
theorem lifted (os : Os) (started : os.Started) (H : Type) (enc : TypeId × Value → H) :
    ReturnsInHanded {} Try.checked os 3 .any (Rows.windowDupsSpec.pre6 enc Try.prog Try.f3 Rows.windowDupsRow.domain false) (Rows.windowDupsSpec.post enc Try.prog Try.f3 false true false false) := by
  refine returnsInHanded_of_change_sized (C := Try.checked) own started (by kernel_rfl) Try.func3
    (ChangeSpec.witness6 (enc := enc) (C := Try.checked) false ⟨#[], #[.slice none 0 0], []⟩ 8 (by kernel_rfl) (by kernel_rfl) (by kernel_rfl) (by kernel_rfl)) ?_
  intro W base args ds gs before hval0 hW hcnd hsz0 _
  have hval : ∀ (j : Nat) t v, Try.f3.params[j]? = some t → args[j]? = some v → Value.okWide Try.prog W .any base t v := hval0
  have hW' := hW
  obtain ⟨p, q, hA0, hV, rfl, hfz, hnd⟩ := hW
  have hA : DataW.TrodAll enc Try.prog W 0 (fun _ => true) true Try.f3.params.toList args.toList ds p := hA0
  rw [Try.params3] at hA hval
  obtain ⟨v0, vs0, d0, ds0, p0, q0, hargs, rfl, rfl, h0, r0⟩ := trodAll_cons hA
  obtain ⟨rfl, rfl, rfl⟩ := trodAll_nil r0
  obtain rfl : args = #[v0] := by cases args; simp_all
  obtain ⟨rfl, rfl⟩ := trodVars_none hV
  have lt0 : ∀ x ∈ p0, x.block < W.heap.size := by obtain ⟨m, hm⟩ := h0; exact DataW.trod_lt m _ _ _ hm
  have o0 := hval 0 22 v0 rfl rfl
  have g0 := AM.open_slice (ads := AM.adrs [v0]) (k := 5) Try.underlying22 (by kernel_rfl) (of_decide_eq_true (by kernel_rfl)) o0 h0 (fun a n c e => by subst e; simp [AM.adrs])
  obtain ⟨l0, a0, e0, _, b0⟩ := AM.Img.holds (sz := 1) (α := { n : Int // 0 ≤ n ∧ n ≤ 255 }) Try.underlying22 g0.2 (fun n => [Value.int .u8 n.1]) (fun row hr => by
    obtain ⟨n, e, hw⟩ := AM.Img.int_inv Try.underlying5 hr
    exact ⟨⟨n, by simpa [Lit.wf, IntKind.min, IntKind.max, IntKind.bits, IntKind.signed] using hw⟩, e⟩) (fun _ => rfl) (by kernel_rfl)
  have hH : AM.Holds (AM.stOf (AM.adrs [v0]) W) 1 (fun n => [Value.int .u8 n]) a0 (l0.map (·.1)) := by
    intro hne
    obtain ⟨q, vs, c1, c2, c3, c4, c5⟩ := b0 (fun h => hne (by rw [h]; rfl))
    refine ⟨q, vs, c1, c2, c3, by simpa using c4, fun i a hi j v hj hv => ?_⟩
    rw [List.getElem?_map, Option.map_eq_some_iff] at hi
    obtain ⟨b, hb, rfl⟩ := hi
    exact c5 i b hb j v hj hv
  obtain ⟨σ', hlaw⟩ := AM.dups hH (fun x hx => by obtain ⟨b, _, rfl⟩ := List.mem_map.1 hx; exact b.2)
  rw [List.length_map, ← e0] at hlaw
  refine Calls.mono (AM.ends AM.envOK hlaw (.cons g0.1 (.nil _))) fun e W' ⟨he, bel⟩ => ?_
  subst he
  exact ⟨_, rfl, _, _, _, [], _, [], hW', trodAll_mk1 (shut_bool Try.underlying4 _), (trodAll_cons_mk (Below.trod laidOut (by kernel_rfl) (of_decide_eq_true (by kernel_rfl)) h0 bel lt0) trodAll_mk0), rfl, bel.frame _, fun h => by cases h⟩
theorem over : Rows.windowDupsRow.holds Try.pinned (OpenSpec.ofChange Rows.windowDupsSpec) :=
  OpenClaim.holds_of_wide 3 Try.f3 rfl rfl rfl rfl rfl rfl rfl ⟨rfl, rfl, rfl, rfl, rfl⟩ rfl rfl rfl rfl rfl (by kernel_rfl) Try.func3 (by kernel_rfl)
    (of_decide_eq_true (by kernel_rfl)) (by unfold Func.isWrapper; first | (rw [if_pos (by decide +kernel)]; kernel_rfl) | (rw [if_neg (by decide +kernel)]; exact ⟨rfl, rfl⟩))
    (fun os started H enc _ => lifted os started H enc)
end Go.Proofs.Ytmmjibadpdbkaaa.windowDups
namespace Go.Proofs.Ytmmjibadpdbkaaa
theorem windowDups_holds : Rows.WindowDupsSaid := windowDups.over
end Go.Proofs.Ytmmjibadpdbkaaa
#print axioms Go.Proofs.Ytmmjibadpdbkaaa.windowDups_holds
