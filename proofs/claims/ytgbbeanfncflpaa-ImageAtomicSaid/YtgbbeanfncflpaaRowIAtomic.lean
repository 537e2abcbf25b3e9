/-
  ImageAtomic: wherever it is cut off, what is opened is exactly the old blocks and marker, or exactly the new ones. No condition.
-/
import Derived.Test.YtgbbeanfncflpaaRows
import Derived.Test.YtgbbeanfncflpaaIaRg
import Derived.Test.YtgbbeanfncflpaaOkIa
set_option linter.unusedVariables false
set_option linter.unusedSimpArgs false
set_option linter.unusedSectionVars false
namespace Go.Proofs.Ytgbbeanfncflpaa.imageAtomic
open Go Go.Proofs Go.ChangeShapes Go.WideShapes Go.ChangeAt Go.RowKit
theorem own : ownKnob Try.prog.godebug = none := by kernel_rfl
theorem laidOut : laidOutB Try.prog = true := by kernel_rfl
set_option maxRecDepth 100000 in
theorem lifted (os : Os) (started : os.Started) (H : Type) (enc : TypeId × Value → H) :
    ReturnsInHanded {} Try.checked os 3 .any (Rows.imageAtomicSpec.pre6 enc Try.prog Try.f3 Rows.imageAtomicRow.domain false) (Rows.imageAtomicSpec.post enc Try.prog Try.f3 false true false false) := by
  refine returnsInHanded_of_change_sized (C := Try.checked) own started (by kernel_rfl) Try.func3
    (ChangeSpec.witness6 (enc := enc) (C := Try.checked) false ⟨#[], #[.slice none 0 0], []⟩ 8 (by kernel_rfl) (by kernel_rfl) (by kernel_rfl) (by kernel_rfl)) ?_
  intro W base args ds gs before hval0 hW hcnd hsz0 _
  have hval : ∀ (j : Nat) t v, Try.f3.params[j]? = some t → args[j]? = some v → Value.okWide Try.prog W .any base t v := hval0
  have hW' := hW
  obtain ⟨p, q, hA0, hV, rfl, hfz, hnd⟩ := hW
  have hA : DataW.TrodAll enc Try.prog W 0 (fun _ => true) true Try.f3.params.toList args.toList ds p := hA0
  rw [Try.params3] at hA hval
  obtain ⟨v0, vs0, d0, ds0, p0, q0, hargs, rfl, rfl, h0, r0⟩ := trodAll_cons hA
  obtain ⟨rfl, rfl, rfl⟩ := trodAll_nil r0
  obtain rfl : args = #[v0] := by cases args; simp_all
  obtain ⟨rfl, rfl⟩ := trodVars_none hV
  clear hA hA0
  have k0 := h0
  have lt0 : ∀ x ∈ p0, x.block < W.heap.size := by obtain ⟨m, hm⟩ := k0; exact DataW.trod_lt m _ _ _ hm
  have o0 := hval 0 22 v0 rfl rfl
  have g0 := AM.open_deep (vs0 := [v0]) (k := 8) Try.underlying22 (by kernel_rfl) (of_decide_eq_true (by kernel_rfl)) o0 h0 (by simp)
  obtain ⟨l0, ad0, e0, m0, b0⟩ := AM.Img.holdsD (sz := 4) (α := AM.Ia.OpI (AM.stOfD (AM.adrsD W [v0]) W)) Try.underlying22 g0.2 (AM.Ia.c4) (fun row hr => AM.Ia.opOf hr) (fun _ => rfl) (by kernel_rfl)
  obtain ⟨σ', hlaw⟩ := AM.Ia.atomic_holds 200000 0 (by omega) b0
  rw [← e0] at hlaw
  refine Calls.mono (AM.endsD (args' := [v0]) AM.Ia.envOK hlaw (.cons g0.1 (.nil _))) fun e W' ⟨he, bel⟩ => ?_
  subst he
  exact ⟨_, rfl, _, _, _, [], _, [], hW', trodAll_mk1 (shut_bool Try.underlying4 _), (trodAll_cons_mk (Below.trod laidOut (by kernel_rfl) (of_decide_eq_true (by kernel_rfl)) k0 bel lt0) trodAll_mk0), rfl, bel.frame _, fun h => by cases h⟩
theorem over : Rows.imageAtomicRow.holds Try.pinned (OpenSpec.ofChange Rows.imageAtomicSpec) :=
  OpenClaim.holds_of_wide 3 Try.f3 rfl rfl rfl rfl rfl rfl rfl ⟨rfl, rfl, rfl, rfl, rfl⟩ rfl rfl rfl rfl rfl (by kernel_rfl) Try.func3 (by kernel_rfl)
    (of_decide_eq_true (by kernel_rfl)) (by unfold Func.isWrapper; first | (rw [if_pos (by decide +kernel)]; kernel_rfl) | (rw [if_neg (by decide +kernel)]; exact ⟨rfl, rfl⟩))
    (fun os started H enc _ => lifted os started H enc)
end Go.Proofs.Ytgbbeanfncflpaa.imageAtomic
namespace Go.Proofs.Ytgbbeanfncflpaa
theorem imageAtomic_holds : Rows.ImageAtomicSaid := imageAtomic.over
end Go.Proofs.Ytgbbeanfncflpaa
#print axioms Go.Proofs.Ytgbbeanfncflpaa.imageAtomic_holds
