/-
  StageOnce: a record that was taken isn't taken once more, nor one that was dropped; one that is cut is. No condition.
-/
import Derived.Test.YtacniifcgjcedaaRows
import Derived.Test.YtacniifcgjcedaaStF
import Derived.Test.YtacniifcgjcedaaStT
import Derived.Test.YtacniifcgjcedaaAm17
import Derived.Test.YtacniifcgjcedaaOkSt
set_option linter.unusedVariables false
set_option linter.unusedSimpArgs false
namespace Go.Proofs.Ytacniifcgjcedaa.stageOnce
open Go Go.Proofs Go.ChangeShapes Go.WideShapes Go.ChangeAt Go.RowKit
theorem own : ownKnob Try.prog.godebug = none := by kernel_rfl
theorem laidOut : laidOutB Try.prog = true := by kernel_rfl
set_option maxRecDepth 100000 in
theorem lifted (os : Os) (started : os.Started) (H : Type) (enc : TypeId × Value → H) :
    ReturnsInHanded {} Try.checked os 5 .any (Rows.stageOnceSpec.pre6 enc Try.prog Try.f5 Rows.stageOnceRow.domain false) (Rows.stageOnceSpec.post enc Try.prog Try.f5 false true false false) := by
  refine returnsInHanded_of_change_sized (C := Try.checked) own started (by kernel_rfl) Try.func5
    (ChangeSpec.witness6 (enc := enc) (C := Try.checked) false ⟨#[], #[.slice none 0 0, .int .i64 0, .agg #[.int .i64 0, .int .i64 0, .int .i64 0, .string ByteArray.empty, .int .i64 0]], []⟩ 8 (by kernel_rfl) (by kernel_rfl) (by kernel_rfl) (by kernel_rfl)) ?_
  intro W base args ds gs before hval0 hW hcnd hsz0 _
  have hval : ∀ (j : Nat) t v, Try.f5.params[j]? = some t → args[j]? = some v → Value.okWide Try.prog W .any base t v := hval0
  have hW' := hW
  obtain ⟨p, q, hA0, hV, rfl, hfz, hnd⟩ := hW
  have hA : DataW.TrodAll enc Try.prog W 0 (fun _ => true) true Try.f5.params.toList args.toList ds p := hA0
  rw [Try.params5] at hA hval
  obtain ⟨v0, vs0, d0, ds0, p0, q0, hargs, rfl, rfl, h0, r0⟩ := trodAll_cons hA
  obtain ⟨v1, vs1, d1, ds1, p1, q1, rfl, rfl, rfl, h1, r1⟩ := trodAll_cons r0
  obtain ⟨v2, vs2, d2, ds2, p2, q2, rfl, rfl, rfl, h2, r2⟩ := trodAll_cons r1
  obtain ⟨rfl, rfl, rfl⟩ := trodAll_nil r2
  obtain rfl : args = #[v0, v1, v2] := by cases args; simp_all
  obtain ⟨rfl, rfl⟩ := trodVars_none hV
  clear hA hA0
  have k0 := h0
  have lt0 : ∀ x ∈ p0, x.block < W.heap.size := by obtain ⟨m, hm⟩ := k0; exact DataW.trod_lt m _ _ _ hm
  have o0 := hval 0 22 v0 rfl rfl
  have k1 := h1
  have lt1 : ∀ x ∈ p1, x.block < W.heap.size := by obtain ⟨m, hm⟩ := k1; exact DataW.trod_lt m _ _ _ hm
  have o1 := hval 1 3 v1 rfl rfl
  obtain ⟨a1, e1, _, _, w1⟩ := open_int Try.underlying3 o1 h1
  have k2 := h2
  have lt2 : ∀ x ∈ p2, x.block < W.heap.size := by obtain ⟨m, hm⟩ := k2; exact DataW.trod_lt m _ _ _ hm
  have o2 := hval 2 34 v2 rfl rfl
  obtain ⟨cs2, ec2, _⟩ := okWide_struct Try.underlying34 o2
  have g0 := AM.open_slice (ads := (AM.adrs [v0, v1, v2])) (k := 8) Try.underlying22 (by kernel_rfl) (of_decide_eq_true (by kernel_rfl)) o0 h0 (fun a n c e => by subst e; simp [AM.adrs])
  obtain ⟨l0, ad0, e0, m0, b0⟩ := AM.Img.holds (sz := 8) (α := AM.St.Op) Try.underlying22 g0.2 (AM.St.c8) (fun row hr => AM.St.opOf hr) (fun _ => rfl) (by kernel_rfl)
  have g2 := AM.open_flat (ads := (AM.adrs [v0, v1, v2])) (k := 8) (by kernel_rfl) (.inr trivial) h2 (.inl ⟨cs2, ec2⟩)
  obtain ⟨c2, hc2⟩ := (fun hr => AM.St.recOf5 hr) g2.2
  have e2 : v2 = AM.St.Rec.agg c2 := by rw [ec2] at hc2 ⊢; exact congrArg Value.agg (by rw [← Array.toArray_toList (xs := cs2)]; exact congrArg List.toArray hc2)
  obtain ⟨σ', hlaw⟩ := AM.St.once b0 a1 c2
  rw [← e0] at hlaw
  rw [← e2] at hlaw
  refine Calls.mono (AM.ends (args' := [v0, v1, v2]) AM.St.envOK hlaw (.cons g0.1 (.cons (by rw [e1]; exact .int _ _) (.cons g2.1 (.nil _))))) fun e W' ⟨he, bel⟩ => ?_
  subst he
  exact ⟨_, rfl, _, _, _, [], _, [], hW', trodAll_mk1 (shut_bool Try.underlying4 _), (trodAll_cons_mk (Below.trod laidOut (by kernel_rfl) (of_decide_eq_true (by kernel_rfl)) k0 bel lt0) (trodAll_cons_mk (Below.trod laidOut (by kernel_rfl) (of_decide_eq_true (by kernel_rfl)) k1 bel lt1) (trodAll_cons_mk (Below.trod laidOut (by kernel_rfl) (of_decide_eq_true (by kernel_rfl)) k2 bel lt2) trodAll_mk0))), rfl, bel.frame _, fun h => by cases h⟩
theorem over : Rows.stageOnceRow.holds Try.pinned (OpenSpec.ofChange Rows.stageOnceSpec) :=
  OpenClaim.holds_of_wide 5 Try.f5 rfl rfl rfl rfl rfl rfl rfl ⟨rfl, rfl, rfl, rfl, rfl⟩ rfl rfl rfl rfl rfl (by kernel_rfl) Try.func5 (by kernel_rfl)
    (of_decide_eq_true (by kernel_rfl)) (by unfold Func.isWrapper; first | (rw [if_pos (by decide +kernel)]; kernel_rfl) | (rw [if_neg (by decide +kernel)]; exact ⟨rfl, rfl⟩))
    (fun os started H enc _ => lifted os started H enc)
end Go.Proofs.Ytacniifcgjcedaa.stageOnce
namespace Go.Proofs.Ytacniifcgjcedaa
theorem stageOnce_holds : Rows.StageOnceSaid := stageOnce.over
end Go.Proofs.Ytacniifcgjcedaa
#print axioms Go.Proofs.Ytacniifcgjcedaa.stageOnce_holds
