/-
  BackupReplays: where the group changes at markers above all that came alone, the image's blocks of each volume are what its records up to Applied make, one behind the other; the marker never decreases; behind a crash amid an application all volumes together are as they were, or as they would have been. No condition.
-/
import Derived.Test.YtnihjgamfnabnaaRows
import Derived.Test.YtnihjgamfnabnaaBpRag
import Derived.Test.YtnihjgamfnabnaaAm13g
import Derived.Test.YtnihjgamfnabnaaOkBp
set_option linter.unusedVariables false
set_option linter.unusedSimpArgs false
set_option linter.unusedSectionVars false
namespace Go.Proofs.Ytnihjgamfnabnaa.backupReplays
open Go Go.Proofs Go.ChangeShapes Go.WideShapes Go.ChangeAt Go.RowKit
theorem own : ownKnob Try.prog.godebug = none := by kernel_rfl
theorem laidOut : laidOutB Try.prog = true := by kernel_rfl
set_option maxRecDepth 100000 in
theorem lifted (os : Os) (started : os.Started) (H : Type) (enc : TypeId × Value → H) :
    ReturnsInHanded {} Try.checked os 5 .any (Rows.backupReplaysSpec.pre6 enc Try.prog Try.f5 Rows.backupReplaysRow.domain false) (Rows.backupReplaysSpec.post enc Try.prog Try.f5 false true false false) := by
  refine returnsInHanded_of_change_sized (C := Try.checked) own started (by kernel_rfl) Try.func5
    (ChangeSpec.witness6 (enc := enc) (C := Try.checked) false ⟨#[], #[.slice none 0 0, .slice none 0 0], []⟩ 8 (by kernel_rfl) (by kernel_rfl) (by kernel_rfl) (by kernel_rfl)) ?_
  intro W base args ds gs before hval0 hW hcnd hsz0 _
  have hval : ∀ (j : Nat) t v, Try.f5.params[j]? = some t → args[j]? = some v → Value.okWide Try.prog W .any base t v := hval0
  have hW' := hW
  obtain ⟨p, q, hA0, hV, rfl, hfz, hnd⟩ := hW
  have hA : DataW.TrodAll enc Try.prog W 0 (fun _ => true) true Try.f5.params.toList args.toList ds p := hA0
  rw [Try.params5] at hA hval
  obtain ⟨v0, vs0, d0, ds0, p0, q0, hargs, rfl, rfl, h0, r0⟩ := trodAll_cons hA
  obtain ⟨v1, vs1, d1, ds1, p1, q1, rfl, rfl, rfl, h1, r1⟩ := trodAll_cons r0
  obtain ⟨rfl, rfl, rfl⟩ := trodAll_nil r1
  obtain rfl : args = #[v0, v1] := by cases args; simp_all
  obtain ⟨rfl, rfl⟩ := trodVars_none hV
  clear hA hA0
  have k0 := h0
  have lt0 : ∀ x ∈ p0, x.block < W.heap.size := by obtain ⟨m, hm⟩ := k0; exact DataW.trod_lt m _ _ _ hm
  have o0 := hval 0 22 v0 rfl rfl
  have k1 := h1
  have lt1 : ∀ x ∈ p1, x.block < W.heap.size := by obtain ⟨m, hm⟩ := k1; exact DataW.trod_lt m _ _ _ hm
  have o1 := hval 1 60 v1 rfl rfl
  have g0 := AM.open_slice (ads := (AM.adrs [v0, v1])) (k := 8) Try.underlying22 (by kernel_rfl) (of_decide_eq_true (by kernel_rfl)) o0 h0 (fun a n c e => by subst e; simp [AM.adrs])
  obtain ⟨l0, ad0, e0, m0, b0⟩ := AM.Img.holds (sz := 1) (α := Int) Try.underlying22 g0.2 (AM.c1) (fun row hr => AM.Bp.intOf hr) (fun _ => rfl) (by kernel_rfl)
  have g1 := AM.open_slice (ads := (AM.adrs [v0, v1])) (k := 8) Try.underlying60 (by kernel_rfl) (of_decide_eq_true (by kernel_rfl)) o1 h1 (fun a n c e => by subst e; simp [AM.adrs])
  obtain ⟨l1, ad1, e1, m1, b1⟩ := AM.Img.holds (sz := 10) (α := AM.Bp.OpB) Try.underlying60 g1.2 (AM.Bp.c10) (fun row hr => AM.Bp.opB hr) (fun _ => rfl) (by kernel_rfl)
  obtain ⟨σ', hlaw⟩ := AM.Bp.replays_holds 200000 0 (by omega) b0 b1
  rw [← e0] at hlaw
  rw [← e1] at hlaw
  refine Calls.mono (AM.ends (args' := [v0, v1]) AM.Bp.envOK hlaw (.cons g0.1 (.cons g1.1 (.nil _)))) fun e W' ⟨he, bel⟩ => ?_
  subst he
  exact ⟨_, rfl, _, _, _, [], _, [], hW', trodAll_mk1 (shut_bool Try.underlying4 _), (trodAll_cons_mk (Below.trod laidOut (by kernel_rfl) (of_decide_eq_true (by kernel_rfl)) k0 bel lt0) (trodAll_cons_mk (Below.trod laidOut (by kernel_rfl) (of_decide_eq_true (by kernel_rfl)) k1 bel lt1) trodAll_mk0)), rfl, bel.frame _, fun h => by cases h⟩
theorem over : Rows.backupReplaysRow.holds Try.pinned (OpenSpec.ofChange Rows.backupReplaysSpec) :=
  OpenClaim.holds_of_wide 5 Try.f5 rfl rfl rfl rfl rfl rfl rfl ⟨rfl, rfl, rfl, rfl, rfl⟩ rfl rfl rfl rfl rfl (by kernel_rfl) Try.func5 (by kernel_rfl)
    (of_decide_eq_true (by kernel_rfl)) (by unfold Func.isWrapper; first | (rw [if_pos (by decide +kernel)]; kernel_rfl) | (rw [if_neg (by decide +kernel)]; exact ⟨rfl, rfl⟩))
    (fun os started H enc _ => lifted os started H enc)
end Go.Proofs.Ytnihjgamfnabnaa.backupReplays
namespace Go.Proofs.Ytnihjgamfnabnaa
theorem backupReplays_holds : Rows.BackupReplaysSaid := backupReplays.over
end Go.Proofs.Ytnihjgamfnabnaa
#print axioms Go.Proofs.Ytnihjgamfnabnaa.backupReplays_holds
