/-
  BackupCatches: of volumes that belong, each of which gets writes, and the same marker, in whatever order, all is applied up to that: the blocks are what was written, and nothing is ready any more. No condition.
-/
import Derived.Test.YtnihjgamfnabnaaRows
import Derived.Test.YtnihjgamfnabnaaBpCc
import Derived.Test.YtnihjgamfnabnaaBpRg
import Derived.Test.YtnihjgamfnabnaaAm13g
import Derived.Test.YtnihjgamfnabnaaOkBp
set_option linter.unusedVariables false
set_option linter.unusedSimpArgs false
set_option linter.unusedSectionVars false
namespace Go.Proofs.Ytnihjgamfnabnaa.backupCatches
open Go Go.Proofs Go.ChangeShapes Go.WideShapes Go.ChangeAt Go.RowKit
theorem own : ownKnob Try.prog.godebug = none := by kernel_rfl
theorem laidOut : laidOutB Try.prog = true := by kernel_rfl
set_option maxRecDepth 100000 in
theorem lifted (os : Os) (started : os.Started) (H : Type) (enc : TypeId × Value → H) :
    ReturnsInHanded {} Try.checked os 3 .any (Rows.backupCatchesSpec.pre6 enc Try.prog Try.f3 Rows.backupCatchesRow.domain false) (Rows.backupCatchesSpec.post enc Try.prog Try.f3 false true false false) := by
  refine returnsInHanded_of_change_sized (C := Try.checked) own started (by kernel_rfl) Try.func3
    (ChangeSpec.witness6 (enc := enc) (C := Try.checked) false ⟨#[], #[.slice none 0 0, .slice none 0 0, .int .u16 0, .slice none 0 0], []⟩ 8 (by kernel_rfl) (by kernel_rfl) (by kernel_rfl) (by kernel_rfl)) ?_
  intro W base args ds gs before hval0 hW hcnd hsz0 _
  have hval : ∀ (j : Nat) t v, Try.f3.params[j]? = some t → args[j]? = some v → Value.okWide Try.prog W .any base t v := hval0
  have hW' := hW
  obtain ⟨p, q, hA0, hV, rfl, hfz, hnd⟩ := hW
  have hA : DataW.TrodAll enc Try.prog W 0 (fun _ => true) true Try.f3.params.toList args.toList ds p := hA0
  rw [Try.params3] at hA hval
  obtain ⟨v0, vs0, d0, ds0, p0, q0, hargs, rfl, rfl, h0, r0⟩ := trodAll_cons hA
  obtain ⟨v1, vs1, d1, ds1, p1, q1, rfl, rfl, rfl, h1, r1⟩ := trodAll_cons r0
  obtain ⟨v2, vs2, d2, ds2, p2, q2, rfl, rfl, rfl, h2, r2⟩ := trodAll_cons r1
  obtain ⟨v3, vs3, d3, ds3, p3, q3, rfl, rfl, rfl, h3, r3⟩ := trodAll_cons r2
  obtain ⟨rfl, rfl, rfl⟩ := trodAll_nil r3
  obtain rfl : args = #[v0, v1, v2, v3] := by cases args; simp_all
  obtain ⟨rfl, rfl⟩ := trodVars_none hV
  clear hA hA0
  have k0 := h0
  have lt0 : ∀ x ∈ p0, x.block < W.heap.size := by obtain ⟨m, hm⟩ := k0; exact DataW.trod_lt m _ _ _ hm
  have o0 := hval 0 22 v0 rfl rfl
  have k1 := h1
  have lt1 : ∀ x ∈ p1, x.block < W.heap.size := by obtain ⟨m, hm⟩ := k1; exact DataW.trod_lt m _ _ _ hm
  have o1 := hval 1 23 v1 rfl rfl
  have k2 := h2
  have lt2 : ∀ x ∈ p2, x.block < W.heap.size := by obtain ⟨m, hm⟩ := k2; exact DataW.trod_lt m _ _ _ hm
  have o2 := hval 2 24 v2 rfl rfl
  obtain ⟨a2, e2, _, _, w2⟩ := open_int Try.underlying24 o2 h2
  have k3 := h3
  have lt3 : ∀ x ∈ p3, x.block < W.heap.size := by obtain ⟨m, hm⟩ := k3; exact DataW.trod_lt m _ _ _ hm
  have o3 := hval 3 25 v3 rfl rfl
  have g0 := AM.open_slice (ads := (AM.adrs [v0, v1, v2, v3])) (k := 8) Try.underlying22 (by kernel_rfl) (of_decide_eq_true (by kernel_rfl)) o0 h0 (fun a n c e => by subst e; simp [AM.adrs])
  obtain ⟨l0, ad0, e0, m0, b0⟩ := AM.Img.holds (sz := 1) (α := Int) Try.underlying22 g0.2 (AM.c1) (fun row hr => by obtain ⟨n, e, _⟩ := AM.Img.int_inv Try.underlying3 hr; exact ⟨n, e⟩) (fun _ => rfl) (by kernel_rfl)
  have g1 := AM.open_slice (ads := (AM.adrs [v0, v1, v2, v3])) (k := 8) Try.underlying23 (by kernel_rfl) (of_decide_eq_true (by kernel_rfl)) o1 h1 (fun a n c e => by subst e; simp [AM.adrs])
  obtain ⟨l1, ad1, e1, m1, b1⟩ := AM.Img.holds (sz := 1) (α := ByteArray) Try.underlying23 g1.2 (AM.Bp.cS) (fun row hr => AM.Bp.strOf hr) (fun _ => rfl) (by kernel_rfl)
  have g3 := AM.open_slice (ads := (AM.adrs [v0, v1, v2, v3])) (k := 8) Try.underlying25 (by kernel_rfl) (of_decide_eq_true (by kernel_rfl)) o3 h3 (fun a n c e => by subst e; simp [AM.adrs])
  obtain ⟨l3, ad3, e3, m3, b3⟩ := AM.Img.holds (sz := 1) (α := { n : Int // 0 ≤ n ∧ n ≤ 255 }) Try.underlying25 g3.2 (fun n => [Value.int .u8 n.1]) (fun row hr => by obtain ⟨n, e, hw⟩ := AM.Img.int_inv Try.underlying5 hr; exact ⟨⟨n, AM.wf_u8 hw⟩, e⟩) (fun _ => rfl) (by kernel_rfl)
  obtain ⟨σ', hlaw⟩ := AM.Bp.catches_holds 200000 0 (by omega) b0 b1 b3 a2 (AM.wf_u16 w2)
  rw [← e0] at hlaw
  rw [← e1] at hlaw
  rw [← e3] at hlaw
  refine Calls.mono (AM.ends (args' := [v0, v1, v2, v3]) AM.Bp.envOK hlaw (.cons g0.1 (.cons g1.1 (.cons (by rw [e2]; exact .int _ _) (.cons g3.1 (.nil _)))))) fun e W' ⟨he, bel⟩ => ?_
  subst he
  exact ⟨_, rfl, _, _, _, [], _, [], hW', trodAll_mk1 (shut_bool Try.underlying4 _), (trodAll_cons_mk (Below.trod laidOut (by kernel_rfl) (of_decide_eq_true (by kernel_rfl)) k0 bel lt0) (trodAll_cons_mk (Below.trod laidOut (by kernel_rfl) (of_decide_eq_true (by kernel_rfl)) k1 bel lt1) (trodAll_cons_mk (Below.trod laidOut (by kernel_rfl) (of_decide_eq_true (by kernel_rfl)) k2 bel lt2) (trodAll_cons_mk (Below.trod laidOut (by kernel_rfl) (of_decide_eq_true (by kernel_rfl)) k3 bel lt3) trodAll_mk0)))), rfl, bel.frame _, fun h => by cases h⟩
theorem over : Rows.backupCatchesRow.holds Try.pinned (OpenSpec.ofChange Rows.backupCatchesSpec) :=
  OpenClaim.holds_of_wide 3 Try.f3 rfl rfl rfl rfl rfl rfl rfl ⟨rfl, rfl, rfl, rfl, rfl⟩ rfl rfl rfl rfl rfl (by kernel_rfl) Try.func3 (by kernel_rfl)
    (of_decide_eq_true (by kernel_rfl)) (by unfold Func.isWrapper; first | (rw [if_pos (by decide +kernel)]; kernel_rfl) | (rw [if_neg (by decide +kernel)]; exact ⟨rfl, rfl⟩))
    (fun os started H enc _ => lifted os started H enc)
end Go.Proofs.Ytnihjgamfnabnaa.backupCatches
namespace Go.Proofs.Ytnihjgamfnabnaa
theorem backupCatches_holds : Rows.BackupCatchesSaid := backupCatches.over
end Go.Proofs.Ytnihjgamfnabnaa
#print axioms Go.Proofs.Ytnihjgamfnabnaa.backupCatches_holds
