/-
  GateThaws: a gate that is frozen thaws within its ticks, whoever enters meanwhile; and it is never frozen for an earlier round. No condition.
-/
import Derived.Test.YtgnchfjkpjblnaaRows
import Derived.Test.YtgnchfjkpjblnaaGtD
import Derived.Test.YtgnchfjkpjblnaaGtT
import Derived.Test.YtgnchfjkpjblnaaAm17
import Derived.Test.YtgnchfjkpjblnaaOkGt
set_option linter.unusedVariables false
set_option linter.unusedSimpArgs false
namespace Go.Proofs.Ytgnchfjkpjblnaa.gateThaws
open Go Go.Proofs Go.ChangeShapes Go.WideShapes Go.ChangeAt Go.RowKit
theorem own : ownKnob Try.prog.godebug = none := by kernel_rfl
theorem laidOut : laidOutB Try.prog = true := by kernel_rfl
set_option maxRecDepth 100000 in
theorem lifted (os : Os) (started : os.Started) (H : Type) (enc : TypeId × Value → H) :
    ReturnsInHanded {} Try.checked os 3 .any (Rows.gateThawsSpec.pre6 enc Try.prog Try.f3 Rows.gateThawsRow.domain false) (Rows.gateThawsSpec.post enc Try.prog Try.f3 false true false false) := by
  refine returnsInHanded_of_change_sized (C := Try.checked) own started (by kernel_rfl) Try.func3
    (ChangeSpec.witness6 (enc := enc) (C := Try.checked) false ⟨#[], #[.slice none 0 0, .int .u16 0, .int .u8 0, .slice none 0 0], []⟩ 8 (by kernel_rfl) (by kernel_rfl) (by kernel_rfl) (by kernel_rfl)) ?_
  intro W base args ds gs before hval0 hW hcnd hsz0 _
  have hval : ∀ (j : Nat) t v, Try.f3.params[j]? = some t → args[j]? = some v → Value.okWide Try.prog W .any base t v := hval0
  have hW' := hW
  obtain ⟨p, q, hA0, hV, rfl, hfz, hnd⟩ := hW
  have hA : DataW.TrodAll enc Try.prog W 0 (fun _ => true) true Try.f3.params.toList args.toList ds p := hA0
  rw [Try.params3] at hA hval
  obtain ⟨v0, vs0, d0, ds0, p0, q0, hargs, rfl, rfl, h0, r0⟩ := trodAll_cons hA
  obtain ⟨v1, vs1, d1, ds1, p1, q1, rfl, rfl, rfl, h1, r1⟩ := trodAll_cons r0
  obtain ⟨v2, vs2, d2, ds2, p2, q2, rfl, rfl, rfl, h2, r2⟩ := trodAll_cons r1
  obtain ⟨v3, vs3, d3, ds3, p3, q3, rfl, rfl, rfl, h3, r3⟩ := trodAll_cons r2
  obtain ⟨rfl, rfl, rfl⟩ := trodAll_nil r3
  obtain rfl : args = #[v0, v1, v2, v3] := by cases args; simp_all
  obtain ⟨rfl, rfl⟩ := trodVars_none hV
  clear hA hA0
  have k0 := h0
  have lt0 : ∀ x ∈ p0, x.block < W.heap.size := by obtain ⟨m, hm⟩ := k0; exact DataW.trod_lt m _ _ _ hm
  have o0 := hval 0 22 v0 rfl rfl
  have k1 := h1
  have lt1 : ∀ x ∈ p1, x.block < W.heap.size := by obtain ⟨m, hm⟩ := k1; exact DataW.trod_lt m _ _ _ hm
  have o1 := hval 1 23 v1 rfl rfl
  obtain ⟨a1, e1, _, _, w1⟩ := open_int Try.underlying23 o1 h1
  have k2 := h2
  have lt2 : ∀ x ∈ p2, x.block < W.heap.size := by obtain ⟨m, hm⟩ := k2; exact DataW.trod_lt m _ _ _ hm
  have o2 := hval 2 5 v2 rfl rfl
  obtain ⟨a2, e2, _, _, w2⟩ := open_int Try.underlying5 o2 h2
  have k3 := h3
  have lt3 : ∀ x ∈ p3, x.block < W.heap.size := by obtain ⟨m, hm⟩ := k3; exact DataW.trod_lt m _ _ _ hm
  have o3 := hval 3 24 v3 rfl rfl
  have g0 := AM.open_slice (ads := (AM.adrs [v0, v1, v2, v3])) (k := 8) Try.underlying22 (by kernel_rfl) (of_decide_eq_true (by kernel_rfl)) o0 h0 (fun a n c e => by subst e; simp [AM.adrs])
  obtain ⟨l0, ad0, e0, m0, b0⟩ := AM.Img.holds (sz := 6) (α := AM.Gt.Op) Try.underlying22 g0.2 (AM.Gt.c6) (fun row hr => AM.Gt.opOf hr) (fun _ => rfl) (by kernel_rfl)
  have g3 := AM.open_slice (ads := (AM.adrs [v0, v1, v2, v3])) (k := 8) Try.underlying24 (by kernel_rfl) (of_decide_eq_true (by kernel_rfl)) o3 h3 (fun a n c e => by subst e; simp [AM.adrs])
  obtain ⟨l3, ad3, e3, m3, b3⟩ := AM.Img.holds (sz := 3) (α := AM.Gt.Cal) Try.underlying24 g3.2 (AM.Gt.c3) (fun row hr => AM.Gt.callOf hr) (fun _ => rfl) (by kernel_rfl)
  obtain ⟨σ', hlaw⟩ := AM.Gt.thaws b0 b3 a1 a2 (AM.wf_u16 w1) (AM.wf_u8 w2)
  rw [← e0] at hlaw
  rw [← e3] at hlaw
  refine Calls.mono (AM.ends (args' := [v0, v1, v2, v3]) AM.Gt.envOK hlaw (.cons g0.1 (.cons (by rw [e1]; exact .int _ _) (.cons (by rw [e2]; exact .int _ _) (.cons g3.1 (.nil _)))))) fun e W' ⟨he, bel⟩ => ?_
  subst he
  exact ⟨_, rfl, _, _, _, [], _, [], hW', trodAll_mk1 (shut_bool Try.underlying4 _), (trodAll_cons_mk (Below.trod laidOut (by kernel_rfl) (of_decide_eq_true (by kernel_rfl)) k0 bel lt0) (trodAll_cons_mk (Below.trod laidOut (by kernel_rfl) (of_decide_eq_true (by kernel_rfl)) k1 bel lt1) (trodAll_cons_mk (Below.trod laidOut (by kernel_rfl) (of_decide_eq_true (by kernel_rfl)) k2 bel lt2) (trodAll_cons_mk (Below.trod laidOut (by kernel_rfl) (of_decide_eq_true (by kernel_rfl)) k3 bel lt3) trodAll_mk0)))), rfl, bel.frame _, fun h => by cases h⟩
theorem over : Rows.gateThawsRow.holds Try.pinned (OpenSpec.ofChange Rows.gateThawsSpec) :=
  OpenClaim.holds_of_wide 3 Try.f3 rfl rfl rfl rfl rfl rfl rfl ⟨rfl, rfl, rfl, rfl, rfl⟩ rfl rfl rfl rfl rfl (by kernel_rfl) Try.func3 (by kernel_rfl)
    (of_decide_eq_true (by kernel_rfl)) (by unfold Func.isWrapper; first | (rw [if_pos (by decide +kernel)]; kernel_rfl) | (rw [if_neg (by decide +kernel)]; exact ⟨rfl, rfl⟩))
    (fun os started H enc _ => lifted os started H enc)
end Go.Proofs.Ytgnchfjkpjblnaa.gateThaws
namespace Go.Proofs.Ytgnchfjkpjblnaa
theorem gateThaws_holds : Rows.GateThawsSaid := gateThaws.over
end Go.Proofs.Ytgnchfjkpjblnaa
#print axioms Go.Proofs.Ytgnchfjkpjblnaa.gateThaws_holds
