/-
  RoundEnds: a round whose volumes answer whatever they are told comes to its end. No condition.
-/
import Derived.Test.YtmbofnomfmhmdaaRows
import Derived.Test.YtmbofnomfmhmdaaRsG
import Derived.Test.YtmbofnomfmhmdaaAm22
import Derived.Test.YtmbofnomfmhmdaaOkRs
set_option linter.unusedVariables false
set_option linter.unusedSimpArgs false
set_option linter.unusedSectionVars false
namespace Go.Proofs.Ytmbofnomfmhmdaa.roundEnds
open Go Go.Proofs Go.ChangeShapes Go.WideShapes Go.ChangeAt Go.RowKit
theorem own : ownKnob Try.prog.godebug = none := by kernel_rfl
theorem laidOut : laidOutB Try.prog = true := by kernel_rfl
set_option maxRecDepth 100000 in
theorem lifted (os : Os) (started : os.Started) (H : Type) (enc : TypeId × Value → H) :
    ReturnsInHanded {} Try.checked os 6 .any (Rows.roundEndsSpec.pre6 enc Try.prog Try.f6 Rows.roundEndsRow.domain false) (Rows.roundEndsSpec.post enc Try.prog Try.f6 false true false false) := by
  refine returnsInHanded_of_change_sized (C := Try.checked) own started (by kernel_rfl) Try.func6
    (ChangeSpec.witness6 (enc := enc) (C := Try.checked) false ⟨#[], #[.int .u16 0, .slice none 0 0, .slice none 0 0, .slice none 0 0], []⟩ 8 (by kernel_rfl) (by kernel_rfl) (by kernel_rfl) (by kernel_rfl)) ?_
  intro W base args ds gs before hval0 hW hcnd hsz0 _
  have hval : ∀ (j : Nat) t v, Try.f6.params[j]? = some t → args[j]? = some v → Value.okWide Try.prog W .any base t v := hval0
  have hW' := hW
  obtain ⟨p, q, hA0, hV, rfl, hfz, hnd⟩ := hW
  have hA : DataW.TrodAll enc Try.prog W 0 (fun _ => true) true Try.f6.params.toList args.toList ds p := hA0
  rw [Try.params6] at hA hval
  obtain ⟨v0, vs0, d0, ds0, p0, q0, hargs, rfl, rfl, h0, r0⟩ := trodAll_cons hA
  obtain ⟨v1, vs1, d1, ds1, p1, q1, rfl, rfl, rfl, h1, r1⟩ := trodAll_cons r0
  obtain ⟨v2, vs2, d2, ds2, p2, q2, rfl, rfl, rfl, h2, r2⟩ := trodAll_cons r1
  obtain ⟨v3, vs3, d3, ds3, p3, q3, rfl, rfl, rfl, h3, r3⟩ := trodAll_cons r2
  obtain ⟨rfl, rfl, rfl⟩ := trodAll_nil r3
  obtain rfl : args = #[v0, v1, v2, v3] := by cases args; simp_all
  obtain ⟨rfl, rfl⟩ := trodVars_none hV
  clear hA hA0
  have k0 := h0
  have lt0 : ∀ x ∈ p0, x.block < W.heap.size := by obtain ⟨m, hm⟩ := k0; exact DataW.trod_lt m _ _ _ hm
  have o0 := hval 0 22 v0 rfl rfl
  obtain ⟨a0, e0, _, _, w0⟩ := open_int Try.underlying22 o0 h0
  have k1 := h1
  have lt1 : ∀ x ∈ p1, x.block < W.heap.size := by obtain ⟨m, hm⟩ := k1; exact DataW.trod_lt m _ _ _ hm
  have o1 := hval 1 23 v1 rfl rfl
  have k2 := h2
  have lt2 : ∀ x ∈ p2, x.block < W.heap.size := by obtain ⟨m, hm⟩ := k2; exact DataW.trod_lt m _ _ _ hm
  have o2 := hval 2 46 v2 rfl rfl
  have k3 := h3
  have lt3 : ∀ x ∈ p3, x.block < W.heap.size := by obtain ⟨m, hm⟩ := k3; exact DataW.trod_lt m _ _ _ hm
  have o3 := hval 3 52 v3 rfl rfl
  have g1 := AM.open_deep (vs0 := [v0, v1, v2, v3]) (k := 8) Try.underlying23 (by kernel_rfl) (of_decide_eq_true (by kernel_rfl)) o1 h1 (by simp)
  obtain ⟨l1, ad1, e1, m1, b1⟩ := AM.Img.holdsD (sz := 1) (α := Int) Try.underlying23 g1.2 (AM.c1) (fun row hr => AM.Rs.intOf hr) (fun _ => rfl) (by kernel_rfl)
  have g2 := AM.open_deep (vs0 := [v0, v1, v2, v3]) (k := 8) Try.underlying46 (by kernel_rfl) (of_decide_eq_true (by kernel_rfl)) o2 h2 (by simp)
  obtain ⟨l2, ad2, e2, m2, b2⟩ := AM.Img.holdsD (sz := 6) (α := AM.Rs.Op (AM.stOfD (AM.adrsD W [v0, v1, v2, v3]) W)) Try.underlying46 g2.2 (AM.Rs.c6) (fun row hr => AM.Rs.opOf hr) (fun _ => rfl) (by kernel_rfl)
  have g3 := AM.open_deep (vs0 := [v0, v1, v2, v3]) (k := 8) Try.underlying52 (by kernel_rfl) (of_decide_eq_true (by kernel_rfl)) o3 h3 (by simp)
  obtain ⟨l3, ad3, e3, m3, b3⟩ := AM.Img.holdsD (sz := 1) (α := AM.Rs.U8) Try.underlying52 g3.2 (AM.Rs.cu8) (fun row hr => AM.Rs.tickOf hr) (fun _ => rfl) (by kernel_rfl)
  obtain ⟨σ', hlaw⟩ := AM.Rs.ends 4000 0 (by omega) b1 b2 b3 a0 (AM.wf_u16 w0)
  rw [← e1] at hlaw
  rw [← e2] at hlaw
  rw [← e3] at hlaw
  refine Calls.mono (AM.endsD (args' := [v0, v1, v2, v3]) AM.Rs.envOK hlaw (.cons (by rw [e0]; exact .int _ _) (.cons g1.1 (.cons g2.1 (.cons g3.1 (.nil _)))))) fun e W' ⟨he, bel⟩ => ?_
  subst he
  exact ⟨_, rfl, _, _, _, [], _, [], hW', trodAll_mk1 (shut_bool Try.underlying4 _), (trodAll_cons_mk (Below.trod laidOut (by kernel_rfl) (of_decide_eq_true (by kernel_rfl)) k0 bel lt0) (trodAll_cons_mk (Below.trod laidOut (by kernel_rfl) (of_decide_eq_true (by kernel_rfl)) k1 bel lt1) (trodAll_cons_mk (Below.trod laidOut (by kernel_rfl) (of_decide_eq_true (by kernel_rfl)) k2 bel lt2) (trodAll_cons_mk (Below.trod laidOut (by kernel_rfl) (of_decide_eq_true (by kernel_rfl)) k3 bel lt3) trodAll_mk0)))), rfl, bel.frame _, fun h => by cases h⟩
theorem over : Rows.roundEndsRow.holds Try.pinned (OpenSpec.ofChange Rows.roundEndsSpec) :=
  OpenClaim.holds_of_wide 6 Try.f6 rfl rfl rfl rfl rfl rfl rfl ⟨rfl, rfl, rfl, rfl, rfl⟩ rfl rfl rfl rfl rfl (by kernel_rfl) Try.func6 (by kernel_rfl)
    (of_decide_eq_true (by kernel_rfl)) (by unfold Func.isWrapper; first | (rw [if_pos (by decide +kernel)]; kernel_rfl) | (rw [if_neg (by decide +kernel)]; exact ⟨rfl, rfl⟩))
    (fun os started H enc _ => lifted os started H enc)
end Go.Proofs.Ytmbofnomfmhmdaa.roundEnds
namespace Go.Proofs.Ytmbofnomfmhmdaa
theorem roundEnds_holds : Rows.RoundEndsSaid := roundEnds.over
end Go.Proofs.Ytmbofnomfmhmdaa
#print axioms Go.Proofs.Ytmbofnomfmhmdaa.roundEnds_holds
