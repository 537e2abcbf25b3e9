/-
  GatePlays: whatever freezes, thaws, enters and ticks, each answer is the document's, and so is what waits. No condition but the card's.
-/
import Derived.Test.YtgnchfjkpjblnaaDoorRows
import Derived.Test.YtgnchfjkpjblnaaDoorTie
import Derived.Test.YtgnchfjkpjblnaaDoorCards
import Derived.ChangeVars
import Derived.JoinedOf
import Derived.LaidLaws
import Derived.LaidHandle
import Derived.Test.YtgnchfjkpjblnaaDoorGpF
import Derived.Test.YtgnchfjkpjblnaaDoorAm17
import Derived.Test.YtgnchfjkpjblnaaDoorOkGp
set_option linter.unusedVariables false
set_option linter.unusedSimpArgs false
set_option linter.unusedSectionVars false
namespace Go.Proofs.YtgnchfjkpjblnaaDoor.gatePlays
open Go Go.Proofs Go.ChangeShapes Go.WideShapes Go.ChangeAt Go.RowKit
theorem own : ownKnob Tryd.prog.godebug = none := by kernel_rfl
theorem laidOut : laidOutB Tryd.prog = true := by kernel_rfl
theorem et : Tryd.prog.globalNamed "errors.errorType" = some 0 := by kernel_rfl
theorem rt : (Tryd.prog.cutTypes.find? (·.1 == "internal/reflectlite.rtype")).map (·.2) = some 89 := by kernel_rfl
theorem oneRow : ((List.range 130).filter fun t => Tryd.prog.rowNamed t [101, 114, 114, 111, 114]) = [27] := by kernel_rfl
theorem size : Tryd.prog.types.size = 130 := by kernel_rfl
def laid : List (String × DataW Unit) := [("errors.errorType", Rows.laid_errors_errorType)]
theorem handle_of_laid {W : World} (h : laidMetH Tryd.prog laid W) : W.cell? ⟨0, 0, none⟩ = some (.iface 89 (.agg #[.pointer (some ⟨1, 27, none⟩)])) := by
  have h' : laidMet Tryd.prog [] W ∧ handlesMet Tryd.prog laid W := h
  obtain ⟨name, u, ty, e1, e2, e3, e4, e5⟩ := h'.2 _ (List.mem_singleton.2 rfl)
  have en : name = [101, 114, 114, 111, 114] := (Option.some.inj e1).symm
  subst en
  obtain rfl := Option.some.inj (rt.symm.trans e2)
  have hm : ty ∈ (List.range 130).filter fun t => Tryd.prog.rowNamed t [101, 114, 114, 111, 114] := List.mem_filter.2 ⟨List.mem_range.2 (by rw [← size]; exact e3), e4⟩
  rw [oneRow] at hm
  obtain rfl := List.mem_singleton.1 hm
  have hh : typeHandle Tryd.prog 27 = .pointer (some ⟨1, 27, none⟩) := by kernel_rfl
  rw [hh] at e5
  simpa using World.var?_cell et e5 0
noncomputable def laidWorld (os : Os) : World :=
  let w0 := World.holding Tryd.prog os ⟨#[], #[], []⟩
  { w0 with heap := w0.heap.modify 0 fun
      | .cells _ t frozen => .cells #[.iface 89 (.agg #[.pointer (some ⟨1, 27, none⟩)])] t frozen
      | o => o }
theorem laidWorld_met (os : Os) (args : Array Value) : laidMetH Tryd.prog laid ((laidWorld os).forCall (fun _ _ => 0) ⟨#[], args, []⟩).memory :=
  laidMetH_of_parts (laidMet_nil _ _) (by kernel_rfl)
set_option maxRecDepth 100000 in
theorem lifted (os : Os) (started : os.Started) (H : Type) (enc : TypeId × Value → H) :
    ReturnsInHanded {} Tryd.checked os 4 .any (fun w args => (Rows.gatePlaysSpec.pre enc Tryd.prog Tryd.f4 [] false w args ∧ laidMetH Tryd.prog laid w) ∧ sizedMet enc Tryd.prog Tryd.f4 (OpenSpec.ofChange Rows.gatePlaysSpec) false w args) (Rows.gatePlaysSpec.post enc Tryd.prog Tryd.f4 false true false false) := by
  refine returnsInHanded_of_change_and (C := Tryd.checked) (X := fun w _ => laidMetH Tryd.prog laid w) (fun _ _ _ hh h => h.of_heap hh) own started (by kernel_rfl) Tryd.func4
    (ChangeSpec.witness_at (enc := enc) (C := Tryd.checked) (os := os) (X := fun w _ => laidMetH Tryd.prog laid w) false (laidWorld os) #[.slice none 0 0, .bool false] 8 rfl (by kernel_rfl) (by kernel_rfl) (by kernel_rfl) (by kernel_rfl) (by kernel_rfl) (laidWorld_met os _)) ?_
  intro W base args ds gs before hval0 hW hcnd hsz0 hL _
  have hval : ∀ (j : Nat) t v, Tryd.f4.params[j]? = some t → args[j]? = some v → Value.okWide Tryd.prog W .any base t v := hval0
  have hW' := hW
  obtain ⟨p, q, hA0, hV, rfl, hfz, hnd⟩ := hW
  have hA : DataW.TrodAll enc Tryd.prog W 0 (fun _ => true) true Tryd.f4.params.toList args.toList ds p := hA0
  rw [Tryd.params4] at hA hval
  obtain ⟨v0, vs0, d0, ds0, p0, q0, hargs, rfl, rfl, h0, r0⟩ := trodAll_cons hA
  obtain ⟨v1, vs1, d1, ds1, p1, q1, rfl, rfl, rfl, h1, r1⟩ := trodAll_cons r0
  obtain ⟨rfl, rfl, rfl⟩ := trodAll_nil r1
  obtain rfl : args = #[v0, v1] := by cases args; simp_all
  obtain ⟨rfl, rfl⟩ := trodVars_none hV
  clear hA hA0
  have k0 := h0
  have lt0 : ∀ x ∈ p0, x.block < W.heap.size := by obtain ⟨m, hm⟩ := k0; exact DataW.trod_lt m _ _ _ hm
  have o0 := hval 0 37 v0 rfl rfl
  have k1 := h1
  have lt1 : ∀ x ∈ p1, x.block < W.heap.size := by obtain ⟨m, hm⟩ := k1; exact DataW.trod_lt m _ _ _ hm
  have o1 := hval 1 4 v1 rfl rfl
  obtain ⟨a1, e1, _, _⟩ := open_bool Tryd.underlying4 o1 h1
  have g0 := AM.open_slice (ads := (AM.adrs [v0, v1])) (k := 8) Tryd.underlying37 (by kernel_rfl) (of_decide_eq_true (by kernel_rfl)) o0 h0 (fun a n c e => by subst e; simp [AM.adrs])
  obtain ⟨l0, ad0, e0, m0, b0⟩ := AM.Img.holds (sz := 6) (α := AM.Gp.Op) Tryd.underlying37 g0.2 (AM.Gp.c6) (fun row hr => AM.Gp.opOf hr) (fun _ => rfl) (by kernel_rfl)
  obtain ⟨σ', hlaw⟩ := AM.Gp.plays_holds 2000 0 (by omega) b0 a1
  rw [← e0] at hlaw
  refine Calls.mono (AM.ends (args' := [v0, v1]) AM.Gp.envOK hlaw (.cons g0.1 (.cons (by rw [e1]; exact .bool _) (.nil _))) (handle_of_laid hL)) fun e W' ⟨he, bel⟩ => ?_
  subst he
  exact ⟨_, rfl, _, _, _, [], _, [], hW', trodAll_mk1 (shut_bool Tryd.underlying4 _), (trodAll_cons_mk (Below.trod laidOut (by kernel_rfl) (of_decide_eq_true (by kernel_rfl)) k0 bel lt0) (trodAll_cons_mk (Below.trod laidOut (by kernel_rfl) (of_decide_eq_true (by kernel_rfl)) k1 bel lt1) trodAll_mk0)), rfl, bel.frame _, fun h => by cases h⟩
theorem over : Rows.gatePlaysRow.holds Tryd.pinned (OpenSpec.ofChange Rows.gatePlaysSpec) :=
  OpenClaim.holds_of_wide 4 Tryd.f4 rfl rfl rfl rfl rfl rfl rfl ⟨rfl, rfl, rfl, rfl, rfl⟩ rfl rfl rfl rfl rfl (by kernel_rfl) Tryd.func4 (by kernel_rfl)
    (of_decide_eq_true (by kernel_rfl)) (by unfold Func.isWrapper; first | (rw [if_pos (by decide +kernel)]; kernel_rfl) | (rw [if_neg (by decide +kernel)]; exact ⟨rfl, rfl⟩))
    (fun os started H enc _ => lifted os started H enc)
theorem card : Claim7.holds Tryd.pinned (.plain (OpenSpec.ofChange Rows.gatePlaysSpec)) Rows.gatePlaysCard :=
  Claim7.holds_tied_plain_at .later [] [.handle] true (true, "ed1f7c123b96c139095f0dc4d546e42c272828addc6bc6daa2df4afa99b6a73a") true
    over (fun _ h => by cases h) (by kernel_rfl) (fun _ h => by cases h) gatePlays_row_tie rfl ⟨rfl, rfl⟩ (by kernel_rfl) rfl
    (fun f fn hf hfn => by
      obtain rfl : f = 4 := Option.some.inj ((show Tryd.prog.funcNamed "isobar/isobarlaw08.GatePlays" = some 4 by kernel_rfl).symm.trans hf) |>.symm
      obtain rfl : fn = Tryd.f4 := (Option.some.inj (Tryd.func4.symm.trans hfn)).symm
      exact ⟨by kernel_rfl, fun k t ht => by
        rw [Tryd.params4] at ht
        rcases k with _ | k
        · obtain rfl : t = 37 := by simpa using ht.symm
          exact (show Tryd.prog.wantsStandIn 37 = false by kernel_rfl)
        rcases k with _ | k
        · obtain rfl : t = 4 := by simpa using ht.symm
          exact (show Tryd.prog.wantsStandIn 4 = false by kernel_rfl)
        simp at ht⟩)
    (by kernel_rfl)
end Go.Proofs.YtgnchfjkpjblnaaDoor.gatePlays
namespace Go.Proofs.YtgnchfjkpjblnaaDoor
theorem gatePlays_holds : Rows.GatePlaysCardSaid := gatePlays.card
end Go.Proofs.YtgnchfjkpjblnaaDoor
#print axioms Go.Proofs.YtgnchfjkpjblnaaDoor.gatePlays_holds
