/-
  DiskKeeps: what goes in and comes out is memory of its own; a nil disk, and the zero one, have no sector. No condition but the card's.
-/
import Derived.Test.YtkgpnhkildoeoaaDoorRows
import Derived.Test.YtkgpnhkildoeoaaDoorTie
import Derived.Test.YtkgpnhkildoeoaaDoorCards
import Derived.ChangeVars
import Derived.JoinedOf
import Derived.LaidLaws
import Derived.LaidHandle
import Derived.Test.YtkgpnhkildoeoaaDoorDkK
import Derived.Test.YtkgpnhkildoeoaaDoorAm17
import Derived.Test.YtkgpnhkildoeoaaDoorOkDk
set_option linter.unusedVariables false
set_option linter.unusedSimpArgs false
set_option linter.unusedSectionVars false
namespace Go.Proofs.YtkgpnhkildoeoaaDoor.diskKeeps
open Go Go.Proofs Go.ChangeShapes Go.WideShapes Go.ChangeAt Go.RowKit
theorem own : ownKnob Tryd.prog.godebug = none := by kernel_rfl
theorem laidOut : laidOutB Tryd.prog = true := by kernel_rfl
theorem et : Tryd.prog.globalNamed "errors.errorType" = some 0 := by kernel_rfl
theorem rt : (Tryd.prog.cutTypes.find? (·.1 == "internal/reflectlite.rtype")).map (·.2) = some 98 := by kernel_rfl
theorem oneRow : ((List.range 152).filter fun t => Tryd.prog.rowNamed t [101, 114, 114, 111, 114]) = [32] := by kernel_rfl
theorem size : Tryd.prog.types.size = 152 := by kernel_rfl
def laid : List (String × DataW Unit) := [("errors.errorType", Rows.laid_errors_errorType)]
theorem handle_of_laid {W : World} (h : laidMetH Tryd.prog laid W) : W.cell? ⟨0, 0, none⟩ = some (.iface 98 (.agg #[.pointer (some ⟨4, 32, none⟩)])) := by
  have h' : laidMet Tryd.prog [] W ∧ handlesMet Tryd.prog laid W := h
  obtain ⟨name, u, ty, e1, e2, e3, e4, e5⟩ := h'.2 _ (List.mem_singleton.2 rfl)
  have en : name = [101, 114, 114, 111, 114] := (Option.some.inj e1).symm
  subst en
  obtain rfl := Option.some.inj (rt.symm.trans e2)
  have hm : ty ∈ (List.range 152).filter fun t => Tryd.prog.rowNamed t [101, 114, 114, 111, 114] := List.mem_filter.2 ⟨List.mem_range.2 (by rw [← size]; exact e3), e4⟩
  rw [oneRow] at hm
  obtain rfl := List.mem_singleton.1 hm
  have hh : typeHandle Tryd.prog 32 = .pointer (some ⟨4, 32, none⟩) := by kernel_rfl
  rw [hh] at e5
  simpa using World.var?_cell et e5 0
noncomputable def laidWorld (os : Os) : World :=
  let w0 := World.holding Tryd.prog os ⟨#[], #[], []⟩
  { w0 with heap := w0.heap.modify 0 fun
      | .cells _ t frozen => .cells #[.iface 98 (.agg #[.pointer (some ⟨4, 32, none⟩)])] t frozen
      | o => o }
theorem laidWorld_met (os : Os) (args : Array Value) : laidMetH Tryd.prog laid ((laidWorld os).forCall (fun _ _ => 0) ⟨#[], args, []⟩).memory :=
  laidMetH_of_parts (laidMet_nil _ _) (by kernel_rfl)
set_option maxRecDepth 100000 in
theorem lifted (os : Os) (started : os.Started) (H : Type) (enc : TypeId × Value → H) :
    ReturnsInHanded {} Tryd.checked os 7 .any (fun w args => (Rows.diskKeepsSpec.pre enc Tryd.prog Tryd.f7 [] false w args ∧ laidMetH Tryd.prog laid w) ∧ sizedMet enc Tryd.prog Tryd.f7 (OpenSpec.ofChange Rows.diskKeepsSpec) false w args) (Rows.diskKeepsSpec.post enc Tryd.prog Tryd.f7 false true false false) := by
  refine returnsInHanded_of_change_and (C := Tryd.checked) (X := fun w _ => laidMetH Tryd.prog laid w) (fun _ _ _ hh h => h.of_heap hh) own started (by kernel_rfl) Tryd.func7
    (ChangeSpec.witness_at (enc := enc) (C := Tryd.checked) (os := os) (X := fun w _ => laidMetH Tryd.prog laid w) false (laidWorld os) #[.int .u8 0, .int .u8 0, .agg #[.int .i64 0, .int .i64 0, .int .u64 0, .string ByteArray.empty]] 8 rfl (by kernel_rfl) (by kernel_rfl) (by kernel_rfl) (by kernel_rfl) (by kernel_rfl) (laidWorld_met os _)) ?_
  intro W base args ds gs before hval0 hW hcnd hsz0 hL _
  have hval : ∀ (j : Nat) t v, Tryd.f7.params[j]? = some t → args[j]? = some v → Value.okWide Tryd.prog W .any base t v := hval0
  have hW' := hW
  obtain ⟨p, q, hA0, hV, rfl, hfz, hnd⟩ := hW
  have hA : DataW.TrodAll enc Tryd.prog W 0 (fun _ => true) true Tryd.f7.params.toList args.toList ds p := hA0
  rw [Tryd.params7] at hA hval
  obtain ⟨v0, vs0, d0, ds0, p0, q0, hargs, rfl, rfl, h0, r0⟩ := trodAll_cons hA
  obtain ⟨v1, vs1, d1, ds1, p1, q1, rfl, rfl, rfl, h1, r1⟩ := trodAll_cons r0
  obtain ⟨v2, vs2, d2, ds2, p2, q2, rfl, rfl, rfl, h2, r2⟩ := trodAll_cons r1
  obtain ⟨rfl, rfl, rfl⟩ := trodAll_nil r2
  obtain rfl : args = #[v0, v1, v2] := by cases args; simp_all
  obtain ⟨rfl, rfl⟩ := trodVars_none hV
  clear hA hA0
  have k0 := h0
  have lt0 : ∀ x ∈ p0, x.block < W.heap.size := by obtain ⟨m, hm⟩ := k0; exact DataW.trod_lt m _ _ _ hm
  have o0 := hval 0 5 v0 rfl rfl
  obtain ⟨a0, e0, _, _, w0⟩ := open_int Tryd.underlying5 o0 h0
  have k1 := h1
  have lt1 : ∀ x ∈ p1, x.block < W.heap.size := by obtain ⟨m, hm⟩ := k1; exact DataW.trod_lt m _ _ _ hm
  have o1 := hval 1 5 v1 rfl rfl
  obtain ⟨a1, e1, _, _, w1⟩ := open_int Tryd.underlying5 o1 h1
  have k2 := h2
  have lt2 : ∀ x ∈ p2, x.block < W.heap.size := by obtain ⟨m, hm⟩ := k2; exact DataW.trod_lt m _ _ _ hm
  have o2 := hval 2 30 v2 rfl rfl
  obtain ⟨cs2, ec2, _⟩ := okWide_struct Tryd.underlying30 o2
  have g2 := AM.open_flat (ads := (AM.adrs [v0, v1, v2])) (k := 8) (by kernel_rfl) (.inr trivial) h2 (.inl ⟨cs2, ec2⟩)
  obtain ⟨c2, hc2⟩ := (fun hr => AM.Dk.opOf hr) g2.2
  have e2 : v2 = Value.agg (AM.Dk.c4 c2).toArray := by rw [ec2] at hc2 ⊢; exact congrArg Value.agg (by rw [← Array.toArray_toList (xs := cs2)]; exact congrArg List.toArray hc2)
  obtain ⟨σ', hlaw⟩ := AM.Dk.keeps_holds 500 0 (by omega) (AM.stOf (AM.adrs [v0, v1, v2]) W) a0 a1 c2 (AM.wf_u8 w0) (AM.wf_u8 w1)
  rw [← e2] at hlaw
  refine Calls.mono (AM.ends (args' := [v0, v1, v2]) AM.Dk.envOK hlaw (.cons (by rw [e0]; exact .int _ _) (.cons (by rw [e1]; exact .int _ _) (.cons g2.1 (.nil _)))) (handle_of_laid hL)) fun e W' ⟨he, bel⟩ => ?_
  subst he
  exact ⟨_, rfl, _, _, _, [], _, [], hW', trodAll_mk1 (shut_bool Tryd.underlying4 _), (trodAll_cons_mk (Below.trod laidOut (by kernel_rfl) (of_decide_eq_true (by kernel_rfl)) k0 bel lt0) (trodAll_cons_mk (Below.trod laidOut (by kernel_rfl) (of_decide_eq_true (by kernel_rfl)) k1 bel lt1) (trodAll_cons_mk (Below.trod laidOut (by kernel_rfl) (of_decide_eq_true (by kernel_rfl)) k2 bel lt2) trodAll_mk0))), rfl, bel.frame _, fun h => by cases h⟩
theorem over : Rows.diskKeepsRow.holds Tryd.pinned (OpenSpec.ofChange Rows.diskKeepsSpec) :=
  OpenClaim.holds_of_wide 7 Tryd.f7 rfl rfl rfl rfl rfl rfl rfl ⟨rfl, rfl, rfl, rfl, rfl⟩ rfl rfl rfl rfl rfl (by kernel_rfl) Tryd.func7 (by kernel_rfl)
    (of_decide_eq_true (by kernel_rfl)) (by unfold Func.isWrapper; first | (rw [if_pos (by decide +kernel)]; kernel_rfl) | (rw [if_neg (by decide +kernel)]; exact ⟨rfl, rfl⟩))
    (fun os started H enc _ => lifted os started H enc)
theorem card : Claim7.holds Tryd.pinned (.plain (OpenSpec.ofChange Rows.diskKeepsSpec)) Rows.diskKeepsCard :=
  Claim7.holds_tied_plain_at .later [] [.handle] true (true, "e546836d0bf5c12a2f2139bd598f4f269360deb69bb384ab9c198a37874af3ec") true
    over (fun _ h => by cases h) (by kernel_rfl) (fun _ h => by cases h) diskKeeps_row_tie rfl ⟨rfl, rfl⟩ (by kernel_rfl) rfl
    (fun f fn hf hfn => by
      obtain rfl : f = 7 := Option.some.inj ((show Tryd.prog.funcNamed "isobar/isobarlaw04.DiskKeeps" = some 7 by kernel_rfl).symm.trans hf) |>.symm
      obtain rfl : fn = Tryd.f7 := (Option.some.inj (Tryd.func7.symm.trans hfn)).symm
      exact ⟨by kernel_rfl, fun k t ht => by
        rw [Tryd.params7] at ht
        rcases k with _ | k
        · obtain rfl : t = 5 := by simpa using ht.symm
          exact (show Tryd.prog.wantsStandIn 5 = false by kernel_rfl)
        rcases k with _ | k
        · obtain rfl : t = 5 := by simpa using ht.symm
          exact (show Tryd.prog.wantsStandIn 5 = false by kernel_rfl)
        rcases k with _ | k
        · obtain rfl : t = 30 := by simpa using ht.symm
          exact (show Tryd.prog.wantsStandIn 30 = false by kernel_rfl)
        simp at ht⟩)
    (by kernel_rfl)
end Go.Proofs.YtkgpnhkildoeoaaDoor.diskKeeps
namespace Go.Proofs.YtkgpnhkildoeoaaDoor
theorem diskKeeps_holds : Rows.DiskKeepsCardSaid := diskKeeps.card
end Go.Proofs.YtkgpnhkildoeoaaDoor
#print axioms Go.Proofs.YtkgpnhkildoeoaaDoor.diskKeeps_holds
