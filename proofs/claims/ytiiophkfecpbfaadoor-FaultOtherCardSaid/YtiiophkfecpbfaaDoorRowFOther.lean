/-
  FaultOther: an error that is none of api's, wrapped, has no number, but its path, and its text. No condition but the card's.
-/
import Derived.Test.YtiiophkfecpbfaaDoorRows
import Derived.Test.YtiiophkfecpbfaaDoorTie
import Derived.Test.YtiiophkfecpbfaaDoorCards
import Derived.ChangeVars
import Derived.JoinedOf
import Derived.LaidLaws
import Derived.LaidHandle
import Derived.Test.YtiiophkfecpbfaaDoorFwN
import Derived.Test.YtiiophkfecpbfaaDoorFwArg
import Derived.Test.YtiiophkfecpbfaaDoorAm13g
import Derived.Test.YtiiophkfecpbfaaDoorOkFw
import Derived.Lib.LaidTab
set_option linter.unusedVariables false
set_option linter.unusedSimpArgs false
set_option linter.unusedSectionVars false
namespace Go.Proofs.YtiiophkfecpbfaaDoor.faultOther
open Go Go.Proofs Go.ChangeShapes Go.WideShapes Go.ChangeAt Go.RowKit
open Go.ChangeMaps (open_string shut_string)
theorem own : ownKnob Tryd.prog.godebug = none := by kernel_rfl
theorem laidOut : laidOutB Tryd.prog = true := by kernel_rfl
theorem et : Tryd.prog.globalNamed "errors.errorType" = some 0 := by kernel_rfl
theorem rt : (Tryd.prog.cutTypes.find? (·.1 == "internal/reflectlite.rtype")).map (·.2) = some 81 := by kernel_rfl
theorem oneRow : ((List.range 141).filter fun t => Tryd.prog.rowNamed t [101, 114, 114, 111, 114]) = [27] := by kernel_rfl
theorem size : Tryd.prog.types.size = 141 := by kernel_rfl
def tabs : List (String × DataW Unit) := [("math/bits.deBruijn32tab", Rows.laid_math_bits_deBruijn32tab), ("math/bits.deBruijn64tab", Rows.laid_math_bits_deBruijn64tab), ("internal/strconv.uint64pow10", Rows.laid_internal_strconv_uint64pow10)]
def hnd : List (String × DataW Unit) := [("errors.errorType", Rows.laid_errors_errorType)]
def laid : List (String × DataW Unit) := [("math/bits.deBruijn32tab", Rows.laid_math_bits_deBruijn32tab), ("math/bits.deBruijn64tab", Rows.laid_math_bits_deBruijn64tab), ("internal/strconv.uint64pow10", Rows.laid_internal_strconv_uint64pow10), ("errors.errorType", Rows.laid_errors_errorType)]
theorem handle_of_laid {W : World} (h : laidMetH Tryd.prog laid W) : W.cell? ⟨0, 0, none⟩ = some (.iface 81 (.agg #[.pointer (some ⟨4, 27, none⟩)])) := by
  have h' : laidMet Tryd.prog tabs W ∧ handlesMet Tryd.prog hnd W := h
  obtain ⟨name, u, ty, e1, e2, e3, e4, e5⟩ := h'.2 _ (List.mem_singleton.2 rfl)
  have en : name = [101, 114, 114, 111, 114] := (Option.some.inj e1).symm
  subst en
  obtain rfl := Option.some.inj (rt.symm.trans e2)
  have hm : ty ∈ (List.range 141).filter fun t => Tryd.prog.rowNamed t [101, 114, 114, 111, 114] := List.mem_filter.2 ⟨List.mem_range.2 (by rw [← size]; exact e3), e4⟩
  rw [oneRow] at hm
  obtain rfl := List.mem_singleton.1 hm
  have hh : typeHandle Tryd.prog 27 = .pointer (some ⟨4, 27, none⟩) := by kernel_rfl
  rw [hh] at e5
  simpa using World.var?_cell et e5 0
theorem laid_tail {P : Program} {W : World} {x : String × DataW Unit} {rest : List (String × DataW Unit)} (h : laidMet P (x :: rest) W) : laidMet P rest W := by
  obtain ⟨ps, ⟨g, t, cs, fuel, p, q, h1, h2, h3, h4, h5, h6⟩, hn, hr⟩ := h
  subst h6
  exact ⟨q, h5, (List.nodup_append.1 hn).2.1, fun b off hm => hr b off (List.mem_append_right _ hm)⟩
theorem tab_of_laid {W : World} (h : laidMetH Tryd.prog laid W) : Lib.TabIs Tryd.prog W "internal/strconv.uint64pow10" .u64 Lib.pow10Tab := by
  have h' : laidMet Tryd.prog tabs W ∧ handlesMet Tryd.prog hnd W := h
  have h2 : laidMet Tryd.prog [("internal/strconv.uint64pow10", Lib.tabData .u64 Lib.pow10Tab)] W := laid_tail (laid_tail h'.1)
  exact Lib.tabIs_of_head (g := 1) (t := 104) (e := 97) (n := 20) (by kernel_rfl) (by kernel_rfl) Tryd.underlying104 Tryd.underlying97 (by kernel_rfl) (by kernel_rfl) h2
def litsOf : DataW Unit → Array Value
  | .agg l => (l.map fun x => match x with | .lit (.int k n) => Value.int k n | _ => Value.nilIface).toArray
  | _ => #[]
noncomputable def laidWorld0 (os : Os) : World :=
  let w0 := World.holding Tryd.prog os ⟨#[], #[], []⟩
  { w0 with heap := w0.heap.modify 0 fun
      | .cells _ t frozen => .cells #[.iface 81 (.agg #[.pointer (some ⟨4, 27, none⟩)])] t frozen
      | o => o }
noncomputable def laidWorld (os : Os) : World :=
  let w0 := laidWorld0 os
  let w1 := { w0 with heap := w0.heap.modify 2 fun | .cells _ t frozen => .cells (litsOf Rows.laid_math_bits_deBruijn32tab) t frozen | o => o }
  let w2 := { w1 with heap := w1.heap.modify 3 fun | .cells _ t frozen => .cells (litsOf Rows.laid_math_bits_deBruijn64tab) t frozen | o => o }
  let w3 := { w2 with heap := w2.heap.modify 1 fun | .cells _ t frozen => .cells (litsOf Rows.laid_internal_strconv_uint64pow10) t frozen | o => o }
  w3
theorem laidWorld_met (os : Os) (args : Array Value) : laidMetH Tryd.prog laid ((laidWorld os).forCall (fun _ _ => 0) ⟨#[], args, []⟩).memory :=
  laidMetH_of_parts (show laidMet Tryd.prog tabs _ from laidMet_of_run' 8 (by kernel_rfl) (by kernel_rfl)) (by kernel_rfl)
set_option maxRecDepth 100000 in
theorem lifted (os : Os) (started : os.Started) (H : Type) (enc : TypeId × Value → H) :
    ReturnsInHanded {} Tryd.checked os 7 .any (fun w args => (Rows.faultOtherSpec.pre enc Tryd.prog Tryd.f7 [] false w args ∧ laidMetH Tryd.prog laid w) ∧ sizedMet enc Tryd.prog Tryd.f7 (OpenSpec.ofChange Rows.faultOtherSpec) false w args) (Rows.faultOtherSpec.post enc Tryd.prog Tryd.f7 false true false false) := by
  refine returnsInHanded_of_change_and (C := Tryd.checked) (X := fun w _ => laidMetH Tryd.prog laid w) (fun _ _ _ hh h => h.of_heap hh) own started (by kernel_rfl) Tryd.func7
    (ChangeSpec.witness_at (enc := enc) (C := Tryd.checked) (os := os) (X := fun w _ => laidMetH Tryd.prog laid w) false (laidWorld os) #[.slice none 0 0, .string ByteArray.empty] 8 rfl (by kernel_rfl) (by kernel_rfl) (by kernel_rfl) (by kernel_rfl) (by kernel_rfl) (laidWorld_met os _)) ?_
  intro W base args ds gs before hval0 hW hcnd hsz0 hL _
  have hval : ∀ (j : Nat) t v, Tryd.f7.params[j]? = some t → args[j]? = some v → Value.okWide Tryd.prog W .any base t v := hval0
  have hW' := hW
  obtain ⟨p, q, hA0, hV, rfl, hfz, hnd⟩ := hW
  have hA : DataW.TrodAll enc Tryd.prog W 0 (fun _ => true) true Tryd.f7.params.toList args.toList ds p := hA0
  rw [Tryd.params7] at hA hval
  obtain ⟨v0, vs0, d0, ds0, p0, q0, hargs, rfl, rfl, h0, r0⟩ := trodAll_cons hA
  obtain ⟨v1, vs1, d1, ds1, p1, q1, rfl, rfl, rfl, h1, r1⟩ := trodAll_cons r0
  obtain ⟨rfl, rfl, rfl⟩ := trodAll_nil r1
  obtain rfl : args = #[v0, v1] := by cases args; simp_all
  obtain ⟨rfl, rfl⟩ := trodVars_none hV
  clear hA hA0
  have k0 := h0
  have lt0 : ∀ x ∈ p0, x.block < W.heap.size := by obtain ⟨m, hm⟩ := k0; exact DataW.trod_lt m _ _ _ hm
  have o0 := hval 0 38 v0 rfl rfl
  have k1 := h1
  have lt1 : ∀ x ∈ p1, x.block < W.heap.size := by obtain ⟨m, hm⟩ := k1; exact DataW.trod_lt m _ _ _ hm
  have o1 := hval 1 9 v1 rfl rfl
  obtain ⟨a1, e1, _, _, w1⟩ := open_string Tryd.underlying9 o1 h1
  have g0 := AM.open_slice (ads := (AM.adrs [v0, v1])) (k := 8) Tryd.underlying38 (by kernel_rfl) (of_decide_eq_true (by kernel_rfl)) o0 h0 (fun a n c e => by subst e; simp [AM.adrs])
  obtain ⟨l0, ad0, e0, m0, b0⟩ := AM.Img.holds (sz := 2) (α := AM.Fw.PB) Tryd.underlying38 g0.2 (AM.Fw.cPB) (fun row hr => AM.Fw.placeOf hr) (fun _ => rfl) (by kernel_rfl)
  obtain ⟨σ', hlaw⟩ := AM.Fw.other_holds 200000 0 (by omega) b0 a1
  rw [← e0] at hlaw
  refine Calls.mono (AM.ends (args' := [v0, v1]) AM.Fw.envOK hlaw (.cons g0.1 (.cons (by rw [e1]; exact .string _) (.nil _))) ⟨tab_of_laid hL, handle_of_laid hL⟩) fun e W' ⟨he, bel⟩ => ?_
  subst he
  exact ⟨_, rfl, _, _, _, [], _, [], hW', trodAll_mk1 (shut_bool Tryd.underlying4 _), (trodAll_cons_mk (Below.trod laidOut (by kernel_rfl) (of_decide_eq_true (by kernel_rfl)) k0 bel lt0) (trodAll_cons_mk (Below.trod laidOut (by kernel_rfl) (of_decide_eq_true (by kernel_rfl)) k1 bel lt1) trodAll_mk0)), rfl, bel.frame _, fun h => by cases h⟩
theorem over : Rows.faultOtherRow.holds Tryd.pinned (OpenSpec.ofChange Rows.faultOtherSpec) :=
  OpenClaim.holds_of_wide 7 Tryd.f7 rfl rfl rfl rfl rfl rfl rfl ⟨rfl, rfl, rfl, rfl, rfl⟩ rfl rfl rfl rfl rfl (by kernel_rfl) Tryd.func7 (by kernel_rfl)
    (of_decide_eq_true (by kernel_rfl)) (by unfold Func.isWrapper; first | (rw [if_pos (by decide +kernel)]; kernel_rfl) | (rw [if_neg (by decide +kernel)]; exact ⟨rfl, rfl⟩))
    (fun os started H enc _ => lifted os started H enc)
theorem card : Claim7.holds Tryd.pinned (.plain (OpenSpec.ofChange Rows.faultOtherSpec)) Rows.faultOtherCard :=
  Claim7.holds_tied_plain_at .later [] [.data, .data, .data, .handle] true (true, "de5481b72d1054b0fb4aa25858913f1c4718b243b497ea8f1adc680ce618ae97") true
    over (fun _ h => by cases h) (by kernel_rfl) (fun _ h => by cases h) faultOther_row_tie rfl ⟨rfl, rfl⟩ (by kernel_rfl) rfl
    (fun f fn hf hfn => by
      obtain rfl : f = 7 := Option.some.inj ((show Tryd.prog.funcNamed "isobar/isobarlaw03.FaultOther" = some 7 by kernel_rfl).symm.trans hf) |>.symm
      obtain rfl : fn = Tryd.f7 := (Option.some.inj (Tryd.func7.symm.trans hfn)).symm
      exact ⟨by kernel_rfl, fun k t ht => by
        rw [Tryd.params7] at ht
        rcases k with _ | k
        · obtain rfl : t = 38 := by simpa using ht.symm
          exact (show Tryd.prog.wantsStandIn 38 = false by kernel_rfl)
        rcases k with _ | k
        · obtain rfl : t = 9 := by simpa using ht.symm
          exact (show Tryd.prog.wantsStandIn 9 = false by kernel_rfl)
        simp at ht⟩)
    (by kernel_rfl)
end Go.Proofs.YtiiophkfecpbfaaDoor.faultOther
namespace Go.Proofs.YtiiophkfecpbfaaDoor
theorem faultOther_holds : Rows.FaultOtherCardSaid := faultOther.card
end Go.Proofs.YtiiophkfecpbfaaDoor
#print axioms Go.Proofs.YtiiophkfecpbfaaDoor.faultOther_holds
