/-
  No cell of these rows narrows 'for every input' (looked for: loops, veiled, ifaces, maps, wideKeys, modest, calm, conditions, laid).
  DERIVED. THE GIVEN ROWS OF THIS SEAT. 4 by the template 'for every input the law returns true; each argument reads behind the call as it read before'; 0 by the template 'total and deterministic' (their statements: YtmbofnomfmhmdaaTotals.lean).
  GIVEN WITH THE SEED: the statements are not yours to turn. If you find one false, say at which input.
  Laid BY PROGRAM, IN A SANDBOX (cutbox-rows.mjs): the forced cells as the released guide's own fill.sh prints them over the translation c0c1b4735c70af86… (all of the seat's roots in one cut). By AI agents, Wed Nov 11 2026. No macro, syntax, notation, axiom, sorry.
-/
import Derived.Test.YtmbofnomfmhmdaaChecked
import GoSem.Claim
import GoSem.ClaimJoined
import GoSem.ClaimMapViews
import Derived.JoinedTies
import Derived.KernelRfl
namespace Go.Proofs.Ytmbofnomfmhmdaa
/- THE CELL 'sum', in the pinned program and in every row, IS THE sha256 OF THE DUMP (.gsa) THAT YtmbofnomfmhmdaaProg.lean LOADS. Nothing in Lean hashes anything: it is a label: what it is worth is what the hold of that sum in a sandbox is worth. -/
noncomputable def Try.pinned : Pinned := { name := "ytmbofnomfmhmdaa", sum := "c0c1b4735c70af86437caea17528339ded3b491453a439bdf7996d8d03134f38", checked := Try.checked }
namespace Rows
def none {H : Type} : Left H := { results := [], args := [] }

/-- 'isobarlaw17.RoundTimes': WHATEVER THE INPUT: true; the input reads as it did. -/
def roundTimesSpec : ChangeSpec := { name := "roundTimes", fn := fun _ => fun
  | [d1, d2, d3] => { results := [.lit (.bool true)], args := [d1, d2, d3] }
  | _ => none }
def roundTimesRow : OpenClaim := { program := "ytmbofnomfmhmdaa", sum := "c0c1b4735c70af86437caea17528339ded3b491453a439bdf7996d8d03134f38", func := "isobar/isobarlaw17.RoundTimes", spec := "roundTimes", apart := false }
def RoundTimesSaid : Prop := roundTimesRow.holds Try.pinned (OpenSpec.ofChange roundTimesSpec)

/-- ITS FALSE NEIGHBOUR: 'it returns false'. Refute it at one input. -/
def roundTimesWrong : ChangeSpec := { name := "roundTimes", fn := fun _ => fun
  | [d1, d2, d3] => { results := [.lit (.bool false)], args := [d1, d2, d3] }
  | _ => none }
def RoundTimesWrongFalsely : Prop := roundTimesRow.holds Try.pinned (OpenSpec.ofChange roundTimesWrong)

/-- 'isobarlaw17.RoundOrder': WHATEVER THE INPUT: true; the input reads as it did. -/
def roundOrderSpec : ChangeSpec := { name := "roundOrder", fn := fun _ => fun
  | [d1, d2, d3] => { results := [.lit (.bool true)], args := [d1, d2, d3] }
  | _ => none }
def roundOrderRow : OpenClaim := { program := "ytmbofnomfmhmdaa", sum := "c0c1b4735c70af86437caea17528339ded3b491453a439bdf7996d8d03134f38", func := "isobar/isobarlaw17.RoundOrder", spec := "roundOrder", apart := false }
def RoundOrderSaid : Prop := roundOrderRow.holds Try.pinned (OpenSpec.ofChange roundOrderSpec)

/-- ITS FALSE NEIGHBOUR: 'it returns false'. Refute it at one input. -/
def roundOrderWrong : ChangeSpec := { name := "roundOrder", fn := fun _ => fun
  | [d1, d2, d3] => { results := [.lit (.bool false)], args := [d1, d2, d3] }
  | _ => none }
def RoundOrderWrongFalsely : Prop := roundOrderRow.holds Try.pinned (OpenSpec.ofChange roundOrderWrong)

/-- 'isobarlaw17.RoundSafe': WHATEVER THE INPUT: true; the input reads as it did. -/
def roundSafeSpec : ChangeSpec := { name := "roundSafe", fn := fun _ => fun
  | [d] => { results := [.lit (.bool true)], args := [d] }
  | _ => none }
def roundSafeRow : OpenClaim := { program := "ytmbofnomfmhmdaa", sum := "c0c1b4735c70af86437caea17528339ded3b491453a439bdf7996d8d03134f38", func := "isobar/isobarlaw17.RoundSafe", spec := "roundSafe", apart := false }
def RoundSafeSaid : Prop := roundSafeRow.holds Try.pinned (OpenSpec.ofChange roundSafeSpec)

/-- ITS FALSE NEIGHBOUR: 'it returns false'. Refute it at one input. -/
def roundSafeWrong : ChangeSpec := { name := "roundSafe", fn := fun _ => fun
  | [d] => { results := [.lit (.bool false)], args := [d] }
  | _ => none }
def RoundSafeWrongFalsely : Prop := roundSafeRow.holds Try.pinned (OpenSpec.ofChange roundSafeWrong)

/-- 'isobarlaw17.RoundEnds': WHATEVER THE INPUT: true; the input reads as it did. -/
def roundEndsSpec : ChangeSpec := { name := "roundEnds", fn := fun _ => fun
  | [d1, d2, d3, d4] => { results := [.lit (.bool true)], args := [d1, d2, d3, d4] }
  | _ => none }
def roundEndsRow : OpenClaim := { program := "ytmbofnomfmhmdaa", sum := "c0c1b4735c70af86437caea17528339ded3b491453a439bdf7996d8d03134f38", func := "isobar/isobarlaw17.RoundEnds", spec := "roundEnds", apart := false }
def RoundEndsSaid : Prop := roundEndsRow.holds Try.pinned (OpenSpec.ofChange roundEndsSpec)

/-- ITS FALSE NEIGHBOUR: 'it returns false'. Refute it at one input. -/
def roundEndsWrong : ChangeSpec := { name := "roundEnds", fn := fun _ => fun
  | [d1, d2, d3, d4] => { results := [.lit (.bool false)], args := [d1, d2, d3, d4] }
  | _ => none }
def RoundEndsWrongFalsely : Prop := roundEndsRow.holds Try.pinned (OpenSpec.ofChange roundEndsWrong)

/- THE SECOND FORM. 'bulk': how many values and letters a reading holds, each counted each time it is reached (what is shared counts as often as it is met; a slice's spare places count too). A statement '..UptoSaid' is the law's where the arguments, and the package variables that the reading takes, are together of bulk at most 1048576: NARROWER than '..Said'. Prove '..Said' where nothing that the law and all that it calls make is longer than what came in: it says more and counts as full. Else prove '..UptoSaid'. A law counts once. -/
mutual
def uptoBulk {H : Type} : DataW H → Nat
  | .lit (.string bytes) => bytes.length + 1
  | .lit _ => 1
  | .nil => 1
  | .ptr d => uptoBulk d + 1
  | .slice elems spare => uptoBulkAll elems + uptoBulkAll spare + 1
  | .agg parts => uptoBulkAll parts + 1
  | .iface _ d => uptoBulk d + 1
  | .map entries => uptoBulkEntries entries + 1
  | .held _ => 1
def uptoBulkAll {H : Type} : List (DataW H) → Nat
  | [] => 0
  | d :: r => uptoBulk d + uptoBulkAll r
def uptoBulkEntries {H : Type} : List (Lit × DataW H) → Nat
  | [] => 0
  | x :: r => uptoBulkEntry x + uptoBulkEntries r
def uptoBulkEntry {H : Type} : Lit × DataW H → Nat
  | (.string bytes, d) => bytes.length + uptoBulk d + 1
  | (_, d) => uptoBulk d + 1
 end
def uptoSmall : (H : Type) → List (DataW H) → Bool := fun _ ds => decide (uptoBulkAll ds ≤ 1048576)
def OpenSpec.upto (s : _root_.Go.ChangeSpec) : _root_.Go.OpenSpec := { _root_.Go.OpenSpec.ofChange s with cond := some uptoSmall }

/-- 'isobarlaw17.RoundTimes', WHERE WHAT IT READS IS OF BULK AT MOST 1048576: true; the input reads as it did. -/
def roundTimesUptoRow : OpenClaim := { program := "ytmbofnomfmhmdaa", sum := "c0c1b4735c70af86437caea17528339ded3b491453a439bdf7996d8d03134f38", func := "isobar/isobarlaw17.RoundTimes", spec := "roundTimes", apart := false, narrowed := true }
def RoundTimesUptoSaid : Prop := roundTimesUptoRow.holds Try.pinned (OpenSpec.upto roundTimesSpec)

/-- 'isobarlaw17.RoundOrder', WHERE WHAT IT READS IS OF BULK AT MOST 1048576: true; the input reads as it did. -/
def roundOrderUptoRow : OpenClaim := { program := "ytmbofnomfmhmdaa", sum := "c0c1b4735c70af86437caea17528339ded3b491453a439bdf7996d8d03134f38", func := "isobar/isobarlaw17.RoundOrder", spec := "roundOrder", apart := false, narrowed := true }
def RoundOrderUptoSaid : Prop := roundOrderUptoRow.holds Try.pinned (OpenSpec.upto roundOrderSpec)

/-- 'isobarlaw17.RoundSafe', WHERE WHAT IT READS IS OF BULK AT MOST 1048576: true; the input reads as it did. -/
def roundSafeUptoRow : OpenClaim := { program := "ytmbofnomfmhmdaa", sum := "c0c1b4735c70af86437caea17528339ded3b491453a439bdf7996d8d03134f38", func := "isobar/isobarlaw17.RoundSafe", spec := "roundSafe", apart := false, narrowed := true }
def RoundSafeUptoSaid : Prop := roundSafeUptoRow.holds Try.pinned (OpenSpec.upto roundSafeSpec)

/-- 'isobarlaw17.RoundEnds', WHERE WHAT IT READS IS OF BULK AT MOST 1048576: true; the input reads as it did. -/
def roundEndsUptoRow : OpenClaim := { program := "ytmbofnomfmhmdaa", sum := "c0c1b4735c70af86437caea17528339ded3b491453a439bdf7996d8d03134f38", func := "isobar/isobarlaw17.RoundEnds", spec := "roundEnds", apart := false, narrowed := true }
def RoundEndsUptoSaid : Prop := roundEndsUptoRow.holds Try.pinned (OpenSpec.upto roundEndsSpec)

end Rows
end Go.Proofs.Ytmbofnomfmhmdaa
