/-
  No cell of these rows narrows 'for every input' (looked for: loops, veiled, ifaces, maps, wideKeys, modest, calm, conditions, laid).
  DERIVED. THE GIVEN ROWS OF THIS SEAT. 3 by the template 'for every input the law returns true; each argument reads behind the call as it read before'; 0 by the template 'total and deterministic' (their statements: YtnihjgamfnabnaaTotals.lean).
  GIVEN WITH THE SEED: the statements are not yours to turn. If you find one false, say at which input.
  Laid BY PROGRAM, IN A SANDBOX (cutbox-rows.mjs): the forced cells as the released guide's own fill.sh prints them over the translation 0e7ca4799b62df3a… (all of the seat's roots in one cut). By AI agents, Wed Nov 11 2026. No macro, syntax, notation, axiom, sorry.
-/
import Derived.Test.YtnihjgamfnabnaaChecked
import GoSem.Claim
import GoSem.ClaimJoined
import GoSem.ClaimMapViews
import Derived.JoinedTies
import Derived.KernelRfl
namespace Go.Proofs.Ytnihjgamfnabnaa
/- THE CELL 'sum', in the pinned program and in every row, IS THE sha256 OF THE DUMP (.gsa) THAT YtnihjgamfnabnaaProg.lean LOADS. Nothing in Lean hashes anything: it is a label: what it is worth is what the hold of that sum in a sandbox is worth. -/
noncomputable def Try.pinned : Pinned := { name := "ytnihjgamfnabnaa", sum := "0e7ca4799b62df3a0647794c0a3e787d5ff2d6ed8d4da0358a8c9333a7757168", checked := Try.checked }
namespace Rows
def none {H : Type} : Left H := { results := [], args := [] }

/-- 'isobarlaw19.BackupCatches': WHATEVER THE INPUT: true; the input reads as it did. -/
def backupCatchesSpec : ChangeSpec := { name := "backupCatches", fn := fun _ => fun
  | [d1, d2, d3, d4] => { results := [.lit (.bool true)], args := [d1, d2, d3, d4] }
  | _ => none }
def backupCatchesRow : OpenClaim := { program := "ytnihjgamfnabnaa", sum := "0e7ca4799b62df3a0647794c0a3e787d5ff2d6ed8d4da0358a8c9333a7757168", func := "isobar/isobarlaw19.BackupCatches", spec := "backupCatches", unfollowed := true, recurses := true, apart := false }
def BackupCatchesSaid : Prop := backupCatchesRow.holds Try.pinned (OpenSpec.ofChange backupCatchesSpec)

/-- ITS FALSE NEIGHBOUR: 'it returns false'. Refute it at one input. -/
def backupCatchesWrong : ChangeSpec := { name := "backupCatches", fn := fun _ => fun
  | [d1, d2, d3, d4] => { results := [.lit (.bool false)], args := [d1, d2, d3, d4] }
  | _ => none }
def BackupCatchesWrongFalsely : Prop := backupCatchesRow.holds Try.pinned (OpenSpec.ofChange backupCatchesWrong)

/-- 'isobarlaw19.BackupCuts': WHATEVER THE INPUT: true; the input reads as it did. -/
def backupCutsSpec : ChangeSpec := { name := "backupCuts", fn := fun _ => fun
  | [d1, d2, d3] => { results := [.lit (.bool true)], args := [d1, d2, d3] }
  | _ => none }
def backupCutsRow : OpenClaim := { program := "ytnihjgamfnabnaa", sum := "0e7ca4799b62df3a0647794c0a3e787d5ff2d6ed8d4da0358a8c9333a7757168", func := "isobar/isobarlaw19.BackupCuts", spec := "backupCuts", unfollowed := true, recurses := true, apart := false }
def BackupCutsSaid : Prop := backupCutsRow.holds Try.pinned (OpenSpec.ofChange backupCutsSpec)

/-- ITS FALSE NEIGHBOUR: 'it returns false'. Refute it at one input. -/
def backupCutsWrong : ChangeSpec := { name := "backupCuts", fn := fun _ => fun
  | [d1, d2, d3] => { results := [.lit (.bool false)], args := [d1, d2, d3] }
  | _ => none }
def BackupCutsWrongFalsely : Prop := backupCutsRow.holds Try.pinned (OpenSpec.ofChange backupCutsWrong)

/-- 'isobarlaw19.BackupReplays': WHATEVER THE INPUT: true; the input reads as it did. -/
def backupReplaysSpec : ChangeSpec := { name := "backupReplays", fn := fun _ => fun
  | [d1, d2] => { results := [.lit (.bool true)], args := [d1, d2] }
  | _ => none }
def backupReplaysRow : OpenClaim := { program := "ytnihjgamfnabnaa", sum := "0e7ca4799b62df3a0647794c0a3e787d5ff2d6ed8d4da0358a8c9333a7757168", func := "isobar/isobarlaw19.BackupReplays", spec := "backupReplays", unfollowed := true, recurses := true, apart := false }
def BackupReplaysSaid : Prop := backupReplaysRow.holds Try.pinned (OpenSpec.ofChange backupReplaysSpec)

/-- ITS FALSE NEIGHBOUR: 'it returns false'. Refute it at one input. -/
def backupReplaysWrong : ChangeSpec := { name := "backupReplays", fn := fun _ => fun
  | [d1, d2] => { results := [.lit (.bool false)], args := [d1, d2] }
  | _ => none }
def BackupReplaysWrongFalsely : Prop := backupReplaysRow.holds Try.pinned (OpenSpec.ofChange backupReplaysWrong)

/- THE SECOND FORM. 'bulk': how many values and letters a reading holds, each counted each time it is reached (what is shared counts as often as it is met; a slice's spare places count too). A statement '..UptoSaid' is the law's where the arguments, and the package variables that the reading takes, are together of bulk at most 1048576: NARROWER than '..Said'. Prove '..Said' where nothing that the law and all that it calls make is longer than what came in: it says more and counts as full. Else prove '..UptoSaid'. A law counts once. -/
mutual
def uptoBulk {H : Type} : DataW H → Nat
  | .lit (.string bytes) => bytes.length + 1
  | .lit _ => 1
  | .nil => 1
  | .ptr d => uptoBulk d + 1
  | .slice elems spare => uptoBulkAll elems + uptoBulkAll spare + 1
  | .agg parts => uptoBulkAll parts + 1
  | .iface _ d => uptoBulk d + 1
  | .map entries => uptoBulkEntries entries + 1
  | .held _ => 1
def uptoBulkAll {H : Type} : List (DataW H) → Nat
  | [] => 0
  | d :: r => uptoBulk d + uptoBulkAll r
def uptoBulkEntries {H : Type} : List (Lit × DataW H) → Nat
  | [] => 0
  | x :: r => uptoBulkEntry x + uptoBulkEntries r
def uptoBulkEntry {H : Type} : Lit × DataW H → Nat
  | (.string bytes, d) => bytes.length + uptoBulk d + 1
  | (_, d) => uptoBulk d + 1
 end
def uptoSmall : (H : Type) → List (DataW H) → Bool := fun _ ds => decide (uptoBulkAll ds ≤ 1048576)
def OpenSpec.upto (s : _root_.Go.ChangeSpec) : _root_.Go.OpenSpec := { _root_.Go.OpenSpec.ofChange s with cond := some uptoSmall }

/-- 'isobarlaw19.BackupCatches', WHERE WHAT IT READS IS OF BULK AT MOST 1048576: true; the input reads as it did. -/
def backupCatchesUptoRow : OpenClaim := { program := "ytnihjgamfnabnaa", sum := "0e7ca4799b62df3a0647794c0a3e787d5ff2d6ed8d4da0358a8c9333a7757168", func := "isobar/isobarlaw19.BackupCatches", spec := "backupCatches", unfollowed := true, recurses := true, apart := false, narrowed := true }
def BackupCatchesUptoSaid : Prop := backupCatchesUptoRow.holds Try.pinned (OpenSpec.upto backupCatchesSpec)

/-- 'isobarlaw19.BackupCuts', WHERE WHAT IT READS IS OF BULK AT MOST 1048576: true; the input reads as it did. -/
def backupCutsUptoRow : OpenClaim := { program := "ytnihjgamfnabnaa", sum := "0e7ca4799b62df3a0647794c0a3e787d5ff2d6ed8d4da0358a8c9333a7757168", func := "isobar/isobarlaw19.BackupCuts", spec := "backupCuts", unfollowed := true, recurses := true, apart := false, narrowed := true }
def BackupCutsUptoSaid : Prop := backupCutsUptoRow.holds Try.pinned (OpenSpec.upto backupCutsSpec)

/-- 'isobarlaw19.BackupReplays', WHERE WHAT IT READS IS OF BULK AT MOST 1048576: true; the input reads as it did. -/
def backupReplaysUptoRow : OpenClaim := { program := "ytnihjgamfnabnaa", sum := "0e7ca4799b62df3a0647794c0a3e787d5ff2d6ed8d4da0358a8c9333a7757168", func := "isobar/isobarlaw19.BackupReplays", spec := "backupReplays", unfollowed := true, recurses := true, apart := false, narrowed := true }
def BackupReplaysUptoSaid : Prop := backupReplaysUptoRow.holds Try.pinned (OpenSpec.upto backupReplaysSpec)

end Rows
end Go.Proofs.Ytnihjgamfnabnaa
