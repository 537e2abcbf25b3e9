/-
  NARROWER THAN 'FOR EVERY INPUT', by the rows' own cells (each row's printed sentence says how): BackupOpens: laid · BackupPromotes: laid · BackupNil: laid · BackupPlays: laid.
  DERIVED. THE GIVEN ROWS OF THIS SEAT. 4 by the template 'for every input the law returns true; each argument reads behind the call as it read before'; 0 by the template 'total and deterministic' (their statements: YtnihjgamfnabnaaGreatDoorTotals.lean).
  GIVEN WITH THE SEED: the statements are not yours to turn. If you find one false, say at which input.
  Laid BY PROGRAM, IN A SANDBOX (cutbox-rows.mjs): the forced cells as the released guide's own fill.sh prints them over the translation e62651ad4897d815… (all of the seat's roots in one cut). By AI agents, Wed Nov 11 2026. No macro, syntax, notation, axiom, sorry.
-/
import Derived.Test.YtnihjgamfnabnaaGreatDoorChecked
import GoSem.Claim
import GoSem.ClaimJoined
import GoSem.ClaimMapViews
import Derived.JoinedTies
import Derived.KernelRfl
namespace Go.Proofs.YtnihjgamfnabnaaGreatDoor
/- THE CELL 'sum', in the pinned program and in every row, IS THE sha256 OF THE DUMP (.gsa) THAT YtnihjgamfnabnaaGreatDoorProg.lean LOADS. Nothing in Lean hashes anything: it is a label: what it is worth is what the hold of that sum in a sandbox is worth. -/
noncomputable def Tryz.pinned : Pinned := { name := "ytnihjgamfnabnaagreatdoor", sum := "e62651ad4897d81532af67b89d8ae6270ae06d333d05a1d8e3588936b4819b25", checked := Tryz.checked }
namespace Rows
def none {H : Type} : Left H := { results := [], args := [] }

/- WHAT THE LISTED PACKAGE-LEVEL VARIABLES READ AS WHEN THE CALL BEGINS. Each datum BY PROGRAM (the guide's laid-datum.mjs) off the statement by which the dump's own 'gosem.cut.vars' lays the variable. In a bare row this is a premise. The card (YtnihjgamfnabnaaGreatDoorCards.lean) ties it to the program's text. -/
def laid_errors_errorType {H : Type} : DataW H := .iface "internal/reflectlite.rtype" (.agg [.ptr (.lit (.string [101, 114, 114, 111, 114]))])

/-- 'isobarlaw19.BackupOpens': WHATEVER THE INPUT: true; the input reads as it did. -/
def backupOpensSpec : ChangeSpec := { name := "backupOpens", fn := fun _ => fun
  | [d] => { results := [.lit (.bool true)], args := [d] }
  | _ => none }
def backupOpensRow : OpenClaim := { program := "ytnihjgamfnabnaagreatdoor", sum := "e62651ad4897d81532af67b89d8ae6270ae06d333d05a1d8e3588936b4819b25", func := "isobar/isobarlaw19.BackupOpens", spec := "backupOpens", inPlace := ["internal/reflectlite.ValueOf", "(internal/reflectlite.Value).Type", "(internal/reflectlite.Value).IsNil", "internal/reflectlite.TypeOf", "(internal/reflectlite.Value).Elem", "(internal/reflectlite.Value).Set"], unfollowed := true, recurses := true, named := ["errors.errorType"], apart := false, laid := [("errors.errorType", laid_errors_errorType)] }
def BackupOpensSaid : Prop := backupOpensRow.holds Tryz.pinned (OpenSpec.ofChange backupOpensSpec)

/-- ITS FALSE NEIGHBOUR: 'it returns false'. Refute it at one input. -/
def backupOpensWrong : ChangeSpec := { name := "backupOpens", fn := fun _ => fun
  | [d] => { results := [.lit (.bool false)], args := [d] }
  | _ => none }
def BackupOpensWrongFalsely : Prop := backupOpensRow.holds Tryz.pinned (OpenSpec.ofChange backupOpensWrong)

/-- 'isobarlaw19.BackupPromotes': WHATEVER THE INPUT: true; the input reads as it did. -/
def backupPromotesSpec : ChangeSpec := { name := "backupPromotes", fn := fun _ => fun
  | [d1, d2] => { results := [.lit (.bool true)], args := [d1, d2] }
  | _ => none }
def backupPromotesRow : OpenClaim := { program := "ytnihjgamfnabnaagreatdoor", sum := "e62651ad4897d81532af67b89d8ae6270ae06d333d05a1d8e3588936b4819b25", func := "isobar/isobarlaw19.BackupPromotes", spec := "backupPromotes", inPlace := ["internal/reflectlite.ValueOf", "(internal/reflectlite.Value).Type", "(internal/reflectlite.Value).IsNil", "internal/reflectlite.TypeOf", "(internal/reflectlite.Value).Elem", "(internal/reflectlite.Value).Set"], unfollowed := true, recurses := true, named := ["errors.errorType"], apart := false, laid := [("errors.errorType", laid_errors_errorType)] }
def BackupPromotesSaid : Prop := backupPromotesRow.holds Tryz.pinned (OpenSpec.ofChange backupPromotesSpec)

/-- ITS FALSE NEIGHBOUR: 'it returns false'. Refute it at one input. -/
def backupPromotesWrong : ChangeSpec := { name := "backupPromotes", fn := fun _ => fun
  | [d1, d2] => { results := [.lit (.bool false)], args := [d1, d2] }
  | _ => none }
def BackupPromotesWrongFalsely : Prop := backupPromotesRow.holds Tryz.pinned (OpenSpec.ofChange backupPromotesWrong)

/-- 'isobarlaw19.BackupNil': WHATEVER THE INPUT: true; the input reads as it did. -/
def backupNilSpec : ChangeSpec := { name := "backupNil", fn := fun _ => fun
  | [d1, d2, d3] => { results := [.lit (.bool true)], args := [d1, d2, d3] }
  | _ => none }
def backupNilRow : OpenClaim := { program := "ytnihjgamfnabnaagreatdoor", sum := "e62651ad4897d81532af67b89d8ae6270ae06d333d05a1d8e3588936b4819b25", func := "isobar/isobarlaw19.BackupNil", spec := "backupNil", inPlace := ["internal/reflectlite.ValueOf", "(internal/reflectlite.Value).Type", "(internal/reflectlite.Value).IsNil", "internal/reflectlite.TypeOf", "(internal/reflectlite.Value).Elem", "(internal/reflectlite.Value).Set"], unfollowed := true, recurses := true, named := ["errors.errorType"], apart := false, laid := [("errors.errorType", laid_errors_errorType)] }
def BackupNilSaid : Prop := backupNilRow.holds Tryz.pinned (OpenSpec.ofChange backupNilSpec)

/-- ITS FALSE NEIGHBOUR: 'it returns false'. Refute it at one input. -/
def backupNilWrong : ChangeSpec := { name := "backupNil", fn := fun _ => fun
  | [d1, d2, d3] => { results := [.lit (.bool false)], args := [d1, d2, d3] }
  | _ => none }
def BackupNilWrongFalsely : Prop := backupNilRow.holds Tryz.pinned (OpenSpec.ofChange backupNilWrong)

/-- 'isobarlaw19.BackupPlays': WHATEVER THE INPUT: true; the input reads as it did. -/
def backupPlaysSpec : ChangeSpec := { name := "backupPlays", fn := fun _ => fun
  | [d1, d2] => { results := [.lit (.bool true)], args := [d1, d2] }
  | _ => none }
def backupPlaysRow : OpenClaim := { program := "ytnihjgamfnabnaagreatdoor", sum := "e62651ad4897d81532af67b89d8ae6270ae06d333d05a1d8e3588936b4819b25", func := "isobar/isobarlaw19.BackupPlays", spec := "backupPlays", inPlace := ["internal/reflectlite.ValueOf", "(internal/reflectlite.Value).Type", "(internal/reflectlite.Value).IsNil", "internal/reflectlite.TypeOf", "(internal/reflectlite.Value).Elem", "(internal/reflectlite.Value).Set"], unfollowed := true, recurses := true, named := ["errors.errorType"], apart := false, laid := [("errors.errorType", laid_errors_errorType)] }
def BackupPlaysSaid : Prop := backupPlaysRow.holds Tryz.pinned (OpenSpec.ofChange backupPlaysSpec)

/-- ITS FALSE NEIGHBOUR: 'it returns false'. Refute it at one input. -/
def backupPlaysWrong : ChangeSpec := { name := "backupPlays", fn := fun _ => fun
  | [d1, d2] => { results := [.lit (.bool false)], args := [d1, d2] }
  | _ => none }
def BackupPlaysWrongFalsely : Prop := backupPlaysRow.holds Tryz.pinned (OpenSpec.ofChange backupPlaysWrong)

/- THE SECOND FORM. 'bulk': how many values and letters a reading holds, each counted each time it is reached (what is shared counts as often as it is met; a slice's spare places count too). A statement '..UptoSaid' is the law's where the arguments, and the package variables that the reading takes, are together of bulk at most 1048576: NARROWER than '..Said'. Prove '..Said' where nothing that the law and all that it calls make is longer than what came in: it says more and counts as full. Else prove '..UptoSaid'. A law counts once. -/
mutual
def uptoBulk {H : Type} : DataW H → Nat
  | .lit (.string bytes) => bytes.length + 1
  | .lit _ => 1
  | .nil => 1
  | .ptr d => uptoBulk d + 1
  | .slice elems spare => uptoBulkAll elems + uptoBulkAll spare + 1
  | .agg parts => uptoBulkAll parts + 1
  | .iface _ d => uptoBulk d + 1
  | .map entries => uptoBulkEntries entries + 1
  | .held _ => 1
def uptoBulkAll {H : Type} : List (DataW H) → Nat
  | [] => 0
  | d :: r => uptoBulk d + uptoBulkAll r
def uptoBulkEntries {H : Type} : List (Lit × DataW H) → Nat
  | [] => 0
  | x :: r => uptoBulkEntry x + uptoBulkEntries r
def uptoBulkEntry {H : Type} : Lit × DataW H → Nat
  | (.string bytes, d) => bytes.length + uptoBulk d + 1
  | (_, d) => uptoBulk d + 1
 end
def uptoSmall : (H : Type) → List (DataW H) → Bool := fun _ ds => decide (uptoBulkAll ds ≤ 1048576)
def OpenSpec.upto (s : _root_.Go.ChangeSpec) : _root_.Go.OpenSpec := { _root_.Go.OpenSpec.ofChange s with cond := some uptoSmall }

/-- 'isobarlaw19.BackupOpens', WHERE WHAT IT READS IS OF BULK AT MOST 1048576: true; the input reads as it did. -/
def backupOpensUptoRow : OpenClaim := { program := "ytnihjgamfnabnaagreatdoor", sum := "e62651ad4897d81532af67b89d8ae6270ae06d333d05a1d8e3588936b4819b25", func := "isobar/isobarlaw19.BackupOpens", spec := "backupOpens", inPlace := ["internal/reflectlite.ValueOf", "(internal/reflectlite.Value).Type", "(internal/reflectlite.Value).IsNil", "internal/reflectlite.TypeOf", "(internal/reflectlite.Value).Elem", "(internal/reflectlite.Value).Set"], unfollowed := true, recurses := true, named := ["errors.errorType"], apart := false, laid := [("errors.errorType", laid_errors_errorType)], narrowed := true }
def BackupOpensUptoSaid : Prop := backupOpensUptoRow.holds Tryz.pinned (OpenSpec.upto backupOpensSpec)

/-- 'isobarlaw19.BackupPromotes', WHERE WHAT IT READS IS OF BULK AT MOST 1048576: true; the input reads as it did. -/
def backupPromotesUptoRow : OpenClaim := { program := "ytnihjgamfnabnaagreatdoor", sum := "e62651ad4897d81532af67b89d8ae6270ae06d333d05a1d8e3588936b4819b25", func := "isobar/isobarlaw19.BackupPromotes", spec := "backupPromotes", inPlace := ["internal/reflectlite.ValueOf", "(internal/reflectlite.Value).Type", "(internal/reflectlite.Value).IsNil", "internal/reflectlite.TypeOf", "(internal/reflectlite.Value).Elem", "(internal/reflectlite.Value).Set"], unfollowed := true, recurses := true, named := ["errors.errorType"], apart := false, laid := [("errors.errorType", laid_errors_errorType)], narrowed := true }
def BackupPromotesUptoSaid : Prop := backupPromotesUptoRow.holds Tryz.pinned (OpenSpec.upto backupPromotesSpec)

/-- 'isobarlaw19.BackupNil', WHERE WHAT IT READS IS OF BULK AT MOST 1048576: true; the input reads as it did. -/
def backupNilUptoRow : OpenClaim := { program := "ytnihjgamfnabnaagreatdoor", sum := "e62651ad4897d81532af67b89d8ae6270ae06d333d05a1d8e3588936b4819b25", func := "isobar/isobarlaw19.BackupNil", spec := "backupNil", inPlace := ["internal/reflectlite.ValueOf", "(internal/reflectlite.Value).Type", "(internal/reflectlite.Value).IsNil", "internal/reflectlite.TypeOf", "(internal/reflectlite.Value).Elem", "(internal/reflectlite.Value).Set"], unfollowed := true, recurses := true, named := ["errors.errorType"], apart := false, laid := [("errors.errorType", laid_errors_errorType)], narrowed := true }
def BackupNilUptoSaid : Prop := backupNilUptoRow.holds Tryz.pinned (OpenSpec.upto backupNilSpec)

/-- 'isobarlaw19.BackupPlays', WHERE WHAT IT READS IS OF BULK AT MOST 1048576: true; the input reads as it did. -/
def backupPlaysUptoRow : OpenClaim := { program := "ytnihjgamfnabnaagreatdoor", sum := "e62651ad4897d81532af67b89d8ae6270ae06d333d05a1d8e3588936b4819b25", func := "isobar/isobarlaw19.BackupPlays", spec := "backupPlays", inPlace := ["internal/reflectlite.ValueOf", "(internal/reflectlite.Value).Type", "(internal/reflectlite.Value).IsNil", "internal/reflectlite.TypeOf", "(internal/reflectlite.Value).Elem", "(internal/reflectlite.Value).Set"], unfollowed := true, recurses := true, named := ["errors.errorType"], apart := false, laid := [("errors.errorType", laid_errors_errorType)], narrowed := true }
def BackupPlaysUptoSaid : Prop := backupPlaysUptoRow.holds Tryz.pinned (OpenSpec.upto backupPlaysSpec)

end Rows
end Go.Proofs.YtnihjgamfnabnaaGreatDoor
