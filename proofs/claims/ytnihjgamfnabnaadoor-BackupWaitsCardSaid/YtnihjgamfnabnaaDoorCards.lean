/-
  DERIVED. GIVEN WITH THE SEED: THE CARDS: each row of YtnihjgamfnabnaaDoorRows.lean that lists a variable, with what it lists TIED to the program's text (the seventh form; the later family's looks); each row that meets fmt, with fmt's text TOLD by the authors' own Lean function (tested against real Go, not proved from fmt's source: count such statements apart). THE CARD IS WHAT COUNTS. Prove the row's statement (the work); the ties are given (YtnihjgamfnabnaaDoorTie.lean); close each card by the builder's one call (the guide's Derived/Test/ToyasCard.lean, 'card_holds'). Laid BY PROGRAM, IN A SANDBOX (cutbox-door.mjs). By AI agents, Wed Nov 11 2026. No macro, syntax, notation, axiom, sorry.
-/
import Derived.Test.YtnihjgamfnabnaaDoorRows
import GoSem.ClaimSeven
namespace Go.Proofs.YtnihjgamfnabnaaDoor
namespace Rows

/-- THE TIED CARD OF 'isobarlaw19.BackupWaits'. -/
def backupWaitsCard : Claim7 := { stood := { row := backupWaitsRow, standIns := [], harness := (true, "a7661edfedd9eee4391f83400bd6eefd736e8b036dd67c8ca5ba5b36c5ba0544"), looks := true }, kinds := [], alts := [], laidByText := true, laidKinds := [.handle], laidTests := true, laidLooks := .later }
def BackupWaitsCardSaid : Prop := Claim7.holds Tryd.pinned (.plain (OpenSpec.ofChange backupWaitsSpec)) backupWaitsCard

/-- THE SECOND FORM's CARD OF 'isobarlaw19.BackupWaits'. -/
def backupWaitsUptoCard : Claim7 := { stood := { row := backupWaitsUptoRow, standIns := [], harness := (true, "a7661edfedd9eee4391f83400bd6eefd736e8b036dd67c8ca5ba5b36c5ba0544"), looks := true }, kinds := [], alts := [], laidByText := true, laidKinds := [.handle], laidTests := true, laidLooks := .later }
def BackupWaitsUptoCardSaid : Prop := Claim7.holds Tryd.pinned (.plain (OpenSpec.upto backupWaitsSpec)) backupWaitsUptoCard
end Rows
end Go.Proofs.YtnihjgamfnabnaaDoor
