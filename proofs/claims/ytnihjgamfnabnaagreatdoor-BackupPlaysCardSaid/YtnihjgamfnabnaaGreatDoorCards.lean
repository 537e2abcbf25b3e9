/-
  DERIVED. GIVEN WITH THE SEED: THE CARDS: each row of YtnihjgamfnabnaaGreatDoorRows.lean that lists a variable, with what it lists TIED to the program's text (the seventh form; the later family's looks); each row that meets fmt, with fmt's text TOLD by the authors' own Lean function (tested against real Go, not proved from fmt's source: count such statements apart). THE CARD IS WHAT COUNTS. Prove the row's statement (the work); the ties are given (YtnihjgamfnabnaaGreatDoorTie.lean); close each card by the builder's one call (the guide's Derived/Test/ToyasCard.lean, 'card_holds'). Laid BY PROGRAM, IN A SANDBOX (cutbox-door.mjs). By AI agents, Wed Nov 11 2026. No macro, syntax, notation, axiom, sorry.
-/
import Derived.Test.YtnihjgamfnabnaaGreatDoorRows
import GoSem.ClaimSeven
namespace Go.Proofs.YtnihjgamfnabnaaGreatDoor
namespace Rows

/-- THE TIED CARD OF 'isobarlaw19.BackupOpens'. -/
def backupOpensCard : Claim7 := { stood := { row := backupOpensRow, standIns := [], harness := (true, "e937fe61076bab8901eefea480ac646ffcf3db6a90daade14a923efcecd65163"), looks := true }, kinds := [], alts := [], laidByText := true, laidKinds := [.handle], laidTests := true, laidLooks := .later }
def BackupOpensCardSaid : Prop := Claim7.holds Tryz.pinned (.plain (OpenSpec.ofChange backupOpensSpec)) backupOpensCard

/-- THE TIED CARD OF 'isobarlaw19.BackupPromotes'. -/
def backupPromotesCard : Claim7 := { stood := { row := backupPromotesRow, standIns := [], harness := (true, "e937fe61076bab8901eefea480ac646ffcf3db6a90daade14a923efcecd65163"), looks := true }, kinds := [], alts := [], laidByText := true, laidKinds := [.handle], laidTests := true, laidLooks := .later }
def BackupPromotesCardSaid : Prop := Claim7.holds Tryz.pinned (.plain (OpenSpec.ofChange backupPromotesSpec)) backupPromotesCard

/-- THE TIED CARD OF 'isobarlaw19.BackupNil'. -/
def backupNilCard : Claim7 := { stood := { row := backupNilRow, standIns := [], harness := (true, "e937fe61076bab8901eefea480ac646ffcf3db6a90daade14a923efcecd65163"), looks := true }, kinds := [], alts := [], laidByText := true, laidKinds := [.handle], laidTests := true, laidLooks := .later }
def BackupNilCardSaid : Prop := Claim7.holds Tryz.pinned (.plain (OpenSpec.ofChange backupNilSpec)) backupNilCard

/-- THE TIED CARD OF 'isobarlaw19.BackupPlays'. -/
def backupPlaysCard : Claim7 := { stood := { row := backupPlaysRow, standIns := [], harness := (true, "e937fe61076bab8901eefea480ac646ffcf3db6a90daade14a923efcecd65163"), looks := true }, kinds := [], alts := [], laidByText := true, laidKinds := [.handle], laidTests := true, laidLooks := .later }
def BackupPlaysCardSaid : Prop := Claim7.holds Tryz.pinned (.plain (OpenSpec.ofChange backupPlaysSpec)) backupPlaysCard

/-- THE SECOND FORM's CARD OF 'isobarlaw19.BackupOpens'. -/
def backupOpensUptoCard : Claim7 := { stood := { row := backupOpensUptoRow, standIns := [], harness := (true, "e937fe61076bab8901eefea480ac646ffcf3db6a90daade14a923efcecd65163"), looks := true }, kinds := [], alts := [], laidByText := true, laidKinds := [.handle], laidTests := true, laidLooks := .later }
def BackupOpensUptoCardSaid : Prop := Claim7.holds Tryz.pinned (.plain (OpenSpec.upto backupOpensSpec)) backupOpensUptoCard

/-- THE SECOND FORM's CARD OF 'isobarlaw19.BackupPromotes'. -/
def backupPromotesUptoCard : Claim7 := { stood := { row := backupPromotesUptoRow, standIns := [], harness := (true, "e937fe61076bab8901eefea480ac646ffcf3db6a90daade14a923efcecd65163"), looks := true }, kinds := [], alts := [], laidByText := true, laidKinds := [.handle], laidTests := true, laidLooks := .later }
def BackupPromotesUptoCardSaid : Prop := Claim7.holds Tryz.pinned (.plain (OpenSpec.upto backupPromotesSpec)) backupPromotesUptoCard

/-- THE SECOND FORM's CARD OF 'isobarlaw19.BackupNil'. -/
def backupNilUptoCard : Claim7 := { stood := { row := backupNilUptoRow, standIns := [], harness := (true, "e937fe61076bab8901eefea480ac646ffcf3db6a90daade14a923efcecd65163"), looks := true }, kinds := [], alts := [], laidByText := true, laidKinds := [.handle], laidTests := true, laidLooks := .later }
def BackupNilUptoCardSaid : Prop := Claim7.holds Tryz.pinned (.plain (OpenSpec.upto backupNilSpec)) backupNilUptoCard

/-- THE SECOND FORM's CARD OF 'isobarlaw19.BackupPlays'. -/
def backupPlaysUptoCard : Claim7 := { stood := { row := backupPlaysUptoRow, standIns := [], harness := (true, "e937fe61076bab8901eefea480ac646ffcf3db6a90daade14a923efcecd65163"), looks := true }, kinds := [], alts := [], laidByText := true, laidKinds := [.handle], laidTests := true, laidLooks := .later }
def BackupPlaysUptoCardSaid : Prop := Claim7.holds Tryz.pinned (.plain (OpenSpec.upto backupPlaysSpec)) backupPlaysUptoCard
end Rows
end Go.Proofs.YtnihjgamfnabnaaGreatDoor
