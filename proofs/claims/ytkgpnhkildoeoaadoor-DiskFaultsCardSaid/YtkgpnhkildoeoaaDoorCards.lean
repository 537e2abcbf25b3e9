/-
  DERIVED. GIVEN WITH THE SEED: THE CARDS: each row of YtkgpnhkildoeoaaDoorRows.lean that lists a variable, with what it lists TIED to the program's text (the seventh form; the later family's looks); each row that meets fmt, with fmt's text TOLD by the authors' own Lean function (tested against real Go, not proved from fmt's source: count such statements apart). THE CARD IS WHAT COUNTS. Prove the row's statement (the work); the ties are given (YtkgpnhkildoeoaaDoorTie.lean); close each card by the builder's one call (the guide's Derived/Test/ToyasCard.lean, 'card_holds'). Laid BY PROGRAM, IN A SANDBOX (cutbox-door.mjs). By AI agents, Wed Nov 11 2026. No macro, syntax, notation, axiom, sorry.
-/
import Derived.Test.YtkgpnhkildoeoaaDoorRows
import GoSem.ClaimSeven
namespace Go.Proofs.YtkgpnhkildoeoaaDoor
namespace Rows

/-- THE TIED CARD OF 'isobarlaw04.DiskLast'. -/
def diskLastCard : Claim7 := { stood := { row := diskLastRow, standIns := [], harness := (true, "e546836d0bf5c12a2f2139bd598f4f269360deb69bb384ab9c198a37874af3ec"), looks := true }, kinds := [], alts := [], laidByText := true, laidKinds := [.handle], laidTests := true, laidLooks := .later }
def DiskLastCardSaid : Prop := Claim7.holds Tryd.pinned (.plain (OpenSpec.ofChange diskLastSpec)) diskLastCard

/-- THE TIED CARD OF 'isobarlaw04.DiskHalves'. -/
def diskHalvesCard : Claim7 := { stood := { row := diskHalvesRow, standIns := [], harness := (true, "e546836d0bf5c12a2f2139bd598f4f269360deb69bb384ab9c198a37874af3ec"), looks := true }, kinds := [], alts := [], laidByText := true, laidKinds := [.handle], laidTests := true, laidLooks := .later }
def DiskHalvesCardSaid : Prop := Claim7.holds Tryd.pinned (.plain (OpenSpec.ofChange diskHalvesSpec)) diskHalvesCard

/-- THE TIED CARD OF 'isobarlaw04.DiskPlays'. -/
def diskPlaysCard : Claim7 := { stood := { row := diskPlaysRow, standIns := [], harness := (true, "e546836d0bf5c12a2f2139bd598f4f269360deb69bb384ab9c198a37874af3ec"), looks := true }, kinds := [], alts := [], laidByText := true, laidKinds := [.handle], laidTests := true, laidLooks := .later }
def DiskPlaysCardSaid : Prop := Claim7.holds Tryd.pinned (.plain (OpenSpec.ofChange diskPlaysSpec)) diskPlaysCard

/-- THE TIED CARD OF 'isobarlaw04.DiskStays'. -/
def diskStaysCard : Claim7 := { stood := { row := diskStaysRow, standIns := [], harness := (true, "e546836d0bf5c12a2f2139bd598f4f269360deb69bb384ab9c198a37874af3ec"), looks := true }, kinds := [], alts := [], laidByText := true, laidKinds := [.handle], laidTests := true, laidLooks := .later }
def DiskStaysCardSaid : Prop := Claim7.holds Tryd.pinned (.plain (OpenSpec.ofChange diskStaysSpec)) diskStaysCard

/-- THE TIED CARD OF 'isobarlaw04.DiskKeeps'. -/
def diskKeepsCard : Claim7 := { stood := { row := diskKeepsRow, standIns := [], harness := (true, "e546836d0bf5c12a2f2139bd598f4f269360deb69bb384ab9c198a37874af3ec"), looks := true }, kinds := [], alts := [], laidByText := true, laidKinds := [.handle], laidTests := true, laidLooks := .later }
def DiskKeepsCardSaid : Prop := Claim7.holds Tryd.pinned (.plain (OpenSpec.ofChange diskKeepsSpec)) diskKeepsCard

/-- THE TIED CARD OF 'isobarlaw04.DiskFaults'. -/
def diskFaultsCard : Claim7 := { stood := { row := diskFaultsRow, standIns := [], harness := (true, "e546836d0bf5c12a2f2139bd598f4f269360deb69bb384ab9c198a37874af3ec"), looks := true }, kinds := [], alts := [], laidByText := true, laidKinds := [.data, .data, .data, .handle], laidTests := true, laidLooks := .later }
def DiskFaultsCardSaid : Prop := Claim7.holds Tryd.pinned (.plain (OpenSpec.ofChange diskFaultsSpec)) diskFaultsCard

/-- THE SECOND FORM's CARD OF 'isobarlaw04.DiskLast'. -/
def diskLastUptoCard : Claim7 := { stood := { row := diskLastUptoRow, standIns := [], harness := (true, "e546836d0bf5c12a2f2139bd598f4f269360deb69bb384ab9c198a37874af3ec"), looks := true }, kinds := [], alts := [], laidByText := true, laidKinds := [.handle], laidTests := true, laidLooks := .later }
def DiskLastUptoCardSaid : Prop := Claim7.holds Tryd.pinned (.plain (OpenSpec.upto diskLastSpec)) diskLastUptoCard

/-- THE SECOND FORM's CARD OF 'isobarlaw04.DiskHalves'. -/
def diskHalvesUptoCard : Claim7 := { stood := { row := diskHalvesUptoRow, standIns := [], harness := (true, "e546836d0bf5c12a2f2139bd598f4f269360deb69bb384ab9c198a37874af3ec"), looks := true }, kinds := [], alts := [], laidByText := true, laidKinds := [.handle], laidTests := true, laidLooks := .later }
def DiskHalvesUptoCardSaid : Prop := Claim7.holds Tryd.pinned (.plain (OpenSpec.upto diskHalvesSpec)) diskHalvesUptoCard

/-- THE SECOND FORM's CARD OF 'isobarlaw04.DiskPlays'. -/
def diskPlaysUptoCard : Claim7 := { stood := { row := diskPlaysUptoRow, standIns := [], harness := (true, "e546836d0bf5c12a2f2139bd598f4f269360deb69bb384ab9c198a37874af3ec"), looks := true }, kinds := [], alts := [], laidByText := true, laidKinds := [.handle], laidTests := true, laidLooks := .later }
def DiskPlaysUptoCardSaid : Prop := Claim7.holds Tryd.pinned (.plain (OpenSpec.upto diskPlaysSpec)) diskPlaysUptoCard

/-- THE SECOND FORM's CARD OF 'isobarlaw04.DiskStays'. -/
def diskStaysUptoCard : Claim7 := { stood := { row := diskStaysUptoRow, standIns := [], harness := (true, "e546836d0bf5c12a2f2139bd598f4f269360deb69bb384ab9c198a37874af3ec"), looks := true }, kinds := [], alts := [], laidByText := true, laidKinds := [.handle], laidTests := true, laidLooks := .later }
def DiskStaysUptoCardSaid : Prop := Claim7.holds Tryd.pinned (.plain (OpenSpec.upto diskStaysSpec)) diskStaysUptoCard

/-- THE SECOND FORM's CARD OF 'isobarlaw04.DiskKeeps'. -/
def diskKeepsUptoCard : Claim7 := { stood := { row := diskKeepsUptoRow, standIns := [], harness := (true, "e546836d0bf5c12a2f2139bd598f4f269360deb69bb384ab9c198a37874af3ec"), looks := true }, kinds := [], alts := [], laidByText := true, laidKinds := [.handle], laidTests := true, laidLooks := .later }
def DiskKeepsUptoCardSaid : Prop := Claim7.holds Tryd.pinned (.plain (OpenSpec.upto diskKeepsSpec)) diskKeepsUptoCard

/-- THE SECOND FORM's CARD OF 'isobarlaw04.DiskFaults'. -/
def diskFaultsUptoCard : Claim7 := { stood := { row := diskFaultsUptoRow, standIns := [], harness := (true, "e546836d0bf5c12a2f2139bd598f4f269360deb69bb384ab9c198a37874af3ec"), looks := true }, kinds := [], alts := [], laidByText := true, laidKinds := [.data, .data, .data, .handle], laidTests := true, laidLooks := .later }
def DiskFaultsUptoCardSaid : Prop := Claim7.holds Tryd.pinned (.plain (OpenSpec.upto diskFaultsSpec)) diskFaultsUptoCard
end Rows
end Go.Proofs.YtkgpnhkildoeoaaDoor
