/-
  DERIVED. GIVEN WITH THE SEED: THE CARDS: each row of YtmbofnomfmhmdaaDoorRows.lean that lists a variable, with what it lists TIED to the program's text (the seventh form; the later family's looks); each row that meets fmt, with fmt's text TOLD by the authors' own Lean function (tested against real Go, not proved from fmt's source: count such statements apart). THE CARD IS WHAT COUNTS. Prove the row's statement (the work); the ties are given (YtmbofnomfmhmdaaDoorTie.lean); close each card by the builder's one call (the guide's Derived/Test/ToyasCard.lean, 'card_holds'). Laid BY PROGRAM, IN A SANDBOX (cutbox-door.mjs). By AI agents, Wed Nov 11 2026. No macro, syntax, notation, axiom, sorry.
-/
import Derived.Test.YtmbofnomfmhmdaaDoorRows
import GoSem.ClaimSeven
namespace Go.Proofs.YtmbofnomfmhmdaaDoor
namespace Rows

/-- THE TIED CARD OF 'isobarlaw17.RoundPlays'. -/
def roundPlaysCard : Claim7 := { stood := { row := roundPlaysRow, standIns := [], harness := (true, "8564cbd6672fba44691424c002f1e1fef289f1071b5b37ad463eede285831c3a"), looks := true }, kinds := [], alts := [], laidByText := true, laidKinds := [.handle], laidTests := true, laidLooks := .later }
def RoundPlaysCardSaid : Prop := Claim7.holds Tryd.pinned (.plain (OpenSpec.ofChange roundPlaysSpec)) roundPlaysCard

/-- THE TIED CARD OF 'isobarlaw17.RoundNil'. -/
def roundNilCard : Claim7 := { stood := { row := roundNilRow, standIns := [], harness := (true, "8564cbd6672fba44691424c002f1e1fef289f1071b5b37ad463eede285831c3a"), looks := true }, kinds := [], alts := [], laidByText := true, laidKinds := [.handle], laidTests := true, laidLooks := .later }
def RoundNilCardSaid : Prop := Claim7.holds Tryd.pinned (.plain (OpenSpec.ofChange roundNilSpec)) roundNilCard

/-- THE SECOND FORM's CARD OF 'isobarlaw17.RoundPlays'. -/
def roundPlaysUptoCard : Claim7 := { stood := { row := roundPlaysUptoRow, standIns := [], harness := (true, "8564cbd6672fba44691424c002f1e1fef289f1071b5b37ad463eede285831c3a"), looks := true }, kinds := [], alts := [], laidByText := true, laidKinds := [.handle], laidTests := true, laidLooks := .later }
def RoundPlaysUptoCardSaid : Prop := Claim7.holds Tryd.pinned (.plain (OpenSpec.upto roundPlaysSpec)) roundPlaysUptoCard

/-- THE SECOND FORM's CARD OF 'isobarlaw17.RoundNil'. -/
def roundNilUptoCard : Claim7 := { stood := { row := roundNilUptoRow, standIns := [], harness := (true, "8564cbd6672fba44691424c002f1e1fef289f1071b5b37ad463eede285831c3a"), looks := true }, kinds := [], alts := [], laidByText := true, laidKinds := [.handle], laidTests := true, laidLooks := .later }
def RoundNilUptoCardSaid : Prop := Claim7.holds Tryd.pinned (.plain (OpenSpec.upto roundNilSpec)) roundNilUptoCard
end Rows
end Go.Proofs.YtmbofnomfmhmdaaDoor
