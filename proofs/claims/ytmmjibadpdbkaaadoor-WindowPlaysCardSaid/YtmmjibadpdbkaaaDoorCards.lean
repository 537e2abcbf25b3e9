/-
  DERIVED. GIVEN WITH THE SEED: THE CARDS: each row of YtmmjibadpdbkaaaDoorRows.lean that lists a variable, with what it lists TIED to the program's text (the seventh form; the later family's looks); each row that meets fmt, with fmt's text TOLD by the authors' own Lean function (tested against real Go, not proved from fmt's source: count such statements apart). THE CARD IS WHAT COUNTS. Prove the row's statement (the work); the ties are given (YtmmjibadpdbkaaaDoorTie.lean); close each card by the builder's one call (the guide's Derived/Test/ToyasCard.lean, 'card_holds'). Laid BY PROGRAM, IN A SANDBOX (cutbox-door.mjs). By AI agents, Wed Nov 11 2026. No macro, syntax, notation, axiom, sorry.
-/
import Derived.Test.YtmmjibadpdbkaaaDoorRows
import GoSem.ClaimSeven
namespace Go.Proofs.YtmmjibadpdbkaaaDoor
namespace Rows

/-- THE TIED CARD OF 'isobarlaw09.WindowNil'. -/
def windowNilCard : Claim7 := { stood := { row := windowNilRow, standIns := [], harness := (true, "d3707c6ced682f30b8e5ca93ee50eb9bccc90420df14d03a23b8db743e98b4db"), looks := true }, kinds := [], alts := [], laidByText := true, laidKinds := [.handle], laidTests := true, laidLooks := .later }
def WindowNilCardSaid : Prop := Claim7.holds Tryd.pinned (.plain (OpenSpec.ofChange windowNilSpec)) windowNilCard

/-- THE TIED CARD OF 'isobarlaw09.WindowPlays'. -/
def windowPlaysCard : Claim7 := { stood := { row := windowPlaysRow, standIns := [], harness := (true, "d3707c6ced682f30b8e5ca93ee50eb9bccc90420df14d03a23b8db743e98b4db"), looks := true }, kinds := [], alts := [], laidByText := true, laidKinds := [.handle], laidTests := true, laidLooks := .later }
def WindowPlaysCardSaid : Prop := Claim7.holds Tryd.pinned (.plain (OpenSpec.ofChange windowPlaysSpec)) windowPlaysCard

/-- THE SECOND FORM's CARD OF 'isobarlaw09.WindowNil'. -/
def windowNilUptoCard : Claim7 := { stood := { row := windowNilUptoRow, standIns := [], harness := (true, "d3707c6ced682f30b8e5ca93ee50eb9bccc90420df14d03a23b8db743e98b4db"), looks := true }, kinds := [], alts := [], laidByText := true, laidKinds := [.handle], laidTests := true, laidLooks := .later }
def WindowNilUptoCardSaid : Prop := Claim7.holds Tryd.pinned (.plain (OpenSpec.upto windowNilSpec)) windowNilUptoCard

/-- THE SECOND FORM's CARD OF 'isobarlaw09.WindowPlays'. -/
def windowPlaysUptoCard : Claim7 := { stood := { row := windowPlaysUptoRow, standIns := [], harness := (true, "d3707c6ced682f30b8e5ca93ee50eb9bccc90420df14d03a23b8db743e98b4db"), looks := true }, kinds := [], alts := [], laidByText := true, laidKinds := [.handle], laidTests := true, laidLooks := .later }
def WindowPlaysUptoCardSaid : Prop := Claim7.holds Tryd.pinned (.plain (OpenSpec.upto windowPlaysSpec)) windowPlaysUptoCard
end Rows
end Go.Proofs.YtmmjibadpdbkaaaDoor
