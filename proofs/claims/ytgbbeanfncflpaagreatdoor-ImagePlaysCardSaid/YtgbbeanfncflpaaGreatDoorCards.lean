/-
  DERIVED. GIVEN WITH THE SEED: THE CARDS: each row of YtgbbeanfncflpaaGreatDoorRows.lean that lists a variable, with what it lists TIED to the program's text (the seventh form; the later family's looks); each row that meets fmt, with fmt's text TOLD by the authors' own Lean function (tested against real Go, not proved from fmt's source: count such statements apart). THE CARD IS WHAT COUNTS. Prove the row's statement (the work); the ties are given (YtgbbeanfncflpaaGreatDoorTie.lean); close each card by the builder's one call (the guide's Derived/Test/ToyasCard.lean, 'card_holds'). Laid BY PROGRAM, IN A SANDBOX (cutbox-door.mjs). By AI agents, Wed Nov 11 2026. No macro, syntax, notation, axiom, sorry.
-/
import Derived.Test.YtgbbeanfncflpaaGreatDoorRows
import GoSem.ClaimSeven
namespace Go.Proofs.YtgbbeanfncflpaaGreatDoor
namespace Rows

/-- THE TIED CARD OF 'isobarlaw14.ImagePlays'. -/
def imagePlaysCard : Claim7 := { stood := { row := imagePlaysRow, standIns := [], harness := (true, "d4c1faf7c2874b3a548bd215fa4ffc0eee774128690dfa04824ae9299ec927d1"), looks := true }, kinds := [], alts := [], laidByText := true, laidKinds := [.handle], laidTests := true, laidLooks := .later }
def ImagePlaysCardSaid : Prop := Claim7.holds Tryz.pinned (.plain (OpenSpec.ofChange imagePlaysSpec)) imagePlaysCard

/-- THE SECOND FORM's CARD OF 'isobarlaw14.ImagePlays'. -/
def imagePlaysUptoCard : Claim7 := { stood := { row := imagePlaysUptoRow, standIns := [], harness := (true, "d4c1faf7c2874b3a548bd215fa4ffc0eee774128690dfa04824ae9299ec927d1"), looks := true }, kinds := [], alts := [], laidByText := true, laidKinds := [.handle], laidTests := true, laidLooks := .later }
def ImagePlaysUptoCardSaid : Prop := Claim7.holds Tryz.pinned (.plain (OpenSpec.upto imagePlaysSpec)) imagePlaysUptoCard
end Rows
end Go.Proofs.YtgbbeanfncflpaaGreatDoor
