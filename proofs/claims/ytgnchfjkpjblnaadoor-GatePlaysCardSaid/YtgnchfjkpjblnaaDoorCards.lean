/-
  DERIVED. GIVEN WITH THE SEED: THE CARDS: each row of YtgnchfjkpjblnaaDoorRows.lean that lists a variable, with what it lists TIED to the program's text (the seventh form; the later family's looks); each row that meets fmt, with fmt's text TOLD by the authors' own Lean function (tested against real Go, not proved from fmt's source: count such statements apart). THE CARD IS WHAT COUNTS. Prove the row's statement (the work); the ties are given (YtgnchfjkpjblnaaDoorTie.lean); close each card by the builder's one call (the guide's Derived/Test/ToyasCard.lean, 'card_holds'). Laid BY PROGRAM, IN A SANDBOX (cutbox-door.mjs). By AI agents, Wed Nov 11 2026. No macro, syntax, notation, axiom, sorry.
-/
import Derived.Test.YtgnchfjkpjblnaaDoorRows
import GoSem.ClaimSeven
namespace Go.Proofs.YtgnchfjkpjblnaaDoor
namespace Rows

/-- THE TIED CARD OF 'isobarlaw08.GateOnce'. -/
def gateOnceCard : Claim7 := { stood := { row := gateOnceRow, standIns := [], harness := (true, "ed1f7c123b96c139095f0dc4d546e42c272828addc6bc6daa2df4afa99b6a73a"), looks := true }, kinds := [], alts := [], laidByText := true, laidKinds := [.handle], laidTests := true, laidLooks := .later }
def GateOnceCardSaid : Prop := Claim7.holds Tryd.pinned (.plain (OpenSpec.ofChange gateOnceSpec)) gateOnceCard

/-- THE TIED CARD OF 'isobarlaw08.GatePlays'. -/
def gatePlaysCard : Claim7 := { stood := { row := gatePlaysRow, standIns := [], harness := (true, "ed1f7c123b96c139095f0dc4d546e42c272828addc6bc6daa2df4afa99b6a73a"), looks := true }, kinds := [], alts := [], laidByText := true, laidKinds := [.handle], laidTests := true, laidLooks := .later }
def GatePlaysCardSaid : Prop := Claim7.holds Tryd.pinned (.plain (OpenSpec.ofChange gatePlaysSpec)) gatePlaysCard

/-- THE TIED CARD OF 'isobarlaw08.GateNil'. -/
def gateNilCard : Claim7 := { stood := { row := gateNilRow, standIns := [], harness := (true, "ed1f7c123b96c139095f0dc4d546e42c272828addc6bc6daa2df4afa99b6a73a"), looks := true }, kinds := [], alts := [], laidByText := true, laidKinds := [.handle], laidTests := true, laidLooks := .later }
def GateNilCardSaid : Prop := Claim7.holds Tryd.pinned (.plain (OpenSpec.ofChange gateNilSpec)) gateNilCard

/-- THE SECOND FORM's CARD OF 'isobarlaw08.GateOnce'. -/
def gateOnceUptoCard : Claim7 := { stood := { row := gateOnceUptoRow, standIns := [], harness := (true, "ed1f7c123b96c139095f0dc4d546e42c272828addc6bc6daa2df4afa99b6a73a"), looks := true }, kinds := [], alts := [], laidByText := true, laidKinds := [.handle], laidTests := true, laidLooks := .later }
def GateOnceUptoCardSaid : Prop := Claim7.holds Tryd.pinned (.plain (OpenSpec.upto gateOnceSpec)) gateOnceUptoCard

/-- THE SECOND FORM's CARD OF 'isobarlaw08.GatePlays'. -/
def gatePlaysUptoCard : Claim7 := { stood := { row := gatePlaysUptoRow, standIns := [], harness := (true, "ed1f7c123b96c139095f0dc4d546e42c272828addc6bc6daa2df4afa99b6a73a"), looks := true }, kinds := [], alts := [], laidByText := true, laidKinds := [.handle], laidTests := true, laidLooks := .later }
def GatePlaysUptoCardSaid : Prop := Claim7.holds Tryd.pinned (.plain (OpenSpec.upto gatePlaysSpec)) gatePlaysUptoCard

/-- THE SECOND FORM's CARD OF 'isobarlaw08.GateNil'. -/
def gateNilUptoCard : Claim7 := { stood := { row := gateNilUptoRow, standIns := [], harness := (true, "ed1f7c123b96c139095f0dc4d546e42c272828addc6bc6daa2df4afa99b6a73a"), looks := true }, kinds := [], alts := [], laidByText := true, laidKinds := [.handle], laidTests := true, laidLooks := .later }
def GateNilUptoCardSaid : Prop := Claim7.holds Tryd.pinned (.plain (OpenSpec.upto gateNilSpec)) gateNilUptoCard
end Rows
end Go.Proofs.YtgnchfjkpjblnaaDoor
