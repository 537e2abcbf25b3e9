/-
  DERIVED. GIVEN WITH THE SEED: THE CARDS: each row of YtiiophkfecpbfaaDoorRows.lean that lists a variable, with what it lists TIED to the program's text (the seventh form; the later family's looks); each row that meets fmt, with fmt's text TOLD by the authors' own Lean function (tested against real Go, not proved from fmt's source: count such statements apart). THE CARD IS WHAT COUNTS. Prove the row's statement (the work); the ties are given (YtiiophkfecpbfaaDoorTie.lean); close each card by the builder's one call (the guide's Derived/Test/ToyasCard.lean, 'card_holds'). Laid BY PROGRAM, IN A SANDBOX (cutbox-door.mjs). By AI agents, Wed Nov 11 2026. No macro, syntax, notation, axiom, sorry.
-/
import Derived.Test.YtiiophkfecpbfaaDoorRows
import GoSem.ClaimSeven
namespace Go.Proofs.YtiiophkfecpbfaaDoor
namespace Rows

/-- THE TIED CARD OF 'isobarlaw03.FaultWords'. -/
def faultWordsCard : Claim7 := { stood := { row := faultWordsRow, standIns := [], harness := (true, "de5481b72d1054b0fb4aa25858913f1c4718b243b497ea8f1adc680ce618ae97"), looks := true }, kinds := [], alts := [], laidByText := true, laidKinds := [.handle], laidTests := true, laidLooks := .later }
def FaultWordsCardSaid : Prop := Claim7.holds Tryd.pinned (.plain (OpenSpec.ofChange faultWordsSpec)) faultWordsCard

/-- THE TIED CARD OF 'isobarlaw03.FaultNil'. -/
def faultNilCard : Claim7 := { stood := { row := faultNilRow, standIns := [], harness := (true, "de5481b72d1054b0fb4aa25858913f1c4718b243b497ea8f1adc680ce618ae97"), looks := true }, kinds := [], alts := [], laidByText := true, laidKinds := [.data, .data, .data, .handle], laidTests := true, laidLooks := .later }
def FaultNilCardSaid : Prop := Claim7.holds Tryd.pinned (.plain (OpenSpec.ofChange faultNilSpec)) faultNilCard

/-- THE TIED CARD OF 'isobarlaw03.FaultFinds'. -/
def faultFindsCard : Claim7 := { stood := { row := faultFindsRow, standIns := [], harness := (true, "de5481b72d1054b0fb4aa25858913f1c4718b243b497ea8f1adc680ce618ae97"), looks := true }, kinds := [], alts := [], laidByText := true, laidKinds := [.handle], laidTests := true, laidLooks := .later }
def FaultFindsCardSaid : Prop := Claim7.holds Tryd.pinned (.plain (OpenSpec.ofChange faultFindsSpec)) faultFindsCard

/-- THE TIED CARD OF 'isobarlaw03.FaultWraps'. -/
def faultWrapsCard : Claim7 := { stood := { row := faultWrapsRow, standIns := [], harness := (true, "de5481b72d1054b0fb4aa25858913f1c4718b243b497ea8f1adc680ce618ae97"), looks := true }, kinds := [], alts := [], laidByText := true, laidKinds := [.data, .data, .data, .handle], laidTests := true, laidLooks := .later }
def FaultWrapsCardSaid : Prop := Claim7.holds Tryd.pinned (.plain (OpenSpec.ofChange faultWrapsSpec)) faultWrapsCard

/-- THE TIED CARD OF 'isobarlaw03.FaultOther'. -/
def faultOtherCard : Claim7 := { stood := { row := faultOtherRow, standIns := [], harness := (true, "de5481b72d1054b0fb4aa25858913f1c4718b243b497ea8f1adc680ce618ae97"), looks := true }, kinds := [], alts := [], laidByText := true, laidKinds := [.data, .data, .data, .handle], laidTests := true, laidLooks := .later }
def FaultOtherCardSaid : Prop := Claim7.holds Tryd.pinned (.plain (OpenSpec.ofChange faultOtherSpec)) faultOtherCard

/-- THE TIED CARD OF 'isobarlaw03.FaultTells'. -/
def faultTellsCard : Claim7 := { stood := { row := faultTellsRow, standIns := [], harness := (true, "de5481b72d1054b0fb4aa25858913f1c4718b243b497ea8f1adc680ce618ae97"), looks := true }, kinds := [], alts := [], laidByText := true, laidKinds := [.data, .data, .data, .handle], laidTests := true, laidLooks := .later }
def FaultTellsCardSaid : Prop := Claim7.holds Tryd.pinned (.plain (OpenSpec.ofChange faultTellsSpec)) faultTellsCard

/-- THE SECOND FORM's CARD OF 'isobarlaw03.FaultWords'. -/
def faultWordsUptoCard : Claim7 := { stood := { row := faultWordsUptoRow, standIns := [], harness := (true, "de5481b72d1054b0fb4aa25858913f1c4718b243b497ea8f1adc680ce618ae97"), looks := true }, kinds := [], alts := [], laidByText := true, laidKinds := [.handle], laidTests := true, laidLooks := .later }
def FaultWordsUptoCardSaid : Prop := Claim7.holds Tryd.pinned (.plain (OpenSpec.upto faultWordsSpec)) faultWordsUptoCard

/-- THE SECOND FORM's CARD OF 'isobarlaw03.FaultNil'. -/
def faultNilUptoCard : Claim7 := { stood := { row := faultNilUptoRow, standIns := [], harness := (true, "de5481b72d1054b0fb4aa25858913f1c4718b243b497ea8f1adc680ce618ae97"), looks := true }, kinds := [], alts := [], laidByText := true, laidKinds := [.data, .data, .data, .handle], laidTests := true, laidLooks := .later }
def FaultNilUptoCardSaid : Prop := Claim7.holds Tryd.pinned (.plain (OpenSpec.upto faultNilSpec)) faultNilUptoCard

/-- THE SECOND FORM's CARD OF 'isobarlaw03.FaultFinds'. -/
def faultFindsUptoCard : Claim7 := { stood := { row := faultFindsUptoRow, standIns := [], harness := (true, "de5481b72d1054b0fb4aa25858913f1c4718b243b497ea8f1adc680ce618ae97"), looks := true }, kinds := [], alts := [], laidByText := true, laidKinds := [.handle], laidTests := true, laidLooks := .later }
def FaultFindsUptoCardSaid : Prop := Claim7.holds Tryd.pinned (.plain (OpenSpec.upto faultFindsSpec)) faultFindsUptoCard

/-- THE SECOND FORM's CARD OF 'isobarlaw03.FaultWraps'. -/
def faultWrapsUptoCard : Claim7 := { stood := { row := faultWrapsUptoRow, standIns := [], harness := (true, "de5481b72d1054b0fb4aa25858913f1c4718b243b497ea8f1adc680ce618ae97"), looks := true }, kinds := [], alts := [], laidByText := true, laidKinds := [.data, .data, .data, .handle], laidTests := true, laidLooks := .later }
def FaultWrapsUptoCardSaid : Prop := Claim7.holds Tryd.pinned (.plain (OpenSpec.upto faultWrapsSpec)) faultWrapsUptoCard

/-- THE SECOND FORM's CARD OF 'isobarlaw03.FaultOther'. -/
def faultOtherUptoCard : Claim7 := { stood := { row := faultOtherUptoRow, standIns := [], harness := (true, "de5481b72d1054b0fb4aa25858913f1c4718b243b497ea8f1adc680ce618ae97"), looks := true }, kinds := [], alts := [], laidByText := true, laidKinds := [.data, .data, .data, .handle], laidTests := true, laidLooks := .later }
def FaultOtherUptoCardSaid : Prop := Claim7.holds Tryd.pinned (.plain (OpenSpec.upto faultOtherSpec)) faultOtherUptoCard

/-- THE SECOND FORM's CARD OF 'isobarlaw03.FaultTells'. -/
def faultTellsUptoCard : Claim7 := { stood := { row := faultTellsUptoRow, standIns := [], harness := (true, "de5481b72d1054b0fb4aa25858913f1c4718b243b497ea8f1adc680ce618ae97"), looks := true }, kinds := [], alts := [], laidByText := true, laidKinds := [.data, .data, .data, .handle], laidTests := true, laidLooks := .later }
def FaultTellsUptoCardSaid : Prop := Claim7.holds Tryd.pinned (.plain (OpenSpec.upto faultTellsSpec)) faultTellsUptoCard
end Rows
end Go.Proofs.YtiiophkfecpbfaaDoor
