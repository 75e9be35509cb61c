/-
  DERIVED. GIVEN WITH THE SEED: THE CARDS: each row of YtlkhbepmkembgaaDoorRows.lean that lists a variable, with what it lists TIED to the program's text (the seventh form; the later family's looks); each row that meets fmt, with fmt's text TOLD by the authors' own Lean function (tested against real Go, not proved from fmt's source: count such statements apart). THE CARD IS WHAT COUNTS. Prove the row's statement (the work); the ties are given (YtlkhbepmkembgaaDoorTie.lean); close each card by the builder's one call (the guide's Derived/Test/ToyasCard.lean, 'card_holds'). Laid BY PROGRAM, IN A SANDBOX (cutbox-door.mjs). By AI agents, Wed Nov 11 2026. No macro, syntax, notation, axiom, sorry.
-/
import Derived.Test.YtlkhbepmkembgaaDoorRows
import GoSem.ClaimSeven
namespace Go.Proofs.YtlkhbepmkembgaaDoor
namespace Rows

/-- THE TIED CARD OF 'gussetlaw01.FaultChains'. -/
def faultChainsCard : Claim7 := { stood := { row := faultChainsRow, standIns := [], harness := (true, "5ca9420d8876548a92b7fd8c0c689b603d5ce02775b6bda923fefc1026726e3a"), looks := true }, kinds := [], alts := [], laidByText := true, laidKinds := [.data, .data, .data, .handle], laidTests := true, laidLooks := .later }
def FaultChainsCardSaid : Prop := Claim7.holds Tryd.pinned (.plain (OpenSpec.ofChange faultChainsSpec)) faultChainsCard

/-- THE TIED CARD OF 'gussetlaw01.FaultWraps'. -/
def faultWrapsCard : Claim7 := { stood := { row := faultWrapsRow, standIns := [], harness := (true, "5ca9420d8876548a92b7fd8c0c689b603d5ce02775b6bda923fefc1026726e3a"), looks := true }, kinds := [], alts := [], laidByText := true, laidKinds := [.data, .data, .data, .handle], laidTests := true, laidLooks := .later }
def FaultWrapsCardSaid : Prop := Claim7.holds Tryd.pinned (.plain (OpenSpec.ofChange faultWrapsSpec)) faultWrapsCard

/-- THE TIED CARD OF 'gussetlaw01.FaultLast'. -/
def faultLastCard : Claim7 := { stood := { row := faultLastRow, standIns := [], harness := (true, "5ca9420d8876548a92b7fd8c0c689b603d5ce02775b6bda923fefc1026726e3a"), looks := true }, kinds := [], alts := [], laidByText := true, laidKinds := [.data, .data, .data, .handle], laidTests := true, laidLooks := .later }
def FaultLastCardSaid : Prop := Claim7.holds Tryd.pinned (.plain (OpenSpec.ofChange faultLastSpec)) faultLastCard

/-- THE TIED CARD OF 'gussetlaw01.FaultJoins'. -/
def faultJoinsCard : Claim7 := { stood := { row := faultJoinsRow, standIns := [], harness := (true, "5ca9420d8876548a92b7fd8c0c689b603d5ce02775b6bda923fefc1026726e3a"), looks := true }, kinds := [], alts := [], laidByText := true, laidKinds := [.data, .data, .data, .handle], laidTests := true, laidLooks := .later }
def FaultJoinsCardSaid : Prop := Claim7.holds Tryd.pinned (.plain (OpenSpec.ofChange faultJoinsSpec)) faultJoinsCard

/-- THE SECOND FORM's CARD OF 'gussetlaw01.FaultChains'. -/
def faultChainsUptoCard : Claim7 := { stood := { row := faultChainsUptoRow, standIns := [], harness := (true, "5ca9420d8876548a92b7fd8c0c689b603d5ce02775b6bda923fefc1026726e3a"), looks := true }, kinds := [], alts := [], laidByText := true, laidKinds := [.data, .data, .data, .handle], laidTests := true, laidLooks := .later }
def FaultChainsUptoCardSaid : Prop := Claim7.holds Tryd.pinned (.plain (OpenSpec.upto faultChainsSpec)) faultChainsUptoCard

/-- THE SECOND FORM's CARD OF 'gussetlaw01.FaultWraps'. -/
def faultWrapsUptoCard : Claim7 := { stood := { row := faultWrapsUptoRow, standIns := [], harness := (true, "5ca9420d8876548a92b7fd8c0c689b603d5ce02775b6bda923fefc1026726e3a"), looks := true }, kinds := [], alts := [], laidByText := true, laidKinds := [.data, .data, .data, .handle], laidTests := true, laidLooks := .later }
def FaultWrapsUptoCardSaid : Prop := Claim7.holds Tryd.pinned (.plain (OpenSpec.upto faultWrapsSpec)) faultWrapsUptoCard

/-- THE SECOND FORM's CARD OF 'gussetlaw01.FaultLast'. -/
def faultLastUptoCard : Claim7 := { stood := { row := faultLastUptoRow, standIns := [], harness := (true, "5ca9420d8876548a92b7fd8c0c689b603d5ce02775b6bda923fefc1026726e3a"), looks := true }, kinds := [], alts := [], laidByText := true, laidKinds := [.data, .data, .data, .handle], laidTests := true, laidLooks := .later }
def FaultLastUptoCardSaid : Prop := Claim7.holds Tryd.pinned (.plain (OpenSpec.upto faultLastSpec)) faultLastUptoCard

/-- THE SECOND FORM's CARD OF 'gussetlaw01.FaultJoins'. -/
def faultJoinsUptoCard : Claim7 := { stood := { row := faultJoinsUptoRow, standIns := [], harness := (true, "5ca9420d8876548a92b7fd8c0c689b603d5ce02775b6bda923fefc1026726e3a"), looks := true }, kinds := [], alts := [], laidByText := true, laidKinds := [.data, .data, .data, .handle], laidTests := true, laidLooks := .later }
def FaultJoinsUptoCardSaid : Prop := Claim7.holds Tryd.pinned (.plain (OpenSpec.upto faultJoinsSpec)) faultJoinsUptoCard
end Rows
end Go.Proofs.YtlkhbepmkembgaaDoor
