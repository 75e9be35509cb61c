/-
  DERIVED. GIVEN WITH THE SEED: THE CARDS: each row of YtnicaiofjficnaaDoorRows.lean that lists a variable, with what it lists TIED to the program's text (the seventh form; the later family's looks); each row that meets fmt, with fmt's text TOLD by the authors' own Lean function (tested against real Go, not proved from fmt's source: count such statements apart). THE CARD IS WHAT COUNTS. Prove the row's statement (the work); the ties are given (YtnicaiofjficnaaDoorTie.lean); close each card by the builder's one call (the guide's Derived/Test/ToyasCard.lean, 'card_holds'). Laid BY PROGRAM, IN A SANDBOX (cutbox-door.mjs). By AI agents, Wed Nov 11 2026. No macro, syntax, notation, axiom, sorry.
-/
import Derived.Test.YtnicaiofjficnaaDoorRows
import GoSem.ClaimSeven
namespace Go.Proofs.YtnicaiofjficnaaDoor
namespace Rows

/-- THE TIED CARD OF 'gussetlaw02.ValueOrders'. -/
def valueOrdersCard : Claim7 := { stood := { row := valueOrdersRow, standIns := [], harness := (true, "c691a303d99d8819fc5459ac3d217d5fc7b09b7827fec7054ac241a4e100abbe"), looks := true }, kinds := [], alts := [], laidByText := true, laidKinds := [.data, .data, .data], laidTests := true, laidLooks := .later }
def ValueOrdersCardSaid : Prop := Claim7.holds Tryd.pinned (.plain (OpenSpec.ofChange valueOrdersSpec)) valueOrdersCard

/-- THE TIED CARD OF 'gussetlaw02.ValueOne'. -/
def valueOneCard : Claim7 := { stood := { row := valueOneRow, standIns := [], harness := (true, "c691a303d99d8819fc5459ac3d217d5fc7b09b7827fec7054ac241a4e100abbe"), looks := true }, kinds := [], alts := [], laidByText := true, laidKinds := [.data, .data, .data], laidTests := true, laidLooks := .later }
def ValueOneCardSaid : Prop := Claim7.holds Tryd.pinned (.plain (OpenSpec.ofChange valueOneSpec)) valueOneCard

/-- THE TIED CARD OF 'gussetlaw02.ValueSorts'. -/
def valueSortsCard : Claim7 := { stood := { row := valueSortsRow, standIns := [], harness := (true, "c691a303d99d8819fc5459ac3d217d5fc7b09b7827fec7054ac241a4e100abbe"), looks := true }, kinds := [], alts := [], laidByText := true, laidKinds := [.data, .data, .data], laidTests := true, laidLooks := .later }
def ValueSortsCardSaid : Prop := Claim7.holds Tryd.pinned (.plain (OpenSpec.ofChange valueSortsSpec)) valueSortsCard

/-- THE TIED CARD OF 'gussetlaw02.ValueTexts'. -/
def valueTextsCard : Claim7 := { stood := { row := valueTextsRow, standIns := [], harness := (true, "c691a303d99d8819fc5459ac3d217d5fc7b09b7827fec7054ac241a4e100abbe"), looks := true }, kinds := [], alts := [], laidByText := true, laidKinds := [.data, .data, .data, .sentinel, .sentinel], laidTests := true, laidLooks := .later }
def ValueTextsCardSaid : Prop := Claim7.holds Tryd.pinned (.plain (OpenSpec.ofChange valueTextsSpec)) valueTextsCard

/-- THE TIED CARD OF 'gussetlaw02.ValueApart'. -/
def valueApartCard : Claim7 := { stood := { row := valueApartRow, standIns := [], harness := (true, "c691a303d99d8819fc5459ac3d217d5fc7b09b7827fec7054ac241a4e100abbe"), looks := true }, kinds := [], alts := [], laidByText := true, laidKinds := [.data, .data, .data, .sentinel, .sentinel], laidTests := true, laidLooks := .later }
def ValueApartCardSaid : Prop := Claim7.holds Tryd.pinned (.plain (OpenSpec.ofChange valueApartSpec)) valueApartCard

/-- THE SECOND FORM's CARD OF 'gussetlaw02.ValueOrders'. -/
def valueOrdersUptoCard : Claim7 := { stood := { row := valueOrdersUptoRow, standIns := [], harness := (true, "c691a303d99d8819fc5459ac3d217d5fc7b09b7827fec7054ac241a4e100abbe"), looks := true }, kinds := [], alts := [], laidByText := true, laidKinds := [.data, .data, .data], laidTests := true, laidLooks := .later }
def ValueOrdersUptoCardSaid : Prop := Claim7.holds Tryd.pinned (.plain (OpenSpec.upto valueOrdersSpec)) valueOrdersUptoCard

/-- THE SECOND FORM's CARD OF 'gussetlaw02.ValueOne'. -/
def valueOneUptoCard : Claim7 := { stood := { row := valueOneUptoRow, standIns := [], harness := (true, "c691a303d99d8819fc5459ac3d217d5fc7b09b7827fec7054ac241a4e100abbe"), looks := true }, kinds := [], alts := [], laidByText := true, laidKinds := [.data, .data, .data], laidTests := true, laidLooks := .later }
def ValueOneUptoCardSaid : Prop := Claim7.holds Tryd.pinned (.plain (OpenSpec.upto valueOneSpec)) valueOneUptoCard

/-- THE SECOND FORM's CARD OF 'gussetlaw02.ValueSorts'. -/
def valueSortsUptoCard : Claim7 := { stood := { row := valueSortsUptoRow, standIns := [], harness := (true, "c691a303d99d8819fc5459ac3d217d5fc7b09b7827fec7054ac241a4e100abbe"), looks := true }, kinds := [], alts := [], laidByText := true, laidKinds := [.data, .data, .data], laidTests := true, laidLooks := .later }
def ValueSortsUptoCardSaid : Prop := Claim7.holds Tryd.pinned (.plain (OpenSpec.upto valueSortsSpec)) valueSortsUptoCard

/-- THE SECOND FORM's CARD OF 'gussetlaw02.ValueTexts'. -/
def valueTextsUptoCard : Claim7 := { stood := { row := valueTextsUptoRow, standIns := [], harness := (true, "c691a303d99d8819fc5459ac3d217d5fc7b09b7827fec7054ac241a4e100abbe"), looks := true }, kinds := [], alts := [], laidByText := true, laidKinds := [.data, .data, .data, .sentinel, .sentinel], laidTests := true, laidLooks := .later }
def ValueTextsUptoCardSaid : Prop := Claim7.holds Tryd.pinned (.plain (OpenSpec.upto valueTextsSpec)) valueTextsUptoCard

/-- THE SECOND FORM's CARD OF 'gussetlaw02.ValueApart'. -/
def valueApartUptoCard : Claim7 := { stood := { row := valueApartUptoRow, standIns := [], harness := (true, "c691a303d99d8819fc5459ac3d217d5fc7b09b7827fec7054ac241a4e100abbe"), looks := true }, kinds := [], alts := [], laidByText := true, laidKinds := [.data, .data, .data, .sentinel, .sentinel], laidTests := true, laidLooks := .later }
def ValueApartUptoCardSaid : Prop := Claim7.holds Tryd.pinned (.plain (OpenSpec.upto valueApartSpec)) valueApartUptoCard
end Rows
end Go.Proofs.YtnicaiofjficnaaDoor
