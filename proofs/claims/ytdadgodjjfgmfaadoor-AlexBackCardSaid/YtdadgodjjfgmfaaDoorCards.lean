/-
  DERIVED. GIVEN WITH THE SEED: THE CARDS: each row of YtdadgodjjfgmfaaDoorRows.lean that lists a variable, with what it lists TIED to the program's text (the seventh form; the later family's looks); each row that meets fmt, with fmt's text TOLD by the authors' own Lean function (tested against real Go, not proved from fmt's source: count such statements apart). THE CARD IS WHAT COUNTS. Prove the row's statement (the work); the ties are given (YtdadgodjjfgmfaaDoorTie.lean); close each card by the builder's one call (the guide's Derived/Test/ToyasCard.lean, 'card_holds'). Laid BY PROGRAM, IN A SANDBOX (cutbox-door.mjs). By AI agents, Wed Nov 11 2026. No macro, syntax, notation, axiom, sorry.
-/
import Derived.Test.YtdadgodjjfgmfaaDoorRows
import GoSem.ClaimSeven
namespace Go.Proofs.YtdadgodjjfgmfaaDoor
namespace Rows

/-- THE TIED CARD OF 'patoislaw12.BlexQuotes'. -/
def blexQuotesCard : Claim7 := { stood := { row := blexQuotesRow, standIns := [], harness := (true, "40f489258ebb8b28627c0f127f265a7bbac8c85eaa73321da3d0c550d09ced9f"), looks := true }, kinds := [], alts := [], laidByText := true, laidKinds := [.sentinel, .sentinel, .sentinel, .sentinel, .sentinel, .sentinel, .sentinel, .sentinel, .sentinel, .sentinel, .sentinel, .sentinel, .sentinel, .sentinel, .sentinel, .sentinel, .sentinel], laidTests := true, laidLooks := .later }
def BlexQuotesCardSaid : Prop := Claim7.holds Tryd.pinned (.plain (OpenSpec.ofChange blexQuotesSpec)) blexQuotesCard

/-- THE TIED CARD OF 'patoislaw12.BlexPlaces'. -/
def blexPlacesCard : Claim7 := { stood := { row := blexPlacesRow, standIns := [], harness := (true, "40f489258ebb8b28627c0f127f265a7bbac8c85eaa73321da3d0c550d09ced9f"), looks := true }, kinds := [], alts := [], laidByText := true, laidKinds := [.sentinel, .sentinel, .sentinel, .sentinel, .sentinel, .sentinel, .sentinel, .sentinel, .sentinel, .sentinel, .sentinel, .sentinel, .sentinel, .sentinel, .sentinel, .sentinel, .sentinel], laidTests := true, laidLooks := .later }
def BlexPlacesCardSaid : Prop := Claim7.holds Tryd.pinned (.plain (OpenSpec.ofChange blexPlacesSpec)) blexPlacesCard

/-- THE TIED CARD OF 'patoislaw1.TextNames'. -/
def textNamesCard : Claim7 := { stood := { row := textNamesRow, standIns := [], harness := (true, "40f489258ebb8b28627c0f127f265a7bbac8c85eaa73321da3d0c550d09ced9f"), looks := true }, kinds := [], alts := [], laidByText := true, laidKinds := [.sentinel], laidTests := true, laidLooks := .later }
def TextNamesCardSaid : Prop := Claim7.holds Tryd.pinned (.plain (OpenSpec.ofChange textNamesSpec)) textNamesCard

/-- THE TIED CARD OF 'patoislaw1.TextPlaces'. -/
def textPlacesCard : Claim7 := { stood := { row := textPlacesRow, standIns := [], harness := (true, "40f489258ebb8b28627c0f127f265a7bbac8c85eaa73321da3d0c550d09ced9f"), looks := true }, kinds := [], alts := [], laidByText := true, laidKinds := [.sentinel], laidTests := true, laidLooks := .later }
def TextPlacesCardSaid : Prop := Claim7.holds Tryd.pinned (.plain (OpenSpec.ofChange textPlacesSpec)) textPlacesCard

/-- THE TIED CARD OF 'patoislaw1.TextSlices'. -/
def textSlicesCard : Claim7 := { stood := { row := textSlicesRow, standIns := [], harness := (true, "40f489258ebb8b28627c0f127f265a7bbac8c85eaa73321da3d0c550d09ced9f"), looks := true }, kinds := [], alts := [], laidByText := true, laidKinds := [.sentinel], laidTests := true, laidLooks := .later }
def TextSlicesCardSaid : Prop := Claim7.holds Tryd.pinned (.plain (OpenSpec.ofChange textSlicesSpec)) textSlicesCard

/-- THE TIED CARD OF 'patoislaw10.AlexPlaces'. -/
def alexPlacesCard : Claim7 := { stood := { row := alexPlacesRow, standIns := [], harness := (true, "40f489258ebb8b28627c0f127f265a7bbac8c85eaa73321da3d0c550d09ced9f"), looks := true }, kinds := [], alts := [], laidByText := true, laidKinds := [.sentinel, .sentinel, .sentinel, .sentinel, .sentinel, .sentinel, .sentinel, .sentinel, .sentinel, .sentinel, .sentinel, .sentinel, .sentinel, .sentinel, .sentinel, .sentinel, .sentinel], laidTests := true, laidLooks := .later }
def AlexPlacesCardSaid : Prop := Claim7.holds Tryd.pinned (.plain (OpenSpec.ofChange alexPlacesSpec)) alexPlacesCard

/-- THE TIED CARD OF 'patoislaw10.AlexQuotes'. -/
def alexQuotesCard : Claim7 := { stood := { row := alexQuotesRow, standIns := [], harness := (true, "40f489258ebb8b28627c0f127f265a7bbac8c85eaa73321da3d0c550d09ced9f"), looks := true }, kinds := [], alts := [], laidByText := true, laidKinds := [.sentinel, .sentinel, .sentinel, .sentinel, .sentinel, .sentinel, .sentinel, .sentinel, .sentinel, .sentinel, .sentinel, .sentinel, .sentinel, .sentinel, .sentinel, .sentinel, .sentinel], laidTests := true, laidLooks := .later }
def AlexQuotesCardSaid : Prop := Claim7.holds Tryd.pinned (.plain (OpenSpec.ofChange alexQuotesSpec)) alexQuotesCard

/-- THE TIED CARD OF 'patoislaw10.AlexNames'. -/
def alexNamesCard : Claim7 := { stood := { row := alexNamesRow, standIns := [], harness := (true, "40f489258ebb8b28627c0f127f265a7bbac8c85eaa73321da3d0c550d09ced9f"), looks := true }, kinds := [], alts := [], laidByText := true, laidKinds := [.sentinel, .sentinel, .sentinel, .sentinel, .sentinel, .sentinel, .sentinel, .sentinel, .sentinel, .sentinel, .sentinel, .sentinel, .sentinel, .sentinel, .sentinel, .sentinel, .sentinel], laidTests := true, laidLooks := .later }
def AlexNamesCardSaid : Prop := Claim7.holds Tryd.pinned (.plain (OpenSpec.ofChange alexNamesSpec)) alexNamesCard

/-- THE TIED CARD OF 'patoislaw1.TextNumbers'. -/
def textNumbersCard : Claim7 := { stood := { row := textNumbersRow, standIns := [], harness := (true, "40f489258ebb8b28627c0f127f265a7bbac8c85eaa73321da3d0c550d09ced9f"), looks := true }, kinds := [], alts := [], laidByText := true, laidKinds := [.data, .data, .data, .sentinel], laidTests := true, laidLooks := .later }
def TextNumbersCardSaid : Prop := Claim7.holds Tryd.pinned (.plain (OpenSpec.ofChange textNumbersSpec)) textNumbersCard

/-- THE TIED CARD OF 'patoislaw1.TextSays'. -/
def textSaysCard : Claim7 := { stood := { row := textSaysRow, standIns := [], harness := (true, "40f489258ebb8b28627c0f127f265a7bbac8c85eaa73321da3d0c550d09ced9f"), looks := true }, kinds := [], alts := [], laidByText := true, laidKinds := [.data, .data, .data, .sentinel], laidTests := true, laidLooks := .later }
def TextSaysCardSaid : Prop := Claim7.holds Tryd.pinned (.plain (OpenSpec.ofChange textSaysSpec)) textSaysCard

/-- THE TIED CARD OF 'patoislaw12.BlexBack'. -/
def blexBackCard : Claim7 := { stood := { row := blexBackRow, standIns := [], harness := (true, "40f489258ebb8b28627c0f127f265a7bbac8c85eaa73321da3d0c550d09ced9f"), looks := true }, kinds := [], alts := [], laidByText := true, laidKinds := [.data, .data, .data, .data, .sentinel, .sentinel, .sentinel, .sentinel, .sentinel, .sentinel, .sentinel, .sentinel, .sentinel, .sentinel, .sentinel, .sentinel, .sentinel, .sentinel, .sentinel, .sentinel, .sentinel, .pinned], laidTests := true, laidLooks := .later }
def BlexBackCardSaid : Prop := Claim7.holds Tryd.pinned (.plain (OpenSpec.ofChange blexBackSpec)) blexBackCard

/-- THE TIED CARD OF 'patoislaw10.AlexBack'. -/
def alexBackCard : Claim7 := { stood := { row := alexBackRow, standIns := [], harness := (true, "40f489258ebb8b28627c0f127f265a7bbac8c85eaa73321da3d0c550d09ced9f"), looks := true }, kinds := [], alts := [], laidByText := true, laidKinds := [.data, .data, .data, .data, .sentinel, .sentinel, .sentinel, .sentinel, .sentinel, .sentinel, .sentinel, .sentinel, .sentinel, .sentinel, .sentinel, .sentinel, .sentinel, .sentinel, .sentinel, .sentinel, .sentinel, .pinned], laidTests := true, laidLooks := .later }
def AlexBackCardSaid : Prop := Claim7.holds Tryd.pinned (.plain (OpenSpec.ofChange alexBackSpec)) alexBackCard

/-- THE SECOND FORM's CARD OF 'patoislaw12.BlexQuotes'. -/
def blexQuotesUptoCard : Claim7 := { stood := { row := blexQuotesUptoRow, standIns := [], harness := (true, "40f489258ebb8b28627c0f127f265a7bbac8c85eaa73321da3d0c550d09ced9f"), looks := true }, kinds := [], alts := [], laidByText := true, laidKinds := [.sentinel, .sentinel, .sentinel, .sentinel, .sentinel, .sentinel, .sentinel, .sentinel, .sentinel, .sentinel, .sentinel, .sentinel, .sentinel, .sentinel, .sentinel, .sentinel, .sentinel], laidTests := true, laidLooks := .later }
def BlexQuotesUptoCardSaid : Prop := Claim7.holds Tryd.pinned (.plain (OpenSpec.upto blexQuotesSpec)) blexQuotesUptoCard

/-- THE SECOND FORM's CARD OF 'patoislaw12.BlexPlaces'. -/
def blexPlacesUptoCard : Claim7 := { stood := { row := blexPlacesUptoRow, standIns := [], harness := (true, "40f489258ebb8b28627c0f127f265a7bbac8c85eaa73321da3d0c550d09ced9f"), looks := true }, kinds := [], alts := [], laidByText := true, laidKinds := [.sentinel, .sentinel, .sentinel, .sentinel, .sentinel, .sentinel, .sentinel, .sentinel, .sentinel, .sentinel, .sentinel, .sentinel, .sentinel, .sentinel, .sentinel, .sentinel, .sentinel], laidTests := true, laidLooks := .later }
def BlexPlacesUptoCardSaid : Prop := Claim7.holds Tryd.pinned (.plain (OpenSpec.upto blexPlacesSpec)) blexPlacesUptoCard

/-- THE SECOND FORM's CARD OF 'patoislaw1.TextNames'. -/
def textNamesUptoCard : Claim7 := { stood := { row := textNamesUptoRow, standIns := [], harness := (true, "40f489258ebb8b28627c0f127f265a7bbac8c85eaa73321da3d0c550d09ced9f"), looks := true }, kinds := [], alts := [], laidByText := true, laidKinds := [.sentinel], laidTests := true, laidLooks := .later }
def TextNamesUptoCardSaid : Prop := Claim7.holds Tryd.pinned (.plain (OpenSpec.upto textNamesSpec)) textNamesUptoCard

/-- THE SECOND FORM's CARD OF 'patoislaw1.TextPlaces'. -/
def textPlacesUptoCard : Claim7 := { stood := { row := textPlacesUptoRow, standIns := [], harness := (true, "40f489258ebb8b28627c0f127f265a7bbac8c85eaa73321da3d0c550d09ced9f"), looks := true }, kinds := [], alts := [], laidByText := true, laidKinds := [.sentinel], laidTests := true, laidLooks := .later }
def TextPlacesUptoCardSaid : Prop := Claim7.holds Tryd.pinned (.plain (OpenSpec.upto textPlacesSpec)) textPlacesUptoCard

/-- THE SECOND FORM's CARD OF 'patoislaw1.TextSlices'. -/
def textSlicesUptoCard : Claim7 := { stood := { row := textSlicesUptoRow, standIns := [], harness := (true, "40f489258ebb8b28627c0f127f265a7bbac8c85eaa73321da3d0c550d09ced9f"), looks := true }, kinds := [], alts := [], laidByText := true, laidKinds := [.sentinel], laidTests := true, laidLooks := .later }
def TextSlicesUptoCardSaid : Prop := Claim7.holds Tryd.pinned (.plain (OpenSpec.upto textSlicesSpec)) textSlicesUptoCard

/-- THE SECOND FORM's CARD OF 'patoislaw10.AlexPlaces'. -/
def alexPlacesUptoCard : Claim7 := { stood := { row := alexPlacesUptoRow, standIns := [], harness := (true, "40f489258ebb8b28627c0f127f265a7bbac8c85eaa73321da3d0c550d09ced9f"), looks := true }, kinds := [], alts := [], laidByText := true, laidKinds := [.sentinel, .sentinel, .sentinel, .sentinel, .sentinel, .sentinel, .sentinel, .sentinel, .sentinel, .sentinel, .sentinel, .sentinel, .sentinel, .sentinel, .sentinel, .sentinel, .sentinel], laidTests := true, laidLooks := .later }
def AlexPlacesUptoCardSaid : Prop := Claim7.holds Tryd.pinned (.plain (OpenSpec.upto alexPlacesSpec)) alexPlacesUptoCard

/-- THE SECOND FORM's CARD OF 'patoislaw10.AlexQuotes'. -/
def alexQuotesUptoCard : Claim7 := { stood := { row := alexQuotesUptoRow, standIns := [], harness := (true, "40f489258ebb8b28627c0f127f265a7bbac8c85eaa73321da3d0c550d09ced9f"), looks := true }, kinds := [], alts := [], laidByText := true, laidKinds := [.sentinel, .sentinel, .sentinel, .sentinel, .sentinel, .sentinel, .sentinel, .sentinel, .sentinel, .sentinel, .sentinel, .sentinel, .sentinel, .sentinel, .sentinel, .sentinel, .sentinel], laidTests := true, laidLooks := .later }
def AlexQuotesUptoCardSaid : Prop := Claim7.holds Tryd.pinned (.plain (OpenSpec.upto alexQuotesSpec)) alexQuotesUptoCard

/-- THE SECOND FORM's CARD OF 'patoislaw10.AlexNames'. -/
def alexNamesUptoCard : Claim7 := { stood := { row := alexNamesUptoRow, standIns := [], harness := (true, "40f489258ebb8b28627c0f127f265a7bbac8c85eaa73321da3d0c550d09ced9f"), looks := true }, kinds := [], alts := [], laidByText := true, laidKinds := [.sentinel, .sentinel, .sentinel, .sentinel, .sentinel, .sentinel, .sentinel, .sentinel, .sentinel, .sentinel, .sentinel, .sentinel, .sentinel, .sentinel, .sentinel, .sentinel, .sentinel], laidTests := true, laidLooks := .later }
def AlexNamesUptoCardSaid : Prop := Claim7.holds Tryd.pinned (.plain (OpenSpec.upto alexNamesSpec)) alexNamesUptoCard

/-- THE SECOND FORM's CARD OF 'patoislaw1.TextNumbers'. -/
def textNumbersUptoCard : Claim7 := { stood := { row := textNumbersUptoRow, standIns := [], harness := (true, "40f489258ebb8b28627c0f127f265a7bbac8c85eaa73321da3d0c550d09ced9f"), looks := true }, kinds := [], alts := [], laidByText := true, laidKinds := [.data, .data, .data, .sentinel], laidTests := true, laidLooks := .later }
def TextNumbersUptoCardSaid : Prop := Claim7.holds Tryd.pinned (.plain (OpenSpec.upto textNumbersSpec)) textNumbersUptoCard

/-- THE SECOND FORM's CARD OF 'patoislaw1.TextSays'. -/
def textSaysUptoCard : Claim7 := { stood := { row := textSaysUptoRow, standIns := [], harness := (true, "40f489258ebb8b28627c0f127f265a7bbac8c85eaa73321da3d0c550d09ced9f"), looks := true }, kinds := [], alts := [], laidByText := true, laidKinds := [.data, .data, .data, .sentinel], laidTests := true, laidLooks := .later }
def TextSaysUptoCardSaid : Prop := Claim7.holds Tryd.pinned (.plain (OpenSpec.upto textSaysSpec)) textSaysUptoCard

/-- THE SECOND FORM's CARD OF 'patoislaw12.BlexBack'. -/
def blexBackUptoCard : Claim7 := { stood := { row := blexBackUptoRow, standIns := [], harness := (true, "40f489258ebb8b28627c0f127f265a7bbac8c85eaa73321da3d0c550d09ced9f"), looks := true }, kinds := [], alts := [], laidByText := true, laidKinds := [.data, .data, .data, .data, .sentinel, .sentinel, .sentinel, .sentinel, .sentinel, .sentinel, .sentinel, .sentinel, .sentinel, .sentinel, .sentinel, .sentinel, .sentinel, .sentinel, .sentinel, .sentinel, .sentinel, .pinned], laidTests := true, laidLooks := .later }
def BlexBackUptoCardSaid : Prop := Claim7.holds Tryd.pinned (.plain (OpenSpec.upto blexBackSpec)) blexBackUptoCard

/-- THE SECOND FORM's CARD OF 'patoislaw10.AlexBack'. -/
def alexBackUptoCard : Claim7 := { stood := { row := alexBackUptoRow, standIns := [], harness := (true, "40f489258ebb8b28627c0f127f265a7bbac8c85eaa73321da3d0c550d09ced9f"), looks := true }, kinds := [], alts := [], laidByText := true, laidKinds := [.data, .data, .data, .data, .sentinel, .sentinel, .sentinel, .sentinel, .sentinel, .sentinel, .sentinel, .sentinel, .sentinel, .sentinel, .sentinel, .sentinel, .sentinel, .sentinel, .sentinel, .sentinel, .sentinel, .pinned], laidTests := true, laidLooks := .later }
def AlexBackUptoCardSaid : Prop := Claim7.holds Tryd.pinned (.plain (OpenSpec.upto alexBackSpec)) alexBackUptoCard
end Rows
end Go.Proofs.YtdadgodjjfgmfaaDoor
