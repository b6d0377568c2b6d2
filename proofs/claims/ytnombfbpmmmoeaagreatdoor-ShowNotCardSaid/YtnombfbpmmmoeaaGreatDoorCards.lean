/-
  DERIVED. GIVEN WITH THE SEED: THE CARDS: each row of YtnombfbpmmmoeaaGreatDoorRows.lean that lists a variable, with what it lists TIED to the program's text (the seventh form; the later family's looks); each row that meets fmt, with fmt's text TOLD by the authors' own Lean function (tested against real Go, not proved from fmt's source: count such statements apart). THE CARD IS WHAT COUNTS. Prove the row's statement (the work); the ties are given (YtnombfbpmmmoeaaGreatDoorTie.lean); close each card by the builder's one call (the guide's Derived/Test/ToyasCard.lean, 'card_holds'). Laid BY PROGRAM, IN A SANDBOX (cutbox-door.mjs). By AI agents, Wed Nov 11 2026. No macro, syntax, notation, axiom, sorry.
-/
import Derived.Test.YtnombfbpmmmoeaaGreatDoorRows
import GoSem.ClaimSeven
namespace Go.Proofs.YtnombfbpmmmoeaaGreatDoor
namespace Rows

/-- THE TIED CARD OF 'patoislaw26.ShowQuotes'. -/
def showQuotesCard : Claim7 := { stood := { row := showQuotesRow, standIns := [], harness := (true, "ae1d1549b9a2ac24562b3a2b99fb98ed17435d57e9d7c0adb1cc6273ab3938ea"), looks := true }, kinds := [], alts := [], laidByText := true, laidKinds := [.data, .data, .data, .data, .handle, .sentinel, .sentinel, .sentinel, .sentinel, .sentinel, .sentinel, .sentinel, .sentinel, .sentinel, .sentinel, .sentinel, .pinned], laidTests := true, laidLooks := .later }
def ShowQuotesCardSaid : Prop := Claim7.holds Tryz.pinned (.plain (OpenSpec.ofChange showQuotesSpec)) showQuotesCard

/-- THE TIED CARD OF 'patoislaw26.ShowCalls'. -/
def showCallsCard : Claim7 := { stood := { row := showCallsRow, standIns := [], harness := (true, "ae1d1549b9a2ac24562b3a2b99fb98ed17435d57e9d7c0adb1cc6273ab3938ea"), looks := true }, kinds := [], alts := [], laidByText := true, laidKinds := [.data, .data, .data, .data, .handle, .sentinel, .sentinel, .sentinel, .sentinel, .sentinel, .sentinel, .sentinel, .sentinel, .sentinel, .sentinel, .sentinel, .pinned], laidTests := true, laidLooks := .later }
def ShowCallsCardSaid : Prop := Claim7.holds Tryz.pinned (.plain (OpenSpec.ofChange showCallsSpec)) showCallsCard

/-- THE TIED CARD OF 'patoislaw26.ShowNot'. -/
def showNotCard : Claim7 := { stood := { row := showNotRow, standIns := [], harness := (true, "ae1d1549b9a2ac24562b3a2b99fb98ed17435d57e9d7c0adb1cc6273ab3938ea"), looks := true }, kinds := [], alts := [], laidByText := true, laidKinds := [.data, .data, .data, .data, .handle, .sentinel, .sentinel, .sentinel, .sentinel, .sentinel, .sentinel, .sentinel, .sentinel, .sentinel, .sentinel, .sentinel, .pinned], laidTests := true, laidLooks := .later }
def ShowNotCardSaid : Prop := Claim7.holds Tryz.pinned (.plain (OpenSpec.ofChange showNotSpec)) showNotCard

/-- THE SECOND FORM's CARD OF 'patoislaw26.ShowQuotes'. -/
def showQuotesUptoCard : Claim7 := { stood := { row := showQuotesUptoRow, standIns := [], harness := (true, "ae1d1549b9a2ac24562b3a2b99fb98ed17435d57e9d7c0adb1cc6273ab3938ea"), looks := true }, kinds := [], alts := [], laidByText := true, laidKinds := [.data, .data, .data, .data, .handle, .sentinel, .sentinel, .sentinel, .sentinel, .sentinel, .sentinel, .sentinel, .sentinel, .sentinel, .sentinel, .sentinel, .pinned], laidTests := true, laidLooks := .later }
def ShowQuotesUptoCardSaid : Prop := Claim7.holds Tryz.pinned (.plain (OpenSpec.upto showQuotesSpec)) showQuotesUptoCard

/-- THE SECOND FORM's CARD OF 'patoislaw26.ShowCalls'. -/
def showCallsUptoCard : Claim7 := { stood := { row := showCallsUptoRow, standIns := [], harness := (true, "ae1d1549b9a2ac24562b3a2b99fb98ed17435d57e9d7c0adb1cc6273ab3938ea"), looks := true }, kinds := [], alts := [], laidByText := true, laidKinds := [.data, .data, .data, .data, .handle, .sentinel, .sentinel, .sentinel, .sentinel, .sentinel, .sentinel, .sentinel, .sentinel, .sentinel, .sentinel, .sentinel, .pinned], laidTests := true, laidLooks := .later }
def ShowCallsUptoCardSaid : Prop := Claim7.holds Tryz.pinned (.plain (OpenSpec.upto showCallsSpec)) showCallsUptoCard

/-- THE SECOND FORM's CARD OF 'patoislaw26.ShowNot'. -/
def showNotUptoCard : Claim7 := { stood := { row := showNotUptoRow, standIns := [], harness := (true, "ae1d1549b9a2ac24562b3a2b99fb98ed17435d57e9d7c0adb1cc6273ab3938ea"), looks := true }, kinds := [], alts := [], laidByText := true, laidKinds := [.data, .data, .data, .data, .handle, .sentinel, .sentinel, .sentinel, .sentinel, .sentinel, .sentinel, .sentinel, .sentinel, .sentinel, .sentinel, .sentinel, .pinned], laidTests := true, laidLooks := .later }
def ShowNotUptoCardSaid : Prop := Claim7.holds Tryz.pinned (.plain (OpenSpec.upto showNotSpec)) showNotUptoCard
end Rows
end Go.Proofs.YtnombfbpmmmoeaaGreatDoor
