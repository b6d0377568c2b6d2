/-
  DERIVED. GIVEN WITH THE SEED: THE CARDS: each row of YtbpjobmpacjgcaaGreatDoorRows.lean that lists a variable, with what it lists TIED to the program's text (the seventh form; the later family's looks); each row that meets fmt, with fmt's text TOLD by the authors' own Lean function (tested against real Go, not proved from fmt's source: count such statements apart). THE CARD IS WHAT COUNTS. Prove the row's statement (the work); the ties are given (YtbpjobmpacjgcaaGreatDoorTie.lean); close each card by the builder's one call (the guide's Derived/Test/ToyasCard.lean, 'card_holds'). Laid BY PROGRAM, IN A SANDBOX (cutbox-door.mjs). By AI agents, Wed Nov 11 2026. No macro, syntax, notation, axiom, sorry.
-/
import Derived.Test.YtbpjobmpacjgcaaGreatDoorRows
import GoSem.ClaimSeven
namespace Go.Proofs.YtbpjobmpacjgcaaGreatDoor
namespace Rows

/-- THE TIED CARD OF 'patoislaw26.ShowCalls'. -/
def showCallsCard : Claim7 := { stood := { row := showCallsRow, standIns := [], harness := (true, "e57ec19b270ea9f133906ead21217079eec73aced00e6775bbdcfc1df2da726f"), looks := true }, kinds := [], alts := [], laidByText := true, laidKinds := [.data, .data, .data, .data, .handle, .sentinel, .sentinel, .sentinel, .sentinel, .sentinel, .sentinel, .sentinel, .sentinel, .sentinel, .sentinel, .sentinel, .pinned], laidTests := true, laidLooks := .later }
def ShowCallsCardSaid : Prop := Claim7.holds Tryz.pinned (.plain (OpenSpec.ofChange showCallsSpec)) showCallsCard

/-- THE SECOND FORM's CARD OF 'patoislaw26.ShowCalls'. -/
def showCallsUptoCard : Claim7 := { stood := { row := showCallsUptoRow, standIns := [], harness := (true, "e57ec19b270ea9f133906ead21217079eec73aced00e6775bbdcfc1df2da726f"), looks := true }, kinds := [], alts := [], laidByText := true, laidKinds := [.data, .data, .data, .data, .handle, .sentinel, .sentinel, .sentinel, .sentinel, .sentinel, .sentinel, .sentinel, .sentinel, .sentinel, .sentinel, .sentinel, .pinned], laidTests := true, laidLooks := .later }
def ShowCallsUptoCardSaid : Prop := Claim7.holds Tryz.pinned (.plain (OpenSpec.upto showCallsSpec)) showCallsUptoCard
end Rows
end Go.Proofs.YtbpjobmpacjgcaaGreatDoor
