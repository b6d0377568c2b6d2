/-
  DERIVED. GIVEN WITH THE SEED: THE CARDS: each row of YtbfeoinoepoiaaaGreatDoorRows.lean that lists a variable, with what it lists TIED to the program's text (the seventh form; the later family's looks); each row that meets fmt, with fmt's text TOLD by the authors' own Lean function (tested against real Go, not proved from fmt's source: count such statements apart). THE CARD IS WHAT COUNTS. Prove the row's statement (the work); the ties are given (YtbfeoinoepoiaaaGreatDoorTie.lean); close each card by the builder's one call (the guide's Derived/Test/ToyasCard.lean, 'card_holds'). Laid BY PROGRAM, IN A SANDBOX (cutbox-door.mjs). By AI agents, Wed Nov 11 2026. No macro, syntax, notation, axiom, sorry.
-/
import Derived.Test.YtbfeoinoepoiaaaGreatDoorRows
import GoSem.ClaimSeven
namespace Go.Proofs.YtbfeoinoepoiaaaGreatDoor
namespace Rows

/-- THE TIED CARD OF 'patoislaw13.BparseSays'. -/
def bparseSaysCard : Claim7 := { stood := { row := bparseSaysRow, standIns := [], harness := (true, "4c1ec76aeee3c06180785211d26985f0a6937b63c7ed476d8bb901b66a8ee77d"), looks := true }, kinds := [], alts := [], laidByText := true, laidKinds := [.sentinel, .sentinel, .sentinel, .sentinel, .sentinel, .sentinel, .sentinel, .sentinel, .sentinel, .sentinel, .sentinel, .sentinel, .sentinel, .sentinel, .sentinel, .sentinel, .sentinel], laidTests := true, laidLooks := .later }
def BparseSaysCardSaid : Prop := Claim7.holds Tryz.pinned (.plain (OpenSpec.ofChange bparseSaysSpec)) bparseSaysCard

/-- THE TIED CARD OF 'patoislaw11.AparseSettings'. -/
def aparseSettingsCard : Claim7 := { stood := { row := aparseSettingsRow, standIns := [], harness := (true, "4c1ec76aeee3c06180785211d26985f0a6937b63c7ed476d8bb901b66a8ee77d"), looks := true }, kinds := [], alts := [], laidByText := true, laidKinds := [.handle, .sentinel, .sentinel, .sentinel, .sentinel, .sentinel, .sentinel, .sentinel, .sentinel, .sentinel, .sentinel, .sentinel, .sentinel, .sentinel, .sentinel, .sentinel, .sentinel, .sentinel], laidTests := true, laidLooks := .later }
def AparseSettingsCardSaid : Prop := Claim7.holds Tryz.pinned (.plain (OpenSpec.ofChange aparseSettingsSpec)) aparseSettingsCard

/-- THE SECOND FORM's CARD OF 'patoislaw13.BparseSays'. -/
def bparseSaysUptoCard : Claim7 := { stood := { row := bparseSaysUptoRow, standIns := [], harness := (true, "4c1ec76aeee3c06180785211d26985f0a6937b63c7ed476d8bb901b66a8ee77d"), looks := true }, kinds := [], alts := [], laidByText := true, laidKinds := [.sentinel, .sentinel, .sentinel, .sentinel, .sentinel, .sentinel, .sentinel, .sentinel, .sentinel, .sentinel, .sentinel, .sentinel, .sentinel, .sentinel, .sentinel, .sentinel, .sentinel], laidTests := true, laidLooks := .later }
def BparseSaysUptoCardSaid : Prop := Claim7.holds Tryz.pinned (.plain (OpenSpec.upto bparseSaysSpec)) bparseSaysUptoCard

/-- THE SECOND FORM's CARD OF 'patoislaw11.AparseSettings'. -/
def aparseSettingsUptoCard : Claim7 := { stood := { row := aparseSettingsUptoRow, standIns := [], harness := (true, "4c1ec76aeee3c06180785211d26985f0a6937b63c7ed476d8bb901b66a8ee77d"), looks := true }, kinds := [], alts := [], laidByText := true, laidKinds := [.handle, .sentinel, .sentinel, .sentinel, .sentinel, .sentinel, .sentinel, .sentinel, .sentinel, .sentinel, .sentinel, .sentinel, .sentinel, .sentinel, .sentinel, .sentinel, .sentinel, .sentinel], laidTests := true, laidLooks := .later }
def AparseSettingsUptoCardSaid : Prop := Claim7.holds Tryz.pinned (.plain (OpenSpec.upto aparseSettingsSpec)) aparseSettingsUptoCard
end Rows
end Go.Proofs.YtbfeoinoepoiaaaGreatDoor
