/-
  DERIVED. GIVEN WITH THE SEED: THE CARDS: each row of YtbplbehhlbkklaaGreatDoorRows.lean that lists a variable, with what it lists TIED to the program's text (the seventh form; the later family's looks); each row that meets fmt, with fmt's text TOLD by the authors' own Lean function (tested against real Go, not proved from fmt's source: count such statements apart). THE CARD IS WHAT COUNTS. Prove the row's statement (the work); the ties are given (YtbplbehhlbkklaaGreatDoorTie.lean); close each card by the builder's one call (the guide's Derived/Test/ToyasCard.lean, 'card_holds'). Laid BY PROGRAM, IN A SANDBOX (cutbox-door.mjs). By AI agents, Wed Nov 11 2026. No macro, syntax, notation, axiom, sorry.
-/
import Derived.Test.YtbplbehhlbkklaaGreatDoorRows
import GoSem.ClaimSeven
namespace Go.Proofs.YtbplbehhlbkklaaGreatDoor
namespace Rows

/-- THE TIED CARD OF 'patoislaw13.BparseSays'. -/
def bparseSaysCard : Claim7 := { stood := { row := bparseSaysRow, standIns := [], harness := (true, "77ee74e31fd36f02ea0b19bfcd03f8a01e17411dc35eb277f87f31dbd8ca5325"), looks := true }, kinds := [], alts := [], laidByText := true, laidKinds := [.sentinel, .sentinel, .sentinel, .sentinel, .sentinel, .sentinel, .sentinel, .sentinel, .sentinel, .sentinel, .sentinel, .sentinel, .sentinel, .sentinel, .sentinel, .sentinel, .sentinel], laidTests := true, laidLooks := .later }
def BparseSaysCardSaid : Prop := Claim7.holds Tryz.pinned (.plain (OpenSpec.ofChange bparseSaysSpec)) bparseSaysCard

/-- THE SECOND FORM's CARD OF 'patoislaw13.BparseSays'. -/
def bparseSaysUptoCard : Claim7 := { stood := { row := bparseSaysUptoRow, standIns := [], harness := (true, "77ee74e31fd36f02ea0b19bfcd03f8a01e17411dc35eb277f87f31dbd8ca5325"), looks := true }, kinds := [], alts := [], laidByText := true, laidKinds := [.sentinel, .sentinel, .sentinel, .sentinel, .sentinel, .sentinel, .sentinel, .sentinel, .sentinel, .sentinel, .sentinel, .sentinel, .sentinel, .sentinel, .sentinel, .sentinel, .sentinel], laidTests := true, laidLooks := .later }
def BparseSaysUptoCardSaid : Prop := Claim7.holds Tryz.pinned (.plain (OpenSpec.upto bparseSaysSpec)) bparseSaysUptoCard
end Rows
end Go.Proofs.YtbplbehhlbkklaaGreatDoor
