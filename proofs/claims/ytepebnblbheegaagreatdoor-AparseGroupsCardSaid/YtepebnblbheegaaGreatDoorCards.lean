/-
  DERIVED. GIVEN WITH THE SEED: THE CARDS: each row of YtepebnblbheegaaGreatDoorRows.lean that lists a variable, with what it lists TIED to the program's text (the seventh form; the later family's looks); each row that meets fmt, with fmt's text TOLD by the authors' own Lean function (tested against real Go, not proved from fmt's source: count such statements apart). THE CARD IS WHAT COUNTS. Prove the row's statement (the work); the ties are given (YtepebnblbheegaaGreatDoorTie.lean); close each card by the builder's one call (the guide's Derived/Test/ToyasCard.lean, 'card_holds'). Laid BY PROGRAM, IN A SANDBOX (cutbox-door.mjs). By AI agents, Wed Nov 11 2026. No macro, syntax, notation, axiom, sorry.
-/
import Derived.Test.YtepebnblbheegaaGreatDoorRows
import GoSem.ClaimSeven
namespace Go.Proofs.YtepebnblbheegaaGreatDoor
namespace Rows

/-- THE TIED CARD OF 'patoislaw13.BparseSays'. -/
def bparseSaysCard : Claim7 := { stood := { row := bparseSaysRow, standIns := [], harness := (true, "744e8c484fba57e13b9a4baba46426ca26a709523952aa807cafa9af6752bd07"), looks := true }, kinds := [], alts := [], laidByText := true, laidKinds := [.sentinel, .sentinel, .sentinel, .sentinel, .sentinel, .sentinel, .sentinel, .sentinel, .sentinel, .sentinel, .sentinel, .sentinel, .sentinel, .sentinel, .sentinel, .sentinel, .sentinel], laidTests := true, laidLooks := .later }
def BparseSaysCardSaid : Prop := Claim7.holds Tryz.pinned (.plain (OpenSpec.ofChange bparseSaysSpec)) bparseSaysCard

/-- THE TIED CARD OF 'patoislaw13.BparseNests'. -/
def bparseNestsCard : Claim7 := { stood := { row := bparseNestsRow, standIns := [], harness := (true, "744e8c484fba57e13b9a4baba46426ca26a709523952aa807cafa9af6752bd07"), looks := true }, kinds := [], alts := [], laidByText := true, laidKinds := [.sentinel, .sentinel, .sentinel, .sentinel, .sentinel, .sentinel, .sentinel, .sentinel, .sentinel, .sentinel, .sentinel, .sentinel, .sentinel, .sentinel, .sentinel, .sentinel, .sentinel], laidTests := true, laidLooks := .later }
def BparseNestsCardSaid : Prop := Claim7.holds Tryz.pinned (.plain (OpenSpec.ofChange bparseNestsSpec)) bparseNestsCard

/-- THE TIED CARD OF 'patoislaw13.BparseLists'. -/
def bparseListsCard : Claim7 := { stood := { row := bparseListsRow, standIns := [], harness := (true, "744e8c484fba57e13b9a4baba46426ca26a709523952aa807cafa9af6752bd07"), looks := true }, kinds := [], alts := [], laidByText := true, laidKinds := [.sentinel, .sentinel, .sentinel, .sentinel, .sentinel, .sentinel, .sentinel, .sentinel, .sentinel, .sentinel, .sentinel, .sentinel, .sentinel, .sentinel, .sentinel, .sentinel, .sentinel], laidTests := true, laidLooks := .later }
def BparseListsCardSaid : Prop := Claim7.holds Tryz.pinned (.plain (OpenSpec.ofChange bparseListsSpec)) bparseListsCard

/-- THE TIED CARD OF 'patoislaw13.BparseIfs'. -/
def bparseIfsCard : Claim7 := { stood := { row := bparseIfsRow, standIns := [], harness := (true, "744e8c484fba57e13b9a4baba46426ca26a709523952aa807cafa9af6752bd07"), looks := true }, kinds := [], alts := [], laidByText := true, laidKinds := [.sentinel, .sentinel, .sentinel, .sentinel, .sentinel, .sentinel, .sentinel, .sentinel, .sentinel, .sentinel, .sentinel, .sentinel, .sentinel, .sentinel, .sentinel, .sentinel, .sentinel], laidTests := true, laidLooks := .later }
def BparseIfsCardSaid : Prop := Claim7.holds Tryz.pinned (.plain (OpenSpec.ofChange bparseIfsSpec)) bparseIfsCard

/-- THE TIED CARD OF 'patoislaw13.BparseTurns'. -/
def bparseTurnsCard : Claim7 := { stood := { row := bparseTurnsRow, standIns := [], harness := (true, "744e8c484fba57e13b9a4baba46426ca26a709523952aa807cafa9af6752bd07"), looks := true }, kinds := [], alts := [], laidByText := true, laidKinds := [.sentinel, .sentinel, .sentinel, .sentinel, .sentinel, .sentinel, .sentinel, .sentinel, .sentinel, .sentinel, .sentinel, .sentinel, .sentinel, .sentinel, .sentinel, .sentinel, .sentinel], laidTests := true, laidLooks := .later }
def BparseTurnsCardSaid : Prop := Claim7.holds Tryz.pinned (.plain (OpenSpec.ofChange bparseTurnsSpec)) bparseTurnsCard

/-- THE TIED CARD OF 'patoislaw13.BparseMay'. -/
def bparseMayCard : Claim7 := { stood := { row := bparseMayRow, standIns := [], harness := (true, "744e8c484fba57e13b9a4baba46426ca26a709523952aa807cafa9af6752bd07"), looks := true }, kinds := [], alts := [], laidByText := true, laidKinds := [.sentinel, .sentinel, .sentinel, .sentinel, .sentinel, .sentinel, .sentinel, .sentinel, .sentinel, .sentinel, .sentinel, .sentinel, .sentinel, .sentinel, .sentinel, .sentinel, .sentinel], laidTests := true, laidLooks := .later }
def BparseMayCardSaid : Prop := Claim7.holds Tryz.pinned (.plain (OpenSpec.ofChange bparseMaySpec)) bparseMayCard

/-- THE TIED CARD OF 'patoislaw11.AparseNests'. -/
def aparseNestsCard : Claim7 := { stood := { row := aparseNestsRow, standIns := [], harness := (true, "744e8c484fba57e13b9a4baba46426ca26a709523952aa807cafa9af6752bd07"), looks := true }, kinds := [], alts := [], laidByText := true, laidKinds := [.handle, .sentinel, .sentinel, .sentinel, .sentinel, .sentinel, .sentinel, .sentinel, .sentinel, .sentinel, .sentinel, .sentinel, .sentinel, .sentinel, .sentinel, .sentinel, .sentinel, .sentinel], laidTests := true, laidLooks := .later }
def AparseNestsCardSaid : Prop := Claim7.holds Tryz.pinned (.plain (OpenSpec.ofChange aparseNestsSpec)) aparseNestsCard

/-- THE TIED CARD OF 'patoislaw11.AparseTurns'. -/
def aparseTurnsCard : Claim7 := { stood := { row := aparseTurnsRow, standIns := [], harness := (true, "744e8c484fba57e13b9a4baba46426ca26a709523952aa807cafa9af6752bd07"), looks := true }, kinds := [], alts := [], laidByText := true, laidKinds := [.handle, .sentinel, .sentinel, .sentinel, .sentinel, .sentinel, .sentinel, .sentinel, .sentinel, .sentinel, .sentinel, .sentinel, .sentinel, .sentinel, .sentinel, .sentinel, .sentinel, .sentinel], laidTests := true, laidLooks := .later }
def AparseTurnsCardSaid : Prop := Claim7.holds Tryz.pinned (.plain (OpenSpec.ofChange aparseTurnsSpec)) aparseTurnsCard

/-- THE TIED CARD OF 'patoislaw11.AparseChains'. -/
def aparseChainsCard : Claim7 := { stood := { row := aparseChainsRow, standIns := [], harness := (true, "744e8c484fba57e13b9a4baba46426ca26a709523952aa807cafa9af6752bd07"), looks := true }, kinds := [], alts := [], laidByText := true, laidKinds := [.handle, .sentinel, .sentinel, .sentinel, .sentinel, .sentinel, .sentinel, .sentinel, .sentinel, .sentinel, .sentinel, .sentinel, .sentinel, .sentinel, .sentinel, .sentinel, .sentinel, .sentinel], laidTests := true, laidLooks := .later }
def AparseChainsCardSaid : Prop := Claim7.holds Tryz.pinned (.plain (OpenSpec.ofChange aparseChainsSpec)) aparseChainsCard

/-- THE TIED CARD OF 'patoislaw11.AparseSettings'. -/
def aparseSettingsCard : Claim7 := { stood := { row := aparseSettingsRow, standIns := [], harness := (true, "744e8c484fba57e13b9a4baba46426ca26a709523952aa807cafa9af6752bd07"), looks := true }, kinds := [], alts := [], laidByText := true, laidKinds := [.handle, .sentinel, .sentinel, .sentinel, .sentinel, .sentinel, .sentinel, .sentinel, .sentinel, .sentinel, .sentinel, .sentinel, .sentinel, .sentinel, .sentinel, .sentinel, .sentinel, .sentinel], laidTests := true, laidLooks := .later }
def AparseSettingsCardSaid : Prop := Claim7.holds Tryz.pinned (.plain (OpenSpec.ofChange aparseSettingsSpec)) aparseSettingsCard

/-- THE TIED CARD OF 'patoislaw11.AparseMay'. -/
def aparseMayCard : Claim7 := { stood := { row := aparseMayRow, standIns := [], harness := (true, "744e8c484fba57e13b9a4baba46426ca26a709523952aa807cafa9af6752bd07"), looks := true }, kinds := [], alts := [], laidByText := true, laidKinds := [.handle, .sentinel, .sentinel, .sentinel, .sentinel, .sentinel, .sentinel, .sentinel, .sentinel, .sentinel, .sentinel, .sentinel, .sentinel, .sentinel, .sentinel, .sentinel, .sentinel, .sentinel], laidTests := true, laidLooks := .later }
def AparseMayCardSaid : Prop := Claim7.holds Tryz.pinned (.plain (OpenSpec.ofChange aparseMaySpec)) aparseMayCard

/-- THE TIED CARD OF 'patoislaw11.AparseGroups'. -/
def aparseGroupsCard : Claim7 := { stood := { row := aparseGroupsRow, standIns := [], harness := (true, "744e8c484fba57e13b9a4baba46426ca26a709523952aa807cafa9af6752bd07"), looks := true }, kinds := [], alts := [], laidByText := true, laidKinds := [.handle, .sentinel, .sentinel, .sentinel, .sentinel, .sentinel, .sentinel, .sentinel, .sentinel, .sentinel, .sentinel, .sentinel, .sentinel, .sentinel, .sentinel, .sentinel, .sentinel, .sentinel], laidTests := true, laidLooks := .later }
def AparseGroupsCardSaid : Prop := Claim7.holds Tryz.pinned (.plain (OpenSpec.ofChange aparseGroupsSpec)) aparseGroupsCard

/-- THE SECOND FORM's CARD OF 'patoislaw13.BparseSays'. -/
def bparseSaysUptoCard : Claim7 := { stood := { row := bparseSaysUptoRow, standIns := [], harness := (true, "744e8c484fba57e13b9a4baba46426ca26a709523952aa807cafa9af6752bd07"), looks := true }, kinds := [], alts := [], laidByText := true, laidKinds := [.sentinel, .sentinel, .sentinel, .sentinel, .sentinel, .sentinel, .sentinel, .sentinel, .sentinel, .sentinel, .sentinel, .sentinel, .sentinel, .sentinel, .sentinel, .sentinel, .sentinel], laidTests := true, laidLooks := .later }
def BparseSaysUptoCardSaid : Prop := Claim7.holds Tryz.pinned (.plain (OpenSpec.upto bparseSaysSpec)) bparseSaysUptoCard

/-- THE SECOND FORM's CARD OF 'patoislaw13.BparseNests'. -/
def bparseNestsUptoCard : Claim7 := { stood := { row := bparseNestsUptoRow, standIns := [], harness := (true, "744e8c484fba57e13b9a4baba46426ca26a709523952aa807cafa9af6752bd07"), looks := true }, kinds := [], alts := [], laidByText := true, laidKinds := [.sentinel, .sentinel, .sentinel, .sentinel, .sentinel, .sentinel, .sentinel, .sentinel, .sentinel, .sentinel, .sentinel, .sentinel, .sentinel, .sentinel, .sentinel, .sentinel, .sentinel], laidTests := true, laidLooks := .later }
def BparseNestsUptoCardSaid : Prop := Claim7.holds Tryz.pinned (.plain (OpenSpec.upto bparseNestsSpec)) bparseNestsUptoCard

/-- THE SECOND FORM's CARD OF 'patoislaw13.BparseLists'. -/
def bparseListsUptoCard : Claim7 := { stood := { row := bparseListsUptoRow, standIns := [], harness := (true, "744e8c484fba57e13b9a4baba46426ca26a709523952aa807cafa9af6752bd07"), looks := true }, kinds := [], alts := [], laidByText := true, laidKinds := [.sentinel, .sentinel, .sentinel, .sentinel, .sentinel, .sentinel, .sentinel, .sentinel, .sentinel, .sentinel, .sentinel, .sentinel, .sentinel, .sentinel, .sentinel, .sentinel, .sentinel], laidTests := true, laidLooks := .later }
def BparseListsUptoCardSaid : Prop := Claim7.holds Tryz.pinned (.plain (OpenSpec.upto bparseListsSpec)) bparseListsUptoCard

/-- THE SECOND FORM's CARD OF 'patoislaw13.BparseIfs'. -/
def bparseIfsUptoCard : Claim7 := { stood := { row := bparseIfsUptoRow, standIns := [], harness := (true, "744e8c484fba57e13b9a4baba46426ca26a709523952aa807cafa9af6752bd07"), looks := true }, kinds := [], alts := [], laidByText := true, laidKinds := [.sentinel, .sentinel, .sentinel, .sentinel, .sentinel, .sentinel, .sentinel, .sentinel, .sentinel, .sentinel, .sentinel, .sentinel, .sentinel, .sentinel, .sentinel, .sentinel, .sentinel], laidTests := true, laidLooks := .later }
def BparseIfsUptoCardSaid : Prop := Claim7.holds Tryz.pinned (.plain (OpenSpec.upto bparseIfsSpec)) bparseIfsUptoCard

/-- THE SECOND FORM's CARD OF 'patoislaw13.BparseTurns'. -/
def bparseTurnsUptoCard : Claim7 := { stood := { row := bparseTurnsUptoRow, standIns := [], harness := (true, "744e8c484fba57e13b9a4baba46426ca26a709523952aa807cafa9af6752bd07"), looks := true }, kinds := [], alts := [], laidByText := true, laidKinds := [.sentinel, .sentinel, .sentinel, .sentinel, .sentinel, .sentinel, .sentinel, .sentinel, .sentinel, .sentinel, .sentinel, .sentinel, .sentinel, .sentinel, .sentinel, .sentinel, .sentinel], laidTests := true, laidLooks := .later }
def BparseTurnsUptoCardSaid : Prop := Claim7.holds Tryz.pinned (.plain (OpenSpec.upto bparseTurnsSpec)) bparseTurnsUptoCard

/-- THE SECOND FORM's CARD OF 'patoislaw13.BparseMay'. -/
def bparseMayUptoCard : Claim7 := { stood := { row := bparseMayUptoRow, standIns := [], harness := (true, "744e8c484fba57e13b9a4baba46426ca26a709523952aa807cafa9af6752bd07"), looks := true }, kinds := [], alts := [], laidByText := true, laidKinds := [.sentinel, .sentinel, .sentinel, .sentinel, .sentinel, .sentinel, .sentinel, .sentinel, .sentinel, .sentinel, .sentinel, .sentinel, .sentinel, .sentinel, .sentinel, .sentinel, .sentinel], laidTests := true, laidLooks := .later }
def BparseMayUptoCardSaid : Prop := Claim7.holds Tryz.pinned (.plain (OpenSpec.upto bparseMaySpec)) bparseMayUptoCard

/-- THE SECOND FORM's CARD OF 'patoislaw11.AparseNests'. -/
def aparseNestsUptoCard : Claim7 := { stood := { row := aparseNestsUptoRow, standIns := [], harness := (true, "744e8c484fba57e13b9a4baba46426ca26a709523952aa807cafa9af6752bd07"), looks := true }, kinds := [], alts := [], laidByText := true, laidKinds := [.handle, .sentinel, .sentinel, .sentinel, .sentinel, .sentinel, .sentinel, .sentinel, .sentinel, .sentinel, .sentinel, .sentinel, .sentinel, .sentinel, .sentinel, .sentinel, .sentinel, .sentinel], laidTests := true, laidLooks := .later }
def AparseNestsUptoCardSaid : Prop := Claim7.holds Tryz.pinned (.plain (OpenSpec.upto aparseNestsSpec)) aparseNestsUptoCard

/-- THE SECOND FORM's CARD OF 'patoislaw11.AparseTurns'. -/
def aparseTurnsUptoCard : Claim7 := { stood := { row := aparseTurnsUptoRow, standIns := [], harness := (true, "744e8c484fba57e13b9a4baba46426ca26a709523952aa807cafa9af6752bd07"), looks := true }, kinds := [], alts := [], laidByText := true, laidKinds := [.handle, .sentinel, .sentinel, .sentinel, .sentinel, .sentinel, .sentinel, .sentinel, .sentinel, .sentinel, .sentinel, .sentinel, .sentinel, .sentinel, .sentinel, .sentinel, .sentinel, .sentinel], laidTests := true, laidLooks := .later }
def AparseTurnsUptoCardSaid : Prop := Claim7.holds Tryz.pinned (.plain (OpenSpec.upto aparseTurnsSpec)) aparseTurnsUptoCard

/-- THE SECOND FORM's CARD OF 'patoislaw11.AparseChains'. -/
def aparseChainsUptoCard : Claim7 := { stood := { row := aparseChainsUptoRow, standIns := [], harness := (true, "744e8c484fba57e13b9a4baba46426ca26a709523952aa807cafa9af6752bd07"), looks := true }, kinds := [], alts := [], laidByText := true, laidKinds := [.handle, .sentinel, .sentinel, .sentinel, .sentinel, .sentinel, .sentinel, .sentinel, .sentinel, .sentinel, .sentinel, .sentinel, .sentinel, .sentinel, .sentinel, .sentinel, .sentinel, .sentinel], laidTests := true, laidLooks := .later }
def AparseChainsUptoCardSaid : Prop := Claim7.holds Tryz.pinned (.plain (OpenSpec.upto aparseChainsSpec)) aparseChainsUptoCard

/-- THE SECOND FORM's CARD OF 'patoislaw11.AparseSettings'. -/
def aparseSettingsUptoCard : Claim7 := { stood := { row := aparseSettingsUptoRow, standIns := [], harness := (true, "744e8c484fba57e13b9a4baba46426ca26a709523952aa807cafa9af6752bd07"), looks := true }, kinds := [], alts := [], laidByText := true, laidKinds := [.handle, .sentinel, .sentinel, .sentinel, .sentinel, .sentinel, .sentinel, .sentinel, .sentinel, .sentinel, .sentinel, .sentinel, .sentinel, .sentinel, .sentinel, .sentinel, .sentinel, .sentinel], laidTests := true, laidLooks := .later }
def AparseSettingsUptoCardSaid : Prop := Claim7.holds Tryz.pinned (.plain (OpenSpec.upto aparseSettingsSpec)) aparseSettingsUptoCard

/-- THE SECOND FORM's CARD OF 'patoislaw11.AparseMay'. -/
def aparseMayUptoCard : Claim7 := { stood := { row := aparseMayUptoRow, standIns := [], harness := (true, "744e8c484fba57e13b9a4baba46426ca26a709523952aa807cafa9af6752bd07"), looks := true }, kinds := [], alts := [], laidByText := true, laidKinds := [.handle, .sentinel, .sentinel, .sentinel, .sentinel, .sentinel, .sentinel, .sentinel, .sentinel, .sentinel, .sentinel, .sentinel, .sentinel, .sentinel, .sentinel, .sentinel, .sentinel, .sentinel], laidTests := true, laidLooks := .later }
def AparseMayUptoCardSaid : Prop := Claim7.holds Tryz.pinned (.plain (OpenSpec.upto aparseMaySpec)) aparseMayUptoCard

/-- THE SECOND FORM's CARD OF 'patoislaw11.AparseGroups'. -/
def aparseGroupsUptoCard : Claim7 := { stood := { row := aparseGroupsUptoRow, standIns := [], harness := (true, "744e8c484fba57e13b9a4baba46426ca26a709523952aa807cafa9af6752bd07"), looks := true }, kinds := [], alts := [], laidByText := true, laidKinds := [.handle, .sentinel, .sentinel, .sentinel, .sentinel, .sentinel, .sentinel, .sentinel, .sentinel, .sentinel, .sentinel, .sentinel, .sentinel, .sentinel, .sentinel, .sentinel, .sentinel, .sentinel], laidTests := true, laidLooks := .later }
def AparseGroupsUptoCardSaid : Prop := Claim7.holds Tryz.pinned (.plain (OpenSpec.upto aparseGroupsSpec)) aparseGroupsUptoCard
end Rows
end Go.Proofs.YtepebnblbheegaaGreatDoor
