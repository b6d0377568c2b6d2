/- Proved: for all arguments, the call of patoislaw13.BparseTurns returns true. Conditions: the package-level variables that the row lists start as the program's text lays them (the card's tie); the set-up's pruned copy of the project is what is translated. -/
import Derived.Test.YtepebnblbheegaaGreatDoorLawTurnsRow
import Derived.Test.YtepebnblbheegaaGreatDoorCardKit
import Derived.Test.YtepebnblbheegaaGreatDoorTie
import Derived.Test.YtepebnblbheegaaGreatDoorCards
import Derived.SevenTiedAt
namespace Go.Proofs.YtepebnblbheegaaGreatDoor
open Go

theorem bparseTurns_c1 : Rows.bparseTurnsRow.wfByText (OpenSpec.ofChange Rows.bparseTurnsSpec) = true := by kernel_rfl
theorem bparseTurns_c2 : Tryz.prog.funcNamed "patois/patoislaw13.BparseTurns" = some 7 := by kernel_rfl
theorem bparseTurns_c3 : ([28, 4].all fun u => !Tryz.prog.wantsStandIn u) = true := by kernel_rfl
theorem bparseTurns_c4 : false = Rows.bparseTurnsRow.goesBy Tryz.prog := by kernel_rfl
theorem bparseTurns_card : Rows.BparseTurnsCardSaid :=
  Claim7.holds_tied_plain_at .later [] [.sentinel, .sentinel, .sentinel, .sentinel, .sentinel, .sentinel, .sentinel, .sentinel, .sentinel, .sentinel, .sentinel, .sentinel, .sentinel, .sentinel, .sentinel, .sentinel, .sentinel] true (true, "744e8c484fba57e13b9a4baba46426ca26a709523952aa807cafa9af6752bd07") true
    bparseTurns_holds (fun _ h => by cases h) bparseTurns_c1 (fun _ h => by cases h) bparseTurns_row_tie rfl ⟨rfl, rfl⟩ card_main rfl
    (fun f fn hf hfn => by
      obtain rfl : f = 7 := Option.some.inj (bparseTurns_c2.symm.trans hf) |>.symm
      obtain rfl : fn = Tryz.f7 := (Option.some.inj (Tryz.func7.symm.trans hfn)).symm
      exact ⟨card_looks, fun j t ht => by
        rw [Tryz.params7] at ht
        have hm : t ∈ [28, 4] := by simpa using Array.mem_of_getElem? ht
        exact (show Tryz.prog.wantsStandIn t = false by simpa using List.all_eq_true.1 bparseTurns_c3 t hm)⟩)
    bparseTurns_c4
end Go.Proofs.YtepebnblbheegaaGreatDoor
