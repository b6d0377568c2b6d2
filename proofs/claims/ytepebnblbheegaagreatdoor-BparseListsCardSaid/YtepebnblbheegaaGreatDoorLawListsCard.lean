/- Proved: for all arguments, the call of patoislaw13.BparseLists returns true. Conditions: the package-level variables that the row lists start as the program's text lays them (the card's tie); the set-up's pruned copy of the project is what is translated. -/
import Derived.Test.YtepebnblbheegaaGreatDoorLawListsRow
import Derived.Test.YtepebnblbheegaaGreatDoorCardKit
import Derived.Test.YtepebnblbheegaaGreatDoorTie
import Derived.Test.YtepebnblbheegaaGreatDoorCards
import Derived.SevenTiedAt
namespace Go.Proofs.YtepebnblbheegaaGreatDoor
open Go

theorem bparseLists_c1 : Rows.bparseListsRow.wfByText (OpenSpec.ofChange Rows.bparseListsSpec) = true := by kernel_rfl
theorem bparseLists_c2 : Tryz.prog.funcNamed "patois/patoislaw13.BparseLists" = some 5 := by kernel_rfl
theorem bparseLists_c3 : ([36, 4].all fun u => !Tryz.prog.wantsStandIn u) = true := by kernel_rfl
theorem bparseLists_c4 : false = Rows.bparseListsRow.goesBy Tryz.prog := by kernel_rfl
theorem bparseLists_card : Rows.BparseListsCardSaid :=
  Claim7.holds_tied_plain_at .later [] [.sentinel, .sentinel, .sentinel, .sentinel, .sentinel, .sentinel, .sentinel, .sentinel, .sentinel, .sentinel, .sentinel, .sentinel, .sentinel, .sentinel, .sentinel, .sentinel, .sentinel] true (true, "744e8c484fba57e13b9a4baba46426ca26a709523952aa807cafa9af6752bd07") true
    bparseLists_holds (fun _ h => by cases h) bparseLists_c1 (fun _ h => by cases h) bparseLists_row_tie rfl ⟨rfl, rfl⟩ card_main rfl
    (fun f fn hf hfn => by
      obtain rfl : f = 5 := Option.some.inj (bparseLists_c2.symm.trans hf) |>.symm
      obtain rfl : fn = Tryz.f5 := (Option.some.inj (Tryz.func5.symm.trans hfn)).symm
      exact ⟨card_looks, fun j t ht => by
        rw [Tryz.params5] at ht
        have hm : t ∈ [36, 4] := by simpa using Array.mem_of_getElem? ht
        exact (show Tryz.prog.wantsStandIn t = false by simpa using List.all_eq_true.1 bparseLists_c3 t hm)⟩)
    bparseLists_c4
end Go.Proofs.YtepebnblbheegaaGreatDoor
