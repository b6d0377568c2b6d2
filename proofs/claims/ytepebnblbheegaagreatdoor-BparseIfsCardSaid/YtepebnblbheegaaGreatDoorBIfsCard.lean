/- Proved: for all arguments, the call of patoislaw13.BparseIfs returns true. Conditions: the package-level variables that the row lists start as the program's text lays them (the card's tie); the set-up's pruned copy of the project is what is translated. -/
import Derived.Test.YtepebnblbheegaaGreatDoorBIfsRow
import Derived.Test.YtepebnblbheegaaGreatDoorCardKit
import Derived.Test.YtepebnblbheegaaGreatDoorTie
import Derived.Test.YtepebnblbheegaaGreatDoorCards
import Derived.SevenTiedAt
namespace Go.Proofs.YtepebnblbheegaaGreatDoor
open Go

theorem bparseIfs_c1 : Rows.bparseIfsRow.wfByText (OpenSpec.ofChange Rows.bparseIfsSpec) = true := by kernel_rfl
theorem bparseIfs_c2 : Tryz.prog.funcNamed "patois/patoislaw13.BparseIfs" = some 6 := by kernel_rfl
theorem bparseIfs_c3 : ([3, 43].all fun u => !Tryz.prog.wantsStandIn u) = true := by kernel_rfl
theorem bparseIfs_c4 : false = Rows.bparseIfsRow.goesBy Tryz.prog := by kernel_rfl
theorem bparseIfs_card : Rows.BparseIfsCardSaid :=
  Claim7.holds_tied_plain_at .later [] [.sentinel, .sentinel, .sentinel, .sentinel, .sentinel, .sentinel, .sentinel, .sentinel, .sentinel, .sentinel, .sentinel, .sentinel, .sentinel, .sentinel, .sentinel, .sentinel, .sentinel] true (true, "744e8c484fba57e13b9a4baba46426ca26a709523952aa807cafa9af6752bd07") true
    bparseIfs_holds (fun _ h => by cases h) bparseIfs_c1 (fun _ h => by cases h) bparseIfs_row_tie rfl ⟨rfl, rfl⟩ card_main rfl
    (fun f fn hf hfn => by
      obtain rfl : f = 6 := Option.some.inj (bparseIfs_c2.symm.trans hf) |>.symm
      obtain rfl : fn = Tryz.f6 := (Option.some.inj (Tryz.func6.symm.trans hfn)).symm
      exact ⟨card_looks, fun j t ht => by
        rw [Tryz.params6] at ht
        have hm : t ∈ [3, 43] := by simpa using Array.mem_of_getElem? ht
        exact (show Tryz.prog.wantsStandIn t = false by simpa using List.all_eq_true.1 bparseIfs_c3 t hm)⟩)
    bparseIfs_c4
end Go.Proofs.YtepebnblbheegaaGreatDoor
