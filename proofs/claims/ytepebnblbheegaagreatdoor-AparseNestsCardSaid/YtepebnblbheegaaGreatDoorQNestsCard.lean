/- Proved: for all arguments, the call of patoislaw11.AparseNests returns true. Conditions: the package-level variables that the row lists start as the program's text lays them (the card's tie); the set-up's pruned copy of the project is what is translated. -/
import Derived.Test.YtepebnblbheegaaGreatDoorQNestsRow
import Derived.Test.YtepebnblbheegaaGreatDoorCardKit
import Derived.Test.YtepebnblbheegaaGreatDoorTie
import Derived.Test.YtepebnblbheegaaGreatDoorCards
import Derived.SevenTiedAt
namespace Go.Proofs.YtepebnblbheegaaGreatDoor
open Go
theorem aparseNests_c1 : Rows.aparseNestsRow.wfByText (OpenSpec.ofChange Rows.aparseNestsSpec) = true := by kernel_rfl
theorem aparseNests_c2 : Tryz.prog.funcNamed "patois/patoislaw11.AparseNests" = some 9 := by kernel_rfl
theorem aparseNests_c3 : ([3, 3].all fun u => !Tryz.prog.wantsStandIn u) = true := by kernel_rfl
theorem aparseNests_c4 : false = Rows.aparseNestsRow.goesBy Tryz.prog := by kernel_rfl
theorem aparseNests_card : Rows.AparseNestsCardSaid :=
 Claim7.holds_tied_plain_at .later [] [.handle, .sentinel, .sentinel, .sentinel, .sentinel, .sentinel, .sentinel, .sentinel, .sentinel, .sentinel, .sentinel, .sentinel, .sentinel, .sentinel, .sentinel, .sentinel, .sentinel, .sentinel] true (true, "744e8c484fba57e13b9a4baba46426ca26a709523952aa807cafa9af6752bd07") true
  aparseNests_holds (fun _ h => by cases h) aparseNests_c1 (fun _ h => by cases h) aparseNests_row_tie rfl ⟨rfl, rfl⟩ card_main rfl
  (fun f fn hf hfn => by
   obtain rfl : f = 9 := Option.some.inj (aparseNests_c2.symm.trans hf) |>.symm
   obtain rfl : fn = Tryz.f9 := (Option.some.inj (Tryz.func9.symm.trans hfn)).symm
   exact ⟨card_looks, fun j t ht => by
    rw [Tryz.params9] at ht
    have hm : t ∈ [3, 3] := by simpa using Array.mem_of_getElem? ht
    exact (show Tryz.prog.wantsStandIn t = false by simpa using List.all_eq_true.1 aparseNests_c3 t hm)⟩)
  aparseNests_c4
end Go.Proofs.YtepebnblbheegaaGreatDoor
