/- Proved: for all arguments, the call of patoislaw13.BparseMay returns true. Conditions: the package-level variables that the row lists start as the program's text lays them (the card's tie); the set-up's pruned copy of the project is what is translated. -/
import Derived.Test.YtepebnblbheegaaGreatDoorBMayRow
import Derived.Test.YtepebnblbheegaaGreatDoorCardKit
import Derived.Test.YtepebnblbheegaaGreatDoorTie
import Derived.Test.YtepebnblbheegaaGreatDoorCards
import Derived.SevenTiedAt
namespace Go.Proofs.YtepebnblbheegaaGreatDoor
open Go

theorem bparseMay_c1 : Rows.bparseMayRow.wfByText (OpenSpec.ofChange Rows.bparseMaySpec) = true := by kernel_rfl
theorem bparseMay_c2 : Tryz.prog.funcNamed "patois/patoislaw13.BparseMay" = some 8 := by kernel_rfl
theorem bparseMay_c3 : ([9].all fun u => !Tryz.prog.wantsStandIn u) = true := by kernel_rfl
theorem bparseMay_c4 : false = Rows.bparseMayRow.goesBy Tryz.prog := by kernel_rfl
theorem bparseMay_card : Rows.BparseMayCardSaid :=
  Claim7.holds_tied_plain_at .later [] [.sentinel, .sentinel, .sentinel, .sentinel, .sentinel, .sentinel, .sentinel, .sentinel, .sentinel, .sentinel, .sentinel, .sentinel, .sentinel, .sentinel, .sentinel, .sentinel, .sentinel] true (true, "744e8c484fba57e13b9a4baba46426ca26a709523952aa807cafa9af6752bd07") true
    bparseMay_holds (fun _ h => by cases h) bparseMay_c1 (fun _ h => by cases h) bparseMay_row_tie rfl ⟨rfl, rfl⟩ card_main rfl
    (fun f fn hf hfn => by
      obtain rfl : f = 8 := Option.some.inj (bparseMay_c2.symm.trans hf) |>.symm
      obtain rfl : fn = Tryz.f8 := (Option.some.inj (Tryz.func8.symm.trans hfn)).symm
      exact ⟨card_looks, fun j t ht => by
        rw [Tryz.params8] at ht
        have hm : t ∈ [9] := by simpa using Array.mem_of_getElem? ht
        exact (show Tryz.prog.wantsStandIn t = false by simpa using List.all_eq_true.1 bparseMay_c3 t hm)⟩)
    bparseMay_c4
end Go.Proofs.YtepebnblbheegaaGreatDoor
