/- Proved: for all arguments, the call of patoislaw11.AparseMay returns true. Conditions: the package-level variables that the row lists start as the program's text lays them (the card's tie); the set-up's pruned copy of the project is what is translated. -/
import Derived.Test.YtepebnblbheegaaGreatDoorQMayRow
import Derived.Test.YtepebnblbheegaaGreatDoorCardKit
import Derived.Test.YtepebnblbheegaaGreatDoorTie
import Derived.Test.YtepebnblbheegaaGreatDoorCards
import Derived.SevenTiedAt
namespace Go.Proofs.YtepebnblbheegaaGreatDoor
open Go
theorem aparseMay_c1 : Rows.aparseMayRow.wfByText (OpenSpec.ofChange Rows.aparseMaySpec) = true := by kernel_rfl
theorem aparseMay_c2 : Tryz.prog.funcNamed "patois/patoislaw11.AparseMay" = some 13 := by kernel_rfl
theorem aparseMay_c3 : ([9].all fun u => !Tryz.prog.wantsStandIn u) = true := by kernel_rfl
theorem aparseMay_c4 : false = Rows.aparseMayRow.goesBy Tryz.prog := by kernel_rfl
theorem aparseMay_card : Rows.AparseMayCardSaid :=
 Claim7.holds_tied_plain_at .later [] [.handle, .sentinel, .sentinel, .sentinel, .sentinel, .sentinel, .sentinel, .sentinel, .sentinel, .sentinel, .sentinel, .sentinel, .sentinel, .sentinel, .sentinel, .sentinel, .sentinel, .sentinel] true (true, "744e8c484fba57e13b9a4baba46426ca26a709523952aa807cafa9af6752bd07") true
  aparseMay_holds (fun _ h => by cases h) aparseMay_c1 (fun _ h => by cases h) aparseMay_row_tie rfl ⟨rfl, rfl⟩ card_main rfl
  (fun f fn hf hfn => by
   obtain rfl : f = 13 := Option.some.inj (aparseMay_c2.symm.trans hf) |>.symm
   obtain rfl : fn = Tryz.f13 := (Option.some.inj (Tryz.func13.symm.trans hfn)).symm
   exact ⟨card_looks, fun j t ht => by
    rw [Tryz.params13] at ht
    have hm : t ∈ [9] := by simpa using Array.mem_of_getElem? ht
    exact (show Tryz.prog.wantsStandIn t = false by simpa using List.all_eq_true.1 aparseMay_c3 t hm)⟩)
  aparseMay_c4
end Go.Proofs.YtepebnblbheegaaGreatDoor
