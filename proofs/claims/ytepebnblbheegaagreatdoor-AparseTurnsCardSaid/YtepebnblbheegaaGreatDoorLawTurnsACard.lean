/- Proved: for all arguments, the call of patoislaw11.AparseTurns returns true. Conditions: the package-level variables that the row lists start as the program's text lays them (the card's tie); the set-up's pruned copy of the project is what is translated. -/
import Derived.Test.YtepebnblbheegaaGreatDoorLawTurnsARow
import Derived.Test.YtepebnblbheegaaGreatDoorCardKit
import Derived.Test.YtepebnblbheegaaGreatDoorTie
import Derived.Test.YtepebnblbheegaaGreatDoorCards
import Derived.SevenTiedAt
namespace Go.Proofs.YtepebnblbheegaaGreatDoor
open Go
theorem aparseTurns_c1 : Rows.aparseTurnsRow.wfByText (OpenSpec.ofChange Rows.aparseTurnsSpec) = true := by kernel_rfl
theorem aparseTurns_c2 : Tryz.prog.funcNamed "patois/patoislaw11.AparseTurns" = some 10 := by kernel_rfl
theorem aparseTurns_c3 : ([28, 4].all fun u => !Tryz.prog.wantsStandIn u) = true := by kernel_rfl
theorem aparseTurns_c4 : false = Rows.aparseTurnsRow.goesBy Tryz.prog := by kernel_rfl
theorem aparseTurns_card : Rows.AparseTurnsCardSaid :=
 Claim7.holds_tied_plain_at .later [] [.handle, .sentinel, .sentinel, .sentinel, .sentinel, .sentinel, .sentinel, .sentinel, .sentinel, .sentinel, .sentinel, .sentinel, .sentinel, .sentinel, .sentinel, .sentinel, .sentinel, .sentinel] true (true, "744e8c484fba57e13b9a4baba46426ca26a709523952aa807cafa9af6752bd07") true
  aparseTurns_holds (fun _ h => by cases h) aparseTurns_c1 (fun _ h => by cases h) aparseTurns_row_tie rfl ⟨rfl, rfl⟩ card_main rfl
  (fun f fn hf hfn => by
   obtain rfl : f = 10 := Option.some.inj (aparseTurns_c2.symm.trans hf) |>.symm
   obtain rfl : fn = Tryz.f10 := (Option.some.inj (Tryz.func10.symm.trans hfn)).symm
   exact ⟨card_looks, fun j t ht => by
    rw [Tryz.params10] at ht
    have hm : t ∈ [28, 4] := by simpa using Array.mem_of_getElem? ht
    exact (show Tryz.prog.wantsStandIn t = false by simpa using List.all_eq_true.1 aparseTurns_c3 t hm)⟩)
  aparseTurns_c4
end Go.Proofs.YtepebnblbheegaaGreatDoor
