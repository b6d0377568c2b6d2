/- What the cards of a seat have in common. -/
import Derived.Test.YtepebnblbheegaaGreatDoorRows
import Derived.SevenTiedAt
namespace Go.Proofs.YtepebnblbheegaaGreatDoor
open Go
theorem card_main : Tryz.pinned.checked.prog.mainIs = some (true, "744e8c484fba57e13b9a4baba46426ca26a709523952aa807cafa9af6752bd07".toList) := by kernel_rfl
theorem card_looks:true=Tryz.prog.looks []:=by kernel_rfl
end Go.Proofs.YtepebnblbheegaaGreatDoor
