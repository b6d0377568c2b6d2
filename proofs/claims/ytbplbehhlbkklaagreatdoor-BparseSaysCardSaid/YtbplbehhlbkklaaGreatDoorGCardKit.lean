/- What the cards of a seat have in common. -/
import Derived.Test.YtbplbehhlbkklaaGreatDoorRows
import Derived.SevenTiedAt
namespace Go.Proofs.YtbplbehhlbkklaaGreatDoor
open Go
theorem card_main : Tryz.pinned.checked.prog.mainIs = some (true, "77ee74e31fd36f02ea0b19bfcd03f8a01e17411dc35eb277f87f31dbd8ca5325".toList) := by kernel_rfl
theorem card_looks:true=Tryz.prog.looks []:=by kernel_rfl
end Go.Proofs.YtbplbehhlbkklaaGreatDoor
