/- What the cards of a seat have in common. -/
import Derived.Test.YtbfeoinoepoiaaaGreatDoorRows
import Derived.SevenTiedAt
namespace Go.Proofs.YtbfeoinoepoiaaaGreatDoor
open Go
theorem card_main : Tryz.pinned.checked.prog.mainIs = some (true, "4c1ec76aeee3c06180785211d26985f0a6937b63c7ed476d8bb901b66a8ee77d".toList) := by kernel_rfl
theorem card_looks:true=Tryz.prog.looks []:=by kernel_rfl
end Go.Proofs.YtbfeoinoepoiaaaGreatDoor
