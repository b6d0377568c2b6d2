/- What the cards of a seat have in common. -/
import Derived.Test.YtbpjobmpacjgcaaGreatDoorRows
import Derived.SevenTiedAt
namespace Go.Proofs.YtbpjobmpacjgcaaGreatDoor
open Go
theorem Ko : Tryz.pinned.checked.prog.mainIs = some (true, "e57ec19b270ea9f133906ead21217079eec73aced00e6775bbdcfc1df2da726f".toList) := by kernel_rfl
theorem Jb:true=Tryz.prog.looks []:=by kernel_rfl
end Go.Proofs.YtbpjobmpacjgcaaGreatDoor
