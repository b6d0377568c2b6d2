/- What the cards of a seat have in common. -/
import Derived.Test.YtnombfbpmmmoeaaGreatDoorRows
import Derived.SevenTiedAt
namespace Go.Proofs.YtnombfbpmmmoeaaGreatDoor
open Go
theorem Iy : Tryz.pinned.checked.prog.mainIs = some (true, "ae1d1549b9a2ac24562b3a2b99fb98ed17435d57e9d7c0adb1cc6273ab3938ea".toList) := by kernel_rfl
theorem Gv:true=Tryz.prog.looks []:=by kernel_rfl
end Go.Proofs.YtnombfbpmmmoeaaGreatDoor
