/- Proved: for all arguments, the call of patoislaw26.ShowNot returns true. Conditions: the package-level variables that the row lists start as the program's text lays them (the card's tie); the set-up's pruned copy of the project is what is translated. -/
import Derived.Test.YtnombfbpmmmoeaaGreatDoorGLawNotRow
import Derived.Test.YtnombfbpmmmoeaaGreatDoorGCardKit
import Derived.Test.YtnombfbpmmmoeaaGreatDoorTie
import Derived.Test.YtnombfbpmmmoeaaGreatDoorCards
import Derived.SevenTiedAt
namespace Go.Proofs.YtnombfbpmmmoeaaGreatDoor
open Go
theorem MF:Rows.showNotRow.wfByText (OpenSpec.ofChange Rows.showNotSpec)=true:=by kernel_rfl
theorem MG : Tryz.prog.funcNamed "patois/patoislaw26.ShowNot" = some 5 := by kernel_rfl
theorem MA:([3,3].all fun u=>!Tryz.prog.wantsStandIn u)=true:=by kernel_rfl
theorem MH:false=Rows.showNotRow.goesBy Tryz.prog:=by kernel_rfl
theorem showNot_card:Rows.ShowNotCardSaid :=
 Claim7.holds_tied_plain_at .later [] [.data, .data, .data, .data, .handle, .sentinel, .sentinel, .sentinel, .sentinel, .sentinel, .sentinel, .sentinel, .sentinel, .sentinel, .sentinel, .sentinel, .pinned] true (true, "ae1d1549b9a2ac24562b3a2b99fb98ed17435d57e9d7c0adb1cc6273ab3938ea") true
  Ml (fun _ h=>by cases h) MF (fun _ h=>by cases h) showNot_row_tie rfl ⟨rfl,rfl⟩ Iy rfl
  (fun f fn hf hfn=>by
   obtain rfl:f=5:=Option.some.inj (MG.symm.trans hf) |>.symm
   obtain rfl:fn=Tryz.f5:=(Option.some.inj (Tryz.func5.symm.trans hfn)).symm
   exact⟨Gv,fun j t ht=>by
    rw[Tryz.params5] at ht;have hm:t∈[3,3]:=by simpa using Array.mem_of_getElem? ht
    exact (show Tryz.prog.wantsStandIn t=false by simpa using List.all_eq_true.1 MA t hm)⟩)
  MH
end Go.Proofs.YtnombfbpmmmoeaaGreatDoor
