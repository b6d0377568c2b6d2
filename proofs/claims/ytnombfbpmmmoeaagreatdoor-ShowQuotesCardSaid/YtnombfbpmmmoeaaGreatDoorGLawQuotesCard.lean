/- Proved: for all arguments, the call of patoislaw26.ShowQuotes returns true. Conditions: the package-level variables that the row lists start as the program's text lays them (the card's tie); the set-up's pruned copy of the project is what is translated. -/
import Derived.Test.YtnombfbpmmmoeaaGreatDoorGLawQuotesRow
import Derived.Test.YtnombfbpmmmoeaaGreatDoorGCardKit
import Derived.Test.YtnombfbpmmmoeaaGreatDoorTie
import Derived.Test.YtnombfbpmmmoeaaGreatDoorCards
import Derived.SevenTiedAt
namespace Go.Proofs.YtnombfbpmmmoeaaGreatDoor
open Go
theorem Ec:Rows.showQuotesRow.wfByText (OpenSpec.ofChange Rows.showQuotesSpec)=true:=by kernel_rfl
theorem Eg : Tryz.prog.funcNamed "patois/patoislaw26.ShowQuotes" = some 3 := by kernel_rfl
theorem DP:([9,9].all fun u=>!Tryz.prog.wantsStandIn u)=true:=by kernel_rfl
theorem D1:false=Rows.showQuotesRow.goesBy Tryz.prog:=by kernel_rfl
theorem showQuotes_card:Rows.ShowQuotesCardSaid :=
 Claim7.holds_tied_plain_at .later [] [.data, .data, .data, .data, .handle, .sentinel, .sentinel, .sentinel, .sentinel, .sentinel, .sentinel, .sentinel, .sentinel, .sentinel, .sentinel, .sentinel, .pinned] true (true, "ae1d1549b9a2ac24562b3a2b99fb98ed17435d57e9d7c0adb1cc6273ab3938ea") true
  Dx (fun _ h=>by cases h) Ec (fun _ h=>by cases h) showQuotes_row_tie rfl ⟨rfl,rfl⟩ Iy rfl
  (fun f fn hf hfn=>by
   obtain rfl:f=3:=Option.some.inj (Eg.symm.trans hf) |>.symm
   obtain rfl:fn=Tryz.f3:=(Option.some.inj (Tryz.func3.symm.trans hfn)).symm
   exact⟨Gv,fun j t ht=>by
    rw[Tryz.params3] at ht;have hm:t∈[9,9]:=by simpa using Array.mem_of_getElem? ht
    exact (show Tryz.prog.wantsStandIn t=false by simpa using List.all_eq_true.1 DP t hm)⟩)
  D1
end Go.Proofs.YtnombfbpmmmoeaaGreatDoor
