/- Proved: for all arguments, the call of patoislaw26.ShowCalls returns true. Conditions: the package-level variables that the row lists start as the program's text lays them (the card's tie); the set-up's pruned copy of the project is what is translated. -/
import Derived.Test.YtbpjobmpacjgcaaGreatDoorGLawCallsRow
import Derived.Test.YtbpjobmpacjgcaaGreatDoorGCardKit
import Derived.Test.YtbpjobmpacjgcaaGreatDoorTie
import Derived.Test.YtbpjobmpacjgcaaGreatDoorCards
import Derived.SevenTiedAt
namespace Go.Proofs.YtbpjobmpacjgcaaGreatDoor
open Go
theorem F7:Rows.showCallsRow.wfByText (OpenSpec.ofChange Rows.showCallsSpec)=true:=by kernel_rfl
theorem F5 : Tryz.prog.funcNamed "patois/patoislaw26.ShowCalls" = some 3 := by kernel_rfl
theorem FY:([22,23,4].all fun u=>!Tryz.prog.wantsStandIn u)=true:=by kernel_rfl
theorem GA:false=Rows.showCallsRow.goesBy Tryz.prog:=by kernel_rfl
theorem showCalls_card:Rows.ShowCallsCardSaid :=
 Claim7.holds_tied_plain_at .later [] [.data, .data, .data, .data, .handle, .sentinel, .sentinel, .sentinel, .sentinel, .sentinel, .sentinel, .sentinel, .sentinel, .sentinel, .sentinel, .sentinel, .pinned] true (true, "e57ec19b270ea9f133906ead21217079eec73aced00e6775bbdcfc1df2da726f") true
  EU (fun _ h=>by cases h) F7 (fun _ h=>by cases h) showCalls_row_tie rfl ⟨rfl,rfl⟩ Ko rfl
  (fun f fn hf hfn=>by
   obtain rfl:f=3:=Option.some.inj (F5.symm.trans hf) |>.symm
   obtain rfl:fn=Tryz.f3:=(Option.some.inj (Tryz.func3.symm.trans hfn)).symm
   exact⟨Jb,fun j t ht=>by
    rw[Tryz.params3] at ht;have hm:t∈[22,23,4]:=by simpa using Array.mem_of_getElem? ht
    exact (show Tryz.prog.wantsStandIn t=false by simpa using List.all_eq_true.1 FY t hm)⟩)
  GA
end Go.Proofs.YtbpjobmpacjgcaaGreatDoor
