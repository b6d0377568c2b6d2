/- Proved: for all arguments, the call of patoislaw11.AparseGroups returns true. Conditions: the package-level variables that the row lists start as the program's text lays them (the card's tie); the set-up's pruned copy of the project is what is translated. -/
import Derived.Test.YtepebnblbheegaaGreatDoorGLawGroupsARow
import Derived.Test.YtepebnblbheegaaGreatDoorGCardKit
import Derived.Test.YtepebnblbheegaaGreatDoorTie
import Derived.Test.YtepebnblbheegaaGreatDoorCards
import Derived.SevenTiedAt
namespace Go.Proofs.YtepebnblbheegaaGreatDoor
open Go
theorem aparseGroups_c1:Rows.aparseGroupsRow.wfByText (OpenSpec.ofChange Rows.aparseGroupsSpec)=true:=by kernel_rfl
theorem aparseGroups_c2 : Tryz.prog.funcNamed "patois/patoislaw11.AparseGroups" = some 14 := by kernel_rfl
theorem aparseGroups_c3:([9,9].all fun u=>!Tryz.prog.wantsStandIn u)=true:=by kernel_rfl
theorem aparseGroups_c4:false=Rows.aparseGroupsRow.goesBy Tryz.prog:=by kernel_rfl
theorem aparseGroups_card:Rows.AparseGroupsCardSaid :=
 Claim7.holds_tied_plain_at .later [] [.handle, .sentinel, .sentinel, .sentinel, .sentinel, .sentinel, .sentinel, .sentinel, .sentinel, .sentinel, .sentinel, .sentinel, .sentinel, .sentinel, .sentinel, .sentinel, .sentinel, .sentinel] true (true, "744e8c484fba57e13b9a4baba46426ca26a709523952aa807cafa9af6752bd07") true
  aparseGroups_holds (fun _ h=>by cases h) aparseGroups_c1 (fun _ h=>by cases h) aparseGroups_row_tie rfl ⟨rfl,rfl⟩ card_main rfl
  (fun f fn hf hfn=>by
   obtain rfl:f=14:=Option.some.inj (aparseGroups_c2.symm.trans hf) |>.symm
   obtain rfl:fn=Tryz.f14:=(Option.some.inj (Tryz.func14.symm.trans hfn)).symm
   exact ⟨card_looks,fun j t ht=>by
    rw [Tryz.params14] at ht
    have hm:t∈[9,9]:=by simpa using Array.mem_of_getElem? ht
    exact (show Tryz.prog.wantsStandIn t=false by simpa using List.all_eq_true.1 aparseGroups_c3 t hm)⟩)
  aparseGroups_c4
end Go.Proofs.YtepebnblbheegaaGreatDoor
