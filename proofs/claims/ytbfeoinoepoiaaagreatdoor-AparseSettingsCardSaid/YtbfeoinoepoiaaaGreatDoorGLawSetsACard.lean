/- Proved: for all arguments, the call of patoislaw11.AparseSettings returns true. Conditions: the package-level variables that the row lists start as the program's text lays them (the card's tie); the set-up's pruned copy of the project is what is translated. -/
import Derived.Test.YtbfeoinoepoiaaaGreatDoorGLawSetsARow
import Derived.Test.YtbfeoinoepoiaaaGreatDoorGCardKit
import Derived.Test.YtbfeoinoepoiaaaGreatDoorTie
import Derived.Test.YtbfeoinoepoiaaaGreatDoorCards
import Derived.SevenTiedAt
namespace Go.Proofs.YtbfeoinoepoiaaaGreatDoor
open Go
theorem aparseSettings_c1:Rows.aparseSettingsRow.wfByText (OpenSpec.ofChange Rows.aparseSettingsSpec)=true:=by kernel_rfl
theorem aparseSettings_c2 : Tryz.prog.funcNamed "patois/patoislaw11.AparseSettings" = some 4 := by kernel_rfl
theorem aparseSettings_c3:([36,3].all fun u=>!Tryz.prog.wantsStandIn u)=true:=by kernel_rfl
theorem aparseSettings_c4:false=Rows.aparseSettingsRow.goesBy Tryz.prog:=by kernel_rfl
theorem aparseSettings_card:Rows.AparseSettingsCardSaid :=
 Claim7.holds_tied_plain_at .later [] [.handle, .sentinel, .sentinel, .sentinel, .sentinel, .sentinel, .sentinel, .sentinel, .sentinel, .sentinel, .sentinel, .sentinel, .sentinel, .sentinel, .sentinel, .sentinel, .sentinel, .sentinel] true (true, "4c1ec76aeee3c06180785211d26985f0a6937b63c7ed476d8bb901b66a8ee77d") true
  aparseSettings_holds (fun _ h=>by cases h) aparseSettings_c1 (fun _ h=>by cases h) aparseSettings_row_tie rfl ⟨rfl,rfl⟩ card_main rfl
  (fun f fn hf hfn=>by
   obtain rfl:f=4:=Option.some.inj (aparseSettings_c2.symm.trans hf) |>.symm
   obtain rfl:fn=Tryz.f4:=(Option.some.inj (Tryz.func4.symm.trans hfn)).symm
   exact ⟨card_looks,fun j t ht=>by
    rw [Tryz.params4] at ht
    have hm:t∈[36,3]:=by simpa using Array.mem_of_getElem? ht
    exact (show Tryz.prog.wantsStandIn t=false by simpa using List.all_eq_true.1 aparseSettings_c3 t hm)⟩)
  aparseSettings_c4
end Go.Proofs.YtbfeoinoepoiaaaGreatDoor
