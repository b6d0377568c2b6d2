/- Proved: for all arguments, the call of patoislaw13.BparseSays returns true. Conditions: the package-level variables that the row lists start as the program's text lays them (the card's tie); the set-up's pruned copy of the project is what is translated. -/
import Derived.Test.YtbplbehhlbkklaaGreatDoorGLawSaysRow
import Derived.Test.YtbplbehhlbkklaaGreatDoorGCardKit
import Derived.Test.YtbplbehhlbkklaaGreatDoorTie
import Derived.Test.YtbplbehhlbkklaaGreatDoorCards
import Derived.SevenTiedAt
namespace Go.Proofs.YtbplbehhlbkklaaGreatDoor
open Go
theorem bparseSays_c1:Rows.bparseSaysRow.wfByText (OpenSpec.ofChange Rows.bparseSaysSpec)=true:=by kernel_rfl
theorem bparseSays_c2 : Tryz.prog.funcNamed "patois/patoislaw13.BparseSays" = some 3 := by kernel_rfl
theorem bparseSays_c3:([9].all fun u=>!Tryz.prog.wantsStandIn u)=true:=by kernel_rfl
theorem bparseSays_c4:false=Rows.bparseSaysRow.goesBy Tryz.prog:=by kernel_rfl
theorem bparseSays_card:Rows.BparseSaysCardSaid :=
 Claim7.holds_tied_plain_at .later [] [.sentinel, .sentinel, .sentinel, .sentinel, .sentinel, .sentinel, .sentinel, .sentinel, .sentinel, .sentinel, .sentinel, .sentinel, .sentinel, .sentinel, .sentinel, .sentinel, .sentinel] true (true, "77ee74e31fd36f02ea0b19bfcd03f8a01e17411dc35eb277f87f31dbd8ca5325") true
  bparseSays_holds (fun _ h=>by cases h) bparseSays_c1 (fun _ h=>by cases h) bparseSays_row_tie rfl ⟨rfl,rfl⟩ card_main rfl
  (fun f fn hf hfn=>by
   obtain rfl:f=3:=Option.some.inj (bparseSays_c2.symm.trans hf) |>.symm
   obtain rfl:fn=Tryz.f3:=(Option.some.inj (Tryz.func3.symm.trans hfn)).symm
   exact⟨card_looks,fun j t ht=>by
    rw[Tryz.params3] at ht;have hm:t∈[9]:=by simpa using Array.mem_of_getElem? ht
    exact (show Tryz.prog.wantsStandIn t=false by simpa using List.all_eq_true.1 bparseSays_c3 t hm)⟩)
  bparseSays_c4
end Go.Proofs.YtbplbehhlbkklaaGreatDoor
