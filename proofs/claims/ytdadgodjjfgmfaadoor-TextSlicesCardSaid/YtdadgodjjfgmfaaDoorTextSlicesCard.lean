/- Proved: for every string and every list of ints, the call of patoislaw1.TextSlices returns true, and both read behind the call as they read before. Conditions: the sentinel error patois/api.ErrLong starts as the program's text lays it (the card's tie); the set-up's pruned copy of the project is what is translated. -/
import Derived.Test.YtdadgodjjfgmfaaDoorTextSlicesRow
import Derived.Test.YtdadgodjjfgmfaaDoorTie
import Derived.Test.YtdadgodjjfgmfaaDoorCards
import Derived.SevenTiedAt
namespace Go.Proofs.YtdadgodjjfgmfaaDoor
open Go

theorem textSlices_card : Rows.TextSlicesCardSaid :=
  Claim7.holds_tied_plain_at .later [] [.sentinel] true (true, "40f489258ebb8b28627c0f127f265a7bbac8c85eaa73321da3d0c550d09ced9f") true
    textSlices_holds (fun _ h => by cases h) (by kernel_rfl) (fun _ h => by cases h) textSlices_row_tie rfl ⟨rfl, rfl⟩ (by kernel_rfl) rfl
    (fun f fn hf hfn => by
      obtain rfl : f = 7 := Option.some.inj ((show Tryd.prog.funcNamed "patois/patoislaw1.TextSlices" = some 7 by kernel_rfl).symm.trans hf) |>.symm
      obtain rfl : fn = Tryd.f7 := (Option.some.inj (Tryd.func7.symm.trans hfn)).symm
      exact ⟨by kernel_rfl, fun j t ht => by
        rw [Tryd.params7] at ht
        have hm : t ∈ [9, 31] := by simpa using Array.mem_of_getElem? ht
        have hall : ([9, 31].all fun u => !Tryd.prog.wantsStandIn u) = true := by kernel_rfl
        exact (show Tryd.prog.wantsStandIn t = false by simpa using List.all_eq_true.1 hall t hm)⟩)
    (by kernel_rfl)
end Go.Proofs.YtdadgodjjfgmfaaDoor
