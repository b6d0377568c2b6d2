/- Proved: for every string, the call of patoislaw10.AlexBack returns true, and the string reads behind the call as it read before. Conditions: the seventeen sentinel errors of package api and the tables that the row lists (of math/bits, internal/strconv and unicode/utf8) start as the program's text lays them (the card's tie); the set-up's pruned copy of the project is what is translated. -/
import Derived.Test.YtdadgodjjfgmfaaDoorAlexBackRow
import Derived.Test.YtdadgodjjfgmfaaDoorTie
import Derived.Test.YtdadgodjjfgmfaaDoorCards
import Derived.SevenTiedAt
namespace Go.Proofs.YtdadgodjjfgmfaaDoor
open Go

theorem alexBack_card : Rows.AlexBackCardSaid :=
  Claim7.holds_tied_plain_at .later [] [.data, .data, .data, .data, .sentinel, .sentinel, .sentinel, .sentinel, .sentinel, .sentinel, .sentinel, .sentinel, .sentinel, .sentinel, .sentinel, .sentinel, .sentinel, .sentinel, .sentinel, .sentinel, .sentinel, .pinned] true (true, "40f489258ebb8b28627c0f127f265a7bbac8c85eaa73321da3d0c550d09ced9f") true
    alexBack_holds (fun _ h => by cases h) (by kernel_rfl) (fun _ h => by cases h) alexBack_row_tie rfl ⟨rfl, rfl⟩ (by kernel_rfl) rfl
    (fun f fn hf hfn => by
      obtain rfl : f = 14 := Option.some.inj ((show Tryd.prog.funcNamed "patois/patoislaw10.AlexBack" = some 14 by kernel_rfl).symm.trans hf) |>.symm
      obtain rfl : fn = Tryd.f14 := (Option.some.inj (Tryd.func14.symm.trans hfn)).symm
      exact ⟨by kernel_rfl, fun j t ht => by
        rw [Tryd.params14] at ht
        have hm : t ∈ [9] := by simpa using Array.mem_of_getElem? ht
        have hall : ([9].all fun u => !Tryd.prog.wantsStandIn u) = true := by kernel_rfl
        exact (show Tryd.prog.wantsStandIn t = false by simpa using List.all_eq_true.1 hall t hm)⟩)
    (by kernel_rfl)
end Go.Proofs.YtdadgodjjfgmfaaDoor
