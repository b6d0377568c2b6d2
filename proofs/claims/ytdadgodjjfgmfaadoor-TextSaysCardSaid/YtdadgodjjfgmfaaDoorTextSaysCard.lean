/- Proved: for any two strings and any two ints, the call of patoislaw1.TextSays returns true, and all four read behind the call as they read before. Conditions: the tables math/bits.deBruijn32tab and deBruijn64tab, internal/strconv.uint64pow10 and the sentinel error patois/api.ErrLong start as the program's text lays them (the card's tie); the set-up's pruned copy of the project is what is translated. -/
import Derived.Test.YtdadgodjjfgmfaaDoorTextSaysRow
import Derived.Test.YtdadgodjjfgmfaaDoorTie
import Derived.Test.YtdadgodjjfgmfaaDoorCards
import Derived.SevenTiedAt
namespace Go.Proofs.YtdadgodjjfgmfaaDoor
open Go

theorem textSays_card : Rows.TextSaysCardSaid :=
  Claim7.holds_tied_plain_at .later [] [.data, .data, .data, .sentinel] true (true, "40f489258ebb8b28627c0f127f265a7bbac8c85eaa73321da3d0c550d09ced9f") true
    textSays_holds (fun _ h => by cases h) (by kernel_rfl) (fun _ h => by cases h) textSays_row_tie rfl ⟨rfl, rfl⟩ (by kernel_rfl) rfl
    (fun f fn hf hfn => by
      obtain rfl : f = 12 := Option.some.inj ((show Tryd.prog.funcNamed "patois/patoislaw1.TextSays" = some 12 by kernel_rfl).symm.trans hf) |>.symm
      obtain rfl : fn = Tryd.f12 := (Option.some.inj (Tryd.func12.symm.trans hfn)).symm
      exact ⟨by kernel_rfl, fun j t ht => by
        rw [Tryd.params12] at ht
        have hm : t ∈ [3, 9] := by
          have h0 := Array.mem_of_getElem? ht
          simp only [List.mem_toArray, List.mem_cons, List.not_mem_nil, or_false] at h0 ⊢
          rcases h0 with h | h | h | h <;> simp [h]
        have hall : ([3, 9].all fun u => !Tryd.prog.wantsStandIn u) = true := by kernel_rfl
        exact (show Tryd.prog.wantsStandIn t = false by simpa using List.all_eq_true.1 hall t hm)⟩)
    (by kernel_rfl)
end Go.Proofs.YtdadgodjjfgmfaaDoor
