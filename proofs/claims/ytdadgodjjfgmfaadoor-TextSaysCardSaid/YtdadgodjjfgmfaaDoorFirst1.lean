/- The first chapter's examples. -/
import Derived.Test.YtdadgodjjfgmfaaDoorText4
namespace Go.Proofs.YtdadgodjjfgmfaaDoor
open Go Go.RowKit

abbrev exA : ByteArray := ⟨#[97, 98, 10, 99, 100]⟩

theorem ex_place3 (q : Addr) (w : World) (hc : w.cell? q = some (.string exA)) :
    Calls Tryd.prog 24 #[.pointer (some q), .int .i64 3] w fun e w' => e = .returned (.tuple #[.int .i64 2, .int .i64 1]) ∧ Below w.heap.size w w' := by
  have := sPlace_in q exA 3 w (by decide) (by decide) hc
  rwa [show lineN (exA.data.toList.take 3) = 2 by decide, show colN (exA.data.toList.take 3) = 1 by decide] at this
theorem ex_place5 (q : Addr) (w : World) (hc : w.cell? q = some (.string exA)) :
    Calls Tryd.prog 24 #[.pointer (some q), .int .i64 5] w fun e w' => e = .returned (.tuple #[.int .i64 2, .int .i64 3]) ∧ Below w.heap.size w w' := by
  have := sPlace_in q exA 5 w (by decide) (by decide) hc
  rwa [show lineN (exA.data.toList.take 5) = 2 by decide, show colN (exA.data.toList.take 5) = 3 by decide] at this
theorem ex_parse07 (w : World) : Calls Tryd.prog 33 #[.string ⟨#[48, 55]⟩] w fun e w' => e = .returned (.tuple #[.int .i64 0, .bool false]) ∧ w = w' := by
  have := tParse_any ⟨#[48, 55]⟩ w (by decide)
  rwa [show parseB (⟨#[48, 55]⟩ : ByteArray).data.toList = none by decide] at this
theorem ex_parse70 (w : World) : Calls Tryd.prog 33 #[.string ⟨#[55, 48]⟩] w fun e w' => e = .returned (.tuple #[.int .i64 70, .bool true]) ∧ w = w' := by
  have := tParse_any ⟨#[55, 48]⟩ w (by decide)
  rwa [show parseB (⟨#[55, 48]⟩ : ByteArray).data.toList = some 70 by decide] at this
theorem ex_name (q : Addr) (w : World) (hc : w.cell? q = some (.string exA)) :
    Calls Tryd.prog 23 #[.pointer (some q), .int .i64 0] w fun e w' => e = .returned (.string ⟨#[97, 98]⟩) ∧ Below w.heap.size w w' := by
  have := sName_any q exA 0 w (by decide) (by decide) hc
  rwa [show bs (runName (exA.data.toList.drop 0)) = ⟨#[97, 98]⟩ by decide] at this
theorem ex_slice (w : World) :
    Calls Tryd.prog 26 #[.agg #[.string exA], .int .i64 1, .int .i64 9] w fun e w' => e = .returned (.string ⟨#[98, 10, 99, 100]⟩) ∧ Below w.heap.size w w' := by
  have := bSlice_any exA 1 9 w (by decide)
  rwa [show bs (subs exA.data.toList 1 9) = ⟨#[98, 10, 99, 100]⟩ by decide] at this
theorem ex_nameA (w : World) : Calls Tryd.prog 22 #[.string ⟨#[97, 49]⟩] w fun e w' => e = .returned (.bool true) ∧ w = w' := by
  have := tName_any ⟨#[97, 49]⟩ w (by decide)
  rwa [show nameB (⟨#[97, 49]⟩ : ByteArray).data.toList = true by decide] at this
theorem ex_name1 (w : World) : Calls Tryd.prog 22 #[.string ⟨#[49, 97]⟩] w fun e w' => e = .returned (.bool false) ∧ w = w' := by
  have := tName_any ⟨#[49, 97]⟩ w (by decide)
  rwa [show nameB (⟨#[49, 97]⟩ : ByteArray).data.toList = false by decide] at this

set_option maxRecDepth 100000 in
/-- patoislaw1.first. -/
theorem first1_any (w : World) :
    Calls Tryd.prog 20 #[] w fun e w' => e = .returned (.bool true) ∧ Below w.heap.size w w' := by
  go_enter Tryd.func20, Tryd.ntmps20
  go_wp2_with (go_at_call 21; refine (tNew_ok _ _ (by decide)).mono ?_; rintro e w1 ⟨rfl, hS1, hb1⟩; have hc1 := hS1.cell 0 rfl)
  refine (ex_place3 _ _ hc1).mono ?_
  rintro e w2 ⟨rfl, hb2⟩
  have hc2 := bSome hb2 hc1
  go_wp2_with fail
  refine (ex_place5 _ _ hc2).mono ?_
  rintro e w3 ⟨rfl, hb3⟩
  have hc3 := bSome hb3 hc2
  go_wp2_with fail
  refine (ex_parse07 _).mono ?_
  rintro e w4 ⟨rfl, rfl⟩
  go_wp2_with fail
  refine (ex_parse70 _).mono ?_
  rintro e w4 ⟨rfl, rfl⟩
  go_wp2_with fail
  refine (bLen_any exA _).mono ?_
  rintro e w5 ⟨rfl, hb5⟩
  have hc5 := bSome hb5 hc3
  go_wp2_with fail
  refine (ex_name _ _ hc5).mono ?_
  rintro e w6 ⟨rfl, hb6⟩
  have hc6 := bSome hb6 hc5
  go_wp2_with fail
  refine (ex_slice _).mono ?_
  rintro e w7 ⟨rfl, hb7⟩
  go_wp2_with fail
  refine (ex_nameA _).mono ?_
  rintro e w4 ⟨rfl, rfl⟩
  go_wp2_with fail
  refine (ex_name1 _).mono ?_
  rintro e w4 ⟨rfl, rfl⟩
  go_wp2_with fail
  go_ret
  exact ⟨rfl, bNext (bNext (bNext (bNext (bNext hb1 hb2) hb3) hb5) hb6) hb7⟩

end Go.Proofs.YtdadgodjjfgmfaaDoor
