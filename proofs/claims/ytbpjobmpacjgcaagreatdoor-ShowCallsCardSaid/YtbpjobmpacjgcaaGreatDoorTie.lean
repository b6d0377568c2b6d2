/-
  DERIVED. GIVEN WITH THE SEED: THE PROGRAM's TIES (one call each: nine closed facts by the kernel) AND EACH ROW's TIE, after the 31st guide's Derived/Test/Toyas{Tie, Card}.lean. No idea stands in it: it is a product of the set-up. Laid BY PROGRAM, IN A SANDBOX (cutbox-door.mjs). By AI agents, Wed Nov 11 2026. No macro, syntax, notation, axiom, sorry.
-/
import Derived.Test.YtbpjobmpacjgcaaGreatDoorRows
import Derived.LaidByTextLater
import Derived.SevenTiedAt
import Derived.LaidSub
import Derived.LaidOnce
namespace Go.Proofs.YtbpjobmpacjgcaaGreatDoor
open Go
set_option maxRecDepth 100000
theorem seatTie1 : Tryz.prog.laidByTextLater [("math/bits.deBruijn32tab", Rows.laid_math_bits_deBruijn32tab), ("math/bits.deBruijn64tab", Rows.laid_math_bits_deBruijn64tab), ("internal/strconv.uint64pow10", Rows.laid_internal_strconv_uint64pow10), ("unicode/utf8.acceptRanges", Rows.laid_unicode_utf8_acceptRanges), ("errors.errorType", Rows.laid_errors_errorType), ("patois/api.ErrLong", Rows.laid_patois_api_ErrLong), ("patois/api.ErrNest", Rows.laid_patois_api_ErrNest), ("patois/api.ErrQuote", Rows.laid_patois_api_ErrQuote), ("patois/api.ErrParen", Rows.laid_patois_api_ErrParen), ("patois/api.ErrName", Rows.laid_patois_api_ErrName), ("patois/api.ErrToken", Rows.laid_patois_api_ErrToken), ("patois/api.ErrForm", Rows.laid_patois_api_ErrForm), ("patois/api.ErrEnd", Rows.laid_patois_api_ErrEnd), ("patois/api.ErrNode", Rows.laid_patois_api_ErrNode), ("patois/api.ErrMany", Rows.laid_patois_api_ErrMany), ("patois/api.ErrSay", Rows.laid_patois_api_ErrSay)] [.data, .data, .data, .data, .handle, .sentinel, .sentinel, .sentinel, .sentinel, .sentinel, .sentinel, .sentinel, .sentinel, .sentinel, .sentinel, .sentinel] true :=
  Program.laidByTextLater_by_one 250 8 65 (by kernel_rfl) (by kernel_rfl) (by kernel_rfl) (by kernel_rfl) (by kernel_rfl) (by kernel_rfl) (fun _ _ => by kernel_rfl)
theorem pin_laid_unicode_utf8_first : Tryz.pinned.checked.prog.pinnedFits "unicode/utf8.first" = true := by kernel_rfl
theorem noOwnUnsafe : Tryz.pinned.checked.prog.headLifts.contains "ownunsafe" = false := by kernel_rfl
theorem fits1 : Tryz.pinned.checked.prog.listedFits [("math/bits.deBruijn32tab", Rows.laid_math_bits_deBruijn32tab), ("math/bits.deBruijn64tab", Rows.laid_math_bits_deBruijn64tab), ("internal/strconv.uint64pow10", Rows.laid_internal_strconv_uint64pow10), ("unicode/utf8.acceptRanges", Rows.laid_unicode_utf8_acceptRanges), ("errors.errorType", Rows.laid_errors_errorType), ("patois/api.ErrLong", Rows.laid_patois_api_ErrLong), ("patois/api.ErrNest", Rows.laid_patois_api_ErrNest), ("patois/api.ErrQuote", Rows.laid_patois_api_ErrQuote), ("patois/api.ErrParen", Rows.laid_patois_api_ErrParen), ("patois/api.ErrName", Rows.laid_patois_api_ErrName), ("patois/api.ErrToken", Rows.laid_patois_api_ErrToken), ("patois/api.ErrForm", Rows.laid_patois_api_ErrForm), ("patois/api.ErrEnd", Rows.laid_patois_api_ErrEnd), ("patois/api.ErrNode", Rows.laid_patois_api_ErrNode), ("patois/api.ErrMany", Rows.laid_patois_api_ErrMany), ("patois/api.ErrSay", Rows.laid_patois_api_ErrSay), ("unicode/utf8.first", Rows.laid_unicode_utf8_first)] = true := by
  unfold Program.listedFits
  rw [noOwnUnsafe]
  kernel_rfl
theorem tie : Tryz.prog.laidByTextLater [("math/bits.deBruijn32tab", Rows.laid_math_bits_deBruijn32tab), ("math/bits.deBruijn64tab", Rows.laid_math_bits_deBruijn64tab), ("internal/strconv.uint64pow10", Rows.laid_internal_strconv_uint64pow10), ("unicode/utf8.acceptRanges", Rows.laid_unicode_utf8_acceptRanges), ("errors.errorType", Rows.laid_errors_errorType), ("patois/api.ErrLong", Rows.laid_patois_api_ErrLong), ("patois/api.ErrNest", Rows.laid_patois_api_ErrNest), ("patois/api.ErrQuote", Rows.laid_patois_api_ErrQuote), ("patois/api.ErrParen", Rows.laid_patois_api_ErrParen), ("patois/api.ErrName", Rows.laid_patois_api_ErrName), ("patois/api.ErrToken", Rows.laid_patois_api_ErrToken), ("patois/api.ErrForm", Rows.laid_patois_api_ErrForm), ("patois/api.ErrEnd", Rows.laid_patois_api_ErrEnd), ("patois/api.ErrNode", Rows.laid_patois_api_ErrNode), ("patois/api.ErrMany", Rows.laid_patois_api_ErrMany), ("patois/api.ErrSay", Rows.laid_patois_api_ErrSay)] [.data, .data, .data, .data, .handle, .sentinel, .sentinel, .sentinel, .sentinel, .sentinel, .sentinel, .sentinel, .sentinel, .sentinel, .sentinel, .sentinel] true :=
  Program.laidByTextLater.sub seatTie1 ["math/bits.deBruijn32tab", "math/bits.deBruijn64tab", "internal/strconv.uint64pow10", "unicode/utf8.acceptRanges", "errors.errorType", "patois/api.ErrLong", "patois/api.ErrNest", "patois/api.ErrQuote", "patois/api.ErrParen", "patois/api.ErrName", "patois/api.ErrToken", "patois/api.ErrForm", "patois/api.ErrEnd", "patois/api.ErrNode", "patois/api.ErrMany", "patois/api.ErrSay"] (by kernel_rfl) (by kernel_rfl)
theorem showCalls_row_tie : Rows.showCallsRow.laidByTextAt .later Tryz.pinned [.data, .data, .data, .data, .handle, .sentinel, .sentinel, .sentinel, .sentinel, .sentinel, .sentinel, .sentinel, .sentinel, .sentinel, .sentinel, .sentinel, .pinned] true :=
  OpenClaim.laidByTextAt_pinned rfl rfl tie rfl rfl rfl rfl (fun y hy _e => by
    simp only [Rows.showCallsRow, List.zip_cons_cons, List.zip_nil_right, List.mem_cons, List.mem_nil_iff, or_false] at hy
    rcases hy with rfl | rfl | rfl | rfl | rfl | rfl | rfl | rfl | rfl | rfl | rfl | rfl | rfl | rfl | rfl | rfl | rfl
    · cases _e
    · cases _e
    · cases _e
    · cases _e
    · cases _e
    · cases _e
    · cases _e
    · cases _e
    · cases _e
    · cases _e
    · cases _e
    · cases _e
    · cases _e
    · cases _e
    · cases _e
    · cases _e
    · exact ⟨pin_laid_unicode_utf8_first, by kernel_rfl⟩) fits1
theorem showCallsUpto_row_tie : Rows.showCallsUptoRow.laidByTextAt .later Tryz.pinned [.data, .data, .data, .data, .handle, .sentinel, .sentinel, .sentinel, .sentinel, .sentinel, .sentinel, .sentinel, .sentinel, .sentinel, .sentinel, .sentinel, .pinned] true :=
  OpenClaim.laidByTextAt_pinned rfl rfl tie rfl rfl rfl rfl (fun y hy _e => by
    simp only [Rows.showCallsUptoRow, List.zip_cons_cons, List.zip_nil_right, List.mem_cons, List.mem_nil_iff, or_false] at hy
    rcases hy with rfl | rfl | rfl | rfl | rfl | rfl | rfl | rfl | rfl | rfl | rfl | rfl | rfl | rfl | rfl | rfl | rfl
    · cases _e
    · cases _e
    · cases _e
    · cases _e
    · cases _e
    · cases _e
    · cases _e
    · cases _e
    · cases _e
    · cases _e
    · cases _e
    · cases _e
    · cases _e
    · cases _e
    · cases _e
    · cases _e
    · exact ⟨pin_laid_unicode_utf8_first, by kernel_rfl⟩) fits1
end Go.Proofs.YtbpjobmpacjgcaaGreatDoor
