/- The table of powers of ten, out of a row's own condition. -/
import Derived.Test.YtdadgodjjfgmfaaDoorText5
import Derived.Test.YtdadgodjjfgmfaaDoorRows
import Derived.LaidLaws
import Derived.Stop.LaidErr
import Derived.MakeChecks
namespace Go.Proofs.YtdadgodjjfgmfaaDoor
open Go Go.RowKit

theorem gPow : Tryd.prog.globalNamed "internal/strconv.uint64pow10" = some 18 := by kernel_rfl
theorem gPowType : (Tryd.prog.globals[18]?).map (·.type) = some 139 := by kernel_rfl
theorem cellsU64 : Tryd.prog.cellsOf 133 = 1 := by kernel_rfl
theorem cellsPow : Tryd.prog.cellsOf 139 = 20 := by kernel_rfl

/-- Where the row lists the two tables of math/bits, the powers of ten, and the error ErrLong. -/
theorem tab_row {l : List (String × DataW Unit)} {W : World}
    (hl : l = [("math/bits.deBruijn32tab", Rows.laid_math_bits_deBruijn32tab), ("math/bits.deBruijn64tab", Rows.laid_math_bits_deBruijn64tab), ("internal/strconv.uint64pow10", Rows.laid_internal_strconv_uint64pow10), ("patois/api.ErrLong", Rows.laid_patois_api_ErrLong)])
    (h : laidMetH Tryd.prog l W) : Tab W := by
  subst hl
  rw [MakeChecks.laidMetH_plain _ _ _ (by kernel_rfl)] at h
  have h3 := laidMet.tail (laidMet.tail h)
  have e : (Rows.laid_internal_strconv_uint64pow10 : DataW Unit) = Lib.tabData .u64 Lib.pow10Tab := by kernel_rfl
  rw [e] at h3
  exact Lib.tabIs_of_head gPow gPowType Tryd.underlying139 Tryd.underlying133 cellsU64 cellsPow h3

end Go.Proofs.YtdadgodjjfgmfaaDoor
