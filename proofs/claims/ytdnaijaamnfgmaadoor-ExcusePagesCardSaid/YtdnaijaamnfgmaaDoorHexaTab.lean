/- The table of powers of ten, as the row lists it, is the table that the walks read. -/
import Derived.Test.YtdnaijaamnfgmaaDoorRows
import Derived.Test.YtdnaijaamnfgmaaDoorHexaDecD
import Derived.LaidSub
import Derived.Lib.LaidTab
set_option linter.unusedSimpArgs false
set_option linter.unusedVariables false
set_option linter.unusedSectionVars false
namespace Go.Proofs.YtdnaijaamnfgmaaDoor
open Go.RowKit
namespace Hex
theorem gPow10 : Tryd.prog.globalNamed "internal/strconv.uint64pow10" = some 0 := by kernel_rfl
theorem gPow10T : (Tryd.prog.globals[0]?).map (·.type) = some 96 := by kernel_rfl
theorem cells20 : Tryd.prog.cellsOf 96 = 20 := by kernel_rfl
theorem cellsU64 : Tryd.prog.cellsOf 81 = 1 := by kernel_rfl
theorem tab_of {W : World} (h : laidMetH Tryd.prog [("math/bits.deBruijn32tab", Rows.laid_math_bits_deBruijn32tab), ("math/bits.deBruijn64tab", Rows.laid_math_bits_deBruijn64tab), ("internal/strconv.uint64pow10", Rows.laid_internal_strconv_uint64pow10)] W) : Tab10 W := by
  have h' : laidMet Tryd.prog [("math/bits.deBruijn32tab", Rows.laid_math_bits_deBruijn32tab), ("math/bits.deBruijn64tab", Rows.laid_math_bits_deBruijn64tab), ("internal/strconv.uint64pow10", Rows.laid_internal_strconv_uint64pow10)] W := h
  have h2 : laidMet Tryd.prog [("internal/strconv.uint64pow10", Rows.laid_internal_strconv_uint64pow10)] W := laidMet.filter (fun x => x.1 == "internal/strconv.uint64pow10") h'
  exact Lib.tabIs_of_head (rest := []) gPow10 gPow10T Tryd.underlying96 Tryd.underlying81 cellsU64 cells20 h2
end Hex
end Go.Proofs.YtdnaijaamnfgmaaDoor
