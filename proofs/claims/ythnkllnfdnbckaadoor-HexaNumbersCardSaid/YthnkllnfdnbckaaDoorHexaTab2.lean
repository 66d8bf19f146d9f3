/- The table of trailing zeros, as the row lists it, has the cell that the walks read. -/
import Derived.Test.YthnkllnfdnbckaaDoorHexaTab
import Derived.Test.YthnkllnfdnbckaaDoorHexaFmt
set_option linter.unusedSimpArgs false
set_option linter.unusedVariables false
set_option linter.unusedSectionVars false
namespace Go.Proofs.YthnkllnfdnbckaaDoor
open Go.RowKit
namespace Hex
theorem gBru : Tryd.prog.globalNamed "math/bits.deBruijn64tab" = some 2 := by kernel_rfl
theorem gBruT : (Tryd.prog.globals[2]?).map (·.type) = some 60 := by kernel_rfl
theorem cells64 : Tryd.prog.cellsOf 60 = 64 := by kernel_rfl
theorem cellsU8 : Tryd.prog.cellsOf 5 = 1 := by kernel_rfl
def bru : List Int := [0, 1, 56, 2, 57, 49, 28, 3, 61, 58, 42, 50, 38, 29, 17, 4, 62, 47, 59, 36, 45, 43, 51, 22, 53, 39, 33, 30, 24, 18, 12, 5, 63, 55, 48, 27, 60, 41, 37, 16, 46, 35, 44, 21, 52, 32, 23, 11, 54, 26, 40, 15, 34, 20, 31, 10, 25, 14, 19, 9, 13, 8, 7, 6]
theorem tz_of {W : World} (h : laidMetH Tryd.prog [("math/bits.deBruijn32tab", Rows.laid_math_bits_deBruijn32tab), ("math/bits.deBruijn64tab", Rows.laid_math_bits_deBruijn64tab), ("internal/strconv.uint64pow10", Rows.laid_internal_strconv_uint64pow10)] W) : Tz W := by
  have h' : laidMet Tryd.prog [("math/bits.deBruijn32tab", Rows.laid_math_bits_deBruijn32tab), ("math/bits.deBruijn64tab", Rows.laid_math_bits_deBruijn64tab), ("internal/strconv.uint64pow10", Rows.laid_internal_strconv_uint64pow10)] W := h
  have h2 : laidMet Tryd.prog [("math/bits.deBruijn64tab", Rows.laid_math_bits_deBruijn64tab)] W := laidMet.filter (fun x => x.1 == "math/bits.deBruijn64tab") h'
  have h3 : Lib.TabIs Tryd.prog W "math/bits.deBruijn64tab" .u8 bru := Lib.tabIs_of_head (rest := []) gBru gBruT Tryd.underlying60 Tryd.underlying5 cellsU8 cells64 h2
  exact Lib.TabIs.cell h3 gBru 15 (by decide)
end Hex
end Go.Proofs.YthnkllnfdnbckaaDoor
