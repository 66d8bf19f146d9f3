/- The table of package crc, as the row lists it, is the table that the walks read. -/
import Derived.Test.YtbeghdoffiidoaaDoorRows
import Derived.Test.YtbeghdoffiidoaaDoorCrcWalks
import Derived.Lib.LaidTab
set_option linter.unusedSimpArgs false
set_option linter.unusedVariables false
set_option linter.unusedSectionVars false
namespace Go.Proofs.YtbeghdoffiidoaaDoor
open Go.RowKit
namespace Crc
open CrcP
theorem gTab : Tryd.prog.globalNamed "manciple/crc.nibbles" = some 0 := by kernel_rfl
theorem gTabType : (Tryd.prog.globals[0]?).map (·.type) = some 91 := by kernel_rfl
theorem cellsTab : Tryd.prog.cellsOf 91 = 16 := by kernel_rfl
theorem cellsTabE : Tryd.prog.cellsOf 69 = 1 := by kernel_rfl
theorem tab_of {W : World} (h : laidMet Tryd.prog [("manciple/crc.nibbles", Rows.laid_manciple_crc_nibbles)] W) : Tab W := by
  have ht : Lib.TabIs Tryd.prog W "manciple/crc.nibbles" .u32 (nibs.map (fun n : Nat => (n : Int))) :=
    Lib.tabIs_of_head (rest := []) gTab gTabType Tryd.underlying91 Tryd.underlying69 cellsTabE cellsTab h
  intro i hi
  have := ht.cell gTab i (by simpa [nibs] using hi)
  rw [this]
  have hi' : i < nibs.length := by simpa [nibs] using hi
  simp only [nib, List.getD, List.getElem?_map, List.getElem?_eq_getElem hi', Option.map_some, Option.getD_some]
end Crc
end Go.Proofs.YtbeghdoffiidoaaDoor
