/- The tables of package sha, as the row lists them, are the tables that the walks read. -/
import Derived.Test.YthgbhpeidngjmaaDoorRows
import Derived.Test.YthgbhpeidngjmaaDoorShaNew
import Derived.LaidSub
import Derived.Lib.LaidTab
set_option linter.unusedSimpArgs false
set_option linter.unusedVariables false
set_option linter.unusedSectionVars false
namespace Go.Proofs.YthgbhpeidngjmaaDoor
open Go.RowKit
namespace Sha
open ShaP
theorem gStart : Tryd.prog.globalNamed "manciple/sha.start" = some 0 := by kernel_rfl
theorem gStartT : (Tryd.prog.globals[0]?).map (·.type) = some 38 := by kernel_rfl
theorem gKeys : Tryd.prog.globalNamed "manciple/sha.keys" = some 1 := by kernel_rfl
theorem gKeysT : (Tryd.prog.globals[1]?).map (·.type) = some 46 := by kernel_rfl
theorem cells8 : Tryd.prog.cellsOf 38 = 8 := by kernel_rfl
theorem cells64 : Tryd.prog.cellsOf 46 = 64 := by kernel_rfl
theorem cellsW : Tryd.prog.cellsOf 37 = 1 := by kernel_rfl
theorem start_of {W : World} (h : laidMetH Tryd.prog [("manciple/sha.start", Rows.laid_manciple_sha_start), ("manciple/sha.keys", Rows.laid_manciple_sha_keys)] W) : StartIs W := by
  have h' : laidMet Tryd.prog [("manciple/sha.start", Rows.laid_manciple_sha_start), ("manciple/sha.keys", Rows.laid_manciple_sha_keys)] W := h
  have ht : Lib.TabIs Tryd.prog W "manciple/sha.start" .u32 (ShaP.start.list.map (fun x : ShaP.W => (nv x : Int))) :=
    Lib.tabIs_of_head (rest := [("manciple/sha.keys", Rows.laid_manciple_sha_keys)]) gStart gStartT Tryd.underlying38 Tryd.underlying37 cellsW cells8 h'
  intro i hi
  rw [ht.cell gStart i (by simpa [S8.list] using hi)]
  have e : state [] = ShaP.start := rfl
  rw [e]
  have hi' : i < ShaP.start.list.length := by simpa [S8.list] using hi
  simp only [List.getD, List.getElem?_map, List.getElem?_eq_getElem hi', Option.map_some, Option.getD_some]
  rfl
theorem keys_of {W : World} (h : laidMetH Tryd.prog [("manciple/sha.start", Rows.laid_manciple_sha_start), ("manciple/sha.keys", Rows.laid_manciple_sha_keys)] W) : Keys W := by
  have h' : laidMet Tryd.prog [("manciple/sha.start", Rows.laid_manciple_sha_start), ("manciple/sha.keys", Rows.laid_manciple_sha_keys)] W := h
  have h2 : laidMet Tryd.prog [("manciple/sha.keys", Rows.laid_manciple_sha_keys)] W := laidMet.filter (fun x => x.1 == "manciple/sha.keys") h'
  have ht : Lib.TabIs Tryd.prog W "manciple/sha.keys" .u32 (keysL.map (fun x : ShaP.W => (nv x : Int))) :=
    Lib.tabIs_of_head (rest := []) gKeys gKeysT Tryd.underlying46 Tryd.underlying37 cellsW cells64 h2
  intro i hi
  rw [ht.cell gKeys i (by simpa [keysL] using hi)]
  have hi' : i < keysL.length := by simpa [keysL] using hi
  simp only [List.getD, List.getElem?_map, List.getElem?_eq_getElem hi', Option.map_some, Option.getD_some]
  rfl
end Sha
end Go.Proofs.YthgbhpeidngjmaaDoor
