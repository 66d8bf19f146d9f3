/- Layings, written by a tool of the shelf, in plain words. -/
import Derived.Shelf.SlicesE.IndexFunc
import Derived.Ground.SlgfProg
import Derived.Test.YtafeealbdpmdkaaGreatDoorProg
set_option linter.unusedSimpArgs false
set_option linter.unusedVariables false
set_option linter.unusedSectionVars false
-- squeezed
namespace Go.Proofs
open Go.Shelf
def Tryz.layCF_ren : Go.Shelf.Ren := ⟨fun | 8 => 89 | 6 => 107 | n => n, fun | 22 => 59 | 23 => 9 | 25 => 137 | 4 => 4 | 3 => 3 | 0 => 0 | n => n, fun | n => n⟩
theorem Tryz.layCF : Go.Proofs.SlLaysH.n8 Tryz.prog Tryz.layCF_ren := {
 mixed := by kernel_rfl
 f6 := ⟨Tryz.f107.name, by decide, Tryz.func107.trans (congrArg some (by kernel_rfl))⟩
 f8 := ⟨Tryz.f89.name, by decide, Tryz.func89.trans (congrArg some (by kernel_rfl))⟩
 t0 := Tryz.underlying0
 a0 := Tryz.isAgg0
 z0 := Tryz.sizeOf0
 v0 := Tryz.zeroValue0
 t3 := Tryz.underlying3
 a3 := Tryz.isAgg3
 z3 := Tryz.sizeOf3
 v3 := Tryz.zeroValue3
 t4 := Tryz.underlying4
 a4 := Tryz.isAgg4
 z4 := Tryz.sizeOf4
 v4 := Tryz.zeroValue4
 t22 := Tryz.underlying59
 a22 := Tryz.isAgg59
 z22 := Tryz.sizeOf59
 v22 := Tryz.zeroValue59
 a23 := Tryz.isAgg9
 z23 := Tryz.sizeOf9
 t25 := Tryz.underlying137
 a25 := Tryz.isAgg137
 z25 := Tryz.sizeOf137
 v25 := Tryz.zeroValue137 }
end Go.Proofs
