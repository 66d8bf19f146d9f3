/- Layings, written by a tool of the shelf, in plain words. -/
import Derived.Shelf.SlicesE.IndexFunc
import Derived.Ground.SlgfProg
import Derived.Test.YtafeealbdpmdkaaDoorProg
set_option linter.unusedSimpArgs false
set_option linter.unusedVariables false
set_option linter.unusedSectionVars false
namespace Go.Proofs
open Go.Shelf
def Tryd.layCF_ren : Go.Shelf.Ren := ⟨fun | 8 => 64 | 6 => 76 | n => n, fun | 22 => 68 | 23 => 9 | 25 => 117 | 4 => 4 | 3 => 3 | 0 => 0 | n => n, fun | n => n⟩
theorem Tryd.layCF : Go.Proofs.SlLaysH.n8 Tryd.prog Tryd.layCF_ren := {
  mixed := by kernel_rfl
  f6 := ⟨Tryd.f76.name, by decide, Tryd.func76.trans (congrArg some (by kernel_rfl))⟩
  f8 := ⟨Tryd.f64.name, by decide, Tryd.func64.trans (congrArg some (by kernel_rfl))⟩
  t0 := Tryd.underlying0
  a0 := Tryd.isAgg0
  z0 := Tryd.sizeOf0
  v0 := Tryd.zeroValue0
  t3 := Tryd.underlying3
  a3 := Tryd.isAgg3
  z3 := Tryd.sizeOf3
  v3 := Tryd.zeroValue3
  t4 := Tryd.underlying4
  a4 := Tryd.isAgg4
  z4 := Tryd.sizeOf4
  v4 := Tryd.zeroValue4
  t22 := Tryd.underlying68
  a22 := Tryd.isAgg68
  z22 := Tryd.sizeOf68
  v22 := Tryd.zeroValue68
  a23 := Tryd.isAgg9
  z23 := Tryd.sizeOf9
  t25 := Tryd.underlying117
  a25 := Tryd.isAgg117
  z25 := Tryd.sizeOf117
  v25 := Tryd.zeroValue117 }
end Go.Proofs
