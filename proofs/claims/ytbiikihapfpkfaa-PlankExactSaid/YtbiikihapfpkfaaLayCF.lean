/- Layings, written by a tool of the shelf, in plain words. -/
import Derived.Shelf.SlicesE.IndexFunc
import Derived.Ground.SlgfProg
import Derived.Test.YtbiikihapfpkfaaProg
set_option linter.unusedSimpArgs false
set_option linter.unusedVariables false
set_option linter.unusedSectionVars false
namespace Go.Proofs
open Go.Shelf
def Try.layCF_ren : Go.Shelf.Ren := ⟨fun | 8 => 54 | 6 => 59 | n => n, fun | 22 => 22 | 23 => 9 | 25 => 77 | 4 => 4 | 3 => 3 | 0 => 0 | n => n, fun | n => n⟩
theorem Try.layCF : Go.Proofs.SlLaysH.n8 Try.prog Try.layCF_ren := {
  mixed := by kernel_rfl
  f6 := ⟨Try.f59.name, by decide, Try.func59.trans (congrArg some (by kernel_rfl))⟩
  f8 := ⟨Try.f54.name, by decide, Try.func54.trans (congrArg some (by kernel_rfl))⟩
  t0 := Try.underlying0
  a0 := Try.isAgg0
  z0 := Try.sizeOf0
  v0 := Try.zeroValue0
  t3 := Try.underlying3
  a3 := Try.isAgg3
  z3 := Try.sizeOf3
  v3 := Try.zeroValue3
  t4 := Try.underlying4
  a4 := Try.isAgg4
  z4 := Try.sizeOf4
  v4 := Try.zeroValue4
  t22 := Try.underlying22
  a22 := Try.isAgg22
  z22 := Try.sizeOf22
  v22 := Try.zeroValue22
  a23 := Try.isAgg9
  z23 := Try.sizeOf9
  t25 := Try.underlying77
  a25 := Try.isAgg77
  z25 := Try.sizeOf77
  v25 := Try.zeroValue77 }
end Go.Proofs
