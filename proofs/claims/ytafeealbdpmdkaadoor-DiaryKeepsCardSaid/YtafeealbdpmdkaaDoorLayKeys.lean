/- Layings, written by a tool of the shelf, in plain words. -/
import Derived.Shelf.SlIter.Nil
import Derived.Shelf.SortM.Plain
import Derived.Shelf.SortM.SortNone
import Derived.Ground.GgzProg
import Derived.Ground.SlgmProg
import Derived.Test.YtafeealbdpmdkaaDoorProg
set_option linter.unusedSimpArgs false
set_option linter.unusedVariables false
set_option linter.unusedSectionVars false
namespace Go.Proofs
open Go.Shelf
def Tryd.layKeys_ren : Go.Shelf.Ren := ⟨fun | 7 => 50 | 10 => 62 | n => n, fun | 23 => 53 | 26 => 9 | 3 => 70 | 28 => 105 | 0 => 0 | 27 => 104 | 33 => 117 | 4 => 4 | n => n, fun | n => n⟩
theorem Tryd.layKeys : Go.Proofs.SlLaysZ.n7 Tryd.prog Tryd.layKeys_ren := {
  mixed := by kernel_rfl
  f7 := ⟨Tryd.f50.name, by decide, Tryd.func50.trans (congrArg some (by kernel_rfl))⟩
  f10 := ⟨Tryd.f62.name, by decide, Tryd.func62.trans (congrArg some (by kernel_rfl))⟩
  t0 := Tryd.underlying0
  a0 := Tryd.isAgg0
  z0 := Tryd.sizeOf0
  v0 := Tryd.zeroValue0
  t4 := Tryd.underlying4
  a4 := Tryd.isAgg4
  z4 := Tryd.sizeOf4
  v4 := Tryd.zeroValue4
  t23 := Tryd.underlying53
  a23 := Tryd.isAgg53
  z23 := Tryd.sizeOf53
  v23 := Tryd.zeroValue53
  t26 := Tryd.underlying9
  a26 := Tryd.isAgg9
  z26 := Tryd.sizeOf9
  v26 := Tryd.zeroValue9
  t27 := Tryd.underlying104
  a27 := Tryd.isAgg104
  z27 := Tryd.sizeOf104
  v27 := Tryd.zeroValue104
  t28 := Tryd.underlying105
  a28 := Tryd.isAgg105
  z28 := Tryd.sizeOf105
  v28 := Tryd.zeroValue105
  t33 := Tryd.underlying117
  a33 := Tryd.isAgg117
  z33 := Tryd.sizeOf117
  v33 := Tryd.zeroValue117 }
def Tryd.laySorted_ren : Go.Shelf.Ren := ⟨fun | 6 => 49 | 8 => 60 | 9 => 61 | 11 => 73 | 13 => 75 | 12 => 74 | 23 => 87 | 24 => 88 | 14 => 78 | 15 => 79 | 16 => 80 | 17 => 81 | 18 => 82 | 19 => 83 | 20 => 84 | 21 => 85 | 22 => 86 | 25 => 89 | 26 => 90 | 27 => 91 | 28 => 92 | 29 => 93 | 30 => 94 | 31 => 95 | n => n, fun | 26 => 9 | 28 => 105 | 24 => 68 | 0 => 0 | 3 => 3 | 37 => 32 | 48 => 113 | 50 => 130 | 4 => 4 | 40 => 134 | 39 => 133 | 45 => 139 | 5 => 5 | 9 => 9 | 51 => 144 | 55 => 148 | 57 => 150 | 58 => 151 | 33 => 117 | n => n, fun | n => n⟩
theorem Tryd.laySorted : Go.Proofs.SlLaysZ.n6 Tryd.prog Tryd.laySorted_ren := {
  mixed := by kernel_rfl
  f6 := ⟨Tryd.f49.name, by decide, Tryd.func49.trans (congrArg some (by kernel_rfl))⟩
  f8 := ⟨Tryd.f60.name, by decide, Tryd.func60.trans (congrArg some (by kernel_rfl))⟩
  f11 := ⟨Tryd.f73.name, by decide, Tryd.func73.trans (congrArg some (by kernel_rfl))⟩
  t0 := Tryd.underlying0
  a0 := Tryd.isAgg0
  z0 := Tryd.sizeOf0
  v0 := Tryd.zeroValue0
  t24 := Tryd.underlying68
  a24 := Tryd.isAgg68
  z24 := Tryd.sizeOf68
  v24 := Tryd.zeroValue68
  t26 := Tryd.underlying9
  a26 := Tryd.isAgg9
  z26 := Tryd.sizeOf9
  v26 := Tryd.zeroValue9
  t28 := Tryd.underlying105
  a28 := Tryd.isAgg105
  z28 := Tryd.sizeOf105
  v28 := Tryd.zeroValue105
  i26 := by kernel_rfl }
def Tryd.laySort_ren : Go.Shelf.Ren := ⟨fun | 6 => 61 | 8 => 75 | 9 => 74 | 19 => 87 | 20 => 88 | 21 => 78 | 22 => 79 | 23 => 80 | 24 => 81 | 25 => 82 | 26 => 83 | 27 => 84 | 28 => 85 | 29 => 86 | 36 => 89 | 31 => 90 | 32 => 91 | 37 => 92 | 38 => 93 | 39 => 94 | 41 => 95 | n => n, fun | 27 => 68 | 29 => 9 | 3 => 3 | 32 => 32 | 26 => 68 | 0 => 0 | 44 => 113 | 46 => 130 | 4 => 4 | 36 => 134 | 35 => 133 | 41 => 139 | 5 => 5 | 9 => 9 | 53 => 144 | 57 => 148 | 63 => 150 | 64 => 151 | n => n, fun | n => n⟩
theorem Tryd.laySort : Go.Proofs.SlLaysM.n6 Tryd.prog Tryd.laySort_ren := {
  mixed := by kernel_rfl
  f6 := ⟨Tryd.f61.name, by decide, Tryd.func61.trans (congrArg some (by kernel_rfl))⟩
  f8 := Tryd.func75.trans (congrArg some (by kernel_rfl))
  f9 := ⟨Tryd.f74.name, by decide, Tryd.func74.trans (congrArg some (by kernel_rfl))⟩
  f19 := Tryd.func87.trans (congrArg some (by kernel_rfl))
  f20 := Tryd.func88.trans (congrArg some (by kernel_rfl))
  f21 := ⟨Tryd.f78.name, by decide, Tryd.func78.trans (congrArg some (by kernel_rfl))⟩
  f22 := ⟨Tryd.f79.name, by decide, Tryd.func79.trans (congrArg some (by kernel_rfl))⟩
  f23 := ⟨Tryd.f80.name, by decide, Tryd.func80.trans (congrArg some (by kernel_rfl))⟩
  f24 := ⟨Tryd.f81.name, by decide, Tryd.func81.trans (congrArg some (by kernel_rfl))⟩
  f25 := ⟨Tryd.f82.name, by decide, Tryd.func82.trans (congrArg some (by kernel_rfl))⟩
  f26 := ⟨Tryd.f83.name, by decide, Tryd.func83.trans (congrArg some (by kernel_rfl))⟩
  f27 := ⟨Tryd.f84.name, by decide, Tryd.func84.trans (congrArg some (by kernel_rfl))⟩
  f28 := ⟨Tryd.f85.name, by decide, Tryd.func85.trans (congrArg some (by kernel_rfl))⟩
  f29 := ⟨Tryd.f86.name, by decide, Tryd.func86.trans (congrArg some (by kernel_rfl))⟩
  f31 := Tryd.func90.trans (congrArg some (by kernel_rfl))
  f32 := Tryd.func91.trans (congrArg some (by kernel_rfl))
  f36 := ⟨Tryd.f89.name, by decide, Tryd.func89.trans (congrArg some (by kernel_rfl))⟩
  f37 := ⟨Tryd.f92.name, by decide, Tryd.func92.trans (congrArg some (by kernel_rfl))⟩
  f38 := ⟨Tryd.f93.name, by decide, Tryd.func93.trans (congrArg some (by kernel_rfl))⟩
  f39 := ⟨Tryd.f94.name, by decide, Tryd.func94.trans (congrArg some (by kernel_rfl))⟩
  f41 := ⟨Tryd.f95.name, by decide, Tryd.func95.trans (congrArg some (by kernel_rfl))⟩
  t0 := Tryd.underlying0
  a0 := Tryd.isAgg0
  z0 := Tryd.sizeOf0
  v0 := Tryd.zeroValue0
  t3 := Tryd.underlying3
  a3 := Tryd.isAgg3
  z3 := Tryd.sizeOf3
  v3 := Tryd.zeroValue3
  t4 := Tryd.underlying4
  a4 := Tryd.isAgg4
  z4 := Tryd.sizeOf4
  v4 := Tryd.zeroValue4
  t5 := Tryd.underlying5
  a5 := Tryd.isAgg5
  z5 := Tryd.sizeOf5
  v5 := Tryd.zeroValue5
  t9 := Tryd.underlying9
  a9 := Tryd.isAgg9
  z9 := Tryd.sizeOf9
  v9 := Tryd.zeroValue9
  t26 := Tryd.underlying68
  a26 := Tryd.isAgg68
  z26 := Tryd.sizeOf68
  v26 := Tryd.zeroValue68
  t27 := Tryd.underlying68
  a27 := Tryd.isAgg68
  z27 := Tryd.sizeOf68
  v27 := Tryd.zeroValue68
  t29 := Tryd.underlying9
  a29 := Tryd.isAgg9
  z29 := Tryd.sizeOf9
  v29 := Tryd.zeroValue9
  t32 := Tryd.underlying32
  a32 := Tryd.isAgg32
  z32 := Tryd.sizeOf32
  v32 := Tryd.zeroValue32
  t35 := Tryd.underlying133
  a35 := Tryd.isAgg133
  z35 := Tryd.sizeOf133
  v35 := Tryd.zeroValue133
  t36 := Tryd.underlying134
  a36 := Tryd.isAgg134
  z36 := Tryd.sizeOf134
  v36 := Tryd.zeroValue134
  t41 := Tryd.underlying139
  a41 := Tryd.isAgg139
  z41 := Tryd.sizeOf139
  v41 := Tryd.zeroValue139
  t44 := Tryd.underlying113
  a44 := Tryd.isAgg113
  z44 := Tryd.sizeOf113
  v44 := Tryd.zeroValue113
  t46 := Tryd.underlying130
  a46 := Tryd.isAgg130
  z46 := Tryd.sizeOf130
  v46 := Tryd.zeroValue130
  t53 := Tryd.underlying144
  a53 := Tryd.isAgg144
  z53 := Tryd.sizeOf144
  v53 := Tryd.zeroValue144
  t57 := Tryd.underlying148
  a57 := Tryd.isAgg148
  z57 := Tryd.sizeOf148
  v57 := Tryd.zeroValue148
  t63 := Tryd.underlying150
  a63 := Tryd.isAgg150
  z63 := Tryd.sizeOf150
  v63 := Tryd.zeroValue150
  t64 := Tryd.underlying151
  a64 := Tryd.isAgg151
  z64 := Tryd.sizeOf151
  v64 := Tryd.zeroValue151 }
end Go.Proofs
