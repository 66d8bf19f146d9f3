/- Layings, written by a tool of the shelf, in plain words. -/
import Derived.Shelf.SlIter.Nil
import Derived.Shelf.SortM.Plain
import Derived.Shelf.SortM.SortNone
import Derived.Ground.GgzProg
import Derived.Ground.SlgmProg
import Derived.Test.YtafeealbdpmdkaaGreatDoorProg
set_option linter.unusedSimpArgs false
set_option linter.unusedVariables false
set_option linter.unusedSectionVars false
-- squeezed
namespace Go.Proofs
open Go.Shelf
def Tryz.layKeys_ren : Go.Shelf.Ren := ⟨fun | 7 => 60 | 10 => 85 | n => n, fun | 23 => 70 | 26 => 9 | 3 => 83 | 28 => 102 | 0 => 0 | 27 => 101 | 33 => 137 | 4 => 4 | n => n, fun | n => n⟩
theorem Tryz.layKeys : Go.Proofs.SlLaysZ.n7 Tryz.prog Tryz.layKeys_ren := {
 mixed := by kernel_rfl
 f7 := ⟨Tryz.f60.name, by decide, Tryz.func60.trans (congrArg some (by kernel_rfl))⟩
 f10 := ⟨Tryz.f85.name, by decide, Tryz.func85.trans (congrArg some (by kernel_rfl))⟩
 t0 := Tryz.underlying0
 a0 := Tryz.isAgg0
 z0 := Tryz.sizeOf0
 v0 := Tryz.zeroValue0
 t4 := Tryz.underlying4
 a4 := Tryz.isAgg4
 z4 := Tryz.sizeOf4
 v4 := Tryz.zeroValue4
 t23 := Tryz.underlying70
 a23 := Tryz.isAgg70
 z23 := Tryz.sizeOf70
 v23 := Tryz.zeroValue70
 t26 := Tryz.underlying9
 a26 := Tryz.isAgg9
 z26 := Tryz.sizeOf9
 v26 := Tryz.zeroValue9
 t27 := Tryz.underlying101
 a27 := Tryz.isAgg101
 z27 := Tryz.sizeOf101
 v27 := Tryz.zeroValue101
 t28 := Tryz.underlying102
 a28 := Tryz.isAgg102
 z28 := Tryz.sizeOf102
 v28 := Tryz.zeroValue102
 t33 := Tryz.underlying137
 a33 := Tryz.isAgg137
 z33 := Tryz.sizeOf137
 v33 := Tryz.zeroValue137 }
def Tryz.laySorted_ren : Go.Shelf.Ren := ⟨fun | 6 => 59 | 8 => 83 | 9 => 84 | 11 => 98 | 13 => 100 | 12 => 99 | 23 => 119 | 24 => 120 | 14 => 110 | 15 => 111 | 16 => 112 | 17 => 113 | 18 => 114 | 19 => 115 | 20 => 116 | 21 => 117 | 22 => 118 | 25 => 122 | 26 => 123 | 27 => 124 | 28 => 125 | 29 => 126 | 30 => 127 | 31 => 128 | n => n, fun | 26 => 9 | 28 => 102 | 24 => 59 | 0 => 0 | 3 => 3 | 37 => 88 | 48 => 133 | 50 => 145 | 4 => 4 | 40 => 160 | 39 => 159 | 45 => 165 | 5 => 5 | 9 => 9 | 51 => 170 | 55 => 174 | 57 => 177 | 58 => 153 | 33 => 137 | n => n, fun | n => n⟩
theorem Tryz.laySorted : Go.Proofs.SlLaysZ.n6 Tryz.prog Tryz.laySorted_ren := {
 mixed := by kernel_rfl
 f6 := ⟨Tryz.f59.name, by decide, Tryz.func59.trans (congrArg some (by kernel_rfl))⟩
 f8 := ⟨Tryz.f83.name, by decide, Tryz.func83.trans (congrArg some (by kernel_rfl))⟩
 f11 := ⟨Tryz.f98.name, by decide, Tryz.func98.trans (congrArg some (by kernel_rfl))⟩
 t0 := Tryz.underlying0
 a0 := Tryz.isAgg0
 z0 := Tryz.sizeOf0
 v0 := Tryz.zeroValue0
 t24 := Tryz.underlying59
 a24 := Tryz.isAgg59
 z24 := Tryz.sizeOf59
 v24 := Tryz.zeroValue59
 t26 := Tryz.underlying9
 a26 := Tryz.isAgg9
 z26 := Tryz.sizeOf9
 v26 := Tryz.zeroValue9
 t28 := Tryz.underlying102
 a28 := Tryz.isAgg102
 z28 := Tryz.sizeOf102
 v28 := Tryz.zeroValue102
 i26 := by kernel_rfl }
def Tryz.laySort_ren : Go.Shelf.Ren := ⟨fun | 6 => 84 | 8 => 100 | 9 => 99 | 19 => 119 | 20 => 120 | 21 => 110 | 22 => 111 | 23 => 112 | 24 => 113 | 25 => 114 | 26 => 115 | 27 => 116 | 28 => 117 | 29 => 118 | 36 => 122 | 31 => 123 | 32 => 124 | 37 => 125 | 38 => 126 | 39 => 127 | 41 => 128 | n => n, fun | 27 => 59 | 29 => 9 | 3 => 3 | 32 => 88 | 26 => 59 | 0 => 0 | 44 => 133 | 46 => 145 | 4 => 4 | 36 => 160 | 35 => 159 | 41 => 165 | 5 => 5 | 9 => 9 | 53 => 170 | 57 => 174 | 63 => 177 | 64 => 153 | n => n, fun | n => n⟩
theorem Tryz.laySort : Go.Proofs.SlLaysM.n6 Tryz.prog Tryz.laySort_ren := {
 mixed := by kernel_rfl
 f6 := ⟨Tryz.f84.name, by decide, Tryz.func84.trans (congrArg some (by kernel_rfl))⟩
 f8 := Tryz.func100.trans (congrArg some (by kernel_rfl))
 f9 := ⟨Tryz.f99.name, by decide, Tryz.func99.trans (congrArg some (by kernel_rfl))⟩
 f19 := Tryz.func119.trans (congrArg some (by kernel_rfl))
 f20 := Tryz.func120.trans (congrArg some (by kernel_rfl))
 f21 := ⟨Tryz.f110.name, by decide, Tryz.func110.trans (congrArg some (by kernel_rfl))⟩
 f22 := ⟨Tryz.f111.name, by decide, Tryz.func111.trans (congrArg some (by kernel_rfl))⟩
 f23 := ⟨Tryz.f112.name, by decide, Tryz.func112.trans (congrArg some (by kernel_rfl))⟩
 f24 := ⟨Tryz.f113.name, by decide, Tryz.func113.trans (congrArg some (by kernel_rfl))⟩
 f25 := ⟨Tryz.f114.name, by decide, Tryz.func114.trans (congrArg some (by kernel_rfl))⟩
 f26 := ⟨Tryz.f115.name, by decide, Tryz.func115.trans (congrArg some (by kernel_rfl))⟩
 f27 := ⟨Tryz.f116.name, by decide, Tryz.func116.trans (congrArg some (by kernel_rfl))⟩
 f28 := ⟨Tryz.f117.name, by decide, Tryz.func117.trans (congrArg some (by kernel_rfl))⟩
 f29 := ⟨Tryz.f118.name, by decide, Tryz.func118.trans (congrArg some (by kernel_rfl))⟩
 f31 := Tryz.func123.trans (congrArg some (by kernel_rfl))
 f32 := Tryz.func124.trans (congrArg some (by kernel_rfl))
 f36 := ⟨Tryz.f122.name, by decide, Tryz.func122.trans (congrArg some (by kernel_rfl))⟩
 f37 := ⟨Tryz.f125.name, by decide, Tryz.func125.trans (congrArg some (by kernel_rfl))⟩
 f38 := ⟨Tryz.f126.name, by decide, Tryz.func126.trans (congrArg some (by kernel_rfl))⟩
 f39 := ⟨Tryz.f127.name, by decide, Tryz.func127.trans (congrArg some (by kernel_rfl))⟩
 f41 := ⟨Tryz.f128.name, by decide, Tryz.func128.trans (congrArg some (by kernel_rfl))⟩
 t0 := Tryz.underlying0
 a0 := Tryz.isAgg0
 z0 := Tryz.sizeOf0
 v0 := Tryz.zeroValue0
 t3 := Tryz.underlying3
 a3 := Tryz.isAgg3
 z3 := Tryz.sizeOf3
 v3 := Tryz.zeroValue3
 t4 := Tryz.underlying4
 a4 := Tryz.isAgg4
 z4 := Tryz.sizeOf4
 v4 := Tryz.zeroValue4
 t5 := Tryz.underlying5
 a5 := Tryz.isAgg5
 z5 := Tryz.sizeOf5
 v5 := Tryz.zeroValue5
 t9 := Tryz.underlying9
 a9 := Tryz.isAgg9
 z9 := Tryz.sizeOf9
 v9 := Tryz.zeroValue9
 t26 := Tryz.underlying59
 a26 := Tryz.isAgg59
 z26 := Tryz.sizeOf59
 v26 := Tryz.zeroValue59
 t27 := Tryz.underlying59
 a27 := Tryz.isAgg59
 z27 := Tryz.sizeOf59
 v27 := Tryz.zeroValue59
 t29 := Tryz.underlying9
 a29 := Tryz.isAgg9
 z29 := Tryz.sizeOf9
 v29 := Tryz.zeroValue9
 t32 := Tryz.underlying88
 a32 := Tryz.isAgg88
 z32 := Tryz.sizeOf88
 v32 := Tryz.zeroValue88
 t35 := Tryz.underlying159
 a35 := Tryz.isAgg159
 z35 := Tryz.sizeOf159
 v35 := Tryz.zeroValue159
 t36 := Tryz.underlying160
 a36 := Tryz.isAgg160
 z36 := Tryz.sizeOf160
 v36 := Tryz.zeroValue160
 t41 := Tryz.underlying165
 a41 := Tryz.isAgg165
 z41 := Tryz.sizeOf165
 v41 := Tryz.zeroValue165
 t44 := Tryz.underlying133
 a44 := Tryz.isAgg133
 z44 := Tryz.sizeOf133
 v44 := Tryz.zeroValue133
 t46 := Tryz.underlying145
 a46 := Tryz.isAgg145
 z46 := Tryz.sizeOf145
 v46 := Tryz.zeroValue145
 t53 := Tryz.underlying170
 a53 := Tryz.isAgg170
 z53 := Tryz.sizeOf170
 v53 := Tryz.zeroValue170
 t57 := Tryz.underlying174
 a57 := Tryz.isAgg174
 z57 := Tryz.sizeOf174
 v57 := Tryz.zeroValue174
 t63 := Tryz.underlying177
 a63 := Tryz.isAgg177
 z63 := Tryz.sizeOf177
 v63 := Tryz.zeroValue177
 t64 := Tryz.underlying153
 a64 := Tryz.isAgg153
 z64 := Tryz.sizeOf153
 v64 := Tryz.zeroValue153 }
end Go.Proofs
