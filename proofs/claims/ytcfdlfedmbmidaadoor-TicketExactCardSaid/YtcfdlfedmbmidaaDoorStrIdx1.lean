/- Contracts of the library at this program, laid by the shelf's tool. -/
import Derived.Shelf.Strings.Search2
import Derived.Shelf.Strings.Search3
import Derived.Test.YtcfdlfedmbmidaaDoorProg
set_option linter.unusedSimpArgs false
set_option linter.unusedVariables false
set_option linter.unusedSectionVars false
namespace Go.Proofs
open Go.Shelf
def Tryd.lays219_ren : Go.Shelf.Ren := ⟨fun | 219 => 75 | 217 => 53 | 225 => 82 | 224 => 83 | 267 => 84 | 266 => 69 | 314 => 87 | n => n, fun | 9 => 9 | 3 => 3 | 4 => 4 | 5 => 5 | 46 => 33 | 146 => 109 | 51 => 108 | n => n, fun | 1 => 1 | n => n⟩
theorem Tryd.lays219 : Go.Proofs.Lays.n219 Tryd.prog Tryd.lays219_ren := {
  mixed := by kernel_rfl
  f217 := Tryd.func53.trans (congrArg some (by kernel_rfl))
  f219 := Tryd.func75.trans (congrArg some (by kernel_rfl))
  f224 := Tryd.func83.trans (congrArg some (by kernel_rfl))
  f225 := Tryd.func82.trans (congrArg some (by kernel_rfl))
  f266 := Tryd.func69.trans (congrArg some (by kernel_rfl))
  f267 := Tryd.func84.trans (congrArg some (by kernel_rfl))
  f314 := Tryd.func87.trans (congrArg some (by kernel_rfl))
  t3 := Tryd.underlying3
  a3 := Tryd.isAgg3
  z3 := Tryd.sizeOf3
  v3 := Tryd.zeroValue3
  t4 := Tryd.underlying4
  a4 := Tryd.isAgg4
  z4 := Tryd.sizeOf4
  v4 := Tryd.zeroValue4
  t5 := Tryd.underlying5
  a5 := Tryd.isAgg5
  z5 := Tryd.sizeOf5
  v5 := Tryd.zeroValue5
  t9 := Tryd.underlying9
  a9 := Tryd.isAgg9
  z9 := Tryd.sizeOf9
  v9 := Tryd.zeroValue9
  t46 := Tryd.underlying33
  a46 := Tryd.isAgg33
  z46 := Tryd.sizeOf33
  v46 := Tryd.zeroValue33
  t51 := Tryd.underlying108
  a51 := Tryd.isAgg108
  z51 := Tryd.sizeOf108
  v51 := Tryd.zeroValue108
  t146 := Tryd.underlying109
  a146 := Tryd.isAgg109
  z146 := Tryd.sizeOf109
  v146 := Tryd.zeroValue109
  g1 := by kernel_rfl }
open Go.RowKit Go.Lib in
theorem Tryd.stringslite_Index_one (s : ByteArray) (c : UInt8) (w : World) :
    Calls Tryd.prog 75 #[.string s, .string ⟨#[c]⟩] w fun e w' => e = .returned (.int .i64 (Lib.indexByte s.data.toList c)) ∧ w' = w := Any.stringslite_Index_one Tryd.lays219 s c w
def Tryd.lays143_ren : Go.Shelf.Ren := ⟨fun | 143 => 63 | 219 => 75 | 217 => 53 | 225 => 82 | 224 => 83 | 267 => 84 | 266 => 69 | 314 => 87 | n => n, fun | 9 => 9 | 3 => 3 | 4 => 4 | 5 => 5 | 46 => 33 | 146 => 109 | 51 => 108 | n => n, fun | 1 => 1 | n => n⟩
theorem Tryd.lays143 : Go.Proofs.Lays.n143 Tryd.prog Tryd.lays143_ren := {
  mixed := by kernel_rfl
  f143 := Tryd.func63.trans (congrArg some (by kernel_rfl))
  f217 := Tryd.func53.trans (congrArg some (by kernel_rfl))
  f219 := Tryd.func75.trans (congrArg some (by kernel_rfl))
  f224 := Tryd.func83.trans (congrArg some (by kernel_rfl))
  f225 := Tryd.func82.trans (congrArg some (by kernel_rfl))
  f266 := Tryd.func69.trans (congrArg some (by kernel_rfl))
  f267 := Tryd.func84.trans (congrArg some (by kernel_rfl))
  f314 := Tryd.func87.trans (congrArg some (by kernel_rfl))
  t3 := Tryd.underlying3
  a3 := Tryd.isAgg3
  z3 := Tryd.sizeOf3
  v3 := Tryd.zeroValue3
  t4 := Tryd.underlying4
  a4 := Tryd.isAgg4
  z4 := Tryd.sizeOf4
  v4 := Tryd.zeroValue4
  t5 := Tryd.underlying5
  a5 := Tryd.isAgg5
  z5 := Tryd.sizeOf5
  v5 := Tryd.zeroValue5
  t9 := Tryd.underlying9
  a9 := Tryd.isAgg9
  z9 := Tryd.sizeOf9
  v9 := Tryd.zeroValue9
  t46 := Tryd.underlying33
  a46 := Tryd.isAgg33
  z46 := Tryd.sizeOf33
  v46 := Tryd.zeroValue33
  t51 := Tryd.underlying108
  a51 := Tryd.isAgg108
  z51 := Tryd.sizeOf108
  v51 := Tryd.zeroValue108
  t146 := Tryd.underlying109
  a146 := Tryd.isAgg109
  z146 := Tryd.sizeOf109
  v146 := Tryd.zeroValue109
  g1 := by kernel_rfl }
open Go.RowKit Go.Lib in
theorem Tryd.strings_Index_one (s : ByteArray) (c : UInt8) (w : World) :
    Calls Tryd.prog 63 #[.string s, .string ⟨#[c]⟩] w fun e w' => e = .returned (.int .i64 (Lib.indexByte s.data.toList c)) ∧ w' = w := Any.strings_Index_one Tryd.lays143 s c w
end Go.Proofs
