/- Slips as Lean data; which fields a kind has. -/
import Derived.Test.YtbeghdoffiidoaaDoorBytesEq
import Derived.Laws.StructEq
import Derived.KernelRfl
set_option linter.unusedSimpArgs false
set_option linter.unusedVariables false
set_option linter.unusedSectionVars false
namespace Go.Proofs.YtbeghdoffiidoaaDoor
open Go Go.RowKit
namespace Slp
structure S where
  k : Int
  repo : ByteArray
  tag : ByteArray
  dig : List UInt8
  typ : ByteArray
  size : Int
  at_ : Int
structure F where
  names : Bool
  digest : Bool
  thing : Bool
  at_ : Bool
def zeros : List UInt8 := List.replicate 32 0
def S.cells (x : S) : List Value := .int .i64 x.k :: .string x.repo :: .string x.tag :: (x.dig.map byteV ++ [.string x.typ, .int .i64 x.size, .int .i64 x.at_])
def F.cells (f : F) : List Value := [.bool f.names, .bool f.digest, .bool f.thing, .bool f.at_]
def noStr : ByteArray := ⟨#[]⟩
def S.none : S := ⟨0, noStr, noStr, zeros, noStr, 0, 0⟩
def flds (k : Int) : F := if k = 1 then ⟨true, true, true, true⟩ else if k = 2 then ⟨true, false, false, true⟩ else if k = 3 then ⟨true, false, false, false⟩ else if k = 4 then ⟨false, true, true, false⟩
  else if k = 5 then ⟨false, true, false, false⟩ else if k = 6 then ⟨false, true, false, false⟩ else ⟨false, false, false, false⟩
def known (k : Int) : Bool := decide (1 ≤ k ∧ k ≤ 6)
def S.only (x : S) (f : F) : S := ⟨x.k, if f.names then x.repo else noStr, if f.names then x.tag else noStr, if f.digest then x.dig else zeros, if f.thing then x.typ else noStr, if f.thing then x.size else 0, if f.at_ then x.at_ else 0⟩
def S.same (x y : S) : Bool := x.k == y.k && x.repo.toList == y.repo.toList && x.tag.toList == y.tag.toList && x.dig == y.dig && x.typ.toList == y.typ.toList && x.size == y.size && x.at_ == y.at_
theorem cells_length (x : S) (h : x.dig.length = 32) : x.cells.length = 38 := by simp [S.cells, h]
end Slp
end Go.Proofs.YtbeghdoffiidoaaDoor
