/- A slip in memory: its cells, one by one; stores into them. -/
import Derived.Test.YtbeghdoffiidoaaDoorSlipGood
set_option linter.unusedSimpArgs false
set_option linter.unusedVariables false
set_option linter.unusedSectionVars false
namespace Go.Proofs.YtbeghdoffiidoaaDoor
open Go.RowKit
namespace Slp
def tailS (x : S) : List Value := [.string x.typ, .int .i64 x.size, .int .i64 x.at_]
theorem cells_eq (x : S) : x.cells = [.int .i64 x.k, .string x.repo, .string x.tag] ++ x.dig.map byteV ++ tailS x := rfl
theorem cells_tail (x : S) (hx : x.dig.length = 32) (j : Nat) : x.cells[35 + j]? = (tailS x)[j]? := by
  rw [cells_eq, List.getElem?_append_right (by simp [hx])]
  congr 1
  simp [hx]
theorem at35 (x : S) (hx : x.dig.length = 32) : x.cells[35]? = some (.string x.typ) := cells_tail x hx 0
theorem at36 (x : S) (hx : x.dig.length = 32) : x.cells[36]? = some (.int .i64 x.size) := cells_tail x hx 1
theorem at37 (x : S) (hx : x.dig.length = 32) : x.cells[37]? = some (.int .i64 x.at_) := cells_tail x hx 2
theorem set_tail (x : S) (hx : x.dig.length = 32) (j : Nat) (v : Value) : x.cells.set (35 + j) v = [.int .i64 x.k, .string x.repo, .string x.tag] ++ x.dig.map byteV ++ (tailS x).set j v := by
  rw [cells_eq, List.set_append_right _ _ (by simp [hx])]
  congr 2
  simp [hx]
theorem set35 (x : S) (hx : x.dig.length = 32) (t : ByteArray) : x.cells.set 35 (.string t) = ({ x with typ := t } : S).cells := set_tail x hx 0 _
theorem set36 (x : S) (hx : x.dig.length = 32) (n : Int) : x.cells.set 36 (.int .i64 n) = ({ x with size := n } : S).cells := set_tail x hx 1 _
theorem set37 (x : S) (hx : x.dig.length = 32) (n : Int) : x.cells.set 37 (.int .i64 n) = ({ x with at_ := n } : S).cells := set_tail x hx 2 _
theorem set1 (x : S) (t : ByteArray) : x.cells.set 1 (.string t) = ({ x with repo := t } : S).cells := rfl
theorem set2 (x : S) (t : ByteArray) : x.cells.set 2 (.string t) = ({ x with tag := t } : S).cells := rfl
theorem oneS (x : S) : ∀ v ∈ x.cells, v.oneCell' = true := by
  intro v hv
  rw [cells_eq] at hv
  simp only [List.mem_append, List.mem_cons, List.not_mem_nil, or_false, tailS, List.mem_map] at hv
  rcases hv with ((rfl | rfl | rfl) | ⟨c, _, rfl⟩) | rfl | rfl | rfl <;> rfl
theorem range_dig {w : World} {g : Nat} {T : TypeId} {x : S} (h : Blk w g T x.cells) : w.rangeAt g 3 (x.dig.map byteV) := by
  intro j v hv
  rw [h.cell, cells_eq, List.append_assoc, List.getElem?_append_right (by simp)]
  rw [show 3 + j - [Value.int .i64 x.k, .string x.repo, .string x.tag].length = j by simp]
  rw [List.getElem?_append_left (by exact (List.getElem?_eq_some_iff.1 hv).1)]
  exact hv
theorem there_dig {w : World} {g : Nat} {T : TypeId} {x : S} (h : Blk w g T x.cells) (hx : x.dig.length = 32) : w.there g 3 32 := fun j hj => by
  refine ⟨?_, h.frozen _⟩
  rw [h.cellAt (by rw [cells_length x hx]; omega)]
  rfl
theorem put_dig {w : World} {g : Nat} {T : TypeId} {x : S} (h : Blk w g T x.cells) (m : List UInt8) (hm : m.length = x.dig.length) : Blk (w.setCells g 3 (m.map byteV)) g T ({ x with dig := m } : S).cells :=
  Blk.setCells_ (g := g) (t := T) (m.map byteV) [.int .i64 x.k, .string x.repo, .string x.tag] (x.dig.map byteV) (tailS x) (by simp [hm]) h
theorem z38 : (#[Value.int .i64 0, .string ⟨#[]⟩, .string ⟨#[]⟩, Value.int .u8 0, Value.int .u8 0, Value.int .u8 0, Value.int .u8 0, Value.int .u8 0, Value.int .u8 0, Value.int .u8 0, Value.int .u8 0, Value.int .u8 0, Value.int .u8 0, Value.int .u8 0, Value.int .u8 0, Value.int .u8 0, Value.int .u8 0, Value.int .u8 0, Value.int .u8 0, Value.int .u8 0, Value.int .u8 0, Value.int .u8 0, Value.int .u8 0, Value.int .u8 0, Value.int .u8 0, Value.int .u8 0, Value.int .u8 0, Value.int .u8 0, Value.int .u8 0, Value.int .u8 0, Value.int .u8 0, Value.int .u8 0, Value.int .u8 0, Value.int .u8 0, Value.int .u8 0, .string ⟨#[]⟩, Value.int .i64 0, Value.int .i64 0] : Array Value) = S.none.cells.toArray := by rfl
theorem size38 : (Tryd.prog.info? 25).map (·.size) = some 38 := by kernel_rfl
theorem boxS (w : World) (x : S) : Blk (w.alloc (Obj.cells x.cells.toArray 25)) w.heap.size 25 x.cells := by
  have := Blk.new w 25 x.cells.toArray
  simpa using this
theorem none_dig : S.none.dig.length = 32 := by simp [S.none, zeros]
theorem wpList_val {P : Program} {ops : Array Oper} {rest : List Oper} {o : Oper} {a : Act} {w : World} {Q : Exit → Act → World → Prop} (hgd : o.guard = none) (v : Value)
    (hr : (execOp a.eval o).run P w = .ok (.value v) w) (hk : wpList P ops Q rest (a.put o.dst v) w) : wpList P ops Q (o :: rest) a w :=
  wpList_plain hgd fun K hK => by unfold Oper.wp; rw [hr]; exact hK _ _ hk
end Slp
end Go.Proofs.YtbeghdoffiidoaaDoor
