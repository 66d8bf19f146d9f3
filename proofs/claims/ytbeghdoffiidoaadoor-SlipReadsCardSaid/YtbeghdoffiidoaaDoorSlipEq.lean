/- Two slips are compared. -/
import Derived.Test.YtbeghdoffiidoaaDoorSlipPlain
import Derived.Test.YtbeghdoffiidoaaDoorRows
set_option linter.unusedSimpArgs false
set_option linter.unusedVariables false
set_option linter.unusedSectionVars false
namespace Go.Proofs.YtbeghdoffiidoaaDoor
open Go Go.RowKit
namespace Slp
theorem fieldsS : (Tryd.prog.fieldsOf 25).toList.map (fun f => (decide (f.name ≠ "_"), f.type, f.offset)) = [(true, 3, 0), (true, 9, 1), (true, 9, 2), (true, 23, 3), (true, 9, 35), (true, 3, 36), (true, 3, 37)] := by kernel_rfl
theorem undS : Tryd.prog.underlying 25 = some (.struct (Tryd.prog.fieldsOf 25)) := by kernel_rfl
theorem stood : Tryd.prog.stoodInHeld 25 = false := by kernel_rfl
def eqL (d : Nat) (xs ys : Array Value) : List (Bool × TypeId × Nat) → Sem Bool
  | [] => pure true
  | (b, t, o) :: r =>
    if b = true then do
      let a ← part t xs o
      let b ← part t ys o
      let q ← Op.equalIn d t a b
      if (!q) = true then pure false else eqL d xs ys r
    else eqL d xs ys r
theorem eqFields_eqL (d : Nat) (xs ys : Array Value) : ∀ fs : List Field, Op.eqFields d xs ys fs = eqL d xs ys (fs.map fun f => (decide (f.name ≠ "_"), f.type, f.offset))
  | [] => rfl
  | f :: fs => by
    simp only [Op.eqFields, eqL, List.map_cons, eqFields_eqL d xs ys fs, decide_eq_true_eq]
theorem cellsE : Tryd.prog.cellsOf 5 = 1 := by kernel_rfl
theorem info_byte' : ∃ i, Tryd.prog.info? 5 = some i := by
  cases h : Tryd.prog.info? 5 with
  | none => have : (Tryd.prog.info? 5).isSome = true := by kernel_rfl
            rw [h] at this; cases this
  | some i => exact ⟨i, rfl⟩
theorem equal_dig {l m : List UInt8} (hl : l.length = 32) (hm : m.length = 32) (d : Nat) (w : World) : (Op.equalIn (d + 2) 23 (.agg (l.map byteV).toArray) (.agg (m.map byteV).toArray)).run Tryd.prog w = .ok (l == m) w := by
  obtain ⟨i, hi⟩ := info_byte'
  exact run_equal_bytes w d Tryd.underlying23 hi Tryd.underlying5 cellsE _ _ hl hm
theorem part_dig (x : S) (hx : x.dig.length = 32) (w : World) : (part 23 x.cells.toArray 3).run Tryd.prog w = .ok (.agg (x.dig.map byteV).toArray) w := by
  have hz : (Go.sizeOf 23).run Tryd.prog w = .ok 32 w := by as_aux_lemma => kernel_rfl
  have ha : (isAgg 23).run Tryd.prog w = .ok true w := by as_aux_lemma => kernel_rfl
  have he : x.cells.toArray.extract 3 (3 + 32) = (x.dig.map byteV).toArray := by
    rw [List.extract_toArray]
    congr 1
    rw [List.extract_eq_take_drop]
    have : (x.cells.drop 3) = x.dig.map byteV ++ [.string x.typ, .int .i64 x.size, .int .i64 x.at_] := rfl
    rw [this]
    have : 3 + 32 - 3 = (x.dig.map byteV).length := by rw [List.length_map, hx]
    rw [this, List.take_left]
  unfold part
  simp only [Sem.run_bind, ha, Result.andThen_ok, if_true, hz, Sem.run_pure, he]
theorem part_at (x : S) (hx : x.dig.length = 32) (w : World) :
    (part 3 x.cells.toArray 0).run Tryd.prog w = .ok (.int .i64 x.k) w ∧ (part 9 x.cells.toArray 1).run Tryd.prog w = .ok (.string x.repo) w ∧ (part 9 x.cells.toArray 2).run Tryd.prog w = .ok (.string x.tag) w ∧
    (part 9 x.cells.toArray 35).run Tryd.prog w = .ok (.string x.typ) w ∧ (part 3 x.cells.toArray 36).run Tryd.prog w = .ok (.int .i64 x.size) w ∧ (part 3 x.cells.toArray 37).run Tryd.prog w = .ok (.int .i64 x.at_) w := by
  have hs : Tryd.prog.plainKey 9 = true := by kernel_rfl
  have hi : Tryd.prog.plainKey 3 = true := by kernel_rfl
  have tl : ∀ j, x.cells[35 + j]? = [Value.string x.typ, .int .i64 x.size, .int .i64 x.at_][j]? := fun j => by
    show (Value.int .i64 x.k :: .string x.repo :: .string x.tag :: (x.dig.map byteV ++ [.string x.typ, .int .i64 x.size, .int .i64 x.at_]))[35 + j]? = _
    rw [show 35 + j = (32 + j) + 1 + 1 + 1 by omega, List.getElem?_cons_succ, List.getElem?_cons_succ, List.getElem?_cons_succ, List.getElem?_append_right (by rw [List.length_map, hx]; omega), List.length_map, hx, Nat.add_sub_cancel_left]
  refine ⟨run_part_plain w hi rfl, run_part_plain w hs rfl, run_part_plain w hs rfl, run_part_plain w hs ?_, run_part_plain w hi ?_, run_part_plain w hi ?_⟩
  · rw [List.getElem?_toArray]; exact tl 0
  · rw [List.getElem?_toArray]; exact tl 1
  · rw [List.getElem?_toArray]; exact tl 2
theorem eqL_cons {d : Nat} {xs ys : Array Value} {t o : Nat} {r : List (Bool × TypeId × Nat)} {a b : Value} {q : Bool} {w : World} (ha : (part t xs o).run Tryd.prog w = .ok a w) (hb : (part t ys o).run Tryd.prog w = .ok b w)
    (hq : (Op.equalIn d t a b).run Tryd.prog w = .ok q w) : (eqL d xs ys ((true, t, o) :: r)).run Tryd.prog w = if q = true then (eqL d xs ys r).run Tryd.prog w else .ok false w := by
  simp only [eqL, if_true, Sem.run_bind, ha, hb, hq, Result.andThen_ok]
  cases q <;> simp
theorem equal_slip (x y : S) (hx : x.dig.length = 32) (hy : y.dig.length = 32) (w : World) :
    (Op.equalIn 10000 25 (.agg x.cells.toArray) (.agg y.cells.toArray)).run Tryd.prog w = .ok (x.same y) w := by
  rw [run_equalIn_struct w 9999 _ _ _ undS stood, eqFields_eqL, fieldsS]
  obtain ⟨x0, x1, x2, x3, x4, x5⟩ := part_at x hx w
  obtain ⟨y0, y1, y2, y3, y4, y5⟩ := part_at y hy w
  have xd := part_dig x hx w
  have yd := part_dig y hy w
  have ed := equal_dig hx hy 9997 w
  have ei : ∀ a b : Int, (Op.equalIn 9999 3 (.int .i64 a) (.int .i64 b)).run Tryd.prog w = .ok (a == b) w := fun a b => run_equalIn_int w 9998 _ _ _ a b Tryd.underlying3
  have es : ∀ a b : ByteArray, (Op.equalIn 9999 9 (.string a) (.string b)).run Tryd.prog w = .ok (a.toList == b.toList) w := fun a b => run_equalIn_string w 9998 _ a b Tryd.underlying9
  rw [eqL_cons x0 y0 (ei _ _), eqL_cons x1 y1 (es _ _), eqL_cons x2 y2 (es _ _), eqL_cons xd yd ed, eqL_cons x3 y3 (es _ _), eqL_cons x4 y4 (ei _ _), eqL_cons x5 y5 (ei _ _)]
  have e0 : (eqL 9999 x.cells.toArray y.cells.toArray []).run Tryd.prog w = .ok true w := rfl
  rw [e0]
  unfold S.same
  cases x.k == y.k <;> cases x.repo.toList == y.repo.toList <;> cases x.tag.toList == y.tag.toList <;> cases x.dig == y.dig <;> cases x.typ.toList == y.typ.toList <;> cases x.size == y.size <;> cases x.at_ == y.at_ <;> rfl
end Slp
end Go.Proofs.YtbeghdoffiidoaaDoor
