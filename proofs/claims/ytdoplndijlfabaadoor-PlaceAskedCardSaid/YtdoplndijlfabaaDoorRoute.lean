/- Routes: their cells, in memory; two routes are compared. -/
import Derived.Test.YtdoplndijlfabaaDoorBytesEq
import Derived.Test.YtdoplndijlfabaaDoorBlk
import Derived.Test.YtdoplndijlfabaaDoorRows
import Derived.Laws.StructEq
import Derived.Laws.ResultCell
import Derived.KernelRfl
import Derived.Laws.Rows
import Derived.Deep.MidRow
set_option linter.unusedSimpArgs false
set_option linter.unusedVariables false
set_option linter.unusedSectionVars false
namespace Go.Proofs.YtdoplndijlfabaaDoor
open Go Go.RowKit
namespace Rte
structure S where
  k : Int
  repo : ByteArray
  tag : ByteArray
  dig : List UInt8
def zeros : List UInt8 := List.replicate 32 0
theorem zeros_len : zeros.length = 32 := by simp [zeros]
def S.cells (x : S) : List Value := [.int .i64 x.k, .string x.repo, .string x.tag] ++ x.dig.map byteV
def noStr : ByteArray := ⟨#[]⟩
def S.none : S := ⟨0, noStr, noStr, zeros⟩
def S.same (x y : S) : Bool := x.k == y.k && x.repo.toList == y.repo.toList && x.tag.toList == y.tag.toList && x.dig == y.dig
theorem cells_length (x : S) (h : x.dig.length = 32) : x.cells.length = 35 := by simp [S.cells, h]
theorem none_dig : S.none.dig.length = 32 := zeros_len
theorem size35 : (Tryd.prog.info? 26).map (·.size) = some 35 := by kernel_rfl
theorem fieldsS : (Tryd.prog.fieldsOf 26).toList.map (fun f => (decide (f.name ≠ "_"), f.type, f.offset)) = [(true, 3, 0), (true, 9, 1), (true, 9, 2), (true, 24, 3)] := by kernel_rfl
theorem undS : Tryd.prog.underlying 26 = some (.struct (Tryd.prog.fieldsOf 26)) := by kernel_rfl
theorem stood : Tryd.prog.stoodInHeld 26 = false := by kernel_rfl
def eqL (d : Nat) (xs ys : Array Value) : List (Bool × TypeId × Nat) → Sem Bool
  | [] => pure true
  | (b, t, o) :: r =>
    if b = true then do
      let a ← part t xs o
      let b ← part t ys o
      let q ← Op.equalIn d t a b
      if (!q) = true then pure false else eqL d xs ys r
    else eqL d xs ys r
theorem eqFields_eqL (d : Nat) (xs ys : Array Value) : ∀ fs : List Field, Op.eqFields d xs ys fs = eqL d xs ys (fs.map fun f => (decide (f.name ≠ "_"), f.type, f.offset))
  | [] => rfl
  | f :: fs => by
    simp only [Op.eqFields, eqL, List.map_cons, eqFields_eqL d xs ys fs, decide_eq_true_eq]
theorem cellsE : Tryd.prog.cellsOf 5 = 1 := by kernel_rfl
theorem info_byte' : ∃ i, Tryd.prog.info? 5 = some i := by
  cases h : Tryd.prog.info? 5 with
  | none => have : (Tryd.prog.info? 5).isSome = true := by kernel_rfl
            rw [h] at this; cases this
  | some i => exact ⟨i, rfl⟩
theorem equal_dig {l m : List UInt8} (hl : l.length = 32) (hm : m.length = 32) (d : Nat) (w : World) : (Op.equalIn (d + 2) 24 (.agg (l.map byteV).toArray) (.agg (m.map byteV).toArray)).run Tryd.prog w = .ok (l == m) w := by
  obtain ⟨i, hi⟩ := info_byte'
  exact run_equal_bytes w d Tryd.underlying24 hi Tryd.underlying5 cellsE _ _ hl hm
theorem part_dig (x : S) (hx : x.dig.length = 32) (w : World) : (part 24 x.cells.toArray 3).run Tryd.prog w = .ok (.agg (x.dig.map byteV).toArray) w := by
  have hz : (Go.sizeOf 24).run Tryd.prog w = .ok 32 w := by as_aux_lemma => kernel_rfl
  have ha : (isAgg 24).run Tryd.prog w = .ok true w := by as_aux_lemma => kernel_rfl
  have he : x.cells.toArray.extract 3 (3 + 32) = (x.dig.map byteV).toArray := by
    rw [List.extract_toArray]
    congr 1
    rw [List.extract_eq_take_drop]
    have : (x.cells.drop 3) = x.dig.map byteV := rfl
    rw [this]
    rw [List.take_of_length_le (by rw [List.length_map, hx]; omega)]
  unfold part
  simp only [Sem.run_bind, ha, Result.andThen_ok, if_true, hz, Sem.run_pure, he]
theorem part_at (x : S) (w : World) :
    (part 3 x.cells.toArray 0).run Tryd.prog w = .ok (.int .i64 x.k) w ∧ (part 9 x.cells.toArray 1).run Tryd.prog w = .ok (.string x.repo) w ∧ (part 9 x.cells.toArray 2).run Tryd.prog w = .ok (.string x.tag) w := by
  have hs : Tryd.prog.plainKey 9 = true := by kernel_rfl
  have hi : Tryd.prog.plainKey 3 = true := by kernel_rfl
  exact ⟨run_part_plain w hi rfl, run_part_plain w hs rfl, run_part_plain w hs rfl⟩
theorem eqL_cons {d : Nat} {xs ys : Array Value} {t o : Nat} {r : List (Bool × TypeId × Nat)} {a b : Value} {q : Bool} {w : World} (ha : (part t xs o).run Tryd.prog w = .ok a w) (hb : (part t ys o).run Tryd.prog w = .ok b w)
    (hq : (Op.equalIn d t a b).run Tryd.prog w = .ok q w) : (eqL d xs ys ((true, t, o) :: r)).run Tryd.prog w = if q = true then (eqL d xs ys r).run Tryd.prog w else .ok false w := by
  simp only [eqL, if_true, Sem.run_bind, ha, hb, hq, Result.andThen_ok]
  cases q <;> simp
theorem equal_route (x y : S) (hx : x.dig.length = 32) (hy : y.dig.length = 32) (w : World) :
    (Op.equalIn 10000 26 (.agg x.cells.toArray) (.agg y.cells.toArray)).run Tryd.prog w = .ok (x.same y) w := by
  rw [run_equalIn_struct w 9999 _ _ _ undS stood, eqFields_eqL, fieldsS]
  obtain ⟨x0, x1, x2⟩ := part_at x w
  obtain ⟨y0, y1, y2⟩ := part_at y w
  have xd := part_dig x hx w
  have yd := part_dig y hy w
  have ed := equal_dig hx hy 9997 w
  have ei : ∀ a b : Int, (Op.equalIn 9999 3 (.int .i64 a) (.int .i64 b)).run Tryd.prog w = .ok (a == b) w := fun a b => run_equalIn_int w 9998 _ _ _ a b Tryd.underlying3
  have es : ∀ a b : ByteArray, (Op.equalIn 9999 9 (.string a) (.string b)).run Tryd.prog w = .ok (a.toList == b.toList) w := fun a b => run_equalIn_string w 9998 _ a b Tryd.underlying9
  rw [eqL_cons x0 y0 (ei _ _), eqL_cons x1 y1 (es _ _), eqL_cons x2 y2 (es _ _), eqL_cons xd yd ed]
  have e0 : (eqL 9999 x.cells.toArray y.cells.toArray []).run Tryd.prog w = .ok true w := rfl
  rw [e0]
  unfold S.same
  cases x.k == y.k <;> cases x.repo.toList == y.repo.toList <;> cases x.tag.toList == y.tag.toList <;> cases x.dig == y.dig <;> rfl
theorem same_iff (x y : S) : x.same y = true ↔ x = y := by
  unfold S.same
  rw [Bool.and_eq_true, Bool.and_eq_true, Bool.and_eq_true, beq_iff_eq, beq_iff_eq, beq_iff_eq, beq_iff_eq, ByteArray.toList_eq, ByteArray.toList_eq, ByteArray.toList_eq, ByteArray.toList_eq]
  constructor
  · rintro ⟨⟨⟨h1, h2⟩, h3⟩, h4⟩
    cases x; cases y
    simp only at h1 h2 h3 h4
    rw [h1, ba_ext h2, ba_ext h3, h4]
  · rintro rfl
    exact ⟨⟨⟨rfl, rfl⟩, rfl⟩, rfl⟩
theorem same_refl (x : S) : x.same x = true := (same_iff x x).2 rfl
/-! ### in memory -/
theorem oneS (x : S) : ∀ v ∈ x.cells, v.oneCell' = true := by
  intro v hv
  unfold S.cells at hv
  simp only [List.mem_append, List.mem_cons, List.not_mem_nil, or_false, List.mem_map] at hv
  rcases hv with (rfl | rfl | rfl) | ⟨c, _, rfl⟩ <;> rfl
theorem range_dig {w : World} {g : Nat} {T : TypeId} {x : S} (h : Blk w g T x.cells) : w.rangeAt g 3 (x.dig.map byteV) := by
  intro j v hv
  rw [h.cell]
  unfold S.cells
  rw [List.getElem?_append_right (by simp)]
  rw [show 3 + j - [Value.int .i64 x.k, .string x.repo, .string x.tag].length = j by simp]
  exact hv
theorem there_dig {w : World} {g : Nat} {T : TypeId} {x : S} (h : Blk w g T x.cells) (hx : x.dig.length = 32) : w.there g 3 32 := fun j hj => by
  refine ⟨?_, h.frozen _⟩
  rw [h.cellAt (by rw [cells_length x hx]; omega)]
  rfl
theorem put_dig {w : World} {g : Nat} {T : TypeId} {x : S} (h : Blk w g T x.cells) (m : List UInt8) (hm : m.length = x.dig.length) : Blk (w.setCells g 3 (m.map byteV)) g T ({ x with dig := m } : S).cells := by
  have := Blk.setCells_ (g := g) (t := T) (m.map byteV) [.int .i64 x.k, .string x.repo, .string x.tag] (x.dig.map byteV) [] (by simp [hm]) (w := w) (by rw [List.append_nil]; exact h)
  rw [List.append_nil] at this
  exact this
theorem set0 (x : S) (n : Int) : x.cells.set 0 (.int .i64 n) = ({ x with k := n } : S).cells := rfl
theorem set2 (x : S) (t : ByteArray) : x.cells.set 2 (.string t) = ({ x with tag := t } : S).cells := rfl
theorem boxS (w : World) (x : S) : Blk (w.alloc (Obj.cells x.cells.toArray 26)) w.heap.size 26 x.cells := by
  have := Blk.new w 26 x.cells.toArray
  simpa using this
theorem results_row2 {P : Program} {fn : Func} {p u : Tmp} {ty : TypeId} (h : fn.results = #[.cell p ty, .tmp u]) (tmps : Array Value) (w : World) (g : Nat) (t : TypeId) (cs : Array Value) (fr : Nat × Nat) (d : TypeDesc)
    (hp : tmps.getD p undef = .pointer (some ⟨g, 0, none⟩)) (hg : w.heap[g]? = some (.cells cs t fr))
    (hu : P.underlying ty = some d) (hd : (match d with | .struct _ | .array _ _ => true | _ => false) = true) (hi : (P.info? ty).map (·.size) = some cs.size) :
    (results fn tmps).run P w = .ok (.tuple #[.agg cs, tmps.getD u undef]) w := by
  rw [results_cell_tmp h, hp]
  simp [asAddr, run_loadVar_row w g t ty cs fr d hg hu hd hi]
theorem wpList_val {P : Program} {ops : Array Oper} {rest : List Oper} {o : Oper} {a : Act} {w : World} {Q : Exit → Act → World → Prop} (hgd : o.guard = none) (v : Value)
    (hr : (execOp a.eval o).run P w = .ok (.value v) w) (hk : wpList P ops Q rest (a.put o.dst v) w) : wpList P ops Q (o :: rest) a w :=
  wpList_plain hgd fun K hK => by unfold Oper.wp; rw [hr]; exact hK _ _ hk
theorem wpList_valw {P : Program} {ops : Array Oper} {rest : List Oper} {o : Oper} {a : Act} {w : World} {Q : Exit → Act → World → Prop} (hw : Region.wanted o (yielded ops a.tmps) = true) (v : Value)
    (hr : (execOp a.eval o).run P w = .ok (.value v) w) (hk : wpList P ops Q rest (a.put o.dst v) w) : wpList P ops Q (o :: rest) a w := by
  unfold wpList
  rw [if_pos hw]
  refine .inl ?_
  unfold Oper.wp
  rw [hr]
  exact hk
theorem noGuard : Tryd.prog.eqGuardType Tryd.prog.depth 26 = false := by kernel_rfl
/-- two routes compared, as an operation -/
theorem exec_eql {w : World} {ρ : Operand → Value} {o : Oper} (x y : S) (hx : x.dig.length = 32) (hy : y.dig.length = 32) (p q : Operand) (ho : o.op = .binOp .eql 26 p q 26) (hp : ρ p = .agg x.cells.toArray) (hq : ρ q = .agg y.cells.toArray) :
    (execOp ρ o).run Tryd.prog w = .ok (.value (.bool (x.same y))) w := by
  unfold execOp
  simp only [ho, hp, hq, Sem.run_bind, run_eqGuard_agg _ _ _ _ _ _ _ noGuard, Result.andThen_ok, run_eql_struct, equal_route x y hx hy w, Sem.run_pure]
theorem exec_neq {w : World} {ρ : Operand → Value} {o : Oper} (x y : S) (hx : x.dig.length = 32) (hy : y.dig.length = 32) (p q : Operand) (ho : o.op = .binOp .neq 26 p q 26) (hp : ρ p = .agg x.cells.toArray) (hq : ρ q = .agg y.cells.toArray) :
    (execOp ρ o).run Tryd.prog w = .ok (.value (.bool (!x.same y))) w := by
  unfold execOp
  simp only [ho, hp, hq, Sem.run_bind, run_eqGuard_agg _ _ _ _ _ _ _ noGuard, Result.andThen_ok, run_neq_struct, equal_route x y hx hy w, Sem.run_pure]
/-- a whole route out of its block; the digest in it -/
theorem wpList_rt {ops : Array Oper} {rest : List Oper} {o : Oper} {a : Act} {w : World} {Q : Exit → Act → World → Prop} (hw : Region.wanted o (yielded ops a.tmps) = true) (x : Operand) (ho : o.op = .load 26 x)
    (g : Nat) (hx : a.eval x = .pointer (some ⟨g, 0, none⟩)) (T : TypeId) (r : S) (hr : r.dig.length = 32) (h : Hid (Blk w g T r.cells)) (hk : wpList Tryd.prog ops Q rest (a.put o.dst (.agg r.cells.toArray)) w) : wpList Tryd.prog ops Q (o :: rest) a w := by
  unfold wpList
  rw [if_pos hw]
  exact .inl (wp_load_row _ x ho g hx T r.cells.toArray (0, 0) _ h.out undS rfl (by rw [List.size_toArray, cells_length r hr]; exact size35) hk)
theorem wpList_rd {ops : Array Oper} {rest : List Oper} {o : Oper} {a : Act} {w : World} {Q : Exit → Act → World → Prop} (hw : Region.wanted o (yielded ops a.tmps) = true) (x : Operand) (ho : o.op = .load 24 x)
    (g : Nat) (hx : a.eval x = .pointer (some ⟨g, 3, none⟩)) (T : TypeId) (r : S) (hr : r.dig.length = 32) (h : Hid (Blk w g T r.cells)) (hk : wpList Tryd.prog ops Q rest (a.put o.dst (.agg (r.dig.map byteV).toArray)) w) : wpList Tryd.prog ops Q (o :: rest) a w := by
  unfold wpList
  rw [if_pos hw]
  exact .inl (wp_load_mid _ x ho g 3 hx (r.dig.map byteV) _ (range_dig h.out) Tryd.underlying24 rfl (by rw [List.length_map, hr]; kernel_rfl) hk)
end Rte
end Go.Proofs.YtdoplndijlfabaaDoor
