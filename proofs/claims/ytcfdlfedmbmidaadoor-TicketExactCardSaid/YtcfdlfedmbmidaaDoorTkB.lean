/- Tickets as cells; two tickets are compared. -/
import Derived.Test.YtcfdlfedmbmidaaDoorTkA
import Derived.Test.YtcfdlfedmbmidaaDoorFlt
import Derived.Test.YtcfdlfedmbmidaaDoorBlk
import Derived.Test.YtcfdlfedmbmidaaDoorOwnN
import Derived.Test.YtcfdlfedmbmidaaDoorOneRowN
import Derived.Test.YtcfdlfedmbmidaaDoorBytesEq
import Derived.Laws.StructEq
import Derived.Laws.ResultCell
import Derived.KernelRfl
set_option linter.unusedSimpArgs false
set_option linter.unusedVariables false
set_option linter.unusedSectionVars false
namespace Go.Proofs.YtcfdlfedmbmidaaDoor
open Go Go.RowKit
namespace Tk
def T.cells (x : T) : List Value := .string ⟨x.repo.toArray⟩ :: .string ⟨x.tag.toArray⟩ :: .bool x.found :: (x.dig.map byteV ++ [.string ⟨x.typ.toArray⟩, .int .i64 x.size, .int .i64 x.at_])
def zT : T := ⟨[], [], false, List.replicate 32 0, [], 0, 0⟩
theorem T.len (x : T) (h : x.dig.length = 32) : x.cells.length = 38 := by simp [T.cells, h]
theorem T.one (x : T) : ∀ v ∈ x.cells, v.oneCell' = true := by
  intro v hv
  unfold T.cells at hv
  simp only [List.mem_append, List.mem_cons, List.not_mem_nil, or_false, List.mem_map] at hv
  rcases hv with rfl | rfl | rfl | ⟨c, _, rfl⟩ | rfl | rfl | rfl <;> rfl
theorem undT : Tryd.prog.underlying 25 = some (.struct (Tryd.prog.fieldsOf 25)) := by kernel_rfl
theorem sizeT : (Tryd.prog.info? 25).map (·.size) = some 38 := by kernel_rfl
theorem Tryd.tkInfo : (Tryd.prog.info? 25).map (fun i => (i.zero, i.size, i.bytes)) = some (some (.agg zT.cells.toArray), 38, 104) := by kernel_rfl
theorem tkInfo_of : ∃ i, Tryd.prog.info? 25 = some i ∧ i.zero = some (.agg zT.cells.toArray) ∧ i.size = 38 ∧ i.bytes = 104 := by
  obtain ⟨i, hi, h⟩ := Option.map_eq_some_iff.1 Tryd.tkInfo
  simp only [Prod.mk.injEq] at h
  exact ⟨i, hi, h.1, h.2.1, h.2.2⟩
theorem fieldsT : (Tryd.prog.fieldsOf 25).toList.map (fun f => (decide (f.name ≠ "_"), f.type, f.offset)) = [(true, 9, 0), (true, 9, 1), (true, 4, 2), (true, 23, 3), (true, 9, 35), (true, 3, 36), (true, 3, 37)] := by kernel_rfl
theorem stoodT : Tryd.prog.stoodInHeld 25 = false := by kernel_rfl
theorem guardT : Tryd.prog.eqGuardType Tryd.prog.depth 25 = false := by kernel_rfl
theorem undDg : Tryd.prog.underlying 23 = some (.array 32 5) := by kernel_rfl
theorem cellsU8 : Tryd.prog.cellsOf 5 = 1 := by kernel_rfl
def eqL (d : Nat) (xs ys : Array Value) : List (Bool × TypeId × Nat) → Sem Bool
  | [] => pure true
  | (b, t, o) :: r =>
    if b = true then do
      let a ← part t xs o
      let b ← part t ys o
      let q ← Op.equalIn d t a b
      if (!q) = true then pure false else eqL d xs ys r
    else eqL d xs ys r
theorem eqFields_eqL (d : Nat) (xs ys : Array Value) : ∀ fs : List Field, Op.eqFields d xs ys fs = eqL d xs ys (fs.map fun f => (decide (f.name ≠ "_"), f.type, f.offset))
  | [] => rfl
  | f :: fs => by
    simp only [Op.eqFields, eqL, List.map_cons, eqFields_eqL d xs ys fs, decide_eq_true_eq]
theorem infoU8 : ∃ i, Tryd.prog.info? 5 = some i := by
  cases h : Tryd.prog.info? 5 with
  | none => have : (Tryd.prog.info? 5).isSome = true := by kernel_rfl
            rw [h] at this; cases this
  | some i => exact ⟨i, rfl⟩
theorem equal_dig {l m : List UInt8} (hl : l.length = 32) (hm : m.length = 32) (d : Nat) (w : World) : (Op.equalIn (d + 2) 23 (.agg (l.map byteV).toArray) (.agg (m.map byteV).toArray)).run Tryd.prog w = .ok (l == m) w := by
  obtain ⟨i, hi⟩ := infoU8
  exact run_equal_bytes w d undDg hi Tryd.underlying5 cellsU8 _ _ hl hm
theorem part_dig (x : T) (hx : x.dig.length = 32) (w : World) : (part 23 x.cells.toArray 3).run Tryd.prog w = .ok (.agg (x.dig.map byteV).toArray) w := by
  have hz : (Go.sizeOf 23).run Tryd.prog w = .ok 32 w := by as_aux_lemma => kernel_rfl
  have ha : (isAgg 23).run Tryd.prog w = .ok true w := by as_aux_lemma => kernel_rfl
  have he : x.cells.toArray.extract 3 (3 + 32) = (x.dig.map byteV).toArray := by
    rw [List.extract_toArray]
    refine congrArg List.toArray ?_
    rw [List.extract_eq_take_drop, show x.cells.drop 3 = x.dig.map byteV ++ [.string ⟨x.typ.toArray⟩, .int .i64 x.size, .int .i64 x.at_] from rfl]
    rw [List.take_append_of_le_length (by rw [List.length_map, hx]; omega), List.take_of_length_le (by rw [List.length_map, hx]; omega)]
  unfold part
  simp only [Sem.run_bind, ha, Result.andThen_ok, if_true, hz, Sem.run_pure, he]
theorem T.tail (x : T) (hx : x.dig.length = 32) (i : Nat) : x.cells[35 + i]? = [Value.string ⟨x.typ.toArray⟩, .int .i64 x.size, .int .i64 x.at_][i]? := by
  unfold T.cells
  rw [show 35 + i = 32 + i + 1 + 1 + 1 by omega, List.getElem?_cons_succ, List.getElem?_cons_succ, List.getElem?_cons_succ, List.getElem?_append_right (by rw [List.length_map, hx]; omega), List.length_map, hx]
  rw [show 32 + i - 32 = i by omega]
theorem part_at (x : T) (hx : x.dig.length = 32) (w : World) :
    (part 9 x.cells.toArray 0).run Tryd.prog w = .ok (.string ⟨x.repo.toArray⟩) w ∧ (part 9 x.cells.toArray 1).run Tryd.prog w = .ok (.string ⟨x.tag.toArray⟩) w ∧ (part 4 x.cells.toArray 2).run Tryd.prog w = .ok (.bool x.found) w ∧
    (part 9 x.cells.toArray 35).run Tryd.prog w = .ok (.string ⟨x.typ.toArray⟩) w ∧ (part 3 x.cells.toArray 36).run Tryd.prog w = .ok (.int .i64 x.size) w ∧ (part 3 x.cells.toArray 37).run Tryd.prog w = .ok (.int .i64 x.at_) w := by
  have hs : Tryd.prog.plainKey 9 = true := by kernel_rfl
  have hi : Tryd.prog.plainKey 3 = true := by kernel_rfl
  have hb : Tryd.prog.plainKey 4 = true := by kernel_rfl
  refine ⟨run_part_plain w hs rfl, run_part_plain w hs rfl, run_part_plain w hb rfl, run_part_plain w hs ?_, run_part_plain w hi ?_, run_part_plain w hi ?_⟩
  · rw [List.getElem?_toArray]; exact x.tail hx 0
  · rw [List.getElem?_toArray]; exact x.tail hx 1
  · rw [List.getElem?_toArray]; exact x.tail hx 2
theorem eqL_cons {d : Nat} {xs ys : Array Value} {t o : Nat} {r : List (Bool × TypeId × Nat)} {a b : Value} {q : Bool} {w : World} (ha : (part t xs o).run Tryd.prog w = .ok a w) (hb : (part t ys o).run Tryd.prog w = .ok b w)
    (hq : (Op.equalIn d t a b).run Tryd.prog w = .ok q w) : (eqL d xs ys ((true, t, o) :: r)).run Tryd.prog w = if q = true then (eqL d xs ys r).run Tryd.prog w else .ok false w := by
  simp only [eqL, if_true, Sem.run_bind, ha, hb, hq, Result.andThen_ok]
  cases q <;> simp
theorem baL (l : List UInt8) : (⟨l.toArray⟩ : ByteArray).toList = l := by rw [ByteArray.toList_eq]
theorem equal_tk (x y : T) (hx : x.dig.length = 32) (hy : y.dig.length = 32) (w : World) :
    (Op.equalIn 10000 25 (.agg x.cells.toArray) (.agg y.cells.toArray)).run Tryd.prog w = .ok (decide (x = y)) w := by
  rw [run_equalIn_struct w 9999 _ _ _ undT stoodT, eqFields_eqL, fieldsT]
  obtain ⟨x0, x1, x2, x4, x5, x6⟩ := part_at x hx w
  obtain ⟨y0, y1, y2, y4, y5, y6⟩ := part_at y hy w
  have xd := part_dig x hx w
  have yd := part_dig y hy w
  have ed := equal_dig hx hy 9997 w
  have ei : ∀ a b : Int, (Op.equalIn 9999 3 (.int .i64 a) (.int .i64 b)).run Tryd.prog w = .ok (a == b) w := fun a b => run_equalIn_int w 9998 _ _ _ a b Tryd.underlying3
  have es : ∀ a b : List UInt8, (Op.equalIn 9999 9 (.string ⟨a.toArray⟩) (.string ⟨b.toArray⟩)).run Tryd.prog w = .ok (a == b) w := fun a b => by
    have := run_equalIn_string w 9998 _ ⟨a.toArray⟩ ⟨b.toArray⟩ Tryd.underlying9
    rw [baL, baL] at this
    exact this
  have eb : ∀ a b : Bool, (Op.equalIn 9999 4 (.bool a) (.bool b)).run Tryd.prog w = .ok (a == b) w := fun a b => run_equalIn_bool' w 9998 _ a b Tryd.underlying4
  rw [eqL_cons x0 y0 (es _ _), eqL_cons x1 y1 (es _ _), eqL_cons x2 y2 (eb _ _), eqL_cons xd yd ed, eqL_cons x4 y4 (es _ _), eqL_cons x5 y5 (ei _ _), eqL_cons x6 y6 (ei _ _)]
  have e0 : (eqL 9999 x.cells.toArray y.cells.toArray []).run Tryd.prog w = .ok true w := rfl
  rw [e0]
  have hq : decide (x = y) = (x.repo == y.repo && x.tag == y.tag && x.found == y.found && x.dig == y.dig && x.typ == y.typ && x.size == y.size && x.at_ == y.at_) := by
    rw [Bool.eq_iff_iff, decide_eq_true_eq]
    simp only [Bool.and_eq_true, beq_iff_eq]
    constructor
    · rintro rfl; exact ⟨⟨⟨⟨⟨⟨rfl, rfl⟩, rfl⟩, rfl⟩, rfl⟩, rfl⟩, rfl⟩
    · rintro ⟨⟨⟨⟨⟨⟨h0, h1⟩, h2⟩, h3⟩, h4⟩, h5⟩, h6⟩
      obtain ⟨a, b, c, d, e, f, g⟩ := x
      obtain ⟨a', b', c', d', e', f', g'⟩ := y
      dsimp only at h0 h1 h2 h3 h4 h5 h6
      rw [h0, h1, h2, h3, h4, h5, h6]
  rw [hq]
  cases x.repo == y.repo <;> cases x.tag == y.tag <;> cases x.found == y.found <;> cases x.dig == y.dig <;> cases x.typ == y.typ <;> cases x.size == y.size <;> cases x.at_ == y.at_ <;> rfl
/-- two tickets compared, as an operation -/
theorem exec_eqlT {w : World} {ρ : Operand → Value} {o : Oper} (x y : T) (hx : x.dig.length = 32) (hy : y.dig.length = 32) (p q : Operand) (ho : o.op = .binOp .eql 25 p q 25) (hp : ρ p = .agg x.cells.toArray) (hq : ρ q = .agg y.cells.toArray) :
    (execOp ρ o).run Tryd.prog w = .ok (.value (.bool (decide (x = y)))) w := by
  unfold execOp
  simp only [ho, hp, hq, Sem.run_bind, run_eqGuard_agg _ _ _ _ _ _ _ guardT, Result.andThen_ok, run_eql_struct, equal_tk x y hx hy w, Sem.run_pure]
theorem exec_neqT {w : World} {ρ : Operand → Value} {o : Oper} (x y : T) (hx : x.dig.length = 32) (hy : y.dig.length = 32) (p q : Operand) (ho : o.op = .binOp .neq 25 p q 25) (hp : ρ p = .agg x.cells.toArray) (hq : ρ q = .agg y.cells.toArray) :
    (execOp ρ o).run Tryd.prog w = .ok (.value (.bool (!decide (x = y)))) w := by
  unfold execOp
  simp only [ho, hp, hq, Sem.run_bind, run_eqGuard_agg _ _ _ _ _ _ _ guardT, Result.andThen_ok, run_neq_struct, equal_tk x y hx hy w, Sem.run_pure]
/-! ### rows of tickets -/
def flat (l : List T) : List Value := l.flatMap T.cells
def Fit (l : List T) : Prop := ∀ x ∈ l, x.dig.length = 32
theorem Fit.len {l : List T} (h : Fit l) : ∀ x ∈ l, x.cells.length = 38 := fun x hx => x.len (h x hx)
/-- a slice of tickets in a block of its own, made since block B -/
def LT (B : Nat) (w : World) (v : Value) (l : List T) : Prop := w.ownsRow B 25 38 v l.length (flat l)
section
variable {B : Nat} {w : World} {v : Value} {l : List T}
theorem LT.form (h : LT B w v l) : (v = .slice none 0 0 ∧ l = []) ∨ ∃ g cap, v = .slice (some ⟨g, 0, none⟩) l.length cap ∧ B ≤ g ∧ g < w.heap.size ∧ l.length ≤ cap ∧ cap ≤ maxLen := by
  rcases h.2 with ⟨rfl, hn⟩ | ⟨g, cap, cur, rfl, hB, hc, h1, h2, _⟩
  · exact .inl ⟨rfl, List.eq_nil_of_length_eq_zero hn⟩
  · exact .inr ⟨g, cap, rfl, hB, (Array.getElem?_eq_some_iff.1 hc).1, h1, h2⟩
theorem LT.slice (h : LT B w v l) : ∃ A cap, v = .slice A l.length cap := by
  rcases h.form with ⟨rfl, rfl⟩ | ⟨g, cap, rfl, _⟩
  · exact ⟨none, 0, rfl⟩
  · exact ⟨_, cap, rfl⟩
theorem LT.at_ {g cap : Nat} (h : LT B w (.slice (some ⟨g, 0, none⟩) l.length cap) l) (hf : Fit l) (k : Nat) (hk : k < l.length) (i : Nat) (hi : i < 38) : w.cell? ⟨g, k * 38 + i, none⟩ = l[k].cells[i]? := by
  rw [World.ownsRow.cellAt h (k * 38 + i) (by omega)]
  exact Flt.at_ hf.len k hk i hi
theorem LT.range {g cap : Nat} (h : LT B w (.slice (some ⟨g, 0, none⟩) l.length cap) l) (hf : Fit l) (k : Nat) (hk : k < l.length) : w.rangeAt g (k * 38) l[k].cells := fun j v hv => by
  have hj : j < 38 := by
    have := (List.getElem?_eq_some_iff.1 hv).1
    rw [l[k].len (hf _ (List.getElem_mem hk))] at this
    exact this
  rw [h.at_ hf k hk j hj, hv]
theorem LT.lt (h : LT B w v l) {g : Nat} (hg : v.ownBlock = some g) : B ≤ g ∧ g < w.heap.size := World.ownsRow.lt h g hg
theorem LT.set_ {g cap : Nat} (h : LT B w (.slice (some ⟨g, 0, none⟩) l.length cap) l) (hf : Fit l) (j : Nat) (hj : j < l.length) (x : T) (hx : x.dig.length = 32) :
    LT B (w.setCells g (j * 38) x.cells) (.slice (some ⟨g, 0, none⟩) l.length cap) (l.set j x) ∧ But g w (w.setCells g (j * 38) x.cells) ∧ w.there g (j * 38) 38 := by
  refine ⟨?_, But.setCells g _ _ _, Flt.own_there h (by omega)⟩
  have h1 := Flt.own_sets x.cells (j * 38) w _ h
  rw [Flt.sets_eq _ _ _ (by rw [x.len hx]; unfold flat; rw [Flt.len hf.len]; omega), x.len hx] at h1
  unfold LT flat
  rw [List.length_set, Flt.set_ hf.len j hj x]
  exact h1
theorem LT.head {g cap : Nat} (h : LT B w (.slice (some ⟨g, 0, none⟩) l.length cap) l) (hf : Fit l) (i : Nat) : ∀ j u, (flat (l.take i))[j]? = some u → w.cell? ((⟨g, 0, none⟩ : Addr).add j) = some u := by
  intro j u hj
  rw [show flat (l.take i) = (flat l).take (i * 38) from (Flt.take hf.len i).symm, List.getElem?_take] at hj
  split at hj
  · exact World.ownsRow.cells h rfl j u hj
  · cases hj
theorem LT.tail {g cap : Nat} (h : LT B w (.slice (some ⟨g, 0, none⟩) l.length cap) l) (hf : Fit l) (i : Nat) : ∀ j u, (flat (l.drop i))[j]? = some u → w.cell? ((⟨g, i * 38, none⟩ : Addr).add j) = some u := by
  intro j u hj
  rw [show flat (l.drop i) = (flat l).drop (i * 38) from (Flt.drop hf.len i).symm, List.getElem?_drop] at hj
  have := World.ownsRow.cells h rfl _ u hj
  rw [Addr.add_mid, Nat.zero_add] at this
  rw [Addr.add_mid]
  exact this
end
theorem boxT (w : World) (x : T) : Blk (w.alloc (Obj.cells x.cells.toArray 25)) w.heap.size 25 x.cells := by
  have := Blk.new w 25 x.cells.toArray
  simpa using this
theorem LT.lone {w : World} {g : Nat} {x : T} (hx : x.dig.length = 32) (h : Blk w g 25 x.cells) : LT 0 w (.slice (some ⟨g, 0, none⟩) 1 1) [x] := by
  refine ⟨by simp [flat, x.len hx], .inr ⟨g, 1, x.cells.toArray, rfl, Nat.zero_le _, h, Nat.le_refl _, by unfold maxLen; omega, by simp [x.len hx], ?_⟩⟩
  simp [flat]
  exact List.take_of_length_le (by rw [x.len hx]; omega)
theorem exec_oneT (W : World) {ρ : Operand → Value} {o : Oper} (p : Operand) (ho : o.op = .buildSlice 42 1 #[(0, p)]) (x : T) (hx : ρ p = .agg x.cells.toArray) (hd : x.dig.length = 32) :
    (execOp ρ o).run Tryd.prog W = .ok (.value (.slice (some ⟨W.heap.size, 0, none⟩) 1 1)) (W.alloc (.cells x.cells.toArray 25)) := by
  obtain ⟨i, hi, hz, hsz, hby⟩ := tkInfo_of
  exact One.exec_one_row W _ o p 42 25 x.cells.toArray ho hx i _ Tryd.underlying42 hi hz (by rw [hsz, List.size_toArray, x.len hd]) (by rw [List.size_toArray, x.len hd]; omega) (by rw [List.size_toArray, x.len hd]; omega)
end Tk
end Go.Proofs.YtcfdlfedmbmidaaDoor
