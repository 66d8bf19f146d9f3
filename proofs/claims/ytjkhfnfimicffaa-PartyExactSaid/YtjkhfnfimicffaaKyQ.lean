/- Two keys are compared. -/
import Derived.Test.YtjkhfnfimicffaaBytesEq
import Derived.Test.YtjkhfnfimicffaaKyS
import Derived.Laws.StructEq
set_option linter.unusedSimpArgs false
set_option linter.unusedVariables false
set_option linter.unusedSectionVars false
namespace Go.Proofs.Ytjkhfnfimicffaa
open Go Go.RowKit
namespace Py
theorem fieldsE : (Try.prog.fieldsOf 33).toList.map (fun f => (decide (f.name ≠ "_"), f.type, f.offset)) = [(true, 3, 0), (true, 9, 1), (true, 9, 2), (true, 31, 3), (true, 4, 35)] := by kernel_rfl
theorem stoodK : Try.prog.stoodInHeld 33 = false := by kernel_rfl
theorem guardK : Try.prog.eqGuardType Try.prog.depth 33 = false := by kernel_rfl
def eqL (d : Nat) (xs ys : Array Value) : List (Bool × TypeId × Nat) → Sem Bool
  | [] => pure true
  | (b, t, o) :: r =>
    if b = true then do
      let a ← part t xs o
      let b ← part t ys o
      let q ← Op.equalIn d t a b
      if (!q) = true then pure false else eqL d xs ys r
    else eqL d xs ys r
theorem eqFields_eqL (d : Nat) (xs ys : Array Value) : ∀ fs : List Field, Op.eqFields d xs ys fs = eqL d xs ys (fs.map fun f => (decide (f.name ≠ "_"), f.type, f.offset))
  | [] => rfl
  | f :: fs => by
    simp only [Op.eqFields, eqL, List.map_cons, eqFields_eqL d xs ys fs, decide_eq_true_eq]
theorem infoU8 : ∃ i, Try.prog.info? 5 = some i := by
  cases h : Try.prog.info? 5 with
  | none => have : (Try.prog.info? 5).isSome = true := by kernel_rfl
            rw [h] at this; cases this
  | some i => exact ⟨i, rfl⟩
theorem equal_digK {l m : List UInt8} (hl : l.length = 32) (hm : m.length = 32) (d : Nat) (w : World) : (Op.equalIn (d + 2) 31 (.agg (l.map byteV).toArray) (.agg (m.map byteV).toArray)).run Try.prog w = .ok (l == m) w := by
  obtain ⟨i, hi⟩ := infoU8
  exact run_equal_bytes w d undDg hi Try.underlying5 cellsU8 _ _ hl hm
theorem part_digK (k : Ky) (hk : k.dig.length = 32) (w : World) : (part 31 k.cells.toArray 3).run Try.prog w = .ok (.agg (k.dig.map byteV).toArray) w := by
  have hz : (Go.sizeOf 31).run Try.prog w = .ok 32 w := by as_aux_lemma => kernel_rfl
  have ha : (isAgg 31).run Try.prog w = .ok true w := by as_aux_lemma => kernel_rfl
  have he : k.cells.toArray.extract 3 (3 + 32) = (k.dig.map byteV).toArray := by
    rw [List.extract_toArray]
    refine congrArg List.toArray ?_
    rw [List.extract_eq_take_drop, show k.cells.drop 3 = k.dig.map byteV ++ [.bool k.blob] from rfl]
    rw [List.take_append_of_le_length (by rw [List.length_map, hk]; omega), List.take_of_length_le (by rw [List.length_map, hk]; omega)]
  unfold part
  simp only [Sem.run_bind, ha, Result.andThen_ok, if_true, hz, Sem.run_pure, he]
theorem part_atK (k : Ky) (hk : k.dig.length = 32) (w : World) :
    (part 3 k.cells.toArray 0).run Try.prog w = .ok (.int .i64 k.kind) w ∧ (part 9 k.cells.toArray 1).run Try.prog w = .ok (.string ⟨k.repo.toArray⟩) w ∧ (part 9 k.cells.toArray 2).run Try.prog w = .ok (.string ⟨k.tag.toArray⟩) w ∧ (part 4 k.cells.toArray 35).run Try.prog w = .ok (.bool k.blob) w := by
  have hs : Try.prog.plainKey 9 = true := by kernel_rfl
  have hi : Try.prog.plainKey 3 = true := by kernel_rfl
  have hb : Try.prog.plainKey 4 = true := by kernel_rfl
  refine ⟨run_part_plain w hi rfl, run_part_plain w hs rfl, run_part_plain w hs rfl, run_part_plain w hb ?_⟩
  have h1 := cut35 k hk
  have h2 := congrArg (fun l => l[0]?) h1
  rw [List.getElem?_take, if_pos (by decide), List.getElem?_drop] at h2
  rw [List.getElem?_toArray]
  exact h2
theorem eqL_cons {d : Nat} {xs ys : Array Value} {t o : Nat} {r : List (Bool × TypeId × Nat)} {a b : Value} {q : Bool} {w : World} (ha : (part t xs o).run Try.prog w = .ok a w) (hb : (part t ys o).run Try.prog w = .ok b w)
    (hq : (Op.equalIn d t a b).run Try.prog w = .ok q w) : (eqL d xs ys ((true, t, o) :: r)).run Try.prog w = if q = true then (eqL d xs ys r).run Try.prog w else .ok false w := by
  simp only [eqL, if_true, Sem.run_bind, ha, hb, hq, Result.andThen_ok]
  cases q <;> simp
theorem baL (l : List UInt8) : (⟨l.toArray⟩ : ByteArray).toList = l := by rw [ByteArray.toList_eq]
theorem equal_key (x y : Ky) (hx : x.dig.length = 32) (hy : y.dig.length = 32) (w : World) :
    (Op.equalIn 10000 33 (.agg x.cells.toArray) (.agg y.cells.toArray)).run Try.prog w = .ok (decide (x = y)) w := by
  rw [run_equalIn_struct w 9999 _ _ _ undK stoodK, eqFields_eqL, fieldsE]
  obtain ⟨x0, x1, x2, x4⟩ := part_atK x hx w
  obtain ⟨y0, y1, y2, y4⟩ := part_atK y hy w
  have xd := part_digK x hx w
  have yd := part_digK y hy w
  have ed := equal_digK hx hy 9997 w
  have ei : ∀ a b : Int, (Op.equalIn 9999 3 (.int .i64 a) (.int .i64 b)).run Try.prog w = .ok (a == b) w := fun a b => run_equalIn_int w 9998 _ _ _ a b Try.underlying3
  have es : ∀ a b : List UInt8, (Op.equalIn 9999 9 (.string ⟨a.toArray⟩) (.string ⟨b.toArray⟩)).run Try.prog w = .ok (a == b) w := fun a b => by
    have := run_equalIn_string w 9998 _ ⟨a.toArray⟩ ⟨b.toArray⟩ Try.underlying9
    rw [baL, baL] at this
    exact this
  have eb : ∀ a b : Bool, (Op.equalIn 9999 4 (.bool a) (.bool b)).run Try.prog w = .ok (a == b) w := fun a b => run_equalIn_bool' w 9998 _ a b Try.underlying4
  rw [eqL_cons x0 y0 (ei _ _), eqL_cons x1 y1 (es _ _), eqL_cons x2 y2 (es _ _), eqL_cons xd yd ed, eqL_cons x4 y4 (eb _ _)]
  have e0 : (eqL 9999 x.cells.toArray y.cells.toArray []).run Try.prog w = .ok true w := rfl
  rw [e0]
  have hq : decide (x = y) = (x.kind == y.kind && x.repo == y.repo && x.tag == y.tag && x.dig == y.dig && x.blob == y.blob) := by
    rw [Bool.eq_iff_iff, decide_eq_true_eq]
    simp only [Bool.and_eq_true, beq_iff_eq]
    constructor
    · rintro rfl; exact ⟨⟨⟨⟨rfl, rfl⟩, rfl⟩, rfl⟩, rfl⟩
    · rintro ⟨⟨⟨⟨h0, h1⟩, h2⟩, h3⟩, h4⟩
      obtain ⟨k, r, t, d, b⟩ := x
      obtain ⟨k', r', t', d', b'⟩ := y
      dsimp only at h0 h1 h2 h3 h4
      rw [h0, h1, h2, h3, h4]
  rw [hq]
  cases x.kind == y.kind <;> cases x.repo == y.repo <;> cases x.tag == y.tag <;> cases x.dig == y.dig <;> cases x.blob == y.blob <;> rfl
/-- two keys compared, as an operation -/
theorem exec_eqlK {w : World} {ρ : Operand → Value} {o : Oper} (x y : Ky) (hx : x.dig.length = 32) (hy : y.dig.length = 32) (p q : Operand) (ho : o.op = .binOp .eql 33 p q 33) (hp : ρ p = .agg x.cells.toArray) (hq : ρ q = .agg y.cells.toArray) :
    (execOp ρ o).run Try.prog w = .ok (.value (.bool (decide (x = y)))) w := by
  unfold execOp
  simp only [ho, hp, hq, Sem.run_bind, run_eqGuard_agg _ _ _ _ _ _ _ guardK, Result.andThen_ok, run_eql_struct, equal_key x y hx hy w, Sem.run_pure]
theorem exec_neqK {w : World} {ρ : Operand → Value} {o : Oper} (x y : Ky) (hx : x.dig.length = 32) (hy : y.dig.length = 32) (p q : Operand) (ho : o.op = .binOp .neq 33 p q 33) (hp : ρ p = .agg x.cells.toArray) (hq : ρ q = .agg y.cells.toArray) :
    (execOp ρ o).run Try.prog w = .ok (.value (.bool (!decide (x = y)))) w := by
  unfold execOp
  simp only [ho, hp, hq, Sem.run_bind, run_eqGuard_agg _ _ _ _ _ _ _ guardK, Result.andThen_ok, run_neq_struct, equal_key x y hx hy w, Sem.run_pure]
end Py
end Go.Proofs.Ytjkhfnfimicffaa
