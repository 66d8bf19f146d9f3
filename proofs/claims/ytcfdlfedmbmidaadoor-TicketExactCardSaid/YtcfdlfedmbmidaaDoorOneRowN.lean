/- A slice of one struct, made. -/
import Derived.Test.YtcfdlfedmbmidaaDoorOwnN
set_option linter.unusedSimpArgs false
set_option linter.unusedVariables false
set_option linter.unusedSectionVars false
namespace Go.Proofs.YtcfdlfedmbmidaaDoor
open Go.RowKit
namespace One
theorem fold_row (l pre rest : List Value) (h : rest.length = l.length) :
    (l.zipIdx pre.length).foldl (fun (cs : Array Value) (p : Value × Nat) => cs.setIfInBounds (0 + p.2) p.1) (pre ++ rest).toArray = (pre ++ l).toArray := by
  induction l generalizing pre rest with
  | nil =>
    have : rest = [] := List.length_eq_zero_iff.1 h
    rw [this]; rfl
  | cons c l ih =>
    cases rest with
    | nil => cases h
    | cons r rest =>
      have h2 := ih (pre ++ [c]) rest (by simpa using h)
      rw [List.zipIdx_cons, List.foldl_cons]
      have e : (pre ++ r :: rest).toArray.setIfInBounds (0 + pre.length) c = (pre ++ [c] ++ rest).toArray := by
        rw [Nat.zero_add, List.setIfInBounds_toArray, List.set_append_right _ _ (Nat.le_refl _), Nat.sub_self]
        simp
      simp only at e ⊢
      rw [e, show pre.length + 1 = (pre ++ [c]).length by simp, h2]
      simp
theorem fill_row (cs z : Array Value) (size : Nat) (hc : cs.size = size) (hz : z.size = size) :
    Instr.fill (fun i => some (i * size, size)) z [(0, .agg cs)] = some cs := by
  have hv : (Value.agg cs).cells = cs := rfl
  have h := fold_row cs.toList [] z.toList (by simp [hc, hz])
  simp only [List.nil_append, List.length_nil, Array.toArray_toList] at h
  unfold Instr.fill
  simp only [hv, Nat.zero_mul]
  rw [if_neg (by simp [hc, hz])]
  unfold Instr.fill
  rw [← Array.foldl_toList, Array.toList_zipIdx, h]
theorem run_one_row {P : Program} (w : World) (t e : TypeId) (cs : Array Value) (i : TypeInfo) (z : Value) (ht : P.underlying t = some (.slice e)) (hi : P.info? e = some i) (hz : i.zero = some z) (hs : i.size = cs.size) (h0 : 0 < cs.size) (hm : cs.size ≤ 16777216) :
    (Instr.buildSlice t 1 #[(0, .agg cs)]).run P w = .ok (.slice (some ⟨w.heap.size, 0, none⟩) 1 1) (w.alloc (.cells cs e)) := by
  have hf := fill_row cs ((Array.range (1 * cs.size)).map (z.cells[· % z.cells.size]!)) cs.size rfl (by simp)
  have h1 : (sizeOf e).run P w = .ok cs.size w := by simp [sizeOf, run_typeInfo w hi, hs]
  have h2 : (zeroValue e).run P w = .ok z w := by simp [zeroValue, run_typeInfo w hi, hz]
  have h3 : ∀ cs, (newRow e cs).run P w = .ok ⟨w.heap.size, 0, none⟩ (w.alloc (.cells cs e)) := fun cs => by simp [newRow, go_sem]
  unfold Instr.buildSlice
  simp only [Sem.run_bind, run_underlying ht, Result.andThen_ok, h1, Nat.one_mul]
  simp only [Sem.run_bind, Result.andThen_ok, Nat.one_mul, if_neg (show ¬ cs.size > 2 ^ 24 by omega), if_neg (show ¬ cs.size = 0 by omega), h2, Sem.run_pure]
  rw [Nat.one_mul] at hf
  rw [hf]
  simp only [Sem.run_bind, Result.andThen_ok, h3, Sem.run_pure]
theorem exec_one_row {P : Program} (w : World) (ρ : Operand → Value) (o : Oper) (x : Operand) (t e : TypeId) (cs : Array Value) (ho : o.op = .buildSlice t 1 #[(0, x)]) (hx : ρ x = .agg cs) (i : TypeInfo) (z : Value) (ht : P.underlying t = some (.slice e)) (hi : P.info? e = some i) (hz : i.zero = some z) (hs : i.size = cs.size) (h0 : 0 < cs.size) (hm : cs.size ≤ 16777216) :
    (execOp ρ o).run P w = .ok (.value (.slice (some ⟨w.heap.size, 0, none⟩) 1 1)) (w.alloc (.cells cs e)) := by
  have h := run_one_row w t e cs i z ht hi hz hs h0 hm
  unfold execOp
  rw [ho]
  simp only [List.map_toArray, List.map_cons, List.map_nil, hx, Sem.run_bind, h, Result.andThen_ok, Sem.run_pure]
theorem wpList_valw {P : Program} {ops : Array Oper} {rest : List Oper} {o : Oper} {a : Act} {w w' : World} {Q : Exit → Act → World → Prop} (hgd : o.guard = none) (v : Value)
    (hr : (execOp a.eval o).run P w = .ok (.value v) w') (hk : wpList P ops Q rest (a.put o.dst v) w') : wpList P ops Q (o :: rest) a w :=
  wpList_plain hgd fun K hK => by unfold Oper.wp; rw [hr]; exact hK _ _ hk
end One
end Go.Proofs.YtcfdlfedmbmidaaDoor
