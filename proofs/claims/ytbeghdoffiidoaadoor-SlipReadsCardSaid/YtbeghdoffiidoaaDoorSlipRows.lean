/- A row of slips in memory. -/
import Derived.Test.YtbeghdoffiidoaaDoorSlipRow
import Derived.Laws.AppendOwn
import Derived.Deep.MidRow
set_option linter.unusedSimpArgs false
set_option linter.unusedVariables false
set_option linter.unusedSectionVars false
namespace Go.Proofs.YtbeghdoffiidoaaDoor
open Go.RowKit
namespace Slp
/-! ### a row of slips -/
theorem fold_row (l pre rest : List Value) (h : rest.length = l.length) :
    (l.zipIdx pre.length).foldl (fun (cs : Array Value) (p : Value × Nat) => cs.setIfInBounds (0 + p.2) p.1) (pre ++ rest).toArray = (pre ++ l).toArray := by
  induction l generalizing pre rest with
  | nil =>
    have : rest = [] := List.length_eq_zero_iff.1 h
    rw [this]; rfl
  | cons c l ih =>
    cases rest with
    | nil => cases h
    | cons r rest =>
      have h2 := ih (pre ++ [c]) rest (by simpa using h)
      rw [List.zipIdx_cons, List.foldl_cons]
      have e : (pre ++ r :: rest).toArray.setIfInBounds (0 + pre.length) c = (pre ++ [c] ++ rest).toArray := by
        rw [Nat.zero_add, List.setIfInBounds_toArray, List.set_append_right _ _ (Nat.le_refl _), Nat.sub_self]
        simp
      simp only at e ⊢
      rw [e, show pre.length + 1 = (pre ++ [c]).length by simp, h2]
      simp
theorem fill_row (cs z : Array Value) (size : Nat) (hc : cs.size = size) (hz : z.size = size) :
    Instr.fill (fun i => some (i * size, size)) z [(0, .agg cs)] = some cs := by
  have hv : (Value.agg cs).cells = cs := rfl
  have h := fold_row cs.toList [] z.toList (by simp [hc, hz])
  simp only [List.nil_append, List.length_nil, Array.toArray_toList] at h
  unfold Instr.fill
  simp only [hv, Nat.zero_mul]
  rw [if_neg (by simp [hc, hz])]
  unfold Instr.fill
  rw [← Array.foldl_toList, Array.toList_zipIdx, h]
theorem run_one_row {P : Program} (w : World) (t e : TypeId) (cs : Array Value) (i : TypeInfo) (z : Value) (ht : P.underlying t = some (.slice e)) (hi : P.info? e = some i) (hz : i.zero = some z) (hs : i.size = cs.size) (h0 : 0 < cs.size) (hm : cs.size ≤ 16777216) :
    (Instr.buildSlice t 1 #[(0, .agg cs)]).run P w = .ok (.slice (some ⟨w.heap.size, 0, none⟩) 1 1) (w.alloc (.cells cs e)) := by
  have hf := fill_row cs ((Array.range (1 * cs.size)).map (z.cells[· % z.cells.size]!)) cs.size rfl (by simp)
  have h1 : (sizeOf e).run P w = .ok cs.size w := by simp [sizeOf, run_typeInfo w hi, hs]
  have h2 : (zeroValue e).run P w = .ok z w := by simp [zeroValue, run_typeInfo w hi, hz]
  have h3 : ∀ cs, (newRow e cs).run P w = .ok ⟨w.heap.size, 0, none⟩ (w.alloc (.cells cs e)) := fun cs => by simp [newRow, go_sem]
  unfold Instr.buildSlice
  simp only [Sem.run_bind, run_underlying ht, Result.andThen_ok, h1, Nat.one_mul]
  simp only [Sem.run_bind, Result.andThen_ok, Nat.one_mul, if_neg (show ¬ cs.size > 2 ^ 24 by omega), if_neg (show ¬ cs.size = 0 by omega), h2, Sem.run_pure]
  rw [Nat.one_mul] at hf
  rw [hf]
  simp only [Sem.run_bind, Result.andThen_ok, h3, Sem.run_pure]
theorem exec_one_row {P : Program} (w : World) (ρ : Operand → Value) (o : Oper) (x : Operand) (t e : TypeId) (cs : Array Value) (ho : o.op = .buildSlice t 1 #[(0, x)]) (hx : ρ x = .agg cs) (i : TypeInfo) (z : Value) (ht : P.underlying t = some (.slice e)) (hi : P.info? e = some i) (hz : i.zero = some z) (hs : i.size = cs.size) (h0 : 0 < cs.size) (hm : cs.size ≤ 16777216) :
    (execOp ρ o).run P w = .ok (.value (.slice (some ⟨w.heap.size, 0, none⟩) 1 1)) (w.alloc (.cells cs e)) := by
  have h := run_one_row w t e cs i z ht hi hz hs h0 hm
  unfold execOp
  rw [ho]
  simp only [List.map_toArray, List.map_cons, List.map_nil, hx, Sem.run_bind, h, Result.andThen_ok, Sem.run_pure]
theorem slipInfo_of : ∃ i, Tryd.prog.info? 25 = some i ∧ i.zero = some (.agg S.none.cells.toArray) ∧ i.size = 38 ∧ i.bytes = 104 ∧ (Value.agg S.none.cells.toArray).cells.size = 38 := by
  refine ⟨(Tryd.prog.info? 25).getD default, ?_, ?_, ?_, ?_, ?_⟩ <;> kernel_rfl
theorem wpList_valw {P : Program} {ops : Array Oper} {rest : List Oper} {o : Oper} {a : Act} {w w' : World} {Q : Exit → Act → World → Prop} (hgd : o.guard = none) (v : Value)
    (hr : (execOp a.eval o).run P w = .ok (.value v) w') (hk : wpList P ops Q rest (a.put o.dst v) w') : wpList P ops Q (o :: rest) a w :=
  wpList_plain hgd fun K hK => by unfold Oper.wp; rw [hr]; exact hK _ _ hk
def flat (xs : List S) : List Value := (xs.map S.cells).flatten
theorem flat_snoc (xs : List S) (x : S) : flat (xs ++ [x]) = flat xs ++ x.cells := by simp [flat]
/-- a row of its own of slips -/
def Row (B : Nat) (v : Value) (xs : List S) (w : World) : Prop := w.ownsRow B 25 38 v xs.length (flat xs) ∧ ∀ x ∈ xs, x.dig.length = 32
theorem Row.kept {B : Nat} {v : Value} {xs : List S} {w w' : World} {r : Option Nat} (h : Row B v xs w) (hg : w.grownBy w' r) (hne : v.ownBlock = none ∨ v.ownBlock ≠ r) : Row B v xs w' := ⟨h.1.kept hg hne, h.2⟩
theorem Row.ext {B : Nat} {v : Value} {xs : List S} {w w' : World} (h : Row B v xs w) (hx : Reg.Ext w w') : Row B v xs w' :=
  h.kept (r := none) ⟨hx.os, hx.tape, hx.output, hx.size, fun i hi _ => hx.block i hi⟩ (by cases v.ownBlock <;> simp)
theorem Row.fresh {B g : Nat} {v : Value} {xs : List S} {w w1 w' : World} (h : Row B v xs w) (hx : Reg.Ext w w1) (hb : But g w1 w') (hg : w.heap.size ≤ g) : Row B v xs w' := by
  refine (h.ext hx).kept hb ?_
  cases hv : v.ownBlock with
  | none => exact .inl rfl
  | some k =>
    have := (h.1.lt k hv).2
    refine .inr fun e => ?_
    injection e with e
    omega
/-- a slice that reads as this list of slips -/
def RdS (v : Value) (xs : List S) (w : World) : Prop := (∀ x ∈ xs, x.dig.length = 32) ∧ ∃ p c, v = .slice p xs.length c ∧ xs.length ≤ maxLen ∧ ∀ j (h : j < xs.length), ∃ g o, p = some ⟨g, o, none⟩ ∧ w.rangeAt g (o + j * 38) (xs[j].cells)
theorem rangeAt_ext {w w' : World} {g o : Nat} {cs : List Value} (h : w.rangeAt g o cs) (hx : Reg.Ext w w') : w'.rangeAt g o cs := fun j v hv => hx.at_ (h j v hv)
theorem RdS.ext {v : Value} {xs : List S} {w w' : World} (h : RdS v xs w) (hx : Reg.Ext w w') : RdS v xs w' := by
  obtain ⟨h1, p, c, h2, h3, h4⟩ := h
  refine ⟨h1, p, c, h2, h3, fun j hj => ?_⟩
  obtain ⟨g, o, hp, hr⟩ := h4 j hj
  exact ⟨g, o, hp, rangeAt_ext hr hx⟩
theorem flat_at : ∀ (xs : List S) (h : ∀ x ∈ xs, x.dig.length = 32) (j : Nat) (hj : j < xs.length) (i : Nat) (v : Value), (xs[j].cells)[i]? = some v → (flat xs)[j * 38 + i]? = some v
  | [], _, j, hj, _, _, _ => by cases hj
  | x :: xs, h, 0, _, i, v, hv => by
    have hv : x.cells[i]? = some v := hv
    have e : flat (x :: xs) = x.cells ++ flat xs := by simp [flat]
    rw [e, Nat.zero_mul, Nat.zero_add, List.getElem?_append_left (List.getElem?_eq_some_iff.1 hv).1]
    exact hv
  | x :: xs, h, j + 1, hj, i, v, hv => by
    have e : flat (x :: xs) = x.cells ++ flat xs := by simp [flat]
    have hl := cells_length x (h x (List.mem_cons_self ..))
    rw [e, List.getElem?_append_right (by rw [hl]; omega), hl, show (j + 1) * 38 + i - 38 = j * 38 + i by omega]
    exact flat_at xs (fun y hy => h y (List.mem_cons_of_mem _ hy)) j (by simpa using hj) i v hv
theorem Row.rd {B : Nat} {v : Value} {xs : List S} {w : World} (h : Row B v xs w) : RdS v xs w := by
  refine ⟨h.2, ?_⟩
  rcases h.1.2 with ⟨rfl, h0⟩ | ⟨g, cap, cur, rfl, _, hg, hn, hm, _, _⟩
  · have : xs = [] := List.length_eq_zero_iff.1 h0
    subst this
    exact ⟨none, 0, rfl, by simp, fun j hj => by cases hj⟩
  · refine ⟨_, cap, rfl, by omega, fun j hj => ⟨g, 0, rfl, fun i u hu => ?_⟩⟩
    have := h.1.cells (g := g) rfl (j * 38 + i) u (flat_at xs h.2 j hj i u hu)
    rw [Addr.add_mid] at this
    rw [show 0 + j * 38 + i = 0 + (j * 38 + i) by omega]
    exact this
end Slp
end Go.Proofs.YtbeghdoffiidoaaDoor
