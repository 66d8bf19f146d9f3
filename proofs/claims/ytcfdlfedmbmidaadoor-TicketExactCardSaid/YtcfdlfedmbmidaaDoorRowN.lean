/- Operations by closed facts; a look-up in a drawn region. -/
import Derived.Test.YtcfdlfedmbmidaaDoorBlk
import Derived.Test.YtcfdlfedmbmidaaDoorOrdl
import Derived.Deep.MidRow
import Derived.Maps.OwnSet
set_option linter.unusedSimpArgs false
set_option linter.unusedVariables false
set_option linter.unusedSectionVars false
namespace Go.Proofs.YtcfdlfedmbmidaaDoor
open Go Go.RowKit
theorem wpList_any {P : Program} {ops : Array Oper} {rest : List Oper} {o : Oper} {a : Act} {w : World} {Q : Exit → Act → World → Prop} (hw : Region.wanted o (yielded ops a.tmps) = true) (v : Value) (w' : World)
    (hr : (execOp a.eval o).run P w = .ok (.value v) w') (hk : wpList P ops Q rest (a.put o.dst v) w') : wpList P ops Q (o :: rest) a w := by
  unfold wpList
  rw [if_pos hw]
  refine .inl ?_
  unfold Oper.wp
  rw [hr]
  exact hk
theorem wpList_val {P : Program} {ops : Array Oper} {rest : List Oper} {o : Oper} {a : Act} {w : World} {Q : Exit → Act → World → Prop} (hgd : o.guard = none) (v : Value)
    (hr : (execOp a.eval o).run P w = .ok (.value v) w) (hk : wpList P ops Q rest (a.put o.dst v) w) : wpList P ops Q (o :: rest) a w :=
  wpList_plain hgd fun K hK => by unfold Oper.wp; rw [hr]; exact hK _ _ hk
theorem wpList_ldm {P : Program} {ops : Array Oper} {rest : List Oper} {o : Oper} {a : Act} {w : World} {Q : Exit → Act → World → Prop} (hw : Region.wanted o (yielded ops a.tmps) = true) (ty : TypeId) (x : Operand) (ho : o.op = .load ty x)
    (g j : Nat) (hx : a.eval x = .pointer (some ⟨g, j, none⟩)) (cs : List Value) (fs : Array Field) (h : Hid (w.rangeAt g j cs)) (hu : P.underlying ty = some (.struct fs))
    (hi : (P.info? ty).map (·.size) = some cs.length) (hk : wpList P ops Q rest (a.put o.dst (.agg cs.toArray)) w) : wpList P ops Q (o :: rest) a w := by
  unfold wpList
  rw [if_pos hw]
  exact .inl (wp_load_mid ty x ho g j hx cs _ h.out hu rfl hi hk)
theorem exec_lookup {P : Program} {w : World} {ρ : Operand → Value} {o : Oper} (T : TypeId) (m x : Operand) (ok : Bool) (ho : o.op = .lookup T m x ok) (M K v : Value) (hm : ρ m = M) (hx : ρ x = K) (hr : (Instr.lookup T M K ok).run P w = .ok v w) :
    (execOp ρ o).run P w = .ok (.value v) w := by
  simp [execOp, ho, hm, hx, hr, Result.andThen]
theorem blk_rng {w : World} {g : Nat} {t : TypeId} {cs : List Value} (h : Blk w g t cs) : w.rangeAt g 0 cs := fun j v hv => by
  rw [Nat.zero_add, h.cell]; exact hv
theorem rng_ext {w w' : World} {g o : Nat} {cs : List Value} (h : w.rangeAt g o cs) (hx : Reg.Ext w w') : w'.rangeAt g o cs := fun j v hv => hx.at_ (h j v hv)
theorem rng_left {w : World} {g o : Nat} {xs ys : List Value} (h : w.rangeAt g o (xs ++ ys)) : w.rangeAt g o xs := fun j v hv => h j v (by
  rw [List.getElem?_append_left (List.getElem?_eq_some_iff.1 hv).1]; exact hv)
theorem run_load1 {P : Program} (w : World) (ty : TypeId) (d : TypeDesc) (hu : P.underlying ty = some d) (hd : d.isRow = false) (ad : Addr) (u : Value) (hc : w.cell? ad = some u) : (Instr.loadAt ty (.pointer (some ad))).run P w = .ok u w := by
  have hagg : (isAgg ty).run P w = .ok false w := by
    unfold isAgg
    rw [Sem.run_bind, run_underlying hu w]
    cases d <;> simp_all [TypeDesc.isRow]
  simp [Instr.loadAt, Instr.sureAddr, loadVar, Sem.run_bind, hagg, hc]
theorem yields_load1 {P : Program} {ops : Array Oper} {S : World → Prop} {op : Oper} {a : Act} (hw : Region.wanted op (yielded ops a.tmps) = true) (ty : TypeId) (x : Operand) (ho : op.op = .load ty x) (ad : Addr) (hx : a.eval x = .pointer (some ad))
    (u : Value) (d : TypeDesc) (hu : P.underlying ty = some d) (hd : d.isRow = false) (hS : ∀ w, S w → w.cell? ad = some u) : YieldsIf P ops S op u a :=
  .inl ⟨hw, fun w h => by
    unfold execOp
    simp only [ho, hx, Sem.run_bind, run_load1 w ty d hu hd ad u (hS w h), Result.andThen_ok, Sem.run_pure]⟩
theorem fold_at (off : Nat) (l : List Value) : ∀ (pre rest : List Value) (k : Nat), pre.length = off + k → l.length ≤ rest.length →
    (l.zipIdx k).foldl (fun (cs : Array Value) (p : Value × Nat) => cs.setIfInBounds (off + p.2) p.1) (pre ++ rest).toArray = (pre ++ l ++ rest.drop l.length).toArray := by
  induction l with
  | nil => intro pre rest k _ _; simp
  | cons c l ih =>
    intro pre rest k hk hl
    cases rest with
    | nil => simp at hl
    | cons r rest =>
      have h2 := ih (pre ++ [c]) rest (k + 1) (by simp; omega) (by simpa using hl)
      rw [List.zipIdx_cons, List.foldl_cons]
      have e : (pre ++ r :: rest).toArray.setIfInBounds (off + k) c = (pre ++ [c] ++ rest).toArray := by
        rw [← hk, List.setIfInBounds_toArray, List.set_append_right _ _ (Nat.le_refl _), Nat.sub_self]
        simp
      simp only at e ⊢
      rw [e, h2]
      simp
theorem But.at_ {w w' : World} {b : Nat} {p : Addr} {v : Value} (h : But b w w') (hc : w.cell? p = some v) (hne : p.block ≠ b) : w'.cell? p = some v := by
  rw [World.cell?_of_block (w := w) (h.block p.block (World.block_lt_of_cell? w _ hc) fun e => hne (by injection e))]
  exact hc
theorem rng_but {w w' : World} {b g o : Nat} {cs : List Value} (h : w.rangeAt g o cs) (hx : But b w w') (hne : g ≠ b) : w'.rangeAt g o cs := fun j v hv => hx.at_ (h j v hv) hne
end Go.Proofs.YtcfdlfedmbmidaaDoor
