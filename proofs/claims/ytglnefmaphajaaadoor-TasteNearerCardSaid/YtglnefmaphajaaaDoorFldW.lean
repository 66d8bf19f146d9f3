/- A header field in memory: loaded whole, stored whole. -/
import Derived.Test.YtglnefmaphajaaaDoorFlds
import Derived.Test.YtglnefmaphajaaaDoorBlk
set_option linter.unusedSimpArgs false
set_option linter.unusedVariables false
set_option linter.unusedSectionVars false
namespace Go.Proofs.YtglnefmaphajaaaDoor
open Go Go.RowKit
def fv (f : Fld) : Value := .agg #[.string f.1, .string f.2]
theorem Tryd.fldUnd : Tryd.prog.underlying 35 = some (.struct (Tryd.prog.fieldsOf 35)) := by kernel_rfl
theorem Tryd.fldSize : (Tryd.prog.info? 35).map (·.size) = some 2 := by kernel_rfl
theorem fld_range {w : World} {g o : Nat} {f : Fld} (h0 : w.cell? ⟨g, o, none⟩ = some (.string f.1)) (h1 : w.cell? ⟨g, o + 1, none⟩ = some (.string f.2)) : w.rangeAt g o [.string f.1, .string f.2] := by
  intro j v hv
  match j, hv with
  | 0, hv => injection hv with hv; subst hv; exact h0
  | 1, hv => injection hv with hv; subst hv; exact h1
section
variable {ops : Array Oper} {rest : List Oper} {o : Oper} {a : Act} {w : World} {Q : Exit → Act → World → Prop}
theorem wpList_fld (hw : Region.wanted o (yielded ops a.tmps) = true) (x : Operand) (ho : o.op = .load 35 x)
    (g off : Nat) (hx : a.eval x = .pointer (some ⟨g, off, none⟩)) (f : Fld) (h0 : w.cell? ⟨g, off, none⟩ = some (.string f.1)) (h1 : w.cell? ⟨g, off + 1, none⟩ = some (.string f.2))
    (hk : wpList Tryd.prog ops Q rest (a.put o.dst (fv f)) w) : wpList Tryd.prog ops Q (o :: rest) a w := by
  unfold wpList
  rw [if_pos hw]
  exact .inl (wp_load_mid _ x ho g off hx [.string f.1, .string f.2] _ (fld_range h0 h1) Tryd.fldUnd rfl Tryd.fldSize hk)
theorem wpList_stf (hgd : o.guard = none) (x y : Operand) (ho : o.op = .store 35 x y)
    (g : Nat) (f : Fld) (hx : a.eval x = .pointer (some ⟨g, 0, none⟩)) (hy : a.eval y = fv f) (cs : List Value) (hl : cs.length = 2) (hb : Hid (Blk w g 35 cs))
    (h : wpList Tryd.prog ops Q rest (a.put o.dst undef) (w.setCells g 0 [.string f.1, .string f.2])) : wpList Tryd.prog ops Q (o :: rest) a w := by
  refine wpList_store_mid hgd 35 x y ho g 0 #[.string f.1, .string f.2] hx hy ?_ Tryd.fldSize (by simp [Value.oneCell']) h
  exact hb.out.there 2 (by omega)
end
theorem newf (w : World) (f : Fld) (cs : Array Value) (hl : cs.size = 2) : Blk ((w.alloc (Obj.cells cs 35)).setCells w.heap.size 0 [.string f.1, .string f.2]) w.heap.size 35 [.string f.1, .string f.2] ∧ Reg.Ext w ((w.alloc (Obj.cells cs 35)).setCells w.heap.size 0 [.string f.1, .string f.2]) := by
  refine ⟨(Blk.new w _ cs).setAll _ (by simp [hl]), ?_⟩
  exact (Reg.Ext.alloc w _).trans_but (But.setCells w.heap.size _ 0 _) (Nat.le_refl _)
theorem boxf (w : World) (f : Fld) : Blk (w.alloc (Obj.cells #[.string f.1, .string f.2] 35)) w.heap.size 35 [.string f.1, .string f.2] := Blk.new w _ _
end Go.Proofs.YtglnefmaphajaaaDoor
