/- A slice of doubles that a call makes and appends to. -/
import Derived.Test.YtbppjbheennphaaTermRatio
import Derived.Lib.BufSteps
import Derived.Laws.AppendOwn
import Derived.Laws.MakeOwn
set_option linter.unusedSimpArgs false
set_option linter.unusedVariables false
set_option linter.unusedSectionVars false
namespace Go.Proofs.Ytbppjbheennphaa
open Go Go.RowKit
namespace Trm
/-- v owns just these numbers, in a block made since W0; all that there was in W0 is as it was -/
def FBuf (W0 w : World) (v : Value) (l : List Nat) : Prop := Lib.OwnBuf W0.heap.size 22 v l.length (l.map fV) W0 w
theorem floatInfo_of : ∃ i, Try.prog.info? 22 = some i ∧ i.zero = some (.float .f64 0) ∧ i.size = 1 ∧ i.bytes = 8 := by
  have h : (Try.prog.info? 22).map (fun i => (i.zero, i.size, i.bytes)) = some (some (.float .f64 0), 1, 8) := by kernel_rfl
  obtain ⟨i, hi, h⟩ := Option.map_eq_some_iff.1 h
  simp only [Prod.mk.injEq] at h
  exact ⟨i, hi, h.1, h.2.1, h.2.2⟩
theorem FBuf.ext {W0 w : World} {v : Value} {l : List Nat} (h : FBuf W0 w v l) : Reg.Ext W0 w := h.2.1
theorem FBuf.later {W0 w w' : World} {v : Value} {l : List Nat} (h : FBuf W0 w v l) (hx : Reg.Ext w w') : FBuf W0 w' v l := by
  refine ⟨h.1.kept (row := none) ⟨hx.os, hx.tape, hx.output, hx.size, fun i hi _ => hx.block i hi⟩ ?_, (show Reg.Ext W0 w from h.2.1).trans hx, Nat.le_trans h.2.2 hx.size⟩
  cases hv : v.ownBlock with
  | none => exact .inl rfl
  | some k => exact .inr (by simp)
theorem FBuf.empty (W0 W : World) (hx : Reg.Ext W0 W) : FBuf W0 (W.alloc (.cells #[] 22)) (.slice (some ⟨W.heap.size, 0, none⟩) 0 0) [] := by
  refine ⟨⟨rfl, .inr ⟨W.heap.size, 0, #[], (0, 0), rfl, hx.size, heap_alloc_new W _, by simp, Nat.zero_le _, by unfold maxLen; omega, by simp, by simp⟩⟩, hx.trans (Reg.Ext.alloc _ _), ?_⟩
  exact Nat.le_trans hx.size (Reg.Ext.alloc W _).size
theorem FBuf.nil_ (W0 w : World) (hx : Reg.Ext W0 w) : FBuf W0 w (.slice none 0 0) [] := ⟨World.ownsRowF_nil _ _ _ _, hx, hx.size⟩
theorem FBuf.rd {W0 w : World} {v : Value} {l : List Nat} (h : FBuf W0 w v l) : ∃ A c, v = .slice A l.length c ∧ Rd w A (l.map fV) := by
  rcases h.1.2 with ⟨rfl, hn⟩ | ⟨g, cap, cur, fz, rfl, hg, hc, -, -, -, hsz, ht⟩
  · have : l = [] := List.eq_nil_of_length_eq_zero hn
    subst this
    exact ⟨none, 0, rfl, Rd.nil_ _ _⟩
  · refine ⟨_, cap, rfl, fun k hk => ⟨⟨g, 0, none⟩, rfl, ?_, ?_⟩⟩
    · rcases Nat.lt_or_ge g w.heap.size with hlt | hge
      · exact hlt
      · rw [Array.getElem?_eq_none hge] at hc; cases hc
    · exact h.1.cells (g := g) rfl k _ (List.getElem?_eq_getElem hk)
/-- append(v, x) -/
theorem FBuf.push1 {ops : Array Oper} {rest : List Oper} {o : Oper} {a : Act} {Q : Exit → Act → World → Prop} (hgd : o.guard = none) (s x : Operand) (ho : o.op = .call { callee := .builtin .append, args := #[s, x], argTypes := #[33, 33] })
    (v : Value) (l : List Nat) (hs : a.eval s = v) (W0 w0 : World) (b : Nat) (hb : FBuf W0 w0 v l) (hx : a.eval x = .slice (some ⟨w0.heap.size, 0, none⟩) 1 1) (hl : l.length + 1 ≤ 1099511627776)
    (h : ∀ v' w', FBuf W0 w' v' (l ++ [b]) → wpList Try.prog ops Q rest (a.put o.dst v') w') : wpList Try.prog ops Q (o :: rest) a (w0.alloc (.cells #[.float .f64 b] 22)) := by
  obtain ⟨i, hi, hz, hsz, hby⟩ := floatInfo_of
  have hb' := Lib.OwnBuf.alloc hb (.cells #[.float .f64 b] 22)
  refine Go.wpList_append_ownF _ hgd s x 33 ho W0.heap.size 22 i (.float .f64 0) 1 8 Try.underlying33 hi hz hsz hby rfl (by decide) v l.length (l.map fV) hs hb'.1 ⟨w0.heap.size, 0, none⟩ 1 1 [.float .f64 b] hx rfl ?_ ?_ (by unfold maxLen; omega) (by omega) hb'.2.2 ?_
  · intro j u hj
    match j, hj with
    | 0, hj => simp at hj; subst hj; simp [Addr.add]
    | (j + 1), hj => simp at hj
  · intro u hu; simp at hu; subst hu; rfl
  · intro v' w' ho' hg _
    refine h v' w' ?_
    unfold FBuf
    rw [List.length_append, List.map_append]
    exact Lib.OwnBuf.grown hb' ho' hg
end Trm
end Go.Proofs.Ytbppjbheennphaa
