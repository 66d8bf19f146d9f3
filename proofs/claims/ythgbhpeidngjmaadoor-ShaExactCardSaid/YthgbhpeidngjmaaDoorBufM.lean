/- A slice of bytes that began as []byte(s): its block bears a mark behind its row; bytes that are appended to it. -/
import Derived.Test.YthgbhpeidngjmaaDoorBuf
set_option linter.unusedSimpArgs false
set_option linter.unusedVariables false
set_option linter.unusedSectionVars false
namespace Go.Proofs.YthgbhpeidngjmaaDoor
open Go Go.RowKit
def MBuf (W0 w : World) (v : Value) (l : List UInt8) : Prop :=
  Reg.Ext W0 w ∧ ∃ g cap cur fz, v = .slice (some ⟨g, 0, none⟩) l.length cap ∧ W0.heap.size ≤ g ∧ w.heap[g]? = some (.cells cur 5 fz) ∧
    (fz.2 ≤ l.length ∨ cur.size ≤ fz.1) ∧ l.length ≤ cap ∧ cap ≤ maxLen ∧ cur.size = cap ∧ cur.toList.take l.length = l.map byteV
theorem MBuf.ext {W0 w : World} {v : Value} {l : List UInt8} (h : MBuf W0 w v l) : Reg.Ext W0 w := h.1
theorem MBuf.later {W0 w w' : World} {v : Value} {l : List UInt8} (h : MBuf W0 w v l) (hx : Reg.Ext w w') : MBuf W0 w' v l := by
  obtain ⟨h1, g, cap, cur, fz, rfl, h2, h3, h4⟩ := h
  refine ⟨h1.trans hx, g, cap, cur, fz, rfl, h2, ?_, h4⟩
  rw [hx.block g (Array.getElem?_eq_some_iff.1 h3).1]; exact h3
theorem MBuf.of (W0 W : World) (hx : Reg.Ext W0 W) (s : ByteArray) (hs : s.size ≤ 274877906944) : ∃ cap w1, (convert 9 44 (.string s)).run Tryd.prog W = .ok (.slice (some ⟨W.heap.size, 0, none⟩) s.size cap) w1 ∧
    MBuf W0 w1 (.slice (some ⟨W.heap.size, 0, none⟩) s.size cap) s.data.toList := by
  refine ⟨_, _, bytes_of s W, (hx.trans (Reg.Ext.drew W)).trans (Reg.Ext.alloc _ _), W.heap.size, _, _, _, by rw [len_data], hx.size, heap_alloc_new W.drew _, .inr (Nat.le_refl _), ?_, ?_, ?_, ?_⟩
  · rw [len_data]; exact grownCap_ge _ _ _ _
  · exact grownCap_le_maxLen _ _ _ _ (by unfold maxLen; omega)
  · have := grownCap_ge W s.size 0 5
    simp [bytesRow]
    have e : s.data.size = s.size := rfl
    omega
  · rw [len_data]
    apply List.ext_getElem?
    intro j
    rw [List.getElem?_take]
    by_cases hj : j < s.size
    · rw [if_pos hj, Array.getElem?_toList, bytesRow_at s _ j hj, List.getElem?_map]
      rw [show s.data.toList[j]? = s.data[j]? from Array.getElem?_toList, Array.getElem?_eq_getElem (show j < s.data.size from hj)]; rfl
    · rw [if_neg hj, List.getElem?_eq_none (by rw [List.length_map, len_data]; omega)]
theorem MBuf.str {W0 w : World} {v : Value} {l : List UInt8} (h : MBuf W0 w v l) : (convert 44 9 v).run Tryd.prog w = .ok (.string ⟨l.toArray⟩) w := by
  obtain ⟨h1, g, cap, cur, fz, rfl, h2, h3, h4, h5, h6, h7, h8⟩ := h
  refine conv_bytes w _ _ 5 Tryd.underlying44 Tryd.underlying5 Tryd.underlying9 g 0 l.length cap l rfl ?_
  intro j hj
  have e := congrArg (fun x => x[j]?) h8
  simp only [List.getElem?_take, List.getElem?_map] at e
  rw [if_pos hj, Array.getElem?_toList, List.getElem?_eq_getElem hj] at e
  rw [Nat.zero_add]
  unfold World.cell?
  rw [h3]
  exact e
/-- append(v, c) -/
theorem MBuf.run_push {W0 w0 : World} {v : Value} {l : List UInt8} (hb : MBuf W0 w0 v l) (c : UInt8) (ty : TypeId) (hl : l.length + 1 ≤ 1099511627776) :
    ∃ v' w', (Builtin.append_ #[44, 44] ty #[v, .slice (some ⟨w0.heap.size, 0, none⟩) 1 1]).run Tryd.prog (w0.alloc (.cells #[.int .u8 (c.toNat : Int)] 5)) = .ok v' w' ∧ MBuf W0 w' v' (l ++ [c]) := by
  obtain ⟨i, hi, hz, hsz, hby⟩ := byteInfo_of
  have ht := Tryd.underlying44
  have hk := Blk.new w0 5 #[.int .u8 (c.toNat : Int)]
  have hx0 := Reg.Ext.alloc w0 (Obj.cells #[.int .u8 (c.toNat : Int)] 5)
  have hb1 := hb.later hx0
  obtain ⟨h1, g, cap, cur, fz, rfl, h2, h3, h4, h5, h6, h7, h8⟩ := hb1
  generalize hw : w0.alloc (.cells #[.int .u8 (c.toNat : Int)] 5) = w at *
  have hnews : ∀ j u, [byteV c][j]? = some u → w.cell? ((⟨w0.heap.size, 0, none⟩ : Addr).add j) = some u := by
    intro j u hj
    match j, hj with
    | 0, hj => injection hj with hj; subst hj; rw [add_plain]; exact hk.cell 0
  by_cases hroom : l.length + 1 ≤ cap
  · have hlt : l.length < cur.size := by omega
    have hf := run_firstCells_some (P := Tryd.prog) w i.size 1 ⟨w0.heap.size, 0, none⟩ 1 1 [byteV c] (by rw [hsz]; rfl) hnews
    rw [hsz] at hf
    have hcell : w.cell? ⟨g, l.length, none⟩ = some cur[l.length] := by simp [World.cell?, h3, hlt]
    have hfro : w.frozen? ⟨g, l.length, none⟩ = false := by
      obtain ⟨lo, hi'⟩ := fz
      simp only [World.frozen?, h3, Bool.and_eq_false_iff, decide_eq_false_iff_not]
      simp only at h4
      rcases h4 with h4 | h4
      · right; omega
      · left; omega
    have hst : (store ⟨g, l.length, none⟩ (byteV c)).run Tryd.prog w = .ok () (w.setRow g (cur.setIfInBounds l.length (byteV c))) := by
      rw [run_store Tryd.prog w _ (byteV c) _ rfl, hcell]
      simp [hfro, setCell_eq_setRow w g l.length cur 5 fz (byteV c) h3]
    have hst' : (storeCells ⟨g, l.length, none⟩ [byteV c] 0).run Tryd.prog w = .ok () (w.setRow g (cur.setIfInBounds l.length (byteV c))) := by
      simp only [storeCells, Sem.run_bind, add_plain, Nat.add_zero, hst, Result.andThen_ok]
      rfl
    refine ⟨.slice (some ⟨g, 0, none⟩) (l.length + 1) cap, w.setRow g (cur.setIfInBounds l.length (byteV c)), ?_, ?_, g, cap, cur.setIfInBounds l.length (byteV c), fz, ?_, h2, setRow_heap w g cur _ _ _ h3, ?_, ?_, h6, ?_, ?_⟩
    · simp [Builtin.append_, run_underlying ht, sizeOf, typeInfo, hi, Builtin.lenOf, hroom, hf, add_plain, hsz, hst']
    · refine ⟨h1.os, h1.tape, h1.output, ?_, fun k hk => ?_⟩
      · rw [setRow_size]; exact h1.size
      · rw [setRow_other w g k _ (by omega)]; exact h1.block k hk
    · rw [List.length_append]; rfl
    · rw [List.length_append, Array.size_setIfInBounds]
      rcases h4 with h4 | h4
      · left; simp; omega
      · right; exact h4
    · rw [List.length_append]; exact hroom
    · rw [Array.size_setIfInBounds]; exact h7
    · rw [List.length_append, List.map_append, Array.toList_setIfInBounds, List.length_singleton, List.take_add_one, List.take_set_of_le (Nat.le_refl _), h8, List.getElem?_set_self (by rw [Array.length_toList]; exact hlt)]
      rfl
  · have holds : ∀ j u, (l.map byteV)[j]? = some u → w.cell? ((⟨g, 0, none⟩ : Addr).add j) = some u := by
      intro j u hu
      rw [add_plain, Nat.zero_add]
      rw [← h8, List.getElem?_take] at hu
      split at hu
      · unfold World.cell?
        rw [h3]
        simpa using hu
      · cases hu
    have hr := run_append_grow (P := Tryd.prog) w 44 ty 5 i (.int .u8 0) ht hi hz ⟨g, 0, none⟩ l.length cap (l.map byteV) (by simp [hsz]) holds ⟨w0.heap.size, 0, none⟩ 1 1 [byteV c] (by simp [hsz]) hnews (by omega) (by omega) (growslice_fits (by omega) (by rw [hby]; omega))
    have hge := grownCap_ge w (l.length + 1) cap 5
    have hcm2 : grownCap w (l.length + 1) cap 5 ≤ maxLen := grownCap_le_maxLen w (l.length + 1) cap 5 (by unfold maxLen; omega)
    refine ⟨_, _, hr, (h1.trans (Reg.Ext.drew _)).trans (Reg.Ext.alloc _ _), w.heap.size, _, _, (0, 0), ?_, h1.size, heap_alloc_new w.drew _, .inl (Nat.zero_le _), ?_, hcm2, ?_, ?_⟩
    · rw [List.length_append]; rfl
    · rw [List.length_append]; exact hge
    · simp only [Array.size_append, List.size_toArray, size_zeroCells, List.length_map, List.length_append, List.length_singleton]
      have e : (Value.int IntKind.u8 0).cells.size = 1 := rfl
      rw [e]
      omega
    · simp only [Array.toList_append, List.append_assoc, List.map_append]
      rw [← List.append_assoc]
      exact List.take_left' (by simp)
section
variable {ops : Array Oper} {rest : List Oper} {o : Oper} {a : Act} {Q : Exit → Act → World → Prop}
theorem MBuf.push1 (hgd : o.guard = none) (s x : Operand) (ho : o.op = .call { callee := .builtin .append, args := #[s, x], argTypes := #[44, 44] })
    (v : Value) (l : List UInt8) (hs : a.eval s = v) (W0 w0 : World) (n : Int) (c : UInt8) (hn : n = (c.toNat : Int)) (hb : MBuf W0 w0 v l) (hx : a.eval x = .slice (some ⟨w0.heap.size, 0, none⟩) 1 1) (hl : l.length + 1 ≤ 1099511627776)
    (h : ∀ v' w', MBuf W0 w' v' (l ++ [c]) → wpList Tryd.prog ops Q rest (a.put o.dst v') w') : wpList Tryd.prog ops Q (o :: rest) a (w0.alloc (.cells #[.int .u8 n] 5)) := by
  subst hn
  refine wpList_plain hgd fun K hK => ?_
  obtain ⟨v', w', hr, h2⟩ := hb.run_push c o.type hl
  unfold Oper.wp execOp
  simp only [ho, resolve, invoke, builtin, Sem.run_bind, Sem.run_pure, Result.andThen_ok, List.map_toArray, List.map_cons, List.map_nil, hs, hx, hr]
  exact hK _ _ (h v' w' h2)
end
end Go.Proofs.YthgbhpeidngjmaaDoor
