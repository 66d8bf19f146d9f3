/- The nil table; what a law holds behind a Put. -/
import Derived.Test.YtcfdlfedmbmidaaDoorCloseTk
import Derived.Test.YtcfdlfedmbmidaaDoorTkZ
set_option linter.unusedSimpArgs false
set_option linter.unusedVariables false
set_option linter.unusedSectionVars false
namespace Go.Proofs.YtcfdlfedmbmidaaDoor
open Go Go.RowKit
namespace Tk
set_option maxRecDepth 100000 in
theorem put_nil (w : World) : Calls Tryd.prog 15 #[.pointer none, .agg zT.cells.toArray] w fun e w' => e = .returned (.tuple #[.agg zT.cells.toArray, .bool false, .int .i64 2]) ∧ Reg.Ext w w' := by
  have hx1 := Reg.Ext.alloc w (Obj.cells zT.cells.toArray 25)
  have hz1 : (w.alloc (Obj.cells zT.cells.toArray 25)).heap.size = w.heap.size + 1 := by rw [size_up]
  have hb2 := boxT (w.alloc (Obj.cells zT.cells.toArray 25)) zT
  have hx2 := Reg.Ext.alloc (w.alloc (Obj.cells zT.cells.toArray 25)) (Obj.cells zT.cells.toArray 25)
  rw [hz1] at hb2
  have HB2 := Lib.hid hb2
  have HX2 := Lib.hid (hx1.trans hx2)
  clear hb2 hx1 hx2 hz1
  go_enter Tryd.func15, Tryd.ntmps15
  go_upto_region 1 with (fail)
  rw [z38]
  generalize (w.alloc (Obj.cells zT.cells.toArray 25)).alloc (Obj.cells zT.cells.toArray 25) = w2 at *
  generalize hg3 : w.heap.size = g3 at *
  have HG3 := Lib.hid hg3
  clear hg3
  go_upto_region 2 with (fail)
  refine wp_region_lit ?_
  refine wpList_val rfl (.agg zT.cells.toArray) (by as_aux_lemma => kernel_rfl) ?_
  simp only [Act.put, Act.eval, List.setIfInBounds_toArray, List.set_cons_zero, List.set_cons_succ, Nat.reduceAdd, Array.getD_eq_getD_getElem?, List.getElem?_toArray, List.getElem?_cons_succ, List.getElem?_cons_zero, Option.getD_some]
  refine wpList_store_mid rfl 25 _ _ rfl (g3 + 1) 0 (zT).cells.toArray rfl ?_ ((HB2.out).there _ (by have e1 := (zT).len rfl; have e2 := (zT).len rfl; rw [List.size_toArray]; omega)) (by rw [List.size_toArray, (zT).len rfl]; exact sizeT) (all_oneCell_toArray (T.one _)) ?_
  · rfl
  simp only [List.toList_toArray]
  simp only [Act.put, Act.eval, List.setIfInBounds_toArray, List.set_cons_zero, List.set_cons_succ, Nat.reduceAdd, Array.getD_eq_getD_getElem?, List.getElem?_toArray, List.getElem?_cons_succ, List.getElem?_cons_zero, Option.getD_some]
  have HB4 := Lib.hid (HB2.out.setAll zT.cells rfl)
  have HX4 := Lib.hid (HX2.out.trans_but (But.setCells (g3 + 1) zT.cells 0 w2) (by rw [HG3.out]; omega))
  generalize w2.setCells (g3 + 1) 0 zT.cells = w4 at *
  go_wp2_with fail
  exact bodyPost_ret (results_tk3 rfl _ _ (g3 + 1) 25 zT.cells.toArray (0, 0) rfl HB4.out (by exact sizeT)) rfl ⟨rfl, HX4.out⟩
set_option maxRecDepth 100000 in
theorem get_nil (r t : ByteArray) (w : World) : Calls Tryd.prog 17 #[.pointer none, .string r, .string t] w fun e w' => e = .returned (.tuple #[.agg zT.cells.toArray, .bool false]) ∧ Reg.Ext w w' := by
  have hx2 := Reg.Ext.alloc w (Obj.cells zT.cells.toArray 25)
  have HB2 := Lib.hid (boxT w zT)
  have HX2 := Lib.hid hx2
  clear hx2
  go_enter Tryd.func17, Tryd.ntmps17
  go_upto_region 1 with (fail)
  rw [z38]
  generalize w.alloc (Obj.cells zT.cells.toArray 25) = w2 at *
  generalize hg3 : w.heap.size = g3 at *
  have HG3 := Lib.hid hg3
  clear hg3
  go_upto_region 2 with (fail)
  refine wp_region_lit ?_
  refine wpList_val rfl (.agg zT.cells.toArray) (by as_aux_lemma => kernel_rfl) ?_
  simp only [Act.put, Act.eval, List.setIfInBounds_toArray, List.set_cons_zero, List.set_cons_succ, Nat.reduceAdd, Array.getD_eq_getD_getElem?, List.getElem?_toArray, List.getElem?_cons_succ, List.getElem?_cons_zero, Option.getD_some]
  refine wpList_store_mid rfl 25 _ _ rfl g3 0 (zT).cells.toArray rfl ?_ ((HB2.out).there _ (by have e1 := (zT).len rfl; have e2 := (zT).len rfl; rw [List.size_toArray]; omega)) (by rw [List.size_toArray, (zT).len rfl]; exact sizeT) (all_oneCell_toArray (T.one _)) ?_
  · rfl
  simp only [List.toList_toArray]
  simp only [Act.put, Act.eval, List.setIfInBounds_toArray, List.set_cons_zero, List.set_cons_succ, Nat.reduceAdd, Array.getD_eq_getD_getElem?, List.getElem?_toArray, List.getElem?_cons_succ, List.getElem?_cons_zero, Option.getD_some]
  have HB4 := Lib.hid (HB2.out.setAll zT.cells rfl)
  have HX4 := Lib.hid (HX2.out.trans_but (But.setCells g3 zT.cells 0 w2) (by rw [HG3.out]; omega))
  generalize w2.setCells g3 0 zT.cells = w4 at *
  go_wp2_with fail
  exact bodyPost_ret (results_tk rfl _ _ g3 25 zT.cells.toArray (0, 0) rfl HB4.out (by exact sizeT)) rfl ⟨rfl, HX4.out⟩
theorem drop_nil (r t : ByteArray) (w : World) : Calls Tryd.prog 19 #[.pointer none, .string r, .string t] w fun e w' => e = .returned (.bool false) ∧ w = w' := by
  go_enter Tryd.func19, Tryd.ntmps19
  go_wp2_with fail
  go_ret
  exact ⟨rfl, rfl⟩
theorem len_nil (w : World) : Calls Tryd.prog 21 #[.pointer none] w fun e w' => e = .returned (.int .i64 0) ∧ w = w' := by
  go_enter Tryd.func21, Tryd.ntmps21
  go_wp2_with fail
  go_ret
  exact ⟨rfl, rfl⟩
theorem list_nil (w : World) : Calls Tryd.prog 23 #[.pointer none] w fun e w' => e = .returned (.slice none 0 0) ∧ w = w' := by
  go_enter Tryd.func23, Tryd.ntmps23
  go_wp2_with fail
  go_ret
  exact ⟨rfl, rfl⟩
/-- behind a Put that went well: the table, the ticket's box, the box of the one that had to go, the list -/
structure Aft (W0 w : World) (b : Nat) (v : Value) (p : P) (g9 : Nat) (x : T) (g11 : Nat) (gz : T) (vl : Value) : Prop where
  lw : Lw 62 W0 w b v p
  bx : Bo w b v g9 25 x.cells
  bg : Blk w g11 25 gz.cells
  li : LT 0 w vl p.l
theorem Aft.ext {W0 w w' : World} {b : Nat} {v : Value} {p : P} {g9 : Nat} {x : T} {g11 : Nat} {gz : T} {vl : Value} (h : Aft W0 w b v p g9 x g11 gz vl) (hx : Reg.Ext w w') : Aft W0 w' b v p g9 x g11 gz vl :=
  ⟨h.lw.ext hx, h.bx.ext hx, h.bg.ext hx, h.li.ext hx⟩
theorem put_mem {p : P} {x g : T} (hg : (p.put x).1 = some g) : g ∈ p.l := by
  unfold P.put at hg
  split at hg
  · cases hg
  · split at hg
    · cases hg
    · split at hg
      · cases hg
      · rename_i z hz
        injection hg with hg
        subst hg
        exact oldest_mem hz
theorem put_fit {p : P} {x : T} (h : Fit p.l) : ((p.put x).1.getD zT).dig.length = 32 := by
  cases hq : (p.put x).1 with
  | none => rfl
  | some g => exact h g (put_mem hq)
/-- two rows' neighbours -/
theorem near_names {l : List T} (h : Nmd.Up nm l) {k : Nat} (hk : k + 1 < l.length) :
    (Op.bytesLess l[k + 1].repo l[k].repo = false ∧ (l[k].repo == l[k + 1].repo) = false) ∨ (l[k].repo = l[k + 1].repo ∧ Op.bytesLess l[k].repo l[k].repo = false ∧ Op.bytesLess l[k].tag l[k + 1].tag = true) := by
  rcases up_lt h hk with h1 | ⟨h1, h2⟩
  · refine .inl ⟨(bytesLess_eq _ _).trans (decide_eq_false fun h2 => List.lt_irrefl _ (List.lt_trans h1 h2)), beq_eq_false_iff_ne.2 fun e => ?_⟩
    rw [e] at h1
    exact List.lt_irrefl _ h1
  · exact .inr ⟨h1, (bytesLess_eq _ _).trans (decide_eq_false (List.lt_irrefl _)), (bytesLess_eq _ _).trans (decide_eq_true h2)⟩
theorem TA.tail {W : World} {g o : Nat} {u : TA} (h : W.rangeAt g o u.cells) : W.rangeAt g (o + 1) u.x.cells := fun j v hv => by
  have := h (j + 1) v (by unfold TA.cells; rw [List.getElem?_cons_succ]; exact hv)
  rw [show o + 1 + j = o + (j + 1) by omega]
  exact this
theorem TA.head {W : World} {g o : Nat} {u : TA} (h : W.rangeAt g o u.cells) : W.cell? ⟨g, o, none⟩ = some (.int .i64 u.k) := h 0 _ rfl
end Tk
end Go.Proofs.YtcfdlfedmbmidaaDoor
