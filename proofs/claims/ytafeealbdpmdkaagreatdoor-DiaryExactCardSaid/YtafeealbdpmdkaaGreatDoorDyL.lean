/- Slips in a law: loads, rows of one or two, a row that grows; touch. -/
import Derived.Test.YtafeealbdpmdkaaGreatDoorDyE
import Derived.Maps.AppendAt
set_option linter.unusedSimpArgs false
set_option linter.unusedVariables false
set_option linter.unusedSectionVars false
open Go.Act renaming put → z_1, eval → z_2
open List renaming setIfInBounds_toArray → z_3, set_cons_zero → z_4, set_cons_succ → z_5, getElem?_toArray → z_7, getElem?_cons_succ → z_8, getElem?_cons_zero → z_9
open Array renaming getD_eq_getD_getElem? → z_6
open Option renaming getD_some → z_0
open Go.Lib renaming hid → y_
open List renaming size_toArray → z_a
open Nat renaming reduceAdd → z_b
open List renaming toList_toArray → z_c
-- squeezed
namespace Go.Proofs.YtafeealbdpmdkaaGreatDoor
open Go Go.RowKit
namespace Slp
/-! ### rows -/
theorem fold_at (off : Nat) (l : List Value) : ∀ (pre rest : List Value) (k : Nat), pre.length = off + k → l.length ≤ rest.length →
  (l.zipIdx k).foldl (fun (cs : Array Value) (p : Value × Nat) => cs.setIfInBounds (off + p.2) p.1) (pre ++ rest).toArray = (pre ++ l ++ rest.drop l.length).toArray := by
 induction l with
 | nil => intro pre rest k _ _; simp
 | cons c l ih =>
   intro pre rest k hk hl
   cases rest with
   | nil => simp at hl
   | cons r rest =>
     have h2 := ih (pre ++ [c]) rest (k + 1) (by simp; omega) (by simpa using hl)
     rw [List.zipIdx_cons, List.foldl_cons]
     have e : (pre ++ r :: rest).toArray.setIfInBounds (off + k) c = (pre ++ [c] ++ rest).toArray := by
      rw [← hk, List.setIfInBounds_toArray, List.set_append_right _ _ (Nat.le_refl _), Nat.sub_self]
      simp
     simp only at e ⊢
     rw [e, h2]
     simp
theorem fill_two (c1 c2 z : Array Value) (size : Nat) (h1 : c1.size = size) (h2 : c2.size = size) (hz : z.size = 2 * size) :
  Instr.fill (fun i => some (i * size, size)) z [(0, .agg c1), (1, .agg c2)] = some (c1 ++ c2) := by
 have hv : ∀ cs, (Value.agg cs).cells = cs := fun _ => rfl
 have a := fold_at 0 c1.toList [] z.toList 0 rfl (by simp; omega)
 have b := fold_at size c2.toList c1.toList (z.toList.drop c1.toList.length) 0 (by simpa using h1) (by simp; omega)
 simp only [List.nil_append, Array.toArray_toList] at a
 have hd : (z.toList.drop c1.toList.length).drop c2.toList.length = [] := by
  rw [List.drop_drop, List.drop_of_length_le]
  simp; omega
 rw [hd, List.append_nil] at b
 unfold Instr.fill
 simp only [hv, Nat.zero_mul]
 rw [if_neg (by simp [h1]; omega)]
 rw [← Array.foldl_toList, Array.toList_zipIdx, a]
 unfold Instr.fill
 simp only [hv, Nat.one_mul]
 rw [if_neg (by simp [h1, h2]; omega)]
 unfold Instr.fill
 rw [← Array.foldl_toList, Array.toList_zipIdx, b]
 simp
theorem run_two_rows {P : Program} (w : World) (t e : TypeId) (c1 c2 : Array Value) (i : TypeInfo) (z : Value) (ht : P.underlying t = some (.slice e)) (hi : P.info? e = some i) (hz : i.zero = some z) (h1 : i.size = c1.size) (h2 : i.size = c2.size) (h0 : 0 < c1.size) (hm : 2 * c1.size ≤ 16777216) :
  (Instr.buildSlice t 2 #[(0, .agg c1), (1, .agg c2)]).run P w = .ok (.slice (some ⟨w.heap.size, 0, none⟩) 2 2) (w.alloc (.cells (c1 ++ c2) e)) := by
 have hf := fill_two c1 c2 ((Array.range (2 * c1.size)).map (z.cells[· % z.cells.size]!)) c1.size rfl (by omega) (by simp)
 have a1 : (sizeOf e).run P w = .ok c1.size w := by simp [sizeOf, run_typeInfo w hi, h1]
 have a2 : (zeroValue e).run P w = .ok z w := by simp [zeroValue, run_typeInfo w hi, hz]
 have a3 : ∀ cs, (newRow e cs).run P w = .ok ⟨w.heap.size, 0, none⟩ (w.alloc (.cells cs e)) := fun cs => by simp [newRow, go_sem]
 unfold Instr.buildSlice
 simp only [Sem.run_bind, run_underlying ht, Result.andThen_ok, a1]
 simp only [Sem.run_bind, Result.andThen_ok, if_neg (show ¬ 2 * c1.size > 2 ^ 24 by omega), if_neg (show ¬ 2 * c1.size = 0 by omega), a2, Sem.run_pure]
 rw [hf]
 simp only [Sem.run_bind, Result.andThen_ok, a3, Sem.run_pure]
theorem rds_of {w : World} {g : Nat} {xs : List S} (hd : ∀ x ∈ xs, x.dig.length = 32) (hb : Blk w g 39 (flat xs)) (hm : xs.length ≤ maxLen) (c : Nat) : RdS (.slice (some ⟨g, 0, none⟩) xs.length c) xs w :=
 ⟨hd, _, c, rfl, hm, fun j hj => ⟨g, 0, rfl, fun i v hv => by
  have := flat_at xs hd j hj i v hv
  rw [Nat.zero_add, hb.cell]; exact this⟩⟩
section
variable {ops : Array Oper} {rest : List Oper} {o : Oper} {a : Act} {w : World} {Q : Exit → Act → World → Prop}
/-- a slip loaded -/
theorem wpList_sl (x : Operand) (ho : o.op = .load 39 x) (g off : Nat) (hx : a.eval x = .pointer (some ⟨g, off, none⟩)) (u : S) (hu : u.dig.length = 32) (h : Hid (w.rangeAt g off u.cells))
  (hw : Region.wanted o (yielded ops a.tmps) = true) (hk : wpList Tryz.prog ops Q rest (a.put o.dst (.agg u.cells.toArray)) w) : wpList Tryz.prog ops Q (o :: rest) a w :=
 wpList_ldm hw _ x ho g off hx u.cells _ h undS (by rw [cells_length u hu]; exact size38) hk
theorem wpList_any {P : Program} (hw : Region.wanted o (yielded ops a.tmps) = true) (v : Value) (w' : World)
  (hr : (execOp a.eval o).run P w = .ok (.value v) w') (hk : wpList P ops Q rest (a.put o.dst v) w') : wpList P ops Q (o :: rest) a w := by
 unfold wpList
 rw [if_pos hw]
 refine .inl ?_
 unfold Oper.wp
 rw [hr]
 exact hk
/-- a row of one -/
theorem wpList_r1 (x : Operand) (ho : o.op = .buildSlice 29 1 #[(0, x)]) (u : S) (hu : u.dig.length = 32) (hx : a.eval x = .agg u.cells.toArray)
  (hw : Region.wanted o (yielded ops a.tmps) = true) (hk : ∀ g w', g = w.heap.size → g < w'.heap.size → Reg.Ext w w' → Blk w' g 39 u.cells → RdS (.slice (some ⟨g, 0, none⟩) 1 1) [u] w' → wpList Tryz.prog ops Q rest (a.put o.dst (.slice (some ⟨g, 0, none⟩) 1 1)) w') : wpList Tryz.prog ops Q (o :: rest) a w := by
 obtain ⟨i0, hi, hz0, hz1, hz2, hz3⟩ := slipInfo_of
 refine wpList_any hw _ _ (exec_one_row w _ _ x 29 39 u.cells.toArray ho hx i0 (.agg S.none.cells.toArray) Tryz.underlying29 hi hz0 (by rw [hz1, z_a, cells_length u hu]) (by rw [z_a, cells_length u hu]; decide) (by rw [z_a, cells_length u hu]; decide)) ?_
 have hb := boxS w u
 exact hk _ _ rfl hb.lt (Reg.Ext.alloc _ _) hb (rds_of (xs := [u]) (fun y hy => by rw [List.mem_singleton.1 hy]; exact hu) (by simpa [flat] using hb) (by unfold maxLen; simp) 1)
/-- a row of two -/
theorem wpList_r2 (x y : Operand) (ho : o.op = .buildSlice 29 2 #[(0, x), (1, y)]) (u v : S) (hu : u.dig.length = 32) (hv : v.dig.length = 32) (hx : a.eval x = .agg u.cells.toArray) (hy : a.eval y = .agg v.cells.toArray)
  (hw : Region.wanted o (yielded ops a.tmps) = true) (hk : ∀ g w', g = w.heap.size → Reg.Ext w w' → RdS (.slice (some ⟨g, 0, none⟩) 2 2) [u, v] w' → wpList Tryz.prog ops Q rest (a.put o.dst (.slice (some ⟨g, 0, none⟩) 2 2)) w') : wpList Tryz.prog ops Q (o :: rest) a w := by
 obtain ⟨i0, hi, hz0, hz1, hz2, hz3⟩ := slipInfo_of
 have h := run_two_rows w 29 39 u.cells.toArray v.cells.toArray i0 (.agg S.none.cells.toArray) Tryz.underlying29 hi hz0 (by rw [hz1, z_a, cells_length u hu]) (by rw [hz1, z_a, cells_length v hv]) (by rw [z_a, cells_length u hu]; decide) (by rw [z_a, cells_length u hu]; decide)
 refine wpList_any hw (.slice (some ⟨w.heap.size, 0, none⟩) 2 2) (w.alloc (.cells (u.cells.toArray ++ v.cells.toArray) 39)) ?_ ?_
 ·unfold execOp
  rw [ho]
  simp only [List.map_toArray, List.map_cons, List.map_nil, hx, hy, Sem.run_bind, h, Result.andThen_ok, Sem.run_pure]
 ·have hb : Blk (w.alloc (.cells (u.cells.toArray ++ v.cells.toArray) 39)) w.heap.size 39 (flat [u, v]) := by
   have := Blk.new w 39 (u.cells.toArray ++ v.cells.toArray)
   simpa [flat] using this
  exact hk _ _ rfl (Reg.Ext.alloc _ _) (rds_of (xs := [u, v]) (fun y hy => by
   rcases List.mem_cons.1 hy with rfl | hy
   ·exact hu
   ·rw [List.mem_singleton.1 hy]; exact hv) hb (by unfold maxLen; simp) 2)
end
end Slp
namespace Plk
open Slp (S good frame body frames allP Row RdS)
theorem rew_eq {w : World} {d mp : Nat} {es : List E} {p q : P} {g : Nat} {y z : Y} {v : Int} (h : Dy w d mp es p g y) (hb : p.h.ops + 5 < big) (xs : List S) (u : Value) (ha : RdS u xs w) (hl : xs.length ≤ 1000) (hT : Crc.Tab w) (e : rewP p y xs = (v, q, z)) :
  Calls Tryz.prog 25 #[.pointer (some ⟨g, 0, none⟩), u] w (ResY d mp g w es (.int .i64 v) q z) := by
 have := rewrite_any h hb xs u ha hl hT
 rw [e] at this; exact this
theorem Held.rd {w : World} {d mp : Nat} {es : List E} {g B : Nat} {v : Value} {xs : List S} (h : Held w d mp es g B v xs) : RdS v xs w := h.1.rd
/-- a slip of a digest -/
def tS (n : UInt8) : S := ⟨6, Slp.noStr, Slp.noStr, n :: List.replicate 31 0, Slp.noStr, 0, 0⟩
theorem tS_dig (n : UInt8) : (tS n).dig.length = 32 := rfl
set_option maxRecDepth 100000 in
set_option maxHeartbeats 1000000 in
theorem touch_1 (w : World) : Calls Tryz.prog 35 #[.int .i64 1] w fun e w' => e = .returned (.agg (tS 1).cells.toArray) ∧ Reg.Ext w w' := by
 have hb0 := Slp.boxS w S.none
 have hx0 := Reg.Ext.alloc w (Obj.cells S.none.cells.toArray 39)
 go_enter Tryz.func35, Tryz.ntmps35
 go_upto_region 1 with (fail)
 rw [Slp.z38]
 generalize w.alloc (Obj.cells S.none.cells.toArray 39) = w1 at *
 generalize hg : w.heap.size = g at *
 refine wp_region_lit ?_
 iterate 15 go_step
 refine Slp.wpList_val rfl (.agg ((tS 1).dig.map byteV).toArray) (by as_aux_lemma => kernel_rfl) ?_
 simp only [z_1, z_2, z_3, z_4, z_5, z_b, z_6, z_7, z_8, z_9, z_0]
 refine Slp.wpList_val rfl (.agg (tS 1).cells.toArray) (by as_aux_lemma => kernel_rfl) ?_
 simp only [z_1, z_2, z_3, z_4, z_5, z_b, z_6, z_7, z_8, z_9, z_0]
 refine wpList_store_mid rfl 39 _ _ rfl g 0 ((tS 1).cells).toArray rfl ?_ (hb0.there _ (by rw [z_a]; exact Nat.le_refl _)) (by exact Slp.size38) (all_oneCell_toArray (Slp.oneS _)) ?_
 ·rfl
 simp only [z_c]
 simp only [z_1, z_2, z_3, z_4, z_5, z_b, z_6, z_7, z_8, z_9, z_0]
 have hbx := But.setCells g (tS 1).cells 0 w1
 have H8 := y_ (hb0.setAll (tS 1).cells rfl)
 have HX := y_ (hx0.trans_but hbx (by omega))
 clear hb0 hbx hx0
 go_wp2_with fail
 exact bodyPost_ret (results_cell_row rfl _ _ g 39 ((tS 1).cells).toArray (0, 0) _ rfl H8.out Slp.undS rfl (by exact Slp.size38)) rfl ⟨rfl, HX.out⟩
set_option maxRecDepth 100000 in
set_option maxHeartbeats 1000000 in
theorem touch_2 (w : World) : Calls Tryz.prog 35 #[.int .i64 2] w fun e w' => e = .returned (.agg (tS 2).cells.toArray) ∧ Reg.Ext w w' := by
 have hb0 := Slp.boxS w S.none
 have hx0 := Reg.Ext.alloc w (Obj.cells S.none.cells.toArray 39)
 go_enter Tryz.func35, Tryz.ntmps35
 go_upto_region 1 with (fail)
 rw [Slp.z38]
 generalize w.alloc (Obj.cells S.none.cells.toArray 39) = w1 at *
 generalize hg : w.heap.size = g at *
 refine wp_region_lit ?_
 iterate 15 go_step
 refine Slp.wpList_val rfl (.agg ((tS 2).dig.map byteV).toArray) (by as_aux_lemma => kernel_rfl) ?_
 simp only [z_1, z_2, z_3, z_4, z_5, z_b, z_6, z_7, z_8, z_9, z_0]
 refine Slp.wpList_val rfl (.agg (tS 2).cells.toArray) (by as_aux_lemma => kernel_rfl) ?_
 simp only [z_1, z_2, z_3, z_4, z_5, z_b, z_6, z_7, z_8, z_9, z_0]
 refine wpList_store_mid rfl 39 _ _ rfl g 0 ((tS 2).cells).toArray rfl ?_ (hb0.there _ (by rw [z_a]; exact Nat.le_refl _)) (by exact Slp.size38) (all_oneCell_toArray (Slp.oneS _)) ?_
 ·rfl
 simp only [z_c]
 simp only [z_1, z_2, z_3, z_4, z_5, z_b, z_6, z_7, z_8, z_9, z_0]
 have hbx := But.setCells g (tS 2).cells 0 w1
 have H8 := y_ (hb0.setAll (tS 2).cells rfl)
 have HX := y_ (hx0.trans_but hbx (by omega))
 clear hb0 hbx hx0
 go_wp2_with fail
 exact bodyPost_ret (results_cell_row rfl _ _ g 39 ((tS 2).cells).toArray (0, 0) _ rfl H8.out Slp.undS rfl (by exact Slp.size38)) rfl ⟨rfl, HX.out⟩
set_option maxRecDepth 100000 in
set_option maxHeartbeats 1000000 in
theorem touch_3 (w : World) : Calls Tryz.prog 35 #[.int .i64 3] w fun e w' => e = .returned (.agg (tS 3).cells.toArray) ∧ Reg.Ext w w' := by
 have hb0 := Slp.boxS w S.none
 have hx0 := Reg.Ext.alloc w (Obj.cells S.none.cells.toArray 39)
 go_enter Tryz.func35, Tryz.ntmps35
 go_upto_region 1 with (fail)
 rw [Slp.z38]
 generalize w.alloc (Obj.cells S.none.cells.toArray 39) = w1 at *
 generalize hg : w.heap.size = g at *
 refine wp_region_lit ?_
 iterate 15 go_step
 refine Slp.wpList_val rfl (.agg ((tS 3).dig.map byteV).toArray) (by as_aux_lemma => kernel_rfl) ?_
 simp only [z_1, z_2, z_3, z_4, z_5, z_b, z_6, z_7, z_8, z_9, z_0]
 refine Slp.wpList_val rfl (.agg (tS 3).cells.toArray) (by as_aux_lemma => kernel_rfl) ?_
 simp only [z_1, z_2, z_3, z_4, z_5, z_b, z_6, z_7, z_8, z_9, z_0]
 refine wpList_store_mid rfl 39 _ _ rfl g 0 ((tS 3).cells).toArray rfl ?_ (hb0.there _ (by rw [z_a]; exact Nat.le_refl _)) (by exact Slp.size38) (all_oneCell_toArray (Slp.oneS _)) ?_
 ·rfl
 simp only [z_c]
 simp only [z_1, z_2, z_3, z_4, z_5, z_b, z_6, z_7, z_8, z_9, z_0]
 have hbx := But.setCells g (tS 3).cells 0 w1
 have H8 := y_ (hb0.setAll (tS 3).cells rfl)
 have HX := y_ (hx0.trans_but hbx (by omega))
 clear hb0 hbx hx0
 go_wp2_with fail
 exact bodyPost_ret (results_cell_row rfl _ _ g 39 ((tS 3).cells).toArray (0, 0) _ rfl H8.out Slp.undS rfl (by exact Slp.size38)) rfl ⟨rfl, HX.out⟩
set_option maxRecDepth 100000 in
set_option maxHeartbeats 1000000 in
theorem touch_4 (w : World) : Calls Tryz.prog 35 #[.int .i64 4] w fun e w' => e = .returned (.agg (tS 4).cells.toArray) ∧ Reg.Ext w w' := by
 have hb0 := Slp.boxS w S.none
 have hx0 := Reg.Ext.alloc w (Obj.cells S.none.cells.toArray 39)
 go_enter Tryz.func35, Tryz.ntmps35
 go_upto_region 1 with (fail)
 rw [Slp.z38]
 generalize w.alloc (Obj.cells S.none.cells.toArray 39) = w1 at *
 generalize hg : w.heap.size = g at *
 refine wp_region_lit ?_
 iterate 15 go_step
 refine Slp.wpList_val rfl (.agg ((tS 4).dig.map byteV).toArray) (by as_aux_lemma => kernel_rfl) ?_
 simp only [z_1, z_2, z_3, z_4, z_5, z_b, z_6, z_7, z_8, z_9, z_0]
 refine Slp.wpList_val rfl (.agg (tS 4).cells.toArray) (by as_aux_lemma => kernel_rfl) ?_
 simp only [z_1, z_2, z_3, z_4, z_5, z_b, z_6, z_7, z_8, z_9, z_0]
 refine wpList_store_mid rfl 39 _ _ rfl g 0 ((tS 4).cells).toArray rfl ?_ (hb0.there _ (by rw [z_a]; exact Nat.le_refl _)) (by exact Slp.size38) (all_oneCell_toArray (Slp.oneS _)) ?_
 ·rfl
 simp only [z_c]
 simp only [z_1, z_2, z_3, z_4, z_5, z_b, z_6, z_7, z_8, z_9, z_0]
 have hbx := But.setCells g (tS 4).cells 0 w1
 have H8 := y_ (hb0.setAll (tS 4).cells rfl)
 have HX := y_ (hx0.trans_but hbx (by omega))
 clear hb0 hbx hx0
 go_wp2_with fail
 exact bodyPost_ret (results_cell_row rfl _ _ g 39 ((tS 4).cells).toArray (0, 0) _ rfl H8.out Slp.undS rfl (by exact Slp.size38)) rfl ⟨rfl, HX.out⟩
set_option maxRecDepth 100000 in
set_option maxHeartbeats 1000000 in
theorem touch_7 (w : World) : Calls Tryz.prog 35 #[.int .i64 7] w fun e w' => e = .returned (.agg (tS 7).cells.toArray) ∧ Reg.Ext w w' := by
 have hb0 := Slp.boxS w S.none
 have hx0 := Reg.Ext.alloc w (Obj.cells S.none.cells.toArray 39)
 go_enter Tryz.func35, Tryz.ntmps35
 go_upto_region 1 with (fail)
 rw [Slp.z38]
 generalize w.alloc (Obj.cells S.none.cells.toArray 39) = w1 at *
 generalize hg : w.heap.size = g at *
 refine wp_region_lit ?_
 iterate 15 go_step
 refine Slp.wpList_val rfl (.agg ((tS 7).dig.map byteV).toArray) (by as_aux_lemma => kernel_rfl) ?_
 simp only [z_1, z_2, z_3, z_4, z_5, z_b, z_6, z_7, z_8, z_9, z_0]
 refine Slp.wpList_val rfl (.agg (tS 7).cells.toArray) (by as_aux_lemma => kernel_rfl) ?_
 simp only [z_1, z_2, z_3, z_4, z_5, z_b, z_6, z_7, z_8, z_9, z_0]
 refine wpList_store_mid rfl 39 _ _ rfl g 0 ((tS 7).cells).toArray rfl ?_ (hb0.there _ (by rw [z_a]; exact Nat.le_refl _)) (by exact Slp.size38) (all_oneCell_toArray (Slp.oneS _)) ?_
 ·rfl
 simp only [z_c]
 simp only [z_1, z_2, z_3, z_4, z_5, z_b, z_6, z_7, z_8, z_9, z_0]
 have hbx := But.setCells g (tS 7).cells 0 w1
 have H8 := y_ (hb0.setAll (tS 7).cells rfl)
 have HX := y_ (hx0.trans_but hbx (by omega))
 clear hb0 hbx hx0
 go_wp2_with fail
 exact bodyPost_ret (results_cell_row rfl _ _ g 39 ((tS 7).cells).toArray (0, 0) _ rfl H8.out Slp.undS rfl (by exact Slp.size38)) rfl ⟨rfl, HX.out⟩
end Plk
end Go.Proofs.YtafeealbdpmdkaaGreatDoor
