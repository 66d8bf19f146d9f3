/- Chapter 15: the law's awake. -/
import Derived.Test.YtdoplndijlfabaaDoorPlaceParse
import Derived.Test.YtdoplndijlfabaaDoorPlacePrint
set_option linter.unusedSimpArgs false
set_option linter.unusedVariables false
set_option linter.unusedSectionVars false
namespace Go.Proofs.YtdoplndijlfabaaDoor
open Go.RowKit
namespace Pl
open Rte
theorem parse_at (l : List UInt8) (r : S) (n : Int) (h : parseP l = (r, n)) (hl : l.length ≤ 1000) (w : World) :
    Calls Tryd.prog 9 #[.string ⟨l.toArray⟩] w fun e w' => e = .returned (.tuple #[.agg r.cells.toArray, .int .i64 n]) ∧ Reg.Ext w w' := by
  have := parse_any ⟨l.toArray⟩ w (by rw [siz]; omega)
  rw [lst, h] at this
  exact this
theorem print_at (r : S) (l : List UInt8) (h : printP r = (l, 0)) (hr : r.dig.length = 32) (w : World) :
    Calls Tryd.prog 15 #[.agg r.cells.toArray] w fun e w' => e = .returned (.tuple #[.string ⟨l.toArray⟩, .int .i64 0]) ∧ Reg.Ext w w' := by
  have := print_any r hr w
  unfold printV at this
  rw [h] at this
  exact this
theorem repo_at (l : List UInt8) (b : Bool) (h : repoP l = b) (hl : l.length ≤ 1000) (w : World) :
    Calls Tryd.prog 11 #[.string ⟨l.toArray⟩] w fun e w' => e = .returned (.bool b) ∧ Reg.Ext w w' := by
  have := repo_any ⟨l.toArray⟩ w
  rw [lst, h] at this
  exact this
theorem tag_at (l : List UInt8) (b : Bool) (h : tagP l = b) (hl : l.length ≤ 1000) (w : World) :
    Calls Tryd.prog 13 #[.string ⟨l.toArray⟩] w fun e w' => e = .returned (.bool b) ∧ Reg.Ext w w' := by
  have := tag_any ⟨l.toArray⟩ w
  rw [lst, h] at this
  exact this
def wakeL : List UInt8 := [47, 118, 50, 47, 108, 105, 98, 47, 120, 47, 109, 97, 110, 105, 102, 101, 115, 116, 115, 47, 118, 49]
def wakeS : S := ⟨2, ⟨[108, 105, 98, 47, 120].toArray⟩, ⟨[118, 49].toArray⟩, zeros⟩
theorem k1 : parseP wakeL = (wakeS, 0) := by as_aux_lemma => kernel_rfl
theorem k2 : parseP [47, 118, 50, 47, 76, 105, 98, 47, 109, 97, 110, 105, 102, 101, 115, 116, 115, 47, 118, 49] = (S.none, 10) := by as_aux_lemma => kernel_rfl
theorem k3 : parseP [47, 118, 50, 47, 108, 105, 98, 47, 116, 97, 103, 115, 47, 108, 105, 115, 116] = (S.none, 7) := by as_aux_lemma => kernel_rfl
theorem k4 : parseP [47, 118, 50, 47, 108, 105, 98, 47, 98, 108, 111, 98, 115, 47, 118, 49] = (S.none, 3) := by as_aux_lemma => kernel_rfl
theorem k5 : printP wakeS = (wakeL, 0) := by as_aux_lemma => kernel_rfl
theorem k6 : repoP [97, 95, 95, 98, 47, 99, 46, 100, 45, 45, 101] = true := by as_aux_lemma => kernel_rfl
theorem k7 : repoP [97, 95, 95, 95, 98] = false := by as_aux_lemma => kernel_rfl
theorem k8 : tagP [86, 95, 49, 46, 48, 45, 120] = true := by as_aux_lemma => kernel_rfl
set_option maxRecDepth 100000 in
set_option maxHeartbeats 8000000 in
theorem awake_any (w : World) :
    Calls Tryd.prog 8 #[] w fun e w' => e = .returned (.bool true) ∧ Reg.Ext w w' := by
  go_enter Tryd.func8, Tryd.ntmps8
  go_wp2_with fail
  refine (parse_at _ _ _ k1 (by decide) w).mono ?_
  rintro e w1 ⟨rfl, x1⟩
  rename_i hK
  refine hK _ _ ?_
  iterate 12 go_step
  rw [z35]
  have hbf := boxS w1 S.none
  have hxf := Reg.Ext.alloc w1 (Obj.cells S.none.cells.toArray 26)
  have hxs := hxf.trans_but (But.setCells w1.heap.size ((wakeS).cells) 0 _) (Nat.le_refl _)
  generalize w1.alloc (Obj.cells S.none.cells.toArray 26) = wf at *
  have HBF := Lib.hid hbf
  clear hbf hxf
  refine wpList_store_mid rfl 26 _ _ rfl w1.heap.size 0 ((wakeS).cells).toArray rfl rfl (HBF.out.there _ (by rw [List.size_toArray]; have a1 := cells_length (wakeS) zeros_len; have a2 := cells_length S.none none_dig; omega)) (by rw [List.size_toArray, cells_length _ zeros_len]; exact size35) (all_oneCell_toArray (oneS _)) ?_
  simp only [List.toList_toArray]
  simp only [Act.put, Act.eval, List.setIfInBounds_toArray, List.set_cons_zero, List.set_cons_succ, Nat.reduceAdd, Array.getD_eq_getD_getElem?, List.getElem?_toArray, List.getElem?_cons_succ, List.getElem?_cons_zero, Option.getD_some]
  have hbs := HBF.out.setAll ((wakeS).cells) (by have a1 := cells_length (wakeS) zeros_len; have a2 := cells_length S.none none_dig; omega)
  generalize wf.setCells w1.heap.size 0 ((wakeS).cells) = v1 at *
  have B1 := Lib.hid hbs
  have X1 := Lib.hid hxs
  clear hbs hxs HBF
  generalize w1.heap.size = g1 at *
  have Y1 := Lib.hid (x1.trans X1.out)
  clear x1 X1
  go_wp2_with fail
  refine (parse_at _ _ _ k2 (by decide) v1).mono ?_
  rintro e w2 ⟨rfl, x2⟩
  rename_i hK
  refine hK _ _ ?_
  iterate 12 go_step
  rw [z35]
  have hbf := boxS w2 S.none
  have hxf := Reg.Ext.alloc w2 (Obj.cells S.none.cells.toArray 26)
  have hxs := hxf.trans_but (But.setCells w2.heap.size ((S.none).cells) 0 _) (Nat.le_refl _)
  generalize w2.alloc (Obj.cells S.none.cells.toArray 26) = wf at *
  have HBF := Lib.hid hbf
  clear hbf hxf
  refine wpList_store_mid rfl 26 _ _ rfl w2.heap.size 0 ((S.none).cells).toArray rfl rfl (HBF.out.there _ (by rw [List.size_toArray]; have a1 := cells_length (S.none) zeros_len; have a2 := cells_length S.none none_dig; omega)) (by rw [List.size_toArray, cells_length _ zeros_len]; exact size35) (all_oneCell_toArray (oneS _)) ?_
  simp only [List.toList_toArray]
  simp only [Act.put, Act.eval, List.setIfInBounds_toArray, List.set_cons_zero, List.set_cons_succ, Nat.reduceAdd, Array.getD_eq_getD_getElem?, List.getElem?_toArray, List.getElem?_cons_succ, List.getElem?_cons_zero, Option.getD_some]
  have hbs := HBF.out.setAll ((S.none).cells) (by have a1 := cells_length (S.none) zeros_len; have a2 := cells_length S.none none_dig; omega)
  generalize wf.setCells w2.heap.size 0 ((S.none).cells) = v2 at *
  have B2 := Lib.hid hbs
  have X2 := Lib.hid hxs
  clear hbs hxs HBF
  generalize w2.heap.size = g2 at *
  have Y2 := Lib.hid ((Y1.out.trans x2).trans X2.out)
  have B1 := Lib.hid ((B1.out.ext x2).ext X2.out)
  clear x2 X2 Y1 B2
  go_wp2_with fail
  refine (parse_at _ _ _ k3 (by decide) v2).mono ?_
  rintro e w3 ⟨rfl, x3⟩
  rename_i hK
  refine hK _ _ ?_
  iterate 12 go_step
  rw [z35]
  have hbf := boxS w3 S.none
  have hxf := Reg.Ext.alloc w3 (Obj.cells S.none.cells.toArray 26)
  have hxs := hxf.trans_but (But.setCells w3.heap.size ((S.none).cells) 0 _) (Nat.le_refl _)
  generalize w3.alloc (Obj.cells S.none.cells.toArray 26) = wf at *
  have HBF := Lib.hid hbf
  clear hbf hxf
  refine wpList_store_mid rfl 26 _ _ rfl w3.heap.size 0 ((S.none).cells).toArray rfl rfl (HBF.out.there _ (by rw [List.size_toArray]; have a1 := cells_length (S.none) zeros_len; have a2 := cells_length S.none none_dig; omega)) (by rw [List.size_toArray, cells_length _ zeros_len]; exact size35) (all_oneCell_toArray (oneS _)) ?_
  simp only [List.toList_toArray]
  simp only [Act.put, Act.eval, List.setIfInBounds_toArray, List.set_cons_zero, List.set_cons_succ, Nat.reduceAdd, Array.getD_eq_getD_getElem?, List.getElem?_toArray, List.getElem?_cons_succ, List.getElem?_cons_zero, Option.getD_some]
  have hbs := HBF.out.setAll ((S.none).cells) (by have a1 := cells_length (S.none) zeros_len; have a2 := cells_length S.none none_dig; omega)
  generalize wf.setCells w3.heap.size 0 ((S.none).cells) = v3 at *
  have B3 := Lib.hid hbs
  have X3 := Lib.hid hxs
  clear hbs hxs HBF
  generalize w3.heap.size = g3 at *
  have Y3 := Lib.hid ((Y2.out.trans x3).trans X3.out)
  have B1 := Lib.hid ((B1.out.ext x3).ext X3.out)
  clear x3 X3 Y2 B3
  go_wp2_with fail
  refine (parse_at _ _ _ k4 (by decide) v3).mono ?_
  rintro e w4 ⟨rfl, x4⟩
  rename_i hK
  refine hK _ _ ?_
  iterate 12 go_step
  rw [z35]
  have hbf := boxS w4 S.none
  have hxf := Reg.Ext.alloc w4 (Obj.cells S.none.cells.toArray 26)
  have hxs := hxf.trans_but (But.setCells w4.heap.size ((S.none).cells) 0 _) (Nat.le_refl _)
  generalize w4.alloc (Obj.cells S.none.cells.toArray 26) = wf at *
  have HBF := Lib.hid hbf
  clear hbf hxf
  refine wpList_store_mid rfl 26 _ _ rfl w4.heap.size 0 ((S.none).cells).toArray rfl rfl (HBF.out.there _ (by rw [List.size_toArray]; have a1 := cells_length (S.none) zeros_len; have a2 := cells_length S.none none_dig; omega)) (by rw [List.size_toArray, cells_length _ zeros_len]; exact size35) (all_oneCell_toArray (oneS _)) ?_
  simp only [List.toList_toArray]
  simp only [Act.put, Act.eval, List.setIfInBounds_toArray, List.set_cons_zero, List.set_cons_succ, Nat.reduceAdd, Array.getD_eq_getD_getElem?, List.getElem?_toArray, List.getElem?_cons_succ, List.getElem?_cons_zero, Option.getD_some]
  have hbs := HBF.out.setAll ((S.none).cells) (by have a1 := cells_length (S.none) zeros_len; have a2 := cells_length S.none none_dig; omega)
  generalize wf.setCells w4.heap.size 0 ((S.none).cells) = v4 at *
  have B4 := Lib.hid hbs
  have X4 := Lib.hid hxs
  clear hbs hxs HBF
  generalize w4.heap.size = g4 at *
  have Y4 := Lib.hid ((Y3.out.trans x4).trans X4.out)
  have B1 := Lib.hid ((B1.out.ext x4).ext X4.out)
  clear x4 X4 Y3 B4
  go_upto_region 5 with (fail)
  refine wp_region_lit ?_
  refine wpList_rt rfl _ rfl g1 rfl _ wakeS zeros_len B1 ?_
  simp only [Act.put, Act.eval, List.setIfInBounds_toArray, List.set_cons_zero, List.set_cons_succ, Nat.reduceAdd, Array.getD_eq_getD_getElem?, List.getElem?_toArray, List.getElem?_cons_succ, List.getElem?_cons_zero, Option.getD_some]
  go_wp2_with fail
  refine (print_at _ _ k5 zeros_len v4).mono ?_
  rintro e w5 ⟨rfl, x5⟩
  have Y5 := Lib.hid (Y4.out.trans x5)
  have B1 := Lib.hid (B1.out.ext x5)
  clear x5 Y4
  go_upto_region 6 with (fail)
  refine wp_region_lit ?_
  refine wpList_rt rfl _ rfl g1 rfl _ wakeS zeros_len B1 ?_
  simp only [Act.put, Act.eval, List.setIfInBounds_toArray, List.set_cons_zero, List.set_cons_succ, Nat.reduceAdd, Array.getD_eq_getD_getElem?, List.getElem?_toArray, List.getElem?_cons_succ, List.getElem?_cons_zero, Option.getD_some]
  refine wpList_val rfl (.agg wakeS.cells.toArray) (by as_aux_lemma => kernel_rfl) ?_
  simp only [Act.put, Act.eval, List.setIfInBounds_toArray, List.set_cons_zero, List.set_cons_succ, Nat.reduceAdd, Array.getD_eq_getD_getElem?, List.getElem?_toArray, List.getElem?_cons_succ, List.getElem?_cons_zero, Option.getD_some]
  refine wpList_val rfl (.bool (wakeS.same wakeS)) (exec_eql wakeS wakeS zeros_len zeros_len _ _ rfl rfl rfl) ?_
  rw [same_refl]
  simp only [Act.put, Act.eval, List.setIfInBounds_toArray, List.set_cons_zero, List.set_cons_succ, Nat.reduceAdd, Array.getD_eq_getD_getElem?, List.getElem?_toArray, List.getElem?_cons_succ, List.getElem?_cons_zero, Option.getD_some]
  go_wp2_with fail
  refine (repo_at _ _ k6 (by decide) w5).mono ?_
  rintro e w6 ⟨rfl, x6⟩
  have Y6 := Lib.hid (Y5.out.trans x6)
  clear x6 Y5
  go_wp2_with fail
  refine (repo_at _ _ k7 (by decide) w6).mono ?_
  rintro e w7 ⟨rfl, x7⟩
  have Y7 := Lib.hid (Y6.out.trans x7)
  clear x7 Y6
  go_wp2_with fail
  refine (tag_at _ _ k8 (by decide) w7).mono ?_
  rintro e w8 ⟨rfl, x8⟩
  have Y8 := Lib.hid (Y7.out.trans x8)
  clear x8 Y7
  go_wp2_with fail
  go_ret
  exact ⟨rfl, Y8.out⟩
end Pl
end Go.Proofs.YtdoplndijlfabaaDoor
