/- Chapter 15: PlaceReads. -/
import Derived.Test.YtdoplndijlfabaaDoorPlaceAwake
import Derived.Test.YtdoplndijlfabaaDoorPlaceRefQ
set_option linter.unusedSimpArgs false
set_option linter.unusedVariables false
set_option linter.unusedSectionVars false
namespace Go.Proofs.YtdoplndijlfabaaDoor
open Go.RowKit
namespace Pl
open Rte
set_option maxRecDepth 100000 in
set_option maxHeartbeats 4000000 in
theorem reads_law (s : ByteArray) (w : World) (hs : s.size ≤ maxLen) :
    Calls Tryd.prog 3 #[.string s] w fun e w' => e = .returned (.bool true) ∧ Reg.Ext w w' := by
  unfold maxLen at hs
  go_enter Tryd.func3, Tryd.ntmps3
  go_wp2_with fail
  refine (awake_any w).mono ?_
  rintro e w1 ⟨rfl, x1⟩
  have Y1 := Lib.hid x1
  clear x1
  by_cases hsl : 2048 < s.size
  · have d1 : decide ((2048 : Int) < (s.size : Int)) = true := by rw [decide_eq_true_iff]; omega
    go_wp2_with fail
    go_ret
    exact ⟨rfl, Y1.out⟩
  have d1 : decide ((2048 : Int) < (s.size : Int)) = false := by rw [decide_eq_false_iff_not]; omega
  have hd := parseP_dig s.data.toList
  have CP := fun w => Lib.hid (parse_any s w (by omega))
  have CR := fun w => Lib.hid (parseR_any s w (by omega))
  generalize parseP s.data.toList = p at *
  obtain ⟨r, n⟩ := p
  have hv : rouV (r, n) = .tuple #[.agg r.cells.toArray, .int .i64 n] := rfl
  rw [hv] at CP CR
  clear hv
  go_wp2_with fail
  refine (CP w1).out.mono ?_
  rintro e w2 ⟨rfl, x2⟩
  rename_i hK
  refine hK _ _ ?_
  iterate 12 go_step
  rw [z35]
  have hbf := boxS w2 S.none
  have hxf := Reg.Ext.alloc w2 (Obj.cells S.none.cells.toArray 26)
  have hxs := hxf.trans_but (But.setCells w2.heap.size ((r).cells) 0 _) (Nat.le_refl _)
  generalize w2.alloc (Obj.cells S.none.cells.toArray 26) = wf at *
  have HBF := Lib.hid hbf
  clear hbf hxf
  refine wpList_store_mid rfl 26 _ _ rfl w2.heap.size 0 ((r).cells).toArray rfl rfl (HBF.out.there _ (by rw [List.size_toArray]; have a1 := cells_length (r) hd; have a2 := cells_length S.none none_dig; omega)) (by rw [List.size_toArray, cells_length _ hd]; exact size35) (all_oneCell_toArray (oneS _)) ?_
  simp only [List.toList_toArray]
  simp only [Act.put, Act.eval, List.setIfInBounds_toArray, List.set_cons_zero, List.set_cons_succ, Nat.reduceAdd, Array.getD_eq_getD_getElem?, List.getElem?_toArray, List.getElem?_cons_succ, List.getElem?_cons_zero, Option.getD_some]
  have hbs := HBF.out.setAll ((r).cells) (by have a1 := cells_length (r) hd; have a2 := cells_length S.none none_dig; omega)
  generalize wf.setCells w2.heap.size 0 ((r).cells) = v2 at *
  have B2 := Lib.hid hbs
  have X2 := Lib.hid hxs
  clear hbs hxs HBF
  generalize w2.heap.size = g2 at *
  have Y2 := Lib.hid ((Y1.out.trans x2).trans X2.out)
  clear x2 X2 Y1
  go_wp2_with fail
  refine (CR v2).out.mono ?_
  rintro e w3 ⟨rfl, x3⟩
  rename_i hK
  refine hK _ _ ?_
  iterate 12 go_step
  rw [z35]
  have hbf := boxS w3 S.none
  have hxf := Reg.Ext.alloc w3 (Obj.cells S.none.cells.toArray 26)
  have hxs := hxf.trans_but (But.setCells w3.heap.size ((r).cells) 0 _) (Nat.le_refl _)
  generalize w3.alloc (Obj.cells S.none.cells.toArray 26) = wf at *
  have HBF := Lib.hid hbf
  clear hbf hxf
  refine wpList_store_mid rfl 26 _ _ rfl w3.heap.size 0 ((r).cells).toArray rfl rfl (HBF.out.there _ (by rw [List.size_toArray]; have a1 := cells_length (r) hd; have a2 := cells_length S.none none_dig; omega)) (by rw [List.size_toArray, cells_length _ hd]; exact size35) (all_oneCell_toArray (oneS _)) ?_
  simp only [List.toList_toArray]
  simp only [Act.put, Act.eval, List.setIfInBounds_toArray, List.set_cons_zero, List.set_cons_succ, Nat.reduceAdd, Array.getD_eq_getD_getElem?, List.getElem?_toArray, List.getElem?_cons_succ, List.getElem?_cons_zero, Option.getD_some]
  have hbs := HBF.out.setAll ((r).cells) (by have a1 := cells_length (r) hd; have a2 := cells_length S.none none_dig; omega)
  generalize wf.setCells w3.heap.size 0 ((r).cells) = v3 at *
  have B3 := Lib.hid hbs
  have X3 := Lib.hid hxs
  clear hbs hxs HBF
  generalize w3.heap.size = g3 at *
  have Y3 := Lib.hid ((Y2.out.trans x3).trans X3.out)
  have B4 := Lib.hid ((B2.out.ext x3).ext X3.out)
  clear x3 X3 Y2 B2
  go_upto_region 7 with (fail)
  refine wp_region_lit ?_
  refine wpList_rt rfl _ rfl g2 rfl _ r hd B4 ?_
  simp only [Act.put, Act.eval, List.setIfInBounds_toArray, List.set_cons_zero, List.set_cons_succ, Nat.reduceAdd, Array.getD_eq_getD_getElem?, List.getElem?_toArray, List.getElem?_cons_succ, List.getElem?_cons_zero, Option.getD_some]
  refine wpList_rt rfl _ rfl g3 rfl _ r hd B3 ?_
  simp only [Act.put, Act.eval, List.setIfInBounds_toArray, List.set_cons_zero, List.set_cons_succ, Nat.reduceAdd, Array.getD_eq_getD_getElem?, List.getElem?_toArray, List.getElem?_cons_succ, List.getElem?_cons_zero, Option.getD_some]
  refine wpList_val rfl (.bool (r.same r)) (exec_eql r r hd hd _ _ rfl rfl rfl) ?_
  rw [same_refl]
  simp only [Act.put, Act.eval, List.setIfInBounds_toArray, List.set_cons_zero, List.set_cons_succ, Nat.reduceAdd, Array.getD_eq_getD_getElem?, List.getElem?_toArray, List.getElem?_cons_succ, List.getElem?_cons_zero, Option.getD_some]
  go_wp2_with fail
  refine (repo_any s v3).mono ?_
  rintro e w5 ⟨rfl, x5⟩
  have Y5 := Lib.hid (Y3.out.trans x5)
  clear x5 Y3
  go_wp2_with fail
  refine (repoR_any s w5).mono ?_
  rintro e w6 ⟨rfl, x6⟩
  have Y6 := Lib.hid (Y5.out.trans x6)
  clear x6 Y5
  go_wp2_with fail
  refine (tag_any s w6).mono ?_
  rintro e w7 ⟨rfl, x7⟩
  have Y7 := Lib.hid (Y6.out.trans x7)
  clear x7 Y6
  go_wp2_with fail
  refine (tagR_any s w7 (by omega)).mono ?_
  rintro e w8 ⟨rfl, rfl⟩
  go_wp2_with fail
  go_ret
  exact ⟨by simp, Y7.out⟩
end Pl
end Go.Proofs.YtdoplndijlfabaaDoor
