/- The walk of slip.only. -/
import Derived.Test.YtbeghdoffiidoaaDoorSlipRow
import Derived.Deep.MidRow
set_option linter.unusedSimpArgs false
set_option linter.unusedVariables false
set_option linter.unusedSectionVars false
namespace Go.Proofs.YtbeghdoffiidoaaDoor
open Go.RowKit
namespace Slp
set_option maxRecDepth 100000 in
set_option maxHeartbeats 4000000 in
theorem only_any (x : S) (f : F) (hx : x.dig.length = 32) (hf : f = ⟨true, true, true, true⟩ ∨ f = ⟨true, false, false, true⟩ ∨ f = ⟨true, false, false, false⟩ ∨ f = ⟨false, true, true, false⟩ ∨ f = ⟨false, true, false, false⟩) (w : World) :
    Calls Tryd.prog 25 #[.agg x.cells.toArray, .agg f.cells.toArray] w fun e w' => e = .returned (.agg (x.only f).cells.toArray) ∧ Reg.Ext w w' := by
  have hb2 := boxS w x
  have hx2 := Reg.Ext.alloc w (Obj.cells x.cells.toArray 25)
  have hs2 : (w.alloc (Obj.cells x.cells.toArray 25)).heap.size = w.heap.size + 1 := Array.size_push _
  go_enter Tryd.func25, Tryd.ntmps25
  go_upto_region 1 with (fail)
  generalize w.alloc (Obj.cells x.cells.toArray 25) = w2 at *
  have hb3 : Blk (w2.alloc (Obj.cells f.cells.toArray 47)) w2.heap.size 47 f.cells := by
    have := Blk.new w2 47 f.cells.toArray
    simpa using this
  have hx3 := Reg.Ext.alloc w2 (Obj.cells f.cells.toArray 47)
  have hs3 : (w2.alloc (Obj.cells f.cells.toArray 47)).heap.size = w2.heap.size + 1 := Array.size_push _
  generalize w2.alloc (Obj.cells f.cells.toArray 47) = w3 at *
  rw [z38]
  have hb4 := boxS w3 S.none
  have hx4 := Reg.Ext.alloc w3 (Obj.cells S.none.cells.toArray 25)
  have hs4 : (w3.alloc (Obj.cells S.none.cells.toArray 25)).heap.size = w3.heap.size + 1 := Array.size_push _
  generalize w3.alloc (Obj.cells S.none.cells.toArray 25) = w4 at *
  rw [hs2] at hb3 hs3
  rw [hs3] at hb4 hs4
  have t0 : w4.cell? ⟨w.heap.size, 0, none⟩ = some (.int .i64 x.k) := ((hb2.ext hx3).ext hx4).cell 0
  refine wp_region_lit ?_
  iterate 6 go_step
  refine wpList_val rfl (.agg ({ S.none with k := x.k } : S).cells.toArray) (by as_aux_lemma => kernel_rfl) ?_
  simp only [Act.put, Act.eval, List.setIfInBounds_toArray, List.set_cons_zero, List.set_cons_succ, Nat.reduceAdd, Array.getD_eq_getD_getElem?, List.getElem?_toArray, List.getElem?_cons_succ, List.getElem?_cons_zero, Option.getD_some]
  iterate 3 go_step
  rw [z38]
  have hb5 := boxS w4 S.none
  have hx5 := Reg.Ext.alloc w4 (Obj.cells S.none.cells.toArray 25)
  generalize w4.alloc (Obj.cells S.none.cells.toArray 25) = w5 at *
  rw [hs4] at hb5
  have H2 := Lib.hid (((hb2.ext hx3).ext hx4).ext hx5)
  have H3 := Lib.hid ((hb3.ext hx4).ext hx5)
  have H4 := Lib.hid (hb4.ext hx5)
  have X := Lib.hid (((hx2.trans hx3).trans hx4).trans hx5)
  clear hb2 hx2 hs2 hb3 hx3 hs3 hb4 hx4 hs4 hx5 t0
  generalize hg2 : w.heap.size = g2 at *
  generalize hg3 : g2 + 1 = g3 at *
  generalize hg4 : g3 + 1 = g4 at *
  generalize hg5 : g4 + 1 = g5 at *
  have l2 : w.heap.size ≤ g2 := by omega
  have l4 : w.heap.size ≤ g4 := by omega
  have l5 : w.heap.size ≤ g5 := by omega
  have l25 : g2 < g5 := by omega
  have l35 : g3 < g5 := by omega
  have l45 : g4 < g5 := by omega
  clear hg2 hg3 hg4 hg5
  have hyl : ({ S.none with k := x.k } : S).dig.length = 32 := none_dig
  refine wpList_store_mid rfl 25 _ _ rfl g5 0 ((({ S.none with k := x.k } : S)).cells).toArray rfl ?_ (hb5.there _ (by rw [List.size_toArray, cells_length _ hyl, cells_length _ none_dig]; exact Nat.le_refl _)) (by rw [List.size_toArray, cells_length _ hyl]; exact size38) (all_oneCell_toArray (oneS _)) ?_
  · rfl
  simp only [List.toList_toArray]
  simp only [Act.put, Act.eval, List.setIfInBounds_toArray, List.set_cons_zero, List.set_cons_succ, Nat.reduceAdd, Array.getD_eq_getD_getElem?, List.getElem?_toArray, List.getElem?_cons_succ, List.getElem?_cons_zero, Option.getD_some]
  have HY := Lib.hid (hb5.setAll ({ S.none with k := x.k } : S).cells (by rw [cells_length _ hyl, cells_length _ none_dig]))
  have H2 := Lib.hid (H2.out.but (But.setCells g5 ({ S.none with k := x.k } : S).cells 0 w5) (by omega))
  have H3 := Lib.hid (H3.out.but (But.setCells g5 ({ S.none with k := x.k } : S).cells 0 w5) (by omega))
  have H4 := Lib.hid (H4.out.but (But.setCells g5 ({ S.none with k := x.k } : S).cells 0 w5) (by omega))
  have X := Lib.hid (X.out.trans_but (But.setCells g5 ({ S.none with k := x.k } : S).cells 0 w5) l5)
  generalize w5.setCells g5 0 ({ S.none with k := x.k } : S).cells = w6 at *
  clear hb5 hyl
  have HU : Hid (But g5 w6 w6) := But.refl _ _
  obtain ⟨wi, hwi⟩ : ∃ wi, wi = w6 := ⟨_, rfl⟩
  rw [← hwi]
  rw [← hwi] at HY
  have HU : Hid (But g5 w6 wi) := by rw [hwi]; exact HU
  clear hwi
  rcases hf with rfl | rfl | rfl | rfl | rfl
  · have HY : Hid (Blk wi g5 25 (((⟨x.k, noStr, noStr, zeros, noStr, 0, 0⟩ : S)).cells)) := HY.out
    have hX := H2.out.but HU.out (by omega)
    have hF := H3.out.but HU.out (by omega)
    have p0 : wi.cell? ⟨g3, 0, none⟩ = some (.bool true) := hF.cell 0
    have p1 : wi.cell? ⟨g3, 1, none⟩ = some (.bool true) := hF.cell 1
    have p2 : wi.cell? ⟨g3, 2, none⟩ = some (.bool true) := hF.cell 2
    have p3 : wi.cell? ⟨g3, 3, none⟩ = some (.bool true) := hF.cell 3
    have q1 : wi.cell? ⟨g2, 1, none⟩ = some (.string x.repo) := hX.cell 1
    have q2 : wi.cell? ⟨g2, 2, none⟩ = some (.string x.tag) := hX.cell 2
    have r1 : wi.cell? ⟨g5, 1, none⟩ = some (.string noStr) := HY.out.cell 1
    have r2 : wi.cell? ⟨g5, 2, none⟩ = some (.string noStr) := HY.out.cell 2
    have f1 := HY.out.frozen 1
    have f2 := HY.out.frozen 2
    have hs := (HY.out.set_ 1 (.string x.repo)).set_ 2 (.string x.tag)
    rw [set1, set2] at hs
    have HS := Lib.hid hs.drew
    have HB := Lib.hid (((HU.out.trans (But.set_ g5 wi 1 (.string x.repo))).trans (But.set_ g5 _ 2 (.string x.tag))).trans (But.of_ext (Reg.Ext.drew _)))
    clear hX hF hs HU HY
    go_wp2_with fail
    go_region
    clear p0 p1 p2 p3 q1 q2 r1 r2 f1 f2
    generalize ((wi.setCell ⟨g5, 1, none⟩ (Value.string x.repo)).setCell ⟨g5, 2, none⟩ (Value.string x.tag)).drew = wi at *
    have HY := HS
    have HU := HB
    clear HS HB
    have HY : Hid (Blk wi g5 25 (((⟨x.k, x.repo, x.tag, zeros, noStr, 0, 0⟩ : S)).cells)) := HY.out
    have hyl : ((⟨x.k, x.repo, x.tag, zeros, noStr, 0, 0⟩ : S)).dig.length = 32 := by first | exact hx | exact none_dig
    have hX := H2.out.but HU.out (by omega)
    have hF := H3.out.but HU.out (by omega)
    have p0 : wi.cell? ⟨g3, 0, none⟩ = some (.bool true) := hF.cell 0
    have p1 : wi.cell? ⟨g3, 1, none⟩ = some (.bool true) := hF.cell 1
    have p2 : wi.cell? ⟨g3, 2, none⟩ = some (.bool true) := hF.cell 2
    have p3 : wi.cell? ⟨g3, 3, none⟩ = some (.bool true) := hF.cell 3
    go_upto_region 5 with (fail)
    refine wp_region_lit ?_
    iterate 3 go_step
    refine wpList_load_mid rfl 23 _ rfl g2 3 rfl (x.dig.map byteV) _ (range_dig hX) Tryd.underlying23 rfl (by rw [List.length_map, hx]; kernel_rfl) ?_
    simp only [Act.put, Act.eval, List.setIfInBounds_toArray, List.set_cons_zero, List.set_cons_succ, Nat.reduceAdd, Array.getD_eq_getD_getElem?, List.getElem?_toArray, List.getElem?_cons_succ, List.getElem?_cons_zero, Option.getD_some]
    iterate 3 go_step
    have hyo := HY.out
    refine wpList_store_mid rfl 23 _ _ rfl g5 3 (x.dig.map byteV).toArray rfl rfl (by rw [List.size_toArray, List.length_map, hx]; exact there_dig hyo hyl) (by rw [List.size_toArray, List.length_map, hx]; kernel_rfl) (all_oneCell_toArray fun v hv => by
      obtain ⟨c, _, rfl⟩ := List.mem_map.1 hv
      rfl) ?_
    simp only [List.toList_toArray]
    simp only [Act.put, Act.eval, List.setIfInBounds_toArray, List.set_cons_zero, List.set_cons_succ, Nat.reduceAdd, Array.getD_eq_getD_getElem?, List.getElem?_toArray, List.getElem?_cons_succ, List.getElem?_cons_zero, Option.getD_some]
    have HYn := Lib.hid (put_dig hyo x.dig (hx.trans hyl.symm))
    have HUn := Lib.hid (HU.out.trans (But.setCells g5 (x.dig.map byteV) 3 wi))
    clear hX hF hyl hyo HU HY p0 p1 p2 p3
    generalize wi.setCells g5 3 (x.dig.map byteV) = wi at *
    have HY := HYn
    have HU := HUn
    clear HYn HUn
    have HY : Hid (Blk wi g5 25 (((⟨x.k, x.repo, x.tag, x.dig, noStr, 0, 0⟩ : S)).cells)) := HY.out
    have hyl : ((⟨x.k, x.repo, x.tag, x.dig, noStr, 0, 0⟩ : S)).dig.length = 32 := by first | exact hx | exact none_dig
    have hX := H2.out.but HU.out (by omega)
    have hF := H3.out.but HU.out (by omega)
    have p0 : wi.cell? ⟨g3, 0, none⟩ = some (.bool true) := hF.cell 0
    have p1 : wi.cell? ⟨g3, 1, none⟩ = some (.bool true) := hF.cell 1
    have p2 : wi.cell? ⟨g3, 2, none⟩ = some (.bool true) := hF.cell 2
    have p3 : wi.cell? ⟨g3, 3, none⟩ = some (.bool true) := hF.cell 3
    have q1 : wi.cell? ⟨g2, 35, none⟩ = some (.string x.typ) := by rw [hX.cell, at35 x hx]
    have q2 : wi.cell? ⟨g2, 36, none⟩ = some (.int .i64 x.size) := by rw [hX.cell, at36 x hx]
    have r1 : wi.cell? ⟨g5, 35, none⟩ = some (.string noStr) := by rw [HY.out.cell, at35 ((⟨x.k, x.repo, x.tag, x.dig, noStr, 0, 0⟩ : S)) hyl]
    have r2 : wi.cell? ⟨g5, 36, none⟩ = some (.int .i64 0) := by rw [HY.out.cell, at36 ((⟨x.k, x.repo, x.tag, x.dig, noStr, 0, 0⟩ : S)) hyl]
    have f1 := HY.out.frozen 35
    have f2 := HY.out.frozen 36
    have hs0 := HY.out.set_ 35 (.string x.typ)
    rw [set35 ((⟨x.k, x.repo, x.tag, x.dig, noStr, 0, 0⟩ : S)) hyl] at hs0
    have hs := hs0.set_ 36 (.int .i64 x.size)
    rw [set36 ({ ((⟨x.k, x.repo, x.tag, x.dig, noStr, 0, 0⟩ : S)) with typ := x.typ } : S) hyl] at hs
    clear hs0 hyl
    have HS := Lib.hid hs.drew
    have HB := Lib.hid (((HU.out.trans (But.set_ g5 wi 35 (.string x.typ))).trans (But.set_ g5 _ 36 (.int .i64 x.size))).trans (But.of_ext (Reg.Ext.drew _)))
    clear hX hF hs HU HY
    go_wp2_with fail
    go_region
    clear p0 p1 p2 p3 q1 q2 r1 r2 f1 f2
    generalize ((wi.setCell ⟨g5, 35, none⟩ (Value.string x.typ)).setCell ⟨g5, 36, none⟩ (Value.int .i64 x.size)).drew = wi at *
    have HY := HS
    have HU := HB
    clear HS HB
    have HY : Hid (Blk wi g5 25 (((⟨x.k, x.repo, x.tag, x.dig, x.typ, x.size, 0⟩ : S)).cells)) := HY.out
    have hyl : ((⟨x.k, x.repo, x.tag, x.dig, x.typ, x.size, 0⟩ : S)).dig.length = 32 := by first | exact hx | exact none_dig
    have hX := H2.out.but HU.out (by omega)
    have hF := H3.out.but HU.out (by omega)
    have p0 : wi.cell? ⟨g3, 0, none⟩ = some (.bool true) := hF.cell 0
    have p1 : wi.cell? ⟨g3, 1, none⟩ = some (.bool true) := hF.cell 1
    have p2 : wi.cell? ⟨g3, 2, none⟩ = some (.bool true) := hF.cell 2
    have p3 : wi.cell? ⟨g3, 3, none⟩ = some (.bool true) := hF.cell 3
    have q1 : wi.cell? ⟨g2, 37, none⟩ = some (.int .i64 x.at_) := by rw [hX.cell, at37 x hx]
    have r1 : wi.cell? ⟨g5, 37, none⟩ = some (.int .i64 0) := by rw [HY.out.cell, at37 ((⟨x.k, x.repo, x.tag, x.dig, x.typ, x.size, 0⟩ : S)) hyl]
    have f1 := HY.out.frozen 37
    have hs := HY.out.set_ 37 (.int .i64 x.at_)
    rw [set37 ((⟨x.k, x.repo, x.tag, x.dig, x.typ, x.size, 0⟩ : S)) hyl] at hs
    clear hyl
    have HS := Lib.hid hs
    have HB := Lib.hid (HU.out.trans (But.set_ g5 wi 37 (.int .i64 x.at_)))
    clear hX hF hs HU HY
    go_upto_region 10 with (fail)
    clear p0 p1 p2 p3 q1 r1 f1
    generalize wi.setCell ⟨g5, 37, none⟩ (Value.int .i64 x.at_) = wi at *
    have HY := HS
    have HU := HB
    clear HS HB
    have hyo : Blk wi g5 25 (((⟨x.k, x.repo, x.tag, x.dig, x.typ, x.size, x.at_⟩ : S)).cells) := HY.out
    have h4 := H4.out.but HU.out (by omega)
    have XX := X.out.trans_but HU.out l5
    have hyl : ((⟨x.k, x.repo, x.tag, x.dig, x.typ, x.size, x.at_⟩ : S)).dig.length = 32 := by first | exact hx | exact none_dig
    refine wp_region_lit ?_
    refine wpList_load_row rfl 25 _ rfl g5 rfl 25 (((⟨x.k, x.repo, x.tag, x.dig, x.typ, x.size, x.at_⟩ : S)).cells).toArray (0, 0) _ hyo Tryd.underlying25 rfl (by rw [List.size_toArray, cells_length ((⟨x.k, x.repo, x.tag, x.dig, x.typ, x.size, x.at_⟩ : S)) hyl]; exact size38) ?_
    simp only [Act.put, Act.eval, List.setIfInBounds_toArray, List.set_cons_zero, List.set_cons_succ, Nat.reduceAdd, Array.getD_eq_getD_getElem?, List.getElem?_toArray, List.getElem?_cons_succ, List.getElem?_cons_zero, Option.getD_some]
    refine wpList_store_mid rfl 25 _ _ rfl g4 0 (((⟨x.k, x.repo, x.tag, x.dig, x.typ, x.size, x.at_⟩ : S)).cells).toArray rfl rfl (h4.there _ (by rw [List.size_toArray, cells_length ((⟨x.k, x.repo, x.tag, x.dig, x.typ, x.size, x.at_⟩ : S)) hyl, cells_length _ none_dig]; exact Nat.le_refl _)) (by rw [List.size_toArray, cells_length ((⟨x.k, x.repo, x.tag, x.dig, x.typ, x.size, x.at_⟩ : S)) hyl]; exact size38) (all_oneCell_toArray (oneS _)) ?_
    simp only [List.toList_toArray]
    simp only [Act.put, Act.eval, List.setIfInBounds_toArray, List.set_cons_zero, List.set_cons_succ, Nat.reduceAdd, Array.getD_eq_getD_getElem?, List.getElem?_toArray, List.getElem?_cons_succ, List.getElem?_cons_zero, Option.getD_some]
    have HN := Lib.hid (h4.setAll (((⟨x.k, x.repo, x.tag, x.dig, x.typ, x.size, x.at_⟩ : S)).cells) (by rw [cells_length ((⟨x.k, x.repo, x.tag, x.dig, x.typ, x.size, x.at_⟩ : S)) hyl, cells_length _ none_dig]))
    have XN := Lib.hid (XX.trans_but (But.setCells g4 (((⟨x.k, x.repo, x.tag, x.dig, x.typ, x.size, x.at_⟩ : S)).cells) 0 wi) l4)
    generalize wi.setCells g4 0 (((⟨x.k, x.repo, x.tag, x.dig, x.typ, x.size, x.at_⟩ : S)).cells) = wn at *
    clear hyo h4 XX
    go_wp2_with fail
    exact bodyPost_ret (results_cell_row rfl _ _ g4 25 (((⟨x.k, x.repo, x.tag, x.dig, x.typ, x.size, x.at_⟩ : S)).cells).toArray (0, 0) _ rfl HN.out Tryd.underlying25 rfl (by rw [List.size_toArray, cells_length ((⟨x.k, x.repo, x.tag, x.dig, x.typ, x.size, x.at_⟩ : S)) hyl]; exact size38)) rfl ⟨rfl, XN.out⟩
  · have HY : Hid (Blk wi g5 25 (((⟨x.k, noStr, noStr, zeros, noStr, 0, 0⟩ : S)).cells)) := HY.out
    have hX := H2.out.but HU.out (by omega)
    have hF := H3.out.but HU.out (by omega)
    have p0 : wi.cell? ⟨g3, 0, none⟩ = some (.bool true) := hF.cell 0
    have p1 : wi.cell? ⟨g3, 1, none⟩ = some (.bool false) := hF.cell 1
    have p2 : wi.cell? ⟨g3, 2, none⟩ = some (.bool false) := hF.cell 2
    have p3 : wi.cell? ⟨g3, 3, none⟩ = some (.bool true) := hF.cell 3
    have q1 : wi.cell? ⟨g2, 1, none⟩ = some (.string x.repo) := hX.cell 1
    have q2 : wi.cell? ⟨g2, 2, none⟩ = some (.string x.tag) := hX.cell 2
    have r1 : wi.cell? ⟨g5, 1, none⟩ = some (.string noStr) := HY.out.cell 1
    have r2 : wi.cell? ⟨g5, 2, none⟩ = some (.string noStr) := HY.out.cell 2
    have f1 := HY.out.frozen 1
    have f2 := HY.out.frozen 2
    have hs := (HY.out.set_ 1 (.string x.repo)).set_ 2 (.string x.tag)
    rw [set1, set2] at hs
    have HS := Lib.hid hs.drew
    have HB := Lib.hid (((HU.out.trans (But.set_ g5 wi 1 (.string x.repo))).trans (But.set_ g5 _ 2 (.string x.tag))).trans (But.of_ext (Reg.Ext.drew _)))
    clear hX hF hs HU HY
    go_wp2_with fail
    go_region
    clear p0 p1 p2 p3 q1 q2 r1 r2 f1 f2
    generalize ((wi.setCell ⟨g5, 1, none⟩ (Value.string x.repo)).setCell ⟨g5, 2, none⟩ (Value.string x.tag)).drew = wi at *
    have HY := HS
    have HU := HB
    clear HS HB
    have HY : Hid (Blk wi g5 25 (((⟨x.k, x.repo, x.tag, zeros, noStr, 0, 0⟩ : S)).cells)) := HY.out
    have hyl : ((⟨x.k, x.repo, x.tag, zeros, noStr, 0, 0⟩ : S)).dig.length = 32 := by first | exact hx | exact none_dig
    have hX := H2.out.but HU.out (by omega)
    have hF := H3.out.but HU.out (by omega)
    have p0 : wi.cell? ⟨g3, 0, none⟩ = some (.bool true) := hF.cell 0
    have p1 : wi.cell? ⟨g3, 1, none⟩ = some (.bool false) := hF.cell 1
    have p2 : wi.cell? ⟨g3, 2, none⟩ = some (.bool false) := hF.cell 2
    have p3 : wi.cell? ⟨g3, 3, none⟩ = some (.bool true) := hF.cell 3
    have q1 : wi.cell? ⟨g2, 37, none⟩ = some (.int .i64 x.at_) := by rw [hX.cell, at37 x hx]
    have r1 : wi.cell? ⟨g5, 37, none⟩ = some (.int .i64 0) := by rw [HY.out.cell, at37 ((⟨x.k, x.repo, x.tag, zeros, noStr, 0, 0⟩ : S)) hyl]
    have f1 := HY.out.frozen 37
    have hs := HY.out.set_ 37 (.int .i64 x.at_)
    rw [set37 ((⟨x.k, x.repo, x.tag, zeros, noStr, 0, 0⟩ : S)) hyl] at hs
    clear hyl
    have HS := Lib.hid hs
    have HB := Lib.hid (HU.out.trans (But.set_ g5 wi 37 (.int .i64 x.at_)))
    clear hX hF hs HU HY
    go_upto_region 10 with (fail)
    clear p0 p1 p2 p3 q1 r1 f1
    generalize wi.setCell ⟨g5, 37, none⟩ (Value.int .i64 x.at_) = wi at *
    have HY := HS
    have HU := HB
    clear HS HB
    have hyo : Blk wi g5 25 (((⟨x.k, x.repo, x.tag, zeros, noStr, 0, x.at_⟩ : S)).cells) := HY.out
    have h4 := H4.out.but HU.out (by omega)
    have XX := X.out.trans_but HU.out l5
    have hyl : ((⟨x.k, x.repo, x.tag, zeros, noStr, 0, x.at_⟩ : S)).dig.length = 32 := by first | exact hx | exact none_dig
    refine wp_region_lit ?_
    refine wpList_load_row rfl 25 _ rfl g5 rfl 25 (((⟨x.k, x.repo, x.tag, zeros, noStr, 0, x.at_⟩ : S)).cells).toArray (0, 0) _ hyo Tryd.underlying25 rfl (by rw [List.size_toArray, cells_length ((⟨x.k, x.repo, x.tag, zeros, noStr, 0, x.at_⟩ : S)) hyl]; exact size38) ?_
    simp only [Act.put, Act.eval, List.setIfInBounds_toArray, List.set_cons_zero, List.set_cons_succ, Nat.reduceAdd, Array.getD_eq_getD_getElem?, List.getElem?_toArray, List.getElem?_cons_succ, List.getElem?_cons_zero, Option.getD_some]
    refine wpList_store_mid rfl 25 _ _ rfl g4 0 (((⟨x.k, x.repo, x.tag, zeros, noStr, 0, x.at_⟩ : S)).cells).toArray rfl rfl (h4.there _ (by rw [List.size_toArray, cells_length ((⟨x.k, x.repo, x.tag, zeros, noStr, 0, x.at_⟩ : S)) hyl, cells_length _ none_dig]; exact Nat.le_refl _)) (by rw [List.size_toArray, cells_length ((⟨x.k, x.repo, x.tag, zeros, noStr, 0, x.at_⟩ : S)) hyl]; exact size38) (all_oneCell_toArray (oneS _)) ?_
    simp only [List.toList_toArray]
    simp only [Act.put, Act.eval, List.setIfInBounds_toArray, List.set_cons_zero, List.set_cons_succ, Nat.reduceAdd, Array.getD_eq_getD_getElem?, List.getElem?_toArray, List.getElem?_cons_succ, List.getElem?_cons_zero, Option.getD_some]
    have HN := Lib.hid (h4.setAll (((⟨x.k, x.repo, x.tag, zeros, noStr, 0, x.at_⟩ : S)).cells) (by rw [cells_length ((⟨x.k, x.repo, x.tag, zeros, noStr, 0, x.at_⟩ : S)) hyl, cells_length _ none_dig]))
    have XN := Lib.hid (XX.trans_but (But.setCells g4 (((⟨x.k, x.repo, x.tag, zeros, noStr, 0, x.at_⟩ : S)).cells) 0 wi) l4)
    generalize wi.setCells g4 0 (((⟨x.k, x.repo, x.tag, zeros, noStr, 0, x.at_⟩ : S)).cells) = wn at *
    clear hyo h4 XX
    go_wp2_with fail
    exact bodyPost_ret (results_cell_row rfl _ _ g4 25 (((⟨x.k, x.repo, x.tag, zeros, noStr, 0, x.at_⟩ : S)).cells).toArray (0, 0) _ rfl HN.out Tryd.underlying25 rfl (by rw [List.size_toArray, cells_length ((⟨x.k, x.repo, x.tag, zeros, noStr, 0, x.at_⟩ : S)) hyl]; exact size38)) rfl ⟨rfl, XN.out⟩
  · have HY : Hid (Blk wi g5 25 (((⟨x.k, noStr, noStr, zeros, noStr, 0, 0⟩ : S)).cells)) := HY.out
    have hX := H2.out.but HU.out (by omega)
    have hF := H3.out.but HU.out (by omega)
    have p0 : wi.cell? ⟨g3, 0, none⟩ = some (.bool true) := hF.cell 0
    have p1 : wi.cell? ⟨g3, 1, none⟩ = some (.bool false) := hF.cell 1
    have p2 : wi.cell? ⟨g3, 2, none⟩ = some (.bool false) := hF.cell 2
    have p3 : wi.cell? ⟨g3, 3, none⟩ = some (.bool false) := hF.cell 3
    have q1 : wi.cell? ⟨g2, 1, none⟩ = some (.string x.repo) := hX.cell 1
    have q2 : wi.cell? ⟨g2, 2, none⟩ = some (.string x.tag) := hX.cell 2
    have r1 : wi.cell? ⟨g5, 1, none⟩ = some (.string noStr) := HY.out.cell 1
    have r2 : wi.cell? ⟨g5, 2, none⟩ = some (.string noStr) := HY.out.cell 2
    have f1 := HY.out.frozen 1
    have f2 := HY.out.frozen 2
    have hs := (HY.out.set_ 1 (.string x.repo)).set_ 2 (.string x.tag)
    rw [set1, set2] at hs
    have HS := Lib.hid hs.drew
    have HB := Lib.hid (((HU.out.trans (But.set_ g5 wi 1 (.string x.repo))).trans (But.set_ g5 _ 2 (.string x.tag))).trans (But.of_ext (Reg.Ext.drew _)))
    clear hX hF hs HU HY
    go_wp2_with fail
    go_region
    clear p0 p1 p2 p3 q1 q2 r1 r2 f1 f2
    generalize ((wi.setCell ⟨g5, 1, none⟩ (Value.string x.repo)).setCell ⟨g5, 2, none⟩ (Value.string x.tag)).drew = wi at *
    have HY := HS
    have HU := HB
    clear HS HB
    have hX := H2.out.but HU.out (by omega)
    have hF := H3.out.but HU.out (by omega)
    have p0 : wi.cell? ⟨g3, 0, none⟩ = some (.bool true) := hF.cell 0
    have p1 : wi.cell? ⟨g3, 1, none⟩ = some (.bool false) := hF.cell 1
    have p2 : wi.cell? ⟨g3, 2, none⟩ = some (.bool false) := hF.cell 2
    have p3 : wi.cell? ⟨g3, 3, none⟩ = some (.bool false) := hF.cell 3
    clear hX hF
    go_upto_region 10 with (fail)
    clear p0 p1 p2 p3
    have hyo : Blk wi g5 25 (((⟨x.k, x.repo, x.tag, zeros, noStr, 0, 0⟩ : S)).cells) := HY.out
    have h4 := H4.out.but HU.out (by omega)
    have XX := X.out.trans_but HU.out l5
    have hyl : ((⟨x.k, x.repo, x.tag, zeros, noStr, 0, 0⟩ : S)).dig.length = 32 := by first | exact hx | exact none_dig
    refine wp_region_lit ?_
    refine wpList_load_row rfl 25 _ rfl g5 rfl 25 (((⟨x.k, x.repo, x.tag, zeros, noStr, 0, 0⟩ : S)).cells).toArray (0, 0) _ hyo Tryd.underlying25 rfl (by rw [List.size_toArray, cells_length ((⟨x.k, x.repo, x.tag, zeros, noStr, 0, 0⟩ : S)) hyl]; exact size38) ?_
    simp only [Act.put, Act.eval, List.setIfInBounds_toArray, List.set_cons_zero, List.set_cons_succ, Nat.reduceAdd, Array.getD_eq_getD_getElem?, List.getElem?_toArray, List.getElem?_cons_succ, List.getElem?_cons_zero, Option.getD_some]
    refine wpList_store_mid rfl 25 _ _ rfl g4 0 (((⟨x.k, x.repo, x.tag, zeros, noStr, 0, 0⟩ : S)).cells).toArray rfl rfl (h4.there _ (by rw [List.size_toArray, cells_length ((⟨x.k, x.repo, x.tag, zeros, noStr, 0, 0⟩ : S)) hyl, cells_length _ none_dig]; exact Nat.le_refl _)) (by rw [List.size_toArray, cells_length ((⟨x.k, x.repo, x.tag, zeros, noStr, 0, 0⟩ : S)) hyl]; exact size38) (all_oneCell_toArray (oneS _)) ?_
    simp only [List.toList_toArray]
    simp only [Act.put, Act.eval, List.setIfInBounds_toArray, List.set_cons_zero, List.set_cons_succ, Nat.reduceAdd, Array.getD_eq_getD_getElem?, List.getElem?_toArray, List.getElem?_cons_succ, List.getElem?_cons_zero, Option.getD_some]
    have HN := Lib.hid (h4.setAll (((⟨x.k, x.repo, x.tag, zeros, noStr, 0, 0⟩ : S)).cells) (by rw [cells_length ((⟨x.k, x.repo, x.tag, zeros, noStr, 0, 0⟩ : S)) hyl, cells_length _ none_dig]))
    have XN := Lib.hid (XX.trans_but (But.setCells g4 (((⟨x.k, x.repo, x.tag, zeros, noStr, 0, 0⟩ : S)).cells) 0 wi) l4)
    generalize wi.setCells g4 0 (((⟨x.k, x.repo, x.tag, zeros, noStr, 0, 0⟩ : S)).cells) = wn at *
    clear hyo h4 XX
    go_wp2_with fail
    exact bodyPost_ret (results_cell_row rfl _ _ g4 25 (((⟨x.k, x.repo, x.tag, zeros, noStr, 0, 0⟩ : S)).cells).toArray (0, 0) _ rfl HN.out Tryd.underlying25 rfl (by rw [List.size_toArray, cells_length ((⟨x.k, x.repo, x.tag, zeros, noStr, 0, 0⟩ : S)) hyl]; exact size38)) rfl ⟨rfl, XN.out⟩
  · have HY : Hid (Blk wi g5 25 (((⟨x.k, noStr, noStr, zeros, noStr, 0, 0⟩ : S)).cells)) := HY.out
    have hyl : ((⟨x.k, noStr, noStr, zeros, noStr, 0, 0⟩ : S)).dig.length = 32 := by first | exact hx | exact none_dig
    have hX := H2.out.but HU.out (by omega)
    have hF := H3.out.but HU.out (by omega)
    have p0 : wi.cell? ⟨g3, 0, none⟩ = some (.bool false) := hF.cell 0
    have p1 : wi.cell? ⟨g3, 1, none⟩ = some (.bool true) := hF.cell 1
    have p2 : wi.cell? ⟨g3, 2, none⟩ = some (.bool true) := hF.cell 2
    have p3 : wi.cell? ⟨g3, 3, none⟩ = some (.bool false) := hF.cell 3
    go_upto_region 5 with (fail)
    refine wp_region_lit ?_
    iterate 3 go_step
    refine wpList_load_mid rfl 23 _ rfl g2 3 rfl (x.dig.map byteV) _ (range_dig hX) Tryd.underlying23 rfl (by rw [List.length_map, hx]; kernel_rfl) ?_
    simp only [Act.put, Act.eval, List.setIfInBounds_toArray, List.set_cons_zero, List.set_cons_succ, Nat.reduceAdd, Array.getD_eq_getD_getElem?, List.getElem?_toArray, List.getElem?_cons_succ, List.getElem?_cons_zero, Option.getD_some]
    iterate 3 go_step
    have hyo := HY.out
    refine wpList_store_mid rfl 23 _ _ rfl g5 3 (x.dig.map byteV).toArray rfl rfl (by rw [List.size_toArray, List.length_map, hx]; exact there_dig hyo hyl) (by rw [List.size_toArray, List.length_map, hx]; kernel_rfl) (all_oneCell_toArray fun v hv => by
      obtain ⟨c, _, rfl⟩ := List.mem_map.1 hv
      rfl) ?_
    simp only [List.toList_toArray]
    simp only [Act.put, Act.eval, List.setIfInBounds_toArray, List.set_cons_zero, List.set_cons_succ, Nat.reduceAdd, Array.getD_eq_getD_getElem?, List.getElem?_toArray, List.getElem?_cons_succ, List.getElem?_cons_zero, Option.getD_some]
    have HYn := Lib.hid (put_dig hyo x.dig (hx.trans hyl.symm))
    have HUn := Lib.hid (HU.out.trans (But.setCells g5 (x.dig.map byteV) 3 wi))
    clear hX hF hyl hyo HU HY p0 p1 p2 p3
    generalize wi.setCells g5 3 (x.dig.map byteV) = wi at *
    have HY := HYn
    have HU := HUn
    clear HYn HUn
    have HY : Hid (Blk wi g5 25 (((⟨x.k, noStr, noStr, x.dig, noStr, 0, 0⟩ : S)).cells)) := HY.out
    have hyl : ((⟨x.k, noStr, noStr, x.dig, noStr, 0, 0⟩ : S)).dig.length = 32 := by first | exact hx | exact none_dig
    have hX := H2.out.but HU.out (by omega)
    have hF := H3.out.but HU.out (by omega)
    have p0 : wi.cell? ⟨g3, 0, none⟩ = some (.bool false) := hF.cell 0
    have p1 : wi.cell? ⟨g3, 1, none⟩ = some (.bool true) := hF.cell 1
    have p2 : wi.cell? ⟨g3, 2, none⟩ = some (.bool true) := hF.cell 2
    have p3 : wi.cell? ⟨g3, 3, none⟩ = some (.bool false) := hF.cell 3
    have q1 : wi.cell? ⟨g2, 35, none⟩ = some (.string x.typ) := by rw [hX.cell, at35 x hx]
    have q2 : wi.cell? ⟨g2, 36, none⟩ = some (.int .i64 x.size) := by rw [hX.cell, at36 x hx]
    have r1 : wi.cell? ⟨g5, 35, none⟩ = some (.string noStr) := by rw [HY.out.cell, at35 ((⟨x.k, noStr, noStr, x.dig, noStr, 0, 0⟩ : S)) hyl]
    have r2 : wi.cell? ⟨g5, 36, none⟩ = some (.int .i64 0) := by rw [HY.out.cell, at36 ((⟨x.k, noStr, noStr, x.dig, noStr, 0, 0⟩ : S)) hyl]
    have f1 := HY.out.frozen 35
    have f2 := HY.out.frozen 36
    have hs0 := HY.out.set_ 35 (.string x.typ)
    rw [set35 ((⟨x.k, noStr, noStr, x.dig, noStr, 0, 0⟩ : S)) hyl] at hs0
    have hs := hs0.set_ 36 (.int .i64 x.size)
    rw [set36 ({ ((⟨x.k, noStr, noStr, x.dig, noStr, 0, 0⟩ : S)) with typ := x.typ } : S) hyl] at hs
    clear hs0 hyl
    have HS := Lib.hid hs.drew
    have HB := Lib.hid (((HU.out.trans (But.set_ g5 wi 35 (.string x.typ))).trans (But.set_ g5 _ 36 (.int .i64 x.size))).trans (But.of_ext (Reg.Ext.drew _)))
    clear hX hF hs HU HY
    go_wp2_with fail
    go_region
    clear p0 p1 p2 p3 q1 q2 r1 r2 f1 f2
    generalize ((wi.setCell ⟨g5, 35, none⟩ (Value.string x.typ)).setCell ⟨g5, 36, none⟩ (Value.int .i64 x.size)).drew = wi at *
    have HY := HS
    have HU := HB
    clear HS HB
    have hX := H2.out.but HU.out (by omega)
    have hF := H3.out.but HU.out (by omega)
    have p0 : wi.cell? ⟨g3, 0, none⟩ = some (.bool false) := hF.cell 0
    have p1 : wi.cell? ⟨g3, 1, none⟩ = some (.bool true) := hF.cell 1
    have p2 : wi.cell? ⟨g3, 2, none⟩ = some (.bool true) := hF.cell 2
    have p3 : wi.cell? ⟨g3, 3, none⟩ = some (.bool false) := hF.cell 3
    clear hX hF
    go_upto_region 10 with (fail)
    clear p0 p1 p2 p3
    have hyo : Blk wi g5 25 (((⟨x.k, noStr, noStr, x.dig, x.typ, x.size, 0⟩ : S)).cells) := HY.out
    have h4 := H4.out.but HU.out (by omega)
    have XX := X.out.trans_but HU.out l5
    have hyl : ((⟨x.k, noStr, noStr, x.dig, x.typ, x.size, 0⟩ : S)).dig.length = 32 := by first | exact hx | exact none_dig
    refine wp_region_lit ?_
    refine wpList_load_row rfl 25 _ rfl g5 rfl 25 (((⟨x.k, noStr, noStr, x.dig, x.typ, x.size, 0⟩ : S)).cells).toArray (0, 0) _ hyo Tryd.underlying25 rfl (by rw [List.size_toArray, cells_length ((⟨x.k, noStr, noStr, x.dig, x.typ, x.size, 0⟩ : S)) hyl]; exact size38) ?_
    simp only [Act.put, Act.eval, List.setIfInBounds_toArray, List.set_cons_zero, List.set_cons_succ, Nat.reduceAdd, Array.getD_eq_getD_getElem?, List.getElem?_toArray, List.getElem?_cons_succ, List.getElem?_cons_zero, Option.getD_some]
    refine wpList_store_mid rfl 25 _ _ rfl g4 0 (((⟨x.k, noStr, noStr, x.dig, x.typ, x.size, 0⟩ : S)).cells).toArray rfl rfl (h4.there _ (by rw [List.size_toArray, cells_length ((⟨x.k, noStr, noStr, x.dig, x.typ, x.size, 0⟩ : S)) hyl, cells_length _ none_dig]; exact Nat.le_refl _)) (by rw [List.size_toArray, cells_length ((⟨x.k, noStr, noStr, x.dig, x.typ, x.size, 0⟩ : S)) hyl]; exact size38) (all_oneCell_toArray (oneS _)) ?_
    simp only [List.toList_toArray]
    simp only [Act.put, Act.eval, List.setIfInBounds_toArray, List.set_cons_zero, List.set_cons_succ, Nat.reduceAdd, Array.getD_eq_getD_getElem?, List.getElem?_toArray, List.getElem?_cons_succ, List.getElem?_cons_zero, Option.getD_some]
    have HN := Lib.hid (h4.setAll (((⟨x.k, noStr, noStr, x.dig, x.typ, x.size, 0⟩ : S)).cells) (by rw [cells_length ((⟨x.k, noStr, noStr, x.dig, x.typ, x.size, 0⟩ : S)) hyl, cells_length _ none_dig]))
    have XN := Lib.hid (XX.trans_but (But.setCells g4 (((⟨x.k, noStr, noStr, x.dig, x.typ, x.size, 0⟩ : S)).cells) 0 wi) l4)
    generalize wi.setCells g4 0 (((⟨x.k, noStr, noStr, x.dig, x.typ, x.size, 0⟩ : S)).cells) = wn at *
    clear hyo h4 XX
    go_wp2_with fail
    exact bodyPost_ret (results_cell_row rfl _ _ g4 25 (((⟨x.k, noStr, noStr, x.dig, x.typ, x.size, 0⟩ : S)).cells).toArray (0, 0) _ rfl HN.out Tryd.underlying25 rfl (by rw [List.size_toArray, cells_length ((⟨x.k, noStr, noStr, x.dig, x.typ, x.size, 0⟩ : S)) hyl]; exact size38)) rfl ⟨rfl, XN.out⟩
  · have HY : Hid (Blk wi g5 25 (((⟨x.k, noStr, noStr, zeros, noStr, 0, 0⟩ : S)).cells)) := HY.out
    have hyl : ((⟨x.k, noStr, noStr, zeros, noStr, 0, 0⟩ : S)).dig.length = 32 := by first | exact hx | exact none_dig
    have hX := H2.out.but HU.out (by omega)
    have hF := H3.out.but HU.out (by omega)
    have p0 : wi.cell? ⟨g3, 0, none⟩ = some (.bool false) := hF.cell 0
    have p1 : wi.cell? ⟨g3, 1, none⟩ = some (.bool true) := hF.cell 1
    have p2 : wi.cell? ⟨g3, 2, none⟩ = some (.bool false) := hF.cell 2
    have p3 : wi.cell? ⟨g3, 3, none⟩ = some (.bool false) := hF.cell 3
    go_upto_region 5 with (fail)
    refine wp_region_lit ?_
    iterate 3 go_step
    refine wpList_load_mid rfl 23 _ rfl g2 3 rfl (x.dig.map byteV) _ (range_dig hX) Tryd.underlying23 rfl (by rw [List.length_map, hx]; kernel_rfl) ?_
    simp only [Act.put, Act.eval, List.setIfInBounds_toArray, List.set_cons_zero, List.set_cons_succ, Nat.reduceAdd, Array.getD_eq_getD_getElem?, List.getElem?_toArray, List.getElem?_cons_succ, List.getElem?_cons_zero, Option.getD_some]
    iterate 3 go_step
    have hyo := HY.out
    refine wpList_store_mid rfl 23 _ _ rfl g5 3 (x.dig.map byteV).toArray rfl rfl (by rw [List.size_toArray, List.length_map, hx]; exact there_dig hyo hyl) (by rw [List.size_toArray, List.length_map, hx]; kernel_rfl) (all_oneCell_toArray fun v hv => by
      obtain ⟨c, _, rfl⟩ := List.mem_map.1 hv
      rfl) ?_
    simp only [List.toList_toArray]
    simp only [Act.put, Act.eval, List.setIfInBounds_toArray, List.set_cons_zero, List.set_cons_succ, Nat.reduceAdd, Array.getD_eq_getD_getElem?, List.getElem?_toArray, List.getElem?_cons_succ, List.getElem?_cons_zero, Option.getD_some]
    have HYn := Lib.hid (put_dig hyo x.dig (hx.trans hyl.symm))
    have HUn := Lib.hid (HU.out.trans (But.setCells g5 (x.dig.map byteV) 3 wi))
    clear hX hF hyl hyo HU HY p0 p1 p2 p3
    generalize wi.setCells g5 3 (x.dig.map byteV) = wi at *
    have HY := HYn
    have HU := HUn
    clear HYn HUn
    have hX := H2.out.but HU.out (by omega)
    have hF := H3.out.but HU.out (by omega)
    have p0 : wi.cell? ⟨g3, 0, none⟩ = some (.bool false) := hF.cell 0
    have p1 : wi.cell? ⟨g3, 1, none⟩ = some (.bool true) := hF.cell 1
    have p2 : wi.cell? ⟨g3, 2, none⟩ = some (.bool false) := hF.cell 2
    have p3 : wi.cell? ⟨g3, 3, none⟩ = some (.bool false) := hF.cell 3
    clear hX hF
    go_upto_region 10 with (fail)
    clear p0 p1 p2 p3
    have hyo : Blk wi g5 25 (((⟨x.k, noStr, noStr, x.dig, noStr, 0, 0⟩ : S)).cells) := HY.out
    have h4 := H4.out.but HU.out (by omega)
    have XX := X.out.trans_but HU.out l5
    have hyl : ((⟨x.k, noStr, noStr, x.dig, noStr, 0, 0⟩ : S)).dig.length = 32 := by first | exact hx | exact none_dig
    refine wp_region_lit ?_
    refine wpList_load_row rfl 25 _ rfl g5 rfl 25 (((⟨x.k, noStr, noStr, x.dig, noStr, 0, 0⟩ : S)).cells).toArray (0, 0) _ hyo Tryd.underlying25 rfl (by rw [List.size_toArray, cells_length ((⟨x.k, noStr, noStr, x.dig, noStr, 0, 0⟩ : S)) hyl]; exact size38) ?_
    simp only [Act.put, Act.eval, List.setIfInBounds_toArray, List.set_cons_zero, List.set_cons_succ, Nat.reduceAdd, Array.getD_eq_getD_getElem?, List.getElem?_toArray, List.getElem?_cons_succ, List.getElem?_cons_zero, Option.getD_some]
    refine wpList_store_mid rfl 25 _ _ rfl g4 0 (((⟨x.k, noStr, noStr, x.dig, noStr, 0, 0⟩ : S)).cells).toArray rfl rfl (h4.there _ (by rw [List.size_toArray, cells_length ((⟨x.k, noStr, noStr, x.dig, noStr, 0, 0⟩ : S)) hyl, cells_length _ none_dig]; exact Nat.le_refl _)) (by rw [List.size_toArray, cells_length ((⟨x.k, noStr, noStr, x.dig, noStr, 0, 0⟩ : S)) hyl]; exact size38) (all_oneCell_toArray (oneS _)) ?_
    simp only [List.toList_toArray]
    simp only [Act.put, Act.eval, List.setIfInBounds_toArray, List.set_cons_zero, List.set_cons_succ, Nat.reduceAdd, Array.getD_eq_getD_getElem?, List.getElem?_toArray, List.getElem?_cons_succ, List.getElem?_cons_zero, Option.getD_some]
    have HN := Lib.hid (h4.setAll (((⟨x.k, noStr, noStr, x.dig, noStr, 0, 0⟩ : S)).cells) (by rw [cells_length ((⟨x.k, noStr, noStr, x.dig, noStr, 0, 0⟩ : S)) hyl, cells_length _ none_dig]))
    have XN := Lib.hid (XX.trans_but (But.setCells g4 (((⟨x.k, noStr, noStr, x.dig, noStr, 0, 0⟩ : S)).cells) 0 wi) l4)
    generalize wi.setCells g4 0 (((⟨x.k, noStr, noStr, x.dig, noStr, 0, 0⟩ : S)).cells) = wn at *
    clear hyo h4 XX
    go_wp2_with fail
    exact bodyPost_ret (results_cell_row rfl _ _ g4 25 (((⟨x.k, noStr, noStr, x.dig, noStr, 0, 0⟩ : S)).cells).toArray (0, 0) _ rfl HN.out Tryd.underlying25 rfl (by rw [List.size_toArray, cells_length ((⟨x.k, noStr, noStr, x.dig, noStr, 0, 0⟩ : S)) hyl]; exact size38)) rfl ⟨rfl, XN.out⟩
end Slp
end Go.Proofs.YtbeghdoffiidoaaDoor
