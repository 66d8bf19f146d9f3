/- The answers that the document fixes by number: the walk. -/
import Derived.Test.YtcfdlfedmbmidaaDoorTkY
set_option linter.unusedSimpArgs false
set_option linter.unusedVariables false
set_option linter.unusedSectionVars false
namespace Go.Proofs.YtcfdlfedmbmidaaDoor
open Go Go.RowKit
namespace Tk

theorem undC : Tryd.prog.underlying 28 = some (.struct (Tryd.prog.fieldsOf 28)) := by kernel_rfl
theorem sizeC : (Tryd.prog.info? 28).map (·.size) = some 13 := by kernel_rfl
theorem zC13 : (#[.string ⟨#[]⟩, .int .i64 0, .int .i64 0, .int .i64 0, .int .i64 0, .int .i64 0, .int .i64 0, .float .f64 0, .float .f64 0, .float .f64 0, .float .f64 0, .float .f64 0, .float .f64 0] : Array Value) = zC.cells.toArray := rfl
theorem Cfg.one (c : Cfg) : ∀ v ∈ c.cells, v.oneCell' = true := by
  intro v hv
  unfold Cfg.cells at hv
  simp only [List.mem_cons, List.not_mem_nil, or_false] at hv
  rcases hv with rfl | rfl | rfl | rfl | rfl | rfl | rfl | rfl | rfl | rfl | rfl | rfl | rfl <;> rfl
set_option maxRecDepth 100000 in
set_option maxHeartbeats 4000000 in
theorem awake_any (w : World) : Calls Tryd.prog 7 #[] w fun e w' => e = .returned (.bool true) ∧ Reg.Ext w w' := by
  have HN := Lib.hid (new_law (Reg.Ext.refl w) 2 (by decide) (by decide))
  go_enter Tryd.func7, Tryd.ntmps7
  go_upto_region 4 with (go_at_call 14; refine (HN.out).mono ?_; rintro e w1 ⟨b, rfl, hl1, -⟩; have HL1 := Lib.hid hl1; clear hl1 HN)
  refine wp_region_lit ?_
  refine wpList_val rfl (.agg xA.cells.toArray) (by as_aux_lemma => kernel_rfl) ?_
  simp only [Act.put, Act.eval, List.setIfInBounds_toArray, List.set_cons_zero, List.set_cons_succ, Nat.reduceAdd, Array.getD_eq_getD_getElem?, List.getElem?_toArray, List.getElem?_cons_succ, List.getElem?_cons_zero, Option.getD_some]
  iterate 3 go_step
  rw [z38]
  obtain ⟨g3, hg3⟩ : ∃ g, (w1).heap.size = g := ⟨_, rfl⟩
  have hb0 := boxT w1 zT
  have hx0 := Reg.Ext.alloc w1 (Obj.cells zT.cells.toArray 25)
  rw [hg3] at hb0 ⊢
  generalize (w1).alloc (Obj.cells zT.cells.toArray 25) = wn at *
  refine wpList_store_mid rfl 25 _ _ rfl g3 0 (xA).cells.toArray rfl ?_ (hb0.there _ (by rw [List.size_toArray, (xA).len rfl, zT.len rfl]; exact Nat.le_refl _)) (by rw [List.size_toArray, (xA).len rfl]; exact sizeT) (all_oneCell_toArray (T.one _)) ?_
  · rfl
  simp only [List.toList_toArray]
  simp only [Act.put, Act.eval, List.setIfInBounds_toArray, List.set_cons_zero, List.set_cons_succ, Nat.reduceAdd, Array.getD_eq_getD_getElem?, List.getElem?_toArray, List.getElem?_cons_succ, List.getElem?_cons_zero, Option.getD_some]
  have hb1 := hb0.setAll (xA).cells (by rw [(xA).len rfl, zT.len rfl])
  have hx1 := hx0.trans_but (But.setCells g3 (xA).cells 0 wn) (by omega)
  clear hb0 hx0
  generalize wn.setCells g3 0 (xA).cells = w2 at *
  have HL2 := Lib.hid (HL1.out.ext hx1)
  have HA2 : Hid (Bo w2 b _ g3 _ xA.cells) := Lib.hid ⟨hb1, fun o => by have := HL1.out.tb.lt o; omega⟩
  clear hb1 hx1 hg3 HL1
  go_upto_region 5 with (fail)
  refine wp_region_lit ?_
  refine wpList_val rfl (.agg (xB.dig.map byteV).toArray) (by as_aux_lemma => kernel_rfl) ?_
  simp only [Act.put, Act.eval, List.setIfInBounds_toArray, List.set_cons_zero, List.set_cons_succ, Nat.reduceAdd, Array.getD_eq_getD_getElem?, List.getElem?_toArray, List.getElem?_cons_succ, List.getElem?_cons_zero, Option.getD_some]
  refine wpList_val rfl (.agg xB.cells.toArray) (by as_aux_lemma => kernel_rfl) ?_
  simp only [Act.put, Act.eval, List.setIfInBounds_toArray, List.set_cons_zero, List.set_cons_succ, Nat.reduceAdd, Array.getD_eq_getD_getElem?, List.getElem?_toArray, List.getElem?_cons_succ, List.getElem?_cons_zero, Option.getD_some]
  iterate 3 go_step
  rw [z38]
  obtain ⟨g4, hg4⟩ : ∃ g, (w2).heap.size = g := ⟨_, rfl⟩
  have hb0 := boxT w2 zT
  have hx0 := Reg.Ext.alloc w2 (Obj.cells zT.cells.toArray 25)
  rw [hg4] at hb0 ⊢
  generalize (w2).alloc (Obj.cells zT.cells.toArray 25) = wn at *
  refine wpList_store_mid rfl 25 _ _ rfl g4 0 (xB).cells.toArray rfl ?_ (hb0.there _ (by rw [List.size_toArray, (xB).len rfl, zT.len rfl]; exact Nat.le_refl _)) (by rw [List.size_toArray, (xB).len rfl]; exact sizeT) (all_oneCell_toArray (T.one _)) ?_
  · rfl
  simp only [List.toList_toArray]
  simp only [Act.put, Act.eval, List.setIfInBounds_toArray, List.set_cons_zero, List.set_cons_succ, Nat.reduceAdd, Array.getD_eq_getD_getElem?, List.getElem?_toArray, List.getElem?_cons_succ, List.getElem?_cons_zero, Option.getD_some]
  have hb1 := hb0.setAll (xB).cells (by rw [(xB).len rfl, zT.len rfl])
  have hx1 := hx0.trans_but (But.setCells g4 (xB).cells 0 wn) (by omega)
  clear hb0 hx0
  generalize wn.setCells g4 0 (xB).cells = w3 at *
  have HL3 := Lib.hid (HL2.out.ext hx1)
  have HA3 := Lib.hid (HA2.out.ext hx1)
  have HB3 : Hid (Bo w3 b _ g4 _ xB.cells) := Lib.hid ⟨hb1, fun o => by have := HL2.out.tb.lt o; omega⟩
  clear hb1 hx1 hg4 HL2 HA2
  go_upto_region 6 with (fail)
  refine wp_region_lit ?_
  refine wpList_val rfl (.agg xC.cells.toArray) (by as_aux_lemma => kernel_rfl) ?_
  simp only [Act.put, Act.eval, List.setIfInBounds_toArray, List.set_cons_zero, List.set_cons_succ, Nat.reduceAdd, Array.getD_eq_getD_getElem?, List.getElem?_toArray, List.getElem?_cons_succ, List.getElem?_cons_zero, Option.getD_some]
  iterate 3 go_step
  rw [z38]
  obtain ⟨g5, hg5⟩ : ∃ g, (w3).heap.size = g := ⟨_, rfl⟩
  have hb0 := boxT w3 zT
  have hx0 := Reg.Ext.alloc w3 (Obj.cells zT.cells.toArray 25)
  rw [hg5] at hb0 ⊢
  generalize (w3).alloc (Obj.cells zT.cells.toArray 25) = wn at *
  refine wpList_store_mid rfl 25 _ _ rfl g5 0 (xC).cells.toArray rfl ?_ (hb0.there _ (by rw [List.size_toArray, (xC).len rfl, zT.len rfl]; exact Nat.le_refl _)) (by rw [List.size_toArray, (xC).len rfl]; exact sizeT) (all_oneCell_toArray (T.one _)) ?_
  · rfl
  simp only [List.toList_toArray]
  simp only [Act.put, Act.eval, List.setIfInBounds_toArray, List.set_cons_zero, List.set_cons_succ, Nat.reduceAdd, Array.getD_eq_getD_getElem?, List.getElem?_toArray, List.getElem?_cons_succ, List.getElem?_cons_zero, Option.getD_some]
  have hb1 := hb0.setAll (xC).cells (by rw [(xC).len rfl, zT.len rfl])
  have hx1 := hx0.trans_but (But.setCells g5 (xC).cells 0 wn) (by omega)
  clear hb0 hx0
  generalize wn.setCells g5 0 (xC).cells = w4 at *
  have HL4 := Lib.hid (HL3.out.ext hx1)
  have HA4 := Lib.hid (HA3.out.ext hx1)
  have HB4 := Lib.hid (HB3.out.ext hx1)
  have HC4 : Hid (Bo w4 b _ g5 _ xC.cells) := Lib.hid ⟨hb1, fun o => by have := HL3.out.tb.lt o; omega⟩
  clear hb1 hx1 hg5 HL3 HA3 HB3
  go_upto_region 7 with (fail)
  refine wp_region_lit ?_
  iterate 3 go_step
  refine wpList_ldm rfl 25 (.tmp 4) rfl g4 0 rfl (xB).cells _ (Lib.hid (blk_rng HB4.out.1)) undT (by rw [(xB).len rfl]; exact sizeT) ?_
  simp only [Act.put, Act.eval, List.setIfInBounds_toArray, List.set_cons_zero, List.set_cons_succ, Nat.reduceAdd, Array.getD_eq_getD_getElem?, List.getElem?_toArray, List.getElem?_cons_succ, List.getElem?_cons_zero, Option.getD_some]
  have HP := Lib.hid (HL4.out.put (by decide) xB rfl goodB)
  rw [putB] at HP
  dsimp only [Option.getD, Option.isSome] at HP
  repeat go_step
  refine (HP.out).mono ?_
  rintro e w5 ⟨rfl, vvw5, hl, ht⟩
  have HLw5 := Lib.hid hl
  have HTw5 := Lib.hid ht
  rename_i hK
  refine hK _ _ ?_
  clear hK HP hl ht
  have HA5 := Lib.hid (HA4.out.turn HTw5.out)
  have HB5 := Lib.hid (HB4.out.turn HTw5.out)
  have HC5 := Lib.hid (HC4.out.turn HTw5.out)
  clear HL4 HA4 HB4 HC4 HTw5
  go_upto_region 8 with (fail)
  refine wp_region_lit ?_
  iterate 3 go_step
  refine wpList_ldm rfl 25 (.tmp 3) rfl g3 0 rfl (xA).cells _ (Lib.hid (blk_rng HA5.out.1)) undT (by rw [(xA).len rfl]; exact sizeT) ?_
  simp only [Act.put, Act.eval, List.setIfInBounds_toArray, List.set_cons_zero, List.set_cons_succ, Nat.reduceAdd, Array.getD_eq_getD_getElem?, List.getElem?_toArray, List.getElem?_cons_succ, List.getElem?_cons_zero, Option.getD_some]
  have HP := Lib.hid (HLw5.out.put (by decide) xA rfl goodA)
  rw [putA] at HP
  dsimp only [Option.getD, Option.isSome] at HP
  repeat go_step
  refine (HP.out).mono ?_
  rintro e w6 ⟨rfl, vvw6, hl, ht⟩
  have HLw6 := Lib.hid hl
  have HTw6 := Lib.hid ht
  rename_i hK
  refine hK _ _ ?_
  clear hK HP hl ht
  have HA6 := Lib.hid (HA5.out.turn HTw6.out)
  have HB6 := Lib.hid (HB5.out.turn HTw6.out)
  have HC6 := Lib.hid (HC5.out.turn HTw6.out)
  clear HLw5 HA5 HB5 HC5 HTw6
  go_upto_region 9 with (fail)
  refine wp_region_lit ?_
  iterate 3 go_step
  refine wpList_ldm rfl 25 (.tmp 5) rfl g5 0 rfl (xC).cells _ (Lib.hid (blk_rng HC6.out.1)) undT (by rw [(xC).len rfl]; exact sizeT) ?_
  simp only [Act.put, Act.eval, List.setIfInBounds_toArray, List.set_cons_zero, List.set_cons_succ, Nat.reduceAdd, Array.getD_eq_getD_getElem?, List.getElem?_toArray, List.getElem?_cons_succ, List.getElem?_cons_zero, Option.getD_some]
  have HP := Lib.hid (HLw6.out.put (by decide) xC rfl goodC)
  rw [putC] at HP
  dsimp only [Option.getD, Option.isSome] at HP
  repeat go_step
  refine (HP.out).mono ?_
  rintro e w7 ⟨rfl, vvw7, hl, ht⟩
  have HLw7 := Lib.hid hl
  have HTw7 := Lib.hid ht
  rename_i hK
  refine hK _ _ ?_
  clear hK HP hl ht
  have HA7 := Lib.hid (HA6.out.turn HTw7.out).1
  have HB7 := Lib.hid (HB6.out.turn HTw7.out).1
  have HC7 := Lib.hid (HC6.out.turn HTw7.out).1
  clear HLw6 HA6 HB6 HC6 HTw7
  iterate 15 go_step
  rw [z38]
  obtain ⟨g6, hg6⟩ : ∃ g, (w7).heap.size = g := ⟨_, rfl⟩
  have hb0 := boxT w7 zT
  have hx0 := Reg.Ext.alloc w7 (Obj.cells zT.cells.toArray 25)
  rw [hg6] at hb0 ⊢
  generalize (w7).alloc (Obj.cells zT.cells.toArray 25) = wn at *
  refine wpList_store_mid rfl 25 _ _ rfl g6 0 (xA).cells.toArray rfl ?_ (hb0.there _ (by rw [List.size_toArray, (xA).len rfl, zT.len rfl]; exact Nat.le_refl _)) (by rw [List.size_toArray, (xA).len rfl]; exact sizeT) (all_oneCell_toArray (T.one _)) ?_
  · rfl
  simp only [List.toList_toArray]
  simp only [Act.put, Act.eval, List.setIfInBounds_toArray, List.set_cons_zero, List.set_cons_succ, Nat.reduceAdd, Array.getD_eq_getD_getElem?, List.getElem?_toArray, List.getElem?_cons_succ, List.getElem?_cons_zero, Option.getD_some]
  have hb1 := hb0.setAll (xA).cells (by rw [(xA).len rfl, zT.len rfl])
  have hx1 := hx0.trans_but (But.setCells g6 (xA).cells 0 wn) (by omega)
  clear hb0 hx0
  generalize wn.setCells g6 0 (xA).cells = w8 at *
  have HL8 := Lib.hid (HLw7.out.ext hx1)
  have HA8 := Lib.hid (HA7.out.ext hx1)
  have HB8 := Lib.hid (HB7.out.ext hx1)
  have HC8 := Lib.hid (HC7.out.ext hx1)
  have HG8 := Lib.hid hb1
  clear hb1 hx1 hg6 HLw7 HA7 HB7 HC7
  go_upto_region 10 with (fail)
  refine wp_region_lit ?_
  refine wpList_val rfl (.agg kC.cells.toArray) (by as_aux_lemma => kernel_rfl) ?_
  simp only [Act.put, Act.eval, List.setIfInBounds_toArray, List.set_cons_zero, List.set_cons_succ, Nat.reduceAdd, Array.getD_eq_getD_getElem?, List.getElem?_toArray, List.getElem?_cons_succ, List.getElem?_cons_zero, Option.getD_some]
  iterate 3 go_step
  rw [zC13]
  obtain ⟨g9, hg9⟩ : ∃ g, w8.heap.size = g := ⟨_, rfl⟩
  have hb0 := boxC w8 zC
  have hx0 := Reg.Ext.alloc w8 (Obj.cells zC.cells.toArray 28)
  rw [hg9] at hb0 ⊢
  generalize w8.alloc (Obj.cells zC.cells.toArray 28) = wn at *
  refine wpList_store_mid rfl 28 _ _ rfl g9 0 kC.cells.toArray rfl ?_ (hb0.there _ (Nat.le_refl _)) sizeC (all_oneCell_toArray (Cfg.one _)) ?_
  · rfl
  simp only [List.toList_toArray]
  simp only [Act.put, Act.eval, List.setIfInBounds_toArray, List.set_cons_zero, List.set_cons_succ, Nat.reduceAdd, Array.getD_eq_getD_getElem?, List.getElem?_toArray, List.getElem?_cons_succ, List.getElem?_cons_zero, Option.getD_some]
  have HK9 := Lib.hid (hb0.setAll kC.cells rfl)
  have hx1 := hx0.trans_but (But.setCells g9 kC.cells 0 wn) (by omega)
  clear hb0 hx0 hg9
  generalize wn.setCells g9 0 kC.cells = w9 at *
  have HL := Lib.hid (HL8.out.ext hx1)
  have HA := Lib.hid (HA8.out.ext hx1)
  have HB := Lib.hid (HB8.out.ext hx1)
  have HC := Lib.hid (HC8.out.ext hx1)
  have HG := Lib.hid (HG8.out.ext hx1)
  clear hx1 HL8 HA8 HB8 HC8 HG8
  go_upto_region 12 with (go_at_call 14; refine (new_bad 0 (.inl (by decide)) _).mono ?_; rintro e wk ⟨rfl, rfl⟩)
  have hxd := Reg.Ext.drew wk
  have HB0 := Lib.hid (HL.out.base.trans hxd)
  have HLI := Lib.hid (fun W (hx : Reg.Ext wk.drew W) => (HL.out.ext (hxd.trans hx)).list (by decide))
  have HA4 := Lib.hid (HA.out.ext hxd)
  have HB4 := Lib.hid (HB.out.ext hxd)
  have HC4 := Lib.hid (HC.out.ext hxd)
  have HG4 := Lib.hid (HG.out.ext hxd)
  have HK := Lib.hid (HK9.out.ext hxd)
  have HF : Hid (Fit [xB, xC]) := Lib.hid (fun y hy => by
    rcases List.mem_cons.1 hy with rfl | hy
    · rfl
    · rw [List.mem_singleton.1 hy]; rfl)
  have qa : decide (xA = xA) = true := decide_eq_true rfl
  clear hxd HL HA HB HC HG HK9
  refine Ordl.begins (S := fun w' => Reg.Ext (wk).drew w') (z := 99) (by kernel_rfl) ?_
  refine Ordl.Bx.out (?_ : Ordl.Bx (Ordl.Any _ _ _ _ _ _ _ _ _ _))
  have X0 : Reg.Ext (wk).drew (wk).drew := Reg.Ext.refl _
  generalize wk.drew = w10 at *
  refine Ordl.take (i := 0) (v := .bool true) rfl (by kernel_rfl) (by kernel_rfl) (by kernel_rfl) (by kernel_rfl) (fun _ _ _ h => h) (.inl ⟨by kernel_rfl, fun w _ => by as_aux_lemma => kernel_rfl⟩) X0 ?_
  simp only [List.getElem_toArray, List.getElem_cons_succ, List.getElem_cons_zero, Act.put, Act.eval, List.setIfInBounds_toArray, List.set_cons_zero, List.set_cons_succ, Nat.reduceAdd, Array.getD_eq_getD_getElem?, List.getElem?_toArray, List.getElem?_cons_succ, List.getElem?_cons_zero, Option.getD_some]
  refine Ordl.take (i := 1) (v := .bool true) rfl (by kernel_rfl) (by kernel_rfl) (by kernel_rfl) (by kernel_rfl) (fun _ _ _ h => h) (.inl ⟨by kernel_rfl, fun w _ => by as_aux_lemma => kernel_rfl⟩) X0 ?_
  simp only [List.getElem_toArray, List.getElem_cons_succ, List.getElem_cons_zero, Act.put, Act.eval, List.setIfInBounds_toArray, List.set_cons_zero, List.set_cons_succ, Nat.reduceAdd, Array.getD_eq_getD_getElem?, List.getElem?_toArray, List.getElem?_cons_succ, List.getElem?_cons_zero, Option.getD_some]
  refine Ordl.take (i := 2) (v := .agg (xA).cells.toArray) rfl (by kernel_rfl) (by kernel_rfl) (by kernel_rfl) (by kernel_rfl) (fun _ _ _ h => h) (yieldsIf_load_mid (by kernel_rfl) 25 (.tmp 6) rfl g6 (0) (by kernel_rfl) (xA).cells _ (fun w h => rng_ext (blk_rng HG4.out) h) undT rfl (by rw [(xA).len rfl]; exact sizeT)) X0 ?_
  simp only [List.getElem_toArray, List.getElem_cons_succ, List.getElem_cons_zero, Act.put, Act.eval, List.setIfInBounds_toArray, List.set_cons_zero, List.set_cons_succ, Nat.reduceAdd, Array.getD_eq_getD_getElem?, List.getElem?_toArray, List.getElem?_cons_succ, List.getElem?_cons_zero, Option.getD_some]
  refine Ordl.take (i := 3) (v := .agg (xA).cells.toArray) rfl (by kernel_rfl) (by kernel_rfl) (by kernel_rfl) (by kernel_rfl) (fun _ _ _ h => h) (yieldsIf_load_mid (by kernel_rfl) 25 (.tmp 3) rfl g3 (0) (by kernel_rfl) (xA).cells _ (fun w h => rng_ext (blk_rng HA4.out) h) undT rfl (by rw [(xA).len rfl]; exact sizeT)) X0 ?_
  simp only [List.getElem_toArray, List.getElem_cons_succ, List.getElem_cons_zero, Act.put, Act.eval, List.setIfInBounds_toArray, List.set_cons_zero, List.set_cons_succ, Nat.reduceAdd, Array.getD_eq_getD_getElem?, List.getElem?_toArray, List.getElem?_cons_succ, List.getElem?_cons_zero, Option.getD_some]
  refine Ordl.take (i := 4) (v := .bool (decide (xA = xA))) rfl (by kernel_rfl) (by kernel_rfl) (by kernel_rfl) (by kernel_rfl) (fun _ _ _ h => h) (.inl ⟨by kernel_rfl, fun w hS => exec_eqlT xA xA rfl rfl (.tmp 46) (.tmp 47) rfl (by kernel_rfl) (by kernel_rfl)⟩) X0 ?_
  simp only [List.getElem_toArray, List.getElem_cons_succ, List.getElem_cons_zero, Act.put, Act.eval, List.setIfInBounds_toArray, List.set_cons_zero, List.set_cons_succ, Nat.reduceAdd, Array.getD_eq_getD_getElem?, List.getElem?_toArray, List.getElem?_cons_succ, List.getElem?_cons_zero, Option.getD_some]
  first | rw [qa] | skip
  refine Ordl.take (i := 5) (v := .bool true) rfl (by kernel_rfl) (by kernel_rfl) (by kernel_rfl) (by kernel_rfl) (fun _ _ _ h => h) (.inl ⟨by kernel_rfl, fun w _ => by as_aux_lemma => kernel_rfl⟩) X0 ?_
  simp only [List.getElem_toArray, List.getElem_cons_succ, List.getElem_cons_zero, Act.put, Act.eval, List.setIfInBounds_toArray, List.set_cons_zero, List.set_cons_succ, Nat.reduceAdd, Array.getD_eq_getD_getElem?, List.getElem?_toArray, List.getElem?_cons_succ, List.getElem?_cons_zero, Option.getD_some]
  refine Ordl.take (i := 6) (v := .bool true) rfl (by kernel_rfl) (by kernel_rfl) (by kernel_rfl) (by kernel_rfl) (fun _ _ _ h => h) (.inl ⟨by kernel_rfl, fun w _ => by as_aux_lemma => kernel_rfl⟩) X0 ?_
  simp only [List.getElem_toArray, List.getElem_cons_succ, List.getElem_cons_zero, Act.put, Act.eval, List.setIfInBounds_toArray, List.set_cons_zero, List.set_cons_succ, Nat.reduceAdd, Array.getD_eq_getD_getElem?, List.getElem?_toArray, List.getElem?_cons_succ, List.getElem?_cons_zero, Option.getD_some]
  refine Ordl.take (i := 7) (v := .int .i64 0) rfl (by kernel_rfl) (by kernel_rfl) (by kernel_rfl) (by kernel_rfl) (fun _ _ _ h => h) (.inl ⟨by kernel_rfl, fun w _ => by as_aux_lemma => kernel_rfl⟩) X0 ?_
  simp only [List.getElem_toArray, List.getElem_cons_succ, List.getElem_cons_zero, Act.put, Act.eval, List.setIfInBounds_toArray, List.set_cons_zero, List.set_cons_succ, Nat.reduceAdd, Array.getD_eq_getD_getElem?, List.getElem?_toArray, List.getElem?_cons_succ, List.getElem?_cons_zero, Option.getD_some]
  refine Ordl.take (i := 8) (v := .bool true) rfl (by kernel_rfl) (by kernel_rfl) (by kernel_rfl) (by kernel_rfl) (fun _ _ _ h => h) (.inl ⟨by kernel_rfl, fun w _ => by as_aux_lemma => kernel_rfl⟩) X0 ?_
  simp only [List.getElem_toArray, List.getElem_cons_succ, List.getElem_cons_zero, Act.put, Act.eval, List.setIfInBounds_toArray, List.set_cons_zero, List.set_cons_succ, Nat.reduceAdd, Array.getD_eq_getD_getElem?, List.getElem?_toArray, List.getElem?_cons_succ, List.getElem?_cons_zero, Option.getD_some]
  refine Ordl.take (i := 9) (v := .bool true) rfl (by kernel_rfl) (by kernel_rfl) (by kernel_rfl) (by kernel_rfl) (fun _ _ _ h => h) (.inl ⟨by kernel_rfl, fun w _ => by as_aux_lemma => kernel_rfl⟩) X0 ?_
  simp only [List.getElem_toArray, List.getElem_cons_succ, List.getElem_cons_zero, Act.put, Act.eval, List.setIfInBounds_toArray, List.set_cons_zero, List.set_cons_succ, Nat.reduceAdd, Array.getD_eq_getD_getElem?, List.getElem?_toArray, List.getElem?_cons_succ, List.getElem?_cons_zero, Option.getD_some]
  refine Ordl.take (i := 10) (v := .bool true) rfl (by kernel_rfl) (by kernel_rfl) (by kernel_rfl) (by kernel_rfl) (fun _ _ _ h => h) (.inl ⟨by kernel_rfl, fun w _ => by as_aux_lemma => kernel_rfl⟩) X0 ?_
  simp only [List.getElem_toArray, List.getElem_cons_succ, List.getElem_cons_zero, Act.put, Act.eval, List.setIfInBounds_toArray, List.set_cons_zero, List.set_cons_succ, Nat.reduceAdd, Array.getD_eq_getD_getElem?, List.getElem?_toArray, List.getElem?_cons_succ, List.getElem?_cons_zero, Option.getD_some]
  refine Ordl.take (i := 11) (v := .pointer (some ⟨b, 0, none⟩)) rfl (by kernel_rfl) (by kernel_rfl) (by kernel_rfl) (by kernel_rfl) (fun _ _ _ h => h) (.inl ⟨by kernel_rfl, fun w _ => by as_aux_lemma => kernel_rfl⟩) X0 ?_
  simp only [List.getElem_toArray, List.getElem_cons_succ, List.getElem_cons_zero, Act.put, Act.eval, List.setIfInBounds_toArray, List.set_cons_zero, List.set_cons_succ, Nat.reduceAdd, Array.getD_eq_getD_getElem?, List.getElem?_toArray, List.getElem?_cons_succ, List.getElem?_cons_zero, Option.getD_some]
  refine Ordl.take (i := 13) (v := .agg (xB).cells.toArray) rfl (by kernel_rfl) (by kernel_rfl) (by kernel_rfl) (by kernel_rfl) (fun _ _ _ h => h) (yieldsIf_load_mid (by kernel_rfl) 25 (.tmp 4) rfl g4 (0) (by kernel_rfl) (xB).cells _ (fun w h => rng_ext (blk_rng HB4.out) h) undT rfl (by rw [(xB).len rfl]; exact sizeT)) X0 ?_
  simp only [List.getElem_toArray, List.getElem_cons_succ, List.getElem_cons_zero, Act.put, Act.eval, List.setIfInBounds_toArray, List.set_cons_zero, List.set_cons_succ, Nat.reduceAdd, Array.getD_eq_getD_getElem?, List.getElem?_toArray, List.getElem?_cons_succ, List.getElem?_cons_zero, Option.getD_some]
  refine Ordl.take (i := 14) (v := .agg (xC).cells.toArray) rfl (by kernel_rfl) (by kernel_rfl) (by kernel_rfl) (by kernel_rfl) (fun _ _ _ h => h) (yieldsIf_load_mid (by kernel_rfl) 25 (.tmp 5) rfl g5 (0) (by kernel_rfl) (xC).cells _ (fun w h => rng_ext (blk_rng HC4.out) h) undT rfl (by rw [(xC).len rfl]; exact sizeT)) X0 ?_
  simp only [List.getElem_toArray, List.getElem_cons_succ, List.getElem_cons_zero, Act.put, Act.eval, List.setIfInBounds_toArray, List.set_cons_zero, List.set_cons_succ, Nat.reduceAdd, Array.getD_eq_getD_getElem?, List.getElem?_toArray, List.getElem?_cons_succ, List.getElem?_cons_zero, Option.getD_some]
  have HX0 := Lib.hid X0
  clear X0 qa
  refine Ordl.two (i := 12) (j := 15) (by kernel_rfl) rfl rfl ?_ ?_
  · skip
    refine ⟨?_⟩
    repeat go_step
    refine (HLI.out _ HX0.out).mono ?_
    rintro e wA ⟨v12, rfl, hl12, hx12⟩
    have X1 := (HX0.out).trans hx12
    have HXA := Lib.hid X1
    have HR12 := Lib.hid hl12
    have HY12 := Lib.hid hx12
    clear hl12 hx12
    rename_i hK
    refine hK _ _ ?_
    clear hK
    refine Ordl.Bx.out (?_ : Ordl.Bx _)
    refine Ordl.fin X1 ?_
    try simp only [List.getElem_toArray, List.getElem_cons_succ, List.getElem_cons_zero, Act.put, Act.eval, List.setIfInBounds_toArray, List.set_cons_zero, List.set_cons_succ, Nat.reduceAdd, Array.getD_eq_getD_getElem?, List.getElem?_toArray, List.getElem?_cons_succ, List.getElem?_cons_zero, Option.getD_some]
    clear X1
    refine Ordl.one (i := 15) (by kernel_rfl) rfl ?_
    refine ⟨?_⟩
    obtain ⟨g15, hg15⟩ : ∃ g, (wA).heap.size = g := ⟨_, rfl⟩
    have hl15 := LT.two wA xB xC rfl rfl
    have hx15 := Reg.Ext.alloc wA (.cells (flat [xB, xC]).toArray 25)
    rw [hg15] at hl15
    refine wpList_any (by kernel_rfl) (.slice (some ⟨g15, 0, none⟩) 2 2) ((wA).alloc (.cells (flat [xB, xC]).toArray 25)) (by rw [← hg15]; exact exec_twoT _ (.tmp 57) (.tmp 58) rfl xB xC (by kernel_rfl) (by kernel_rfl) rfl rfl) ?_
    generalize (wA).alloc (.cells (flat [xB, xC]).toArray 25) = wB at *
    have X1 := (HXA.out).trans hx15
    have HXB := Lib.hid X1
    have HR15 := Lib.hid hl15
    have HY15 := Lib.hid hx15
    clear hl15 hx15 hg15
    refine Ordl.Bx.out (?_ : Ordl.Bx _)
    refine Ordl.fin X1 ?_
    try simp only [List.getElem_toArray, List.getElem_cons_succ, List.getElem_cons_zero, Act.put, Act.eval, List.setIfInBounds_toArray, List.set_cons_zero, List.set_cons_succ, Nat.reduceAdd, Array.getD_eq_getD_getElem?, List.getElem?_toArray, List.getElem?_cons_succ, List.getElem?_cons_zero, Option.getD_some]
    clear X1
    have qs : decide ([xB, xC] = [xB, xC]) = true := decide_eq_true rfl
    refine Ordl.one (i := 16) (by kernel_rfl) rfl ?_
    refine ⟨?_⟩
    repeat go_step
    refine (sameR_any (HR12.out.ext HY15.out) HF.out HR15.out HF.out (by decide)).mono ?_
    rintro e w16 ⟨rfl, hx16⟩
    have X0 := HXB.out.trans hx16
    rename_i hK
    refine hK _ _ ?_
    clear hK
    refine Ordl.Bx.out (?_ : Ordl.Bx _)
    refine Ordl.fin X0 ?_
    try simp only [List.getElem_toArray, List.getElem_cons_succ, List.getElem_cons_zero, Act.put, Act.eval, List.setIfInBounds_toArray, List.set_cons_zero, List.set_cons_succ, Nat.reduceAdd, Array.getD_eq_getD_getElem?, List.getElem?_toArray, List.getElem?_cons_succ, List.getElem?_cons_zero, Option.getD_some]
    first | rw [qs] | skip
    clear hx16 qs HR12 HR15 HY12 HY15
    refine Ordl.take (i := 17) (v := .bool true) rfl (by kernel_rfl) (by kernel_rfl) (by kernel_rfl) (by kernel_rfl) (fun _ _ _ h => h) (.inl ⟨by kernel_rfl, fun w _ => by as_aux_lemma => kernel_rfl⟩) X0 ?_
    simp only [List.getElem_toArray, List.getElem_cons_succ, List.getElem_cons_zero, Act.put, Act.eval, List.setIfInBounds_toArray, List.set_cons_zero, List.set_cons_succ, Nat.reduceAdd, Array.getD_eq_getD_getElem?, List.getElem?_toArray, List.getElem?_cons_succ, List.getElem?_cons_zero, Option.getD_some]
    refine Ordl.take (i := 18) (v := .bool true) rfl (by kernel_rfl) (by kernel_rfl) (by kernel_rfl) (by kernel_rfl) (fun _ _ _ h => h) (.inl ⟨by kernel_rfl, fun w _ => by as_aux_lemma => kernel_rfl⟩) X0 ?_
    simp only [List.getElem_toArray, List.getElem_cons_succ, List.getElem_cons_zero, Act.put, Act.eval, List.setIfInBounds_toArray, List.set_cons_zero, List.set_cons_succ, Nat.reduceAdd, Array.getD_eq_getD_getElem?, List.getElem?_toArray, List.getElem?_cons_succ, List.getElem?_cons_zero, Option.getD_some]
    refine Ordl.take (i := 19) (v := .int .i64 1) rfl (by kernel_rfl) (by kernel_rfl) (by kernel_rfl) (by kernel_rfl) (fun _ _ _ h => h) (.inl ⟨by kernel_rfl, fun w _ => by as_aux_lemma => kernel_rfl⟩) X0 ?_
    simp only [List.getElem_toArray, List.getElem_cons_succ, List.getElem_cons_zero, Act.put, Act.eval, List.setIfInBounds_toArray, List.set_cons_zero, List.set_cons_succ, Nat.reduceAdd, Array.getD_eq_getD_getElem?, List.getElem?_toArray, List.getElem?_cons_succ, List.getElem?_cons_zero, Option.getD_some]
    refine Ordl.take (i := 20) (v := .bool true) rfl (by kernel_rfl) (by kernel_rfl) (by kernel_rfl) (by kernel_rfl) (fun _ _ _ h => h) (.inl ⟨by kernel_rfl, fun w _ => by as_aux_lemma => kernel_rfl⟩) X0 ?_
    simp only [List.getElem_toArray, List.getElem_cons_succ, List.getElem_cons_zero, Act.put, Act.eval, List.setIfInBounds_toArray, List.set_cons_zero, List.set_cons_succ, Nat.reduceAdd, Array.getD_eq_getD_getElem?, List.getElem?_toArray, List.getElem?_cons_succ, List.getElem?_cons_zero, Option.getD_some]
    refine Ordl.take (i := 21) (v := .bool true) rfl (by kernel_rfl) (by kernel_rfl) (by kernel_rfl) (by kernel_rfl) (fun _ _ _ h => h) (.inl ⟨by kernel_rfl, fun w _ => by as_aux_lemma => kernel_rfl⟩) X0 ?_
    simp only [List.getElem_toArray, List.getElem_cons_succ, List.getElem_cons_zero, Act.put, Act.eval, List.setIfInBounds_toArray, List.set_cons_zero, List.set_cons_succ, Nat.reduceAdd, Array.getD_eq_getD_getElem?, List.getElem?_toArray, List.getElem?_cons_succ, List.getElem?_cons_zero, Option.getD_some]
    refine Ordl.take (i := 22) (v := .bool true) rfl (by kernel_rfl) (by kernel_rfl) (by kernel_rfl) (by kernel_rfl) (fun _ _ _ h => h) (.inl ⟨by kernel_rfl, fun w _ => by as_aux_lemma => kernel_rfl⟩) X0 ?_
    simp only [List.getElem_toArray, List.getElem_cons_succ, List.getElem_cons_zero, Act.put, Act.eval, List.setIfInBounds_toArray, List.set_cons_zero, List.set_cons_succ, Nat.reduceAdd, Array.getD_eq_getD_getElem?, List.getElem?_toArray, List.getElem?_cons_succ, List.getElem?_cons_zero, Option.getD_some]
    refine Ordl.take (i := 23) (v := .agg (xB).cells.toArray) rfl (by kernel_rfl) (by kernel_rfl) (by kernel_rfl) (by kernel_rfl) (fun _ _ _ h => h) (yieldsIf_load_mid (by kernel_rfl) 25 (.tmp 4) rfl g4 (0) (by kernel_rfl) (xB).cells _ (fun w h => rng_ext (blk_rng HB4.out) h) undT rfl (by rw [(xB).len rfl]; exact sizeT)) X0 ?_
    simp only [List.getElem_toArray, List.getElem_cons_succ, List.getElem_cons_zero, Act.put, Act.eval, List.setIfInBounds_toArray, List.set_cons_zero, List.set_cons_succ, Nat.reduceAdd, Array.getD_eq_getD_getElem?, List.getElem?_toArray, List.getElem?_cons_succ, List.getElem?_cons_zero, Option.getD_some]
    refine Ordl.take (i := 24) (v := .agg (kC).cells.toArray) rfl (by kernel_rfl) (by kernel_rfl) (by kernel_rfl) (by kernel_rfl) (fun _ _ _ h => h) (yieldsIf_load_mid (by kernel_rfl) 28 (.tmp 9) rfl g9 (0) (by kernel_rfl) (kC).cells _ (fun w h => rng_ext (blk_rng HK.out) h) undC rfl sizeC) X0 ?_
    simp only [List.getElem_toArray, List.getElem_cons_succ, List.getElem_cons_zero, Act.put, Act.eval, List.setIfInBounds_toArray, List.set_cons_zero, List.set_cons_succ, Nat.reduceAdd, Array.getD_eq_getD_getElem?, List.getElem?_toArray, List.getElem?_cons_succ, List.getElem?_cons_zero, Option.getD_some]
    refine Ordl.one (i := 25) (by kernel_rfl) rfl ?_
    refine ⟨?_⟩
    repeat go_step
    refine (judge_any xB rfl true 16 kC true (by decide) (by decide) kfits _).mono ?_
    rintro e w25 ⟨rfl, hx25⟩
    have X1 := X0.trans hx25
    clear X0
    rename_i hK
    refine hK _ _ ?_
    clear hK
    refine Ordl.Bx.out (?_ : Ordl.Bx _)
    refine Ordl.fin X1 ?_
    try simp only [List.getElem_toArray, List.getElem_cons_succ, List.getElem_cons_zero, Act.put, Act.eval, List.setIfInBounds_toArray, List.set_cons_zero, List.set_cons_succ, Nat.reduceAdd, Array.getD_eq_getD_getElem?, List.getElem?_toArray, List.getElem?_cons_succ, List.getElem?_cons_zero, Option.getD_some]
    have X0 := X1
    clear X1 hx25
    rw [jud1]
    refine Ordl.take (i := 26) (v := .bool true) rfl (by kernel_rfl) (by kernel_rfl) (by kernel_rfl) (by kernel_rfl) (fun _ _ _ h => h) (.inl ⟨by kernel_rfl, fun w _ => by as_aux_lemma => kernel_rfl⟩) X0 ?_
    simp only [List.getElem_toArray, List.getElem_cons_succ, List.getElem_cons_zero, Act.put, Act.eval, List.setIfInBounds_toArray, List.set_cons_zero, List.set_cons_succ, Nat.reduceAdd, Array.getD_eq_getD_getElem?, List.getElem?_toArray, List.getElem?_cons_succ, List.getElem?_cons_zero, Option.getD_some]
    refine Ordl.take (i := 27) (v := .bool true) rfl (by kernel_rfl) (by kernel_rfl) (by kernel_rfl) (by kernel_rfl) (fun _ _ _ h => h) (.inl ⟨by kernel_rfl, fun w _ => by as_aux_lemma => kernel_rfl⟩) X0 ?_
    simp only [List.getElem_toArray, List.getElem_cons_succ, List.getElem_cons_zero, Act.put, Act.eval, List.setIfInBounds_toArray, List.set_cons_zero, List.set_cons_succ, Nat.reduceAdd, Array.getD_eq_getD_getElem?, List.getElem?_toArray, List.getElem?_cons_succ, List.getElem?_cons_zero, Option.getD_some]
    refine Ordl.take (i := 28) (v := .bool true) rfl (by kernel_rfl) (by kernel_rfl) (by kernel_rfl) (by kernel_rfl) (fun _ _ _ h => h) (.inl ⟨by kernel_rfl, fun w _ => by as_aux_lemma => kernel_rfl⟩) X0 ?_
    simp only [List.getElem_toArray, List.getElem_cons_succ, List.getElem_cons_zero, Act.put, Act.eval, List.setIfInBounds_toArray, List.set_cons_zero, List.set_cons_succ, Nat.reduceAdd, Array.getD_eq_getD_getElem?, List.getElem?_toArray, List.getElem?_cons_succ, List.getElem?_cons_zero, Option.getD_some]
    refine Ordl.take (i := 29) (v := .agg (xB).cells.toArray) rfl (by kernel_rfl) (by kernel_rfl) (by kernel_rfl) (by kernel_rfl) (fun _ _ _ h => h) (yieldsIf_load_mid (by kernel_rfl) 25 (.tmp 4) rfl g4 (0) (by kernel_rfl) (xB).cells _ (fun w h => rng_ext (blk_rng HB4.out) h) undT rfl (by rw [(xB).len rfl]; exact sizeT)) X0 ?_
    simp only [List.getElem_toArray, List.getElem_cons_succ, List.getElem_cons_zero, Act.put, Act.eval, List.setIfInBounds_toArray, List.set_cons_zero, List.set_cons_succ, Nat.reduceAdd, Array.getD_eq_getD_getElem?, List.getElem?_toArray, List.getElem?_cons_succ, List.getElem?_cons_zero, Option.getD_some]
    refine Ordl.take (i := 30) (v := .agg (kC).cells.toArray) rfl (by kernel_rfl) (by kernel_rfl) (by kernel_rfl) (by kernel_rfl) (fun _ _ _ h => h) (yieldsIf_load_mid (by kernel_rfl) 28 (.tmp 9) rfl g9 (0) (by kernel_rfl) (kC).cells _ (fun w h => rng_ext (blk_rng HK.out) h) undC rfl sizeC) X0 ?_
    simp only [List.getElem_toArray, List.getElem_cons_succ, List.getElem_cons_zero, Act.put, Act.eval, List.setIfInBounds_toArray, List.set_cons_zero, List.set_cons_succ, Nat.reduceAdd, Array.getD_eq_getD_getElem?, List.getElem?_toArray, List.getElem?_cons_succ, List.getElem?_cons_zero, Option.getD_some]
    refine Ordl.one (i := 31) (by kernel_rfl) rfl ?_
    refine ⟨?_⟩
    repeat go_step
    refine (judge_any xB rfl true 17 kC true (by decide) (by decide) kfits _).mono ?_
    rintro e w31 ⟨rfl, hx31⟩
    have X1 := X0.trans hx31
    clear X0
    rename_i hK
    refine hK _ _ ?_
    clear hK
    refine Ordl.Bx.out (?_ : Ordl.Bx _)
    refine Ordl.fin X1 ?_
    try simp only [List.getElem_toArray, List.getElem_cons_succ, List.getElem_cons_zero, Act.put, Act.eval, List.setIfInBounds_toArray, List.set_cons_zero, List.set_cons_succ, Nat.reduceAdd, Array.getD_eq_getD_getElem?, List.getElem?_toArray, List.getElem?_cons_succ, List.getElem?_cons_zero, Option.getD_some]
    have X0 := X1
    clear X1 hx31
    rw [jud2]
    refine Ordl.take (i := 32) (v := .bool true) rfl (by kernel_rfl) (by kernel_rfl) (by kernel_rfl) (by kernel_rfl) (fun _ _ _ h => h) (.inl ⟨by kernel_rfl, fun w _ => by as_aux_lemma => kernel_rfl⟩) X0 ?_
    simp only [List.getElem_toArray, List.getElem_cons_succ, List.getElem_cons_zero, Act.put, Act.eval, List.setIfInBounds_toArray, List.set_cons_zero, List.set_cons_succ, Nat.reduceAdd, Array.getD_eq_getD_getElem?, List.getElem?_toArray, List.getElem?_cons_succ, List.getElem?_cons_zero, Option.getD_some]
    refine Ordl.take (i := 33) (v := .bool true) rfl (by kernel_rfl) (by kernel_rfl) (by kernel_rfl) (by kernel_rfl) (fun _ _ _ h => h) (.inl ⟨by kernel_rfl, fun w _ => by as_aux_lemma => kernel_rfl⟩) X0 ?_
    simp only [List.getElem_toArray, List.getElem_cons_succ, List.getElem_cons_zero, Act.put, Act.eval, List.setIfInBounds_toArray, List.set_cons_zero, List.set_cons_succ, Nat.reduceAdd, Array.getD_eq_getD_getElem?, List.getElem?_toArray, List.getElem?_cons_succ, List.getElem?_cons_zero, Option.getD_some]
    refine Ordl.take (i := 34) (v := .bool true) rfl (by kernel_rfl) (by kernel_rfl) (by kernel_rfl) (by kernel_rfl) (fun _ _ _ h => h) (.inl ⟨by kernel_rfl, fun w _ => by as_aux_lemma => kernel_rfl⟩) X0 ?_
    simp only [List.getElem_toArray, List.getElem_cons_succ, List.getElem_cons_zero, Act.put, Act.eval, List.setIfInBounds_toArray, List.set_cons_zero, List.set_cons_succ, Nat.reduceAdd, Array.getD_eq_getD_getElem?, List.getElem?_toArray, List.getElem?_cons_succ, List.getElem?_cons_zero, Option.getD_some]
    refine Ordl.take (i := 35) (v := .agg (xB).cells.toArray) rfl (by kernel_rfl) (by kernel_rfl) (by kernel_rfl) (by kernel_rfl) (fun _ _ _ h => h) (yieldsIf_load_mid (by kernel_rfl) 25 (.tmp 4) rfl g4 (0) (by kernel_rfl) (xB).cells _ (fun w h => rng_ext (blk_rng HB4.out) h) undT rfl (by rw [(xB).len rfl]; exact sizeT)) X0 ?_
    simp only [List.getElem_toArray, List.getElem_cons_succ, List.getElem_cons_zero, Act.put, Act.eval, List.setIfInBounds_toArray, List.set_cons_zero, List.set_cons_succ, Nat.reduceAdd, Array.getD_eq_getD_getElem?, List.getElem?_toArray, List.getElem?_cons_succ, List.getElem?_cons_zero, Option.getD_some]
    refine Ordl.take (i := 36) (v := .agg (kC).cells.toArray) rfl (by kernel_rfl) (by kernel_rfl) (by kernel_rfl) (by kernel_rfl) (fun _ _ _ h => h) (yieldsIf_load_mid (by kernel_rfl) 28 (.tmp 9) rfl g9 (0) (by kernel_rfl) (kC).cells _ (fun w h => rng_ext (blk_rng HK.out) h) undC rfl sizeC) X0 ?_
    simp only [List.getElem_toArray, List.getElem_cons_succ, List.getElem_cons_zero, Act.put, Act.eval, List.setIfInBounds_toArray, List.set_cons_zero, List.set_cons_succ, Nat.reduceAdd, Array.getD_eq_getD_getElem?, List.getElem?_toArray, List.getElem?_cons_succ, List.getElem?_cons_zero, Option.getD_some]
    refine Ordl.one (i := 37) (by kernel_rfl) rfl ?_
    refine ⟨?_⟩
    repeat go_step
    refine (judge_any xB rfl true 17 kC false (by decide) (by decide) kfits _).mono ?_
    rintro e w37 ⟨rfl, hx37⟩
    have X1 := X0.trans hx37
    clear X0
    rename_i hK
    refine hK _ _ ?_
    clear hK
    refine Ordl.Bx.out (?_ : Ordl.Bx _)
    refine Ordl.fin X1 ?_
    try simp only [List.getElem_toArray, List.getElem_cons_succ, List.getElem_cons_zero, Act.put, Act.eval, List.setIfInBounds_toArray, List.set_cons_zero, List.set_cons_succ, Nat.reduceAdd, Array.getD_eq_getD_getElem?, List.getElem?_toArray, List.getElem?_cons_succ, List.getElem?_cons_zero, Option.getD_some]
    have X0 := X1
    clear X1 hx37
    rw [jud3]
    refine Ordl.take (i := 38) (v := .bool true) rfl (by kernel_rfl) (by kernel_rfl) (by kernel_rfl) (by kernel_rfl) (fun _ _ _ h => h) (.inl ⟨by kernel_rfl, fun w _ => by as_aux_lemma => kernel_rfl⟩) X0 ?_
    simp only [List.getElem_toArray, List.getElem_cons_succ, List.getElem_cons_zero, Act.put, Act.eval, List.setIfInBounds_toArray, List.set_cons_zero, List.set_cons_succ, Nat.reduceAdd, Array.getD_eq_getD_getElem?, List.getElem?_toArray, List.getElem?_cons_succ, List.getElem?_cons_zero, Option.getD_some]
    refine Ordl.take (i := 39) (v := .bool true) rfl (by kernel_rfl) (by kernel_rfl) (by kernel_rfl) (by kernel_rfl) (fun _ _ _ h => h) (.inl ⟨by kernel_rfl, fun w _ => by as_aux_lemma => kernel_rfl⟩) X0 ?_
    simp only [List.getElem_toArray, List.getElem_cons_succ, List.getElem_cons_zero, Act.put, Act.eval, List.setIfInBounds_toArray, List.set_cons_zero, List.set_cons_succ, Nat.reduceAdd, Array.getD_eq_getD_getElem?, List.getElem?_toArray, List.getElem?_cons_succ, List.getElem?_cons_zero, Option.getD_some]
    refine Ordl.take (i := 40) (v := .bool true) rfl (by kernel_rfl) (by kernel_rfl) (by kernel_rfl) (by kernel_rfl) (fun _ _ _ h => h) (.inl ⟨by kernel_rfl, fun w _ => by as_aux_lemma => kernel_rfl⟩) X0 ?_
    simp only [List.getElem_toArray, List.getElem_cons_succ, List.getElem_cons_zero, Act.put, Act.eval, List.setIfInBounds_toArray, List.set_cons_zero, List.set_cons_succ, Nat.reduceAdd, Array.getD_eq_getD_getElem?, List.getElem?_toArray, List.getElem?_cons_succ, List.getElem?_cons_zero, Option.getD_some]
    refine Ordl.take (i := 41) (v := .agg (xB).cells.toArray) rfl (by kernel_rfl) (by kernel_rfl) (by kernel_rfl) (by kernel_rfl) (fun _ _ _ h => h) (yieldsIf_load_mid (by kernel_rfl) 25 (.tmp 4) rfl g4 (0) (by kernel_rfl) (xB).cells _ (fun w h => rng_ext (blk_rng HB4.out) h) undT rfl (by rw [(xB).len rfl]; exact sizeT)) X0 ?_
    simp only [List.getElem_toArray, List.getElem_cons_succ, List.getElem_cons_zero, Act.put, Act.eval, List.setIfInBounds_toArray, List.set_cons_zero, List.set_cons_succ, Nat.reduceAdd, Array.getD_eq_getD_getElem?, List.getElem?_toArray, List.getElem?_cons_succ, List.getElem?_cons_zero, Option.getD_some]
    refine Ordl.take (i := 42) (v := .agg (kC).cells.toArray) rfl (by kernel_rfl) (by kernel_rfl) (by kernel_rfl) (by kernel_rfl) (fun _ _ _ h => h) (yieldsIf_load_mid (by kernel_rfl) 28 (.tmp 9) rfl g9 (0) (by kernel_rfl) (kC).cells _ (fun w h => rng_ext (blk_rng HK.out) h) undC rfl sizeC) X0 ?_
    simp only [List.getElem_toArray, List.getElem_cons_succ, List.getElem_cons_zero, Act.put, Act.eval, List.setIfInBounds_toArray, List.set_cons_zero, List.set_cons_succ, Nat.reduceAdd, Array.getD_eq_getD_getElem?, List.getElem?_toArray, List.getElem?_cons_succ, List.getElem?_cons_zero, Option.getD_some]
    refine Ordl.one (i := 43) (by kernel_rfl) rfl ?_
    refine ⟨?_⟩
    repeat go_step
    refine (judge_any xB rfl false 7 kC false (by decide) (by decide) kfits _).mono ?_
    rintro e w43 ⟨rfl, hx43⟩
    have X1 := X0.trans hx43
    clear X0
    rename_i hK
    refine hK _ _ ?_
    clear hK
    refine Ordl.Bx.out (?_ : Ordl.Bx _)
    refine Ordl.fin X1 ?_
    try simp only [List.getElem_toArray, List.getElem_cons_succ, List.getElem_cons_zero, Act.put, Act.eval, List.setIfInBounds_toArray, List.set_cons_zero, List.set_cons_succ, Nat.reduceAdd, Array.getD_eq_getD_getElem?, List.getElem?_toArray, List.getElem?_cons_succ, List.getElem?_cons_zero, Option.getD_some]
    have X0 := X1
    clear X1 hx43
    rw [jud4]
    refine Ordl.take (i := 44) (v := .bool true) rfl (by kernel_rfl) (by kernel_rfl) (by kernel_rfl) (by kernel_rfl) (fun _ _ _ h => h) (.inl ⟨by kernel_rfl, fun w _ => by as_aux_lemma => kernel_rfl⟩) X0 ?_
    simp only [List.getElem_toArray, List.getElem_cons_succ, List.getElem_cons_zero, Act.put, Act.eval, List.setIfInBounds_toArray, List.set_cons_zero, List.set_cons_succ, Nat.reduceAdd, Array.getD_eq_getD_getElem?, List.getElem?_toArray, List.getElem?_cons_succ, List.getElem?_cons_zero, Option.getD_some]
    refine Ordl.take (i := 45) (v := .bool true) rfl (by kernel_rfl) (by kernel_rfl) (by kernel_rfl) (by kernel_rfl) (fun _ _ _ h => h) (.inl ⟨by kernel_rfl, fun w _ => by as_aux_lemma => kernel_rfl⟩) X0 ?_
    simp only [List.getElem_toArray, List.getElem_cons_succ, List.getElem_cons_zero, Act.put, Act.eval, List.setIfInBounds_toArray, List.set_cons_zero, List.set_cons_succ, Nat.reduceAdd, Array.getD_eq_getD_getElem?, List.getElem?_toArray, List.getElem?_cons_succ, List.getElem?_cons_zero, Option.getD_some]
    refine Ordl.take (i := 46) (v := .bool true) rfl (by kernel_rfl) (by kernel_rfl) (by kernel_rfl) (by kernel_rfl) (fun _ _ _ h => h) (.inl ⟨by kernel_rfl, fun w _ => by as_aux_lemma => kernel_rfl⟩) X0 ?_
    simp only [List.getElem_toArray, List.getElem_cons_succ, List.getElem_cons_zero, Act.put, Act.eval, List.setIfInBounds_toArray, List.set_cons_zero, List.set_cons_succ, Nat.reduceAdd, Array.getD_eq_getD_getElem?, List.getElem?_toArray, List.getElem?_cons_succ, List.getElem?_cons_zero, Option.getD_some]
    refine Ordl.done (by kernel_rfl) ?_ _
    have HX9 := Lib.hid (HB0.out.trans X0)
    clear X0
    go_wp2_with fail
    go_ret
    exact ⟨rfl, HX9.out⟩
  · skip
    refine ⟨?_⟩
    obtain ⟨g15, hg15⟩ : ∃ g, (w10).heap.size = g := ⟨_, rfl⟩
    have hl15 := LT.two w10 xB xC rfl rfl
    have hx15 := Reg.Ext.alloc w10 (.cells (flat [xB, xC]).toArray 25)
    rw [hg15] at hl15
    refine wpList_any (by kernel_rfl) (.slice (some ⟨g15, 0, none⟩) 2 2) ((w10).alloc (.cells (flat [xB, xC]).toArray 25)) (by rw [← hg15]; exact exec_twoT _ (.tmp 57) (.tmp 58) rfl xB xC (by kernel_rfl) (by kernel_rfl) rfl rfl) ?_
    generalize (w10).alloc (.cells (flat [xB, xC]).toArray 25) = wA at *
    have X1 := (HX0.out).trans hx15
    have HXA := Lib.hid X1
    have HR15 := Lib.hid hl15
    have HY15 := Lib.hid hx15
    clear hl15 hx15 hg15
    refine Ordl.Bx.out (?_ : Ordl.Bx _)
    refine Ordl.fin X1 ?_
    try simp only [List.getElem_toArray, List.getElem_cons_succ, List.getElem_cons_zero, Act.put, Act.eval, List.setIfInBounds_toArray, List.set_cons_zero, List.set_cons_succ, Nat.reduceAdd, Array.getD_eq_getD_getElem?, List.getElem?_toArray, List.getElem?_cons_succ, List.getElem?_cons_zero, Option.getD_some]
    clear X1
    refine Ordl.one (i := 12) (by kernel_rfl) rfl ?_
    refine ⟨?_⟩
    repeat go_step
    refine (HLI.out _ HXA.out).mono ?_
    rintro e wB ⟨v12, rfl, hl12, hx12⟩
    have X1 := (HXA.out).trans hx12
    have HXB := Lib.hid X1
    have HR12 := Lib.hid hl12
    have HY12 := Lib.hid hx12
    clear hl12 hx12
    rename_i hK
    refine hK _ _ ?_
    clear hK
    refine Ordl.Bx.out (?_ : Ordl.Bx _)
    refine Ordl.fin X1 ?_
    try simp only [List.getElem_toArray, List.getElem_cons_succ, List.getElem_cons_zero, Act.put, Act.eval, List.setIfInBounds_toArray, List.set_cons_zero, List.set_cons_succ, Nat.reduceAdd, Array.getD_eq_getD_getElem?, List.getElem?_toArray, List.getElem?_cons_succ, List.getElem?_cons_zero, Option.getD_some]
    clear X1
    have qs : decide ([xB, xC] = [xB, xC]) = true := decide_eq_true rfl
    refine Ordl.one (i := 16) (by kernel_rfl) rfl ?_
    refine ⟨?_⟩
    repeat go_step
    refine (sameR_any HR12.out HF.out (HR15.out.ext HY12.out) HF.out (by decide)).mono ?_
    rintro e w16 ⟨rfl, hx16⟩
    have X0 := HXB.out.trans hx16
    rename_i hK
    refine hK _ _ ?_
    clear hK
    refine Ordl.Bx.out (?_ : Ordl.Bx _)
    refine Ordl.fin X0 ?_
    try simp only [List.getElem_toArray, List.getElem_cons_succ, List.getElem_cons_zero, Act.put, Act.eval, List.setIfInBounds_toArray, List.set_cons_zero, List.set_cons_succ, Nat.reduceAdd, Array.getD_eq_getD_getElem?, List.getElem?_toArray, List.getElem?_cons_succ, List.getElem?_cons_zero, Option.getD_some]
    first | rw [qs] | skip
    clear hx16 qs HR12 HR15 HY12 HY15
    refine Ordl.take (i := 17) (v := .bool true) rfl (by kernel_rfl) (by kernel_rfl) (by kernel_rfl) (by kernel_rfl) (fun _ _ _ h => h) (.inl ⟨by kernel_rfl, fun w _ => by as_aux_lemma => kernel_rfl⟩) X0 ?_
    simp only [List.getElem_toArray, List.getElem_cons_succ, List.getElem_cons_zero, Act.put, Act.eval, List.setIfInBounds_toArray, List.set_cons_zero, List.set_cons_succ, Nat.reduceAdd, Array.getD_eq_getD_getElem?, List.getElem?_toArray, List.getElem?_cons_succ, List.getElem?_cons_zero, Option.getD_some]
    refine Ordl.take (i := 18) (v := .bool true) rfl (by kernel_rfl) (by kernel_rfl) (by kernel_rfl) (by kernel_rfl) (fun _ _ _ h => h) (.inl ⟨by kernel_rfl, fun w _ => by as_aux_lemma => kernel_rfl⟩) X0 ?_
    simp only [List.getElem_toArray, List.getElem_cons_succ, List.getElem_cons_zero, Act.put, Act.eval, List.setIfInBounds_toArray, List.set_cons_zero, List.set_cons_succ, Nat.reduceAdd, Array.getD_eq_getD_getElem?, List.getElem?_toArray, List.getElem?_cons_succ, List.getElem?_cons_zero, Option.getD_some]
    refine Ordl.take (i := 19) (v := .int .i64 1) rfl (by kernel_rfl) (by kernel_rfl) (by kernel_rfl) (by kernel_rfl) (fun _ _ _ h => h) (.inl ⟨by kernel_rfl, fun w _ => by as_aux_lemma => kernel_rfl⟩) X0 ?_
    simp only [List.getElem_toArray, List.getElem_cons_succ, List.getElem_cons_zero, Act.put, Act.eval, List.setIfInBounds_toArray, List.set_cons_zero, List.set_cons_succ, Nat.reduceAdd, Array.getD_eq_getD_getElem?, List.getElem?_toArray, List.getElem?_cons_succ, List.getElem?_cons_zero, Option.getD_some]
    refine Ordl.take (i := 20) (v := .bool true) rfl (by kernel_rfl) (by kernel_rfl) (by kernel_rfl) (by kernel_rfl) (fun _ _ _ h => h) (.inl ⟨by kernel_rfl, fun w _ => by as_aux_lemma => kernel_rfl⟩) X0 ?_
    simp only [List.getElem_toArray, List.getElem_cons_succ, List.getElem_cons_zero, Act.put, Act.eval, List.setIfInBounds_toArray, List.set_cons_zero, List.set_cons_succ, Nat.reduceAdd, Array.getD_eq_getD_getElem?, List.getElem?_toArray, List.getElem?_cons_succ, List.getElem?_cons_zero, Option.getD_some]
    refine Ordl.take (i := 21) (v := .bool true) rfl (by kernel_rfl) (by kernel_rfl) (by kernel_rfl) (by kernel_rfl) (fun _ _ _ h => h) (.inl ⟨by kernel_rfl, fun w _ => by as_aux_lemma => kernel_rfl⟩) X0 ?_
    simp only [List.getElem_toArray, List.getElem_cons_succ, List.getElem_cons_zero, Act.put, Act.eval, List.setIfInBounds_toArray, List.set_cons_zero, List.set_cons_succ, Nat.reduceAdd, Array.getD_eq_getD_getElem?, List.getElem?_toArray, List.getElem?_cons_succ, List.getElem?_cons_zero, Option.getD_some]
    refine Ordl.take (i := 22) (v := .bool true) rfl (by kernel_rfl) (by kernel_rfl) (by kernel_rfl) (by kernel_rfl) (fun _ _ _ h => h) (.inl ⟨by kernel_rfl, fun w _ => by as_aux_lemma => kernel_rfl⟩) X0 ?_
    simp only [List.getElem_toArray, List.getElem_cons_succ, List.getElem_cons_zero, Act.put, Act.eval, List.setIfInBounds_toArray, List.set_cons_zero, List.set_cons_succ, Nat.reduceAdd, Array.getD_eq_getD_getElem?, List.getElem?_toArray, List.getElem?_cons_succ, List.getElem?_cons_zero, Option.getD_some]
    refine Ordl.take (i := 23) (v := .agg (xB).cells.toArray) rfl (by kernel_rfl) (by kernel_rfl) (by kernel_rfl) (by kernel_rfl) (fun _ _ _ h => h) (yieldsIf_load_mid (by kernel_rfl) 25 (.tmp 4) rfl g4 (0) (by kernel_rfl) (xB).cells _ (fun w h => rng_ext (blk_rng HB4.out) h) undT rfl (by rw [(xB).len rfl]; exact sizeT)) X0 ?_
    simp only [List.getElem_toArray, List.getElem_cons_succ, List.getElem_cons_zero, Act.put, Act.eval, List.setIfInBounds_toArray, List.set_cons_zero, List.set_cons_succ, Nat.reduceAdd, Array.getD_eq_getD_getElem?, List.getElem?_toArray, List.getElem?_cons_succ, List.getElem?_cons_zero, Option.getD_some]
    refine Ordl.take (i := 24) (v := .agg (kC).cells.toArray) rfl (by kernel_rfl) (by kernel_rfl) (by kernel_rfl) (by kernel_rfl) (fun _ _ _ h => h) (yieldsIf_load_mid (by kernel_rfl) 28 (.tmp 9) rfl g9 (0) (by kernel_rfl) (kC).cells _ (fun w h => rng_ext (blk_rng HK.out) h) undC rfl sizeC) X0 ?_
    simp only [List.getElem_toArray, List.getElem_cons_succ, List.getElem_cons_zero, Act.put, Act.eval, List.setIfInBounds_toArray, List.set_cons_zero, List.set_cons_succ, Nat.reduceAdd, Array.getD_eq_getD_getElem?, List.getElem?_toArray, List.getElem?_cons_succ, List.getElem?_cons_zero, Option.getD_some]
    refine Ordl.one (i := 25) (by kernel_rfl) rfl ?_
    refine ⟨?_⟩
    repeat go_step
    refine (judge_any xB rfl true 16 kC true (by decide) (by decide) kfits _).mono ?_
    rintro e w25 ⟨rfl, hx25⟩
    have X1 := X0.trans hx25
    clear X0
    rename_i hK
    refine hK _ _ ?_
    clear hK
    refine Ordl.Bx.out (?_ : Ordl.Bx _)
    refine Ordl.fin X1 ?_
    try simp only [List.getElem_toArray, List.getElem_cons_succ, List.getElem_cons_zero, Act.put, Act.eval, List.setIfInBounds_toArray, List.set_cons_zero, List.set_cons_succ, Nat.reduceAdd, Array.getD_eq_getD_getElem?, List.getElem?_toArray, List.getElem?_cons_succ, List.getElem?_cons_zero, Option.getD_some]
    have X0 := X1
    clear X1 hx25
    rw [jud1]
    refine Ordl.take (i := 26) (v := .bool true) rfl (by kernel_rfl) (by kernel_rfl) (by kernel_rfl) (by kernel_rfl) (fun _ _ _ h => h) (.inl ⟨by kernel_rfl, fun w _ => by as_aux_lemma => kernel_rfl⟩) X0 ?_
    simp only [List.getElem_toArray, List.getElem_cons_succ, List.getElem_cons_zero, Act.put, Act.eval, List.setIfInBounds_toArray, List.set_cons_zero, List.set_cons_succ, Nat.reduceAdd, Array.getD_eq_getD_getElem?, List.getElem?_toArray, List.getElem?_cons_succ, List.getElem?_cons_zero, Option.getD_some]
    refine Ordl.take (i := 27) (v := .bool true) rfl (by kernel_rfl) (by kernel_rfl) (by kernel_rfl) (by kernel_rfl) (fun _ _ _ h => h) (.inl ⟨by kernel_rfl, fun w _ => by as_aux_lemma => kernel_rfl⟩) X0 ?_
    simp only [List.getElem_toArray, List.getElem_cons_succ, List.getElem_cons_zero, Act.put, Act.eval, List.setIfInBounds_toArray, List.set_cons_zero, List.set_cons_succ, Nat.reduceAdd, Array.getD_eq_getD_getElem?, List.getElem?_toArray, List.getElem?_cons_succ, List.getElem?_cons_zero, Option.getD_some]
    refine Ordl.take (i := 28) (v := .bool true) rfl (by kernel_rfl) (by kernel_rfl) (by kernel_rfl) (by kernel_rfl) (fun _ _ _ h => h) (.inl ⟨by kernel_rfl, fun w _ => by as_aux_lemma => kernel_rfl⟩) X0 ?_
    simp only [List.getElem_toArray, List.getElem_cons_succ, List.getElem_cons_zero, Act.put, Act.eval, List.setIfInBounds_toArray, List.set_cons_zero, List.set_cons_succ, Nat.reduceAdd, Array.getD_eq_getD_getElem?, List.getElem?_toArray, List.getElem?_cons_succ, List.getElem?_cons_zero, Option.getD_some]
    refine Ordl.take (i := 29) (v := .agg (xB).cells.toArray) rfl (by kernel_rfl) (by kernel_rfl) (by kernel_rfl) (by kernel_rfl) (fun _ _ _ h => h) (yieldsIf_load_mid (by kernel_rfl) 25 (.tmp 4) rfl g4 (0) (by kernel_rfl) (xB).cells _ (fun w h => rng_ext (blk_rng HB4.out) h) undT rfl (by rw [(xB).len rfl]; exact sizeT)) X0 ?_
    simp only [List.getElem_toArray, List.getElem_cons_succ, List.getElem_cons_zero, Act.put, Act.eval, List.setIfInBounds_toArray, List.set_cons_zero, List.set_cons_succ, Nat.reduceAdd, Array.getD_eq_getD_getElem?, List.getElem?_toArray, List.getElem?_cons_succ, List.getElem?_cons_zero, Option.getD_some]
    refine Ordl.take (i := 30) (v := .agg (kC).cells.toArray) rfl (by kernel_rfl) (by kernel_rfl) (by kernel_rfl) (by kernel_rfl) (fun _ _ _ h => h) (yieldsIf_load_mid (by kernel_rfl) 28 (.tmp 9) rfl g9 (0) (by kernel_rfl) (kC).cells _ (fun w h => rng_ext (blk_rng HK.out) h) undC rfl sizeC) X0 ?_
    simp only [List.getElem_toArray, List.getElem_cons_succ, List.getElem_cons_zero, Act.put, Act.eval, List.setIfInBounds_toArray, List.set_cons_zero, List.set_cons_succ, Nat.reduceAdd, Array.getD_eq_getD_getElem?, List.getElem?_toArray, List.getElem?_cons_succ, List.getElem?_cons_zero, Option.getD_some]
    refine Ordl.one (i := 31) (by kernel_rfl) rfl ?_
    refine ⟨?_⟩
    repeat go_step
    refine (judge_any xB rfl true 17 kC true (by decide) (by decide) kfits _).mono ?_
    rintro e w31 ⟨rfl, hx31⟩
    have X1 := X0.trans hx31
    clear X0
    rename_i hK
    refine hK _ _ ?_
    clear hK
    refine Ordl.Bx.out (?_ : Ordl.Bx _)
    refine Ordl.fin X1 ?_
    try simp only [List.getElem_toArray, List.getElem_cons_succ, List.getElem_cons_zero, Act.put, Act.eval, List.setIfInBounds_toArray, List.set_cons_zero, List.set_cons_succ, Nat.reduceAdd, Array.getD_eq_getD_getElem?, List.getElem?_toArray, List.getElem?_cons_succ, List.getElem?_cons_zero, Option.getD_some]
    have X0 := X1
    clear X1 hx31
    rw [jud2]
    refine Ordl.take (i := 32) (v := .bool true) rfl (by kernel_rfl) (by kernel_rfl) (by kernel_rfl) (by kernel_rfl) (fun _ _ _ h => h) (.inl ⟨by kernel_rfl, fun w _ => by as_aux_lemma => kernel_rfl⟩) X0 ?_
    simp only [List.getElem_toArray, List.getElem_cons_succ, List.getElem_cons_zero, Act.put, Act.eval, List.setIfInBounds_toArray, List.set_cons_zero, List.set_cons_succ, Nat.reduceAdd, Array.getD_eq_getD_getElem?, List.getElem?_toArray, List.getElem?_cons_succ, List.getElem?_cons_zero, Option.getD_some]
    refine Ordl.take (i := 33) (v := .bool true) rfl (by kernel_rfl) (by kernel_rfl) (by kernel_rfl) (by kernel_rfl) (fun _ _ _ h => h) (.inl ⟨by kernel_rfl, fun w _ => by as_aux_lemma => kernel_rfl⟩) X0 ?_
    simp only [List.getElem_toArray, List.getElem_cons_succ, List.getElem_cons_zero, Act.put, Act.eval, List.setIfInBounds_toArray, List.set_cons_zero, List.set_cons_succ, Nat.reduceAdd, Array.getD_eq_getD_getElem?, List.getElem?_toArray, List.getElem?_cons_succ, List.getElem?_cons_zero, Option.getD_some]
    refine Ordl.take (i := 34) (v := .bool true) rfl (by kernel_rfl) (by kernel_rfl) (by kernel_rfl) (by kernel_rfl) (fun _ _ _ h => h) (.inl ⟨by kernel_rfl, fun w _ => by as_aux_lemma => kernel_rfl⟩) X0 ?_
    simp only [List.getElem_toArray, List.getElem_cons_succ, List.getElem_cons_zero, Act.put, Act.eval, List.setIfInBounds_toArray, List.set_cons_zero, List.set_cons_succ, Nat.reduceAdd, Array.getD_eq_getD_getElem?, List.getElem?_toArray, List.getElem?_cons_succ, List.getElem?_cons_zero, Option.getD_some]
    refine Ordl.take (i := 35) (v := .agg (xB).cells.toArray) rfl (by kernel_rfl) (by kernel_rfl) (by kernel_rfl) (by kernel_rfl) (fun _ _ _ h => h) (yieldsIf_load_mid (by kernel_rfl) 25 (.tmp 4) rfl g4 (0) (by kernel_rfl) (xB).cells _ (fun w h => rng_ext (blk_rng HB4.out) h) undT rfl (by rw [(xB).len rfl]; exact sizeT)) X0 ?_
    simp only [List.getElem_toArray, List.getElem_cons_succ, List.getElem_cons_zero, Act.put, Act.eval, List.setIfInBounds_toArray, List.set_cons_zero, List.set_cons_succ, Nat.reduceAdd, Array.getD_eq_getD_getElem?, List.getElem?_toArray, List.getElem?_cons_succ, List.getElem?_cons_zero, Option.getD_some]
    refine Ordl.take (i := 36) (v := .agg (kC).cells.toArray) rfl (by kernel_rfl) (by kernel_rfl) (by kernel_rfl) (by kernel_rfl) (fun _ _ _ h => h) (yieldsIf_load_mid (by kernel_rfl) 28 (.tmp 9) rfl g9 (0) (by kernel_rfl) (kC).cells _ (fun w h => rng_ext (blk_rng HK.out) h) undC rfl sizeC) X0 ?_
    simp only [List.getElem_toArray, List.getElem_cons_succ, List.getElem_cons_zero, Act.put, Act.eval, List.setIfInBounds_toArray, List.set_cons_zero, List.set_cons_succ, Nat.reduceAdd, Array.getD_eq_getD_getElem?, List.getElem?_toArray, List.getElem?_cons_succ, List.getElem?_cons_zero, Option.getD_some]
    refine Ordl.one (i := 37) (by kernel_rfl) rfl ?_
    refine ⟨?_⟩
    repeat go_step
    refine (judge_any xB rfl true 17 kC false (by decide) (by decide) kfits _).mono ?_
    rintro e w37 ⟨rfl, hx37⟩
    have X1 := X0.trans hx37
    clear X0
    rename_i hK
    refine hK _ _ ?_
    clear hK
    refine Ordl.Bx.out (?_ : Ordl.Bx _)
    refine Ordl.fin X1 ?_
    try simp only [List.getElem_toArray, List.getElem_cons_succ, List.getElem_cons_zero, Act.put, Act.eval, List.setIfInBounds_toArray, List.set_cons_zero, List.set_cons_succ, Nat.reduceAdd, Array.getD_eq_getD_getElem?, List.getElem?_toArray, List.getElem?_cons_succ, List.getElem?_cons_zero, Option.getD_some]
    have X0 := X1
    clear X1 hx37
    rw [jud3]
    refine Ordl.take (i := 38) (v := .bool true) rfl (by kernel_rfl) (by kernel_rfl) (by kernel_rfl) (by kernel_rfl) (fun _ _ _ h => h) (.inl ⟨by kernel_rfl, fun w _ => by as_aux_lemma => kernel_rfl⟩) X0 ?_
    simp only [List.getElem_toArray, List.getElem_cons_succ, List.getElem_cons_zero, Act.put, Act.eval, List.setIfInBounds_toArray, List.set_cons_zero, List.set_cons_succ, Nat.reduceAdd, Array.getD_eq_getD_getElem?, List.getElem?_toArray, List.getElem?_cons_succ, List.getElem?_cons_zero, Option.getD_some]
    refine Ordl.take (i := 39) (v := .bool true) rfl (by kernel_rfl) (by kernel_rfl) (by kernel_rfl) (by kernel_rfl) (fun _ _ _ h => h) (.inl ⟨by kernel_rfl, fun w _ => by as_aux_lemma => kernel_rfl⟩) X0 ?_
    simp only [List.getElem_toArray, List.getElem_cons_succ, List.getElem_cons_zero, Act.put, Act.eval, List.setIfInBounds_toArray, List.set_cons_zero, List.set_cons_succ, Nat.reduceAdd, Array.getD_eq_getD_getElem?, List.getElem?_toArray, List.getElem?_cons_succ, List.getElem?_cons_zero, Option.getD_some]
    refine Ordl.take (i := 40) (v := .bool true) rfl (by kernel_rfl) (by kernel_rfl) (by kernel_rfl) (by kernel_rfl) (fun _ _ _ h => h) (.inl ⟨by kernel_rfl, fun w _ => by as_aux_lemma => kernel_rfl⟩) X0 ?_
    simp only [List.getElem_toArray, List.getElem_cons_succ, List.getElem_cons_zero, Act.put, Act.eval, List.setIfInBounds_toArray, List.set_cons_zero, List.set_cons_succ, Nat.reduceAdd, Array.getD_eq_getD_getElem?, List.getElem?_toArray, List.getElem?_cons_succ, List.getElem?_cons_zero, Option.getD_some]
    refine Ordl.take (i := 41) (v := .agg (xB).cells.toArray) rfl (by kernel_rfl) (by kernel_rfl) (by kernel_rfl) (by kernel_rfl) (fun _ _ _ h => h) (yieldsIf_load_mid (by kernel_rfl) 25 (.tmp 4) rfl g4 (0) (by kernel_rfl) (xB).cells _ (fun w h => rng_ext (blk_rng HB4.out) h) undT rfl (by rw [(xB).len rfl]; exact sizeT)) X0 ?_
    simp only [List.getElem_toArray, List.getElem_cons_succ, List.getElem_cons_zero, Act.put, Act.eval, List.setIfInBounds_toArray, List.set_cons_zero, List.set_cons_succ, Nat.reduceAdd, Array.getD_eq_getD_getElem?, List.getElem?_toArray, List.getElem?_cons_succ, List.getElem?_cons_zero, Option.getD_some]
    refine Ordl.take (i := 42) (v := .agg (kC).cells.toArray) rfl (by kernel_rfl) (by kernel_rfl) (by kernel_rfl) (by kernel_rfl) (fun _ _ _ h => h) (yieldsIf_load_mid (by kernel_rfl) 28 (.tmp 9) rfl g9 (0) (by kernel_rfl) (kC).cells _ (fun w h => rng_ext (blk_rng HK.out) h) undC rfl sizeC) X0 ?_
    simp only [List.getElem_toArray, List.getElem_cons_succ, List.getElem_cons_zero, Act.put, Act.eval, List.setIfInBounds_toArray, List.set_cons_zero, List.set_cons_succ, Nat.reduceAdd, Array.getD_eq_getD_getElem?, List.getElem?_toArray, List.getElem?_cons_succ, List.getElem?_cons_zero, Option.getD_some]
    refine Ordl.one (i := 43) (by kernel_rfl) rfl ?_
    refine ⟨?_⟩
    repeat go_step
    refine (judge_any xB rfl false 7 kC false (by decide) (by decide) kfits _).mono ?_
    rintro e w43 ⟨rfl, hx43⟩
    have X1 := X0.trans hx43
    clear X0
    rename_i hK
    refine hK _ _ ?_
    clear hK
    refine Ordl.Bx.out (?_ : Ordl.Bx _)
    refine Ordl.fin X1 ?_
    try simp only [List.getElem_toArray, List.getElem_cons_succ, List.getElem_cons_zero, Act.put, Act.eval, List.setIfInBounds_toArray, List.set_cons_zero, List.set_cons_succ, Nat.reduceAdd, Array.getD_eq_getD_getElem?, List.getElem?_toArray, List.getElem?_cons_succ, List.getElem?_cons_zero, Option.getD_some]
    have X0 := X1
    clear X1 hx43
    rw [jud4]
    refine Ordl.take (i := 44) (v := .bool true) rfl (by kernel_rfl) (by kernel_rfl) (by kernel_rfl) (by kernel_rfl) (fun _ _ _ h => h) (.inl ⟨by kernel_rfl, fun w _ => by as_aux_lemma => kernel_rfl⟩) X0 ?_
    simp only [List.getElem_toArray, List.getElem_cons_succ, List.getElem_cons_zero, Act.put, Act.eval, List.setIfInBounds_toArray, List.set_cons_zero, List.set_cons_succ, Nat.reduceAdd, Array.getD_eq_getD_getElem?, List.getElem?_toArray, List.getElem?_cons_succ, List.getElem?_cons_zero, Option.getD_some]
    refine Ordl.take (i := 45) (v := .bool true) rfl (by kernel_rfl) (by kernel_rfl) (by kernel_rfl) (by kernel_rfl) (fun _ _ _ h => h) (.inl ⟨by kernel_rfl, fun w _ => by as_aux_lemma => kernel_rfl⟩) X0 ?_
    simp only [List.getElem_toArray, List.getElem_cons_succ, List.getElem_cons_zero, Act.put, Act.eval, List.setIfInBounds_toArray, List.set_cons_zero, List.set_cons_succ, Nat.reduceAdd, Array.getD_eq_getD_getElem?, List.getElem?_toArray, List.getElem?_cons_succ, List.getElem?_cons_zero, Option.getD_some]
    refine Ordl.take (i := 46) (v := .bool true) rfl (by kernel_rfl) (by kernel_rfl) (by kernel_rfl) (by kernel_rfl) (fun _ _ _ h => h) (.inl ⟨by kernel_rfl, fun w _ => by as_aux_lemma => kernel_rfl⟩) X0 ?_
    simp only [List.getElem_toArray, List.getElem_cons_succ, List.getElem_cons_zero, Act.put, Act.eval, List.setIfInBounds_toArray, List.set_cons_zero, List.set_cons_succ, Nat.reduceAdd, Array.getD_eq_getD_getElem?, List.getElem?_toArray, List.getElem?_cons_succ, List.getElem?_cons_zero, Option.getD_some]
    refine Ordl.done (by kernel_rfl) ?_ _
    have HX9 := Lib.hid (HB0.out.trans X0)
    clear X0
    go_wp2_with fail
    go_ret
    exact ⟨rfl, HX9.out⟩
end Tk
end Go.Proofs.YtcfdlfedmbmidaaDoor
