/- The walk of the law's awake and great. -/
import Derived.Test.YtbeghdoffiidoaaDoorSlipAll
import Derived.Test.YtbeghdoffiidoaaDoorSlipSame
import Derived.Test.YtbeghdoffiidoaaDoorSlipTornP
set_option linter.unusedSimpArgs false
set_option linter.unusedVariables false
set_option linter.unusedSectionVars false
namespace Go.Proofs.YtbeghdoffiidoaaDoor
open Go.RowKit
namespace Slp
def x0 : S := ⟨5, noStr, noStr, 7 :: List.replicate 31 0, noStr, 0, 0⟩
theorem x0_dig : x0.dig.length = 32 := rfl
theorem x0_good : good x0 = true := by decide +kernel
theorem none_bad : good S.none = false := by decide +kernel
theorem x0_len : (frame (body x0)).length = 39 := by rw [frame_len]; decide +kernel
theorem readP_torn17 (b : List UInt8) (k : Nat) (h1 : 1 ≤ b.length) (h2 : b.length ≤ 1024) (hk : k < 6 + b.length) : readP ((frame b).take k) = (S.none, 0, 17) := by
  have hl : ((frame b).take k).length = k := by rw [List.length_take, frame_len]; omega
  unfold readP
  rw [hl]
  by_cases h6 : k < 6
  · rw [if_pos h6]
  · have hh : hd ((frame b).take k) = b.length := by
      rw [hd_take (by omega), frame_rec]
      unfold rec3
      rw [List.append_assoc]
      exact hd_headB _ (by omega) _
    rw [hh, if_neg h6, if_neg (by omega), if_pos hk]
theorem allP_two (r : List UInt8) (hr : r.length < 6) : allP (frame (body x0) ++ frame (body x0) ++ r) = ([x0, x0], 78) := by
  have h := allP_frames [x0, x0] (fun y hy => by
    have : y = x0 := by simpa using hy
    rw [this]; exact ⟨x0_dig, x0_good⟩) r
  have e : frames [x0, x0] = frame (body x0) ++ frame (body x0) := by simp [frames]
  have hend : (readP r).2.2 ≠ 0 := by unfold readP; rw [if_pos hr]; decide
  rw [e, allP_end hend] at h
  rw [h, List.length_append, x0_len]
  simp
set_option maxRecDepth 100000 in
set_option maxHeartbeats 4000000 in
theorem awake_from (w wi : World) (hT : Crc.Tab w) (hX : Reg.Ext w wi) : Calls Tryd.prog 7 #[] wi fun e w' => e = .returned (.bool true) ∧ Reg.Ext w w' := by
  have HT := Lib.hid hT
  have X := Lib.hid hX
  clear hT hX
  obtain ⟨F0, hF0⟩ : ∃ F0 : ByteArray, F0 = ⟨(frame (body x0)).toArray⟩ := ⟨_, rfl⟩
  have hFl : F0.data.toList = frame (body x0) := by rw [hF0]
  have hFs : F0.size = 39 := by rw [← len_data, hFl, x0_len]
  have CW := Lib.hid (fun w hT => write_ok x0 x0_dig x0_good w hT)
  rw [← hF0] at CW
  have R1 : ∀ t : ByteArray, t.data.toList = F0.data.toList ++ [109, 111, 114, 101] → readV t.data.toList = .tuple #[.agg x0.cells.toArray, .int .i64 39, .int .i64 0] := fun t ht => by
    unfold readV
    rw [ht, hFl, readP_frame x0 x0_dig x0_good, x0_len]
    rfl
  have R2 : ∀ t : ByteArray, t.data.toList = F0.data.toList.take 38 → readV t.data.toList = .tuple #[.agg S.none.cells.toArray, .int .i64 0, .int .i64 17] := fun t ht => by
    have hb := body_len x0 x0_dig x0_good
    have hl := x0_len
    rw [frame_len] at hl
    unfold readV
    rw [ht, hFl, readP_torn17 _ _ hb.1 hb.2 (by omega)]
    rfl
  have R3 : ∀ t : ByteArray, t.data.toList = F0.data.toList ++ F0.data.toList ++ [120] → allP t.data.toList = ([x0, x0], 78) := fun t ht => by
    rw [ht, hFl]
    exact allP_two _ (by decide)
  have he : ∀ W, (Op.equalIn 10000 25 (.agg x0.cells.toArray) (.agg x0.cells.toArray)).run Tryd.prog W = .ok true W := fun W => by rw [equal_slip x0 x0 x0_dig x0_dig, same_refl]
  have CG := Lib.hid (fun w => good_any x0 x0_dig w)
  have HE := Lib.hid he
  have HR1 := Lib.hid R1
  have HR2 := Lib.hid R2
  have HR3 := Lib.hid R3
  have HFS := Lib.hid hFs
  rw [x0_good] at CG
  clear hF0 hFl he R1 R2 R3
  have hxd := x0_dig
  go_enter Tryd.func7, Tryd.ntmps7
  go_upto_region 1 with (fail)
  refine wp_region_lit ?_
  refine wpList_val rfl (.agg #[.int .u8 7, .int .u8 0, .int .u8 0, .int .u8 0, .int .u8 0, .int .u8 0, .int .u8 0, .int .u8 0, .int .u8 0, .int .u8 0, .int .u8 0, .int .u8 0, .int .u8 0, .int .u8 0, .int .u8 0, .int .u8 0, .int .u8 0, .int .u8 0, .int .u8 0, .int .u8 0, .int .u8 0, .int .u8 0, .int .u8 0, .int .u8 0, .int .u8 0, .int .u8 0, .int .u8 0, .int .u8 0, .int .u8 0, .int .u8 0, .int .u8 0, .int .u8 0]) (by as_aux_lemma => kernel_rfl) ?_
  simp only [Act.put, Act.eval, List.setIfInBounds_toArray, List.set_cons_zero, List.set_cons_succ, Nat.reduceAdd, Array.getD_eq_getD_getElem?, List.getElem?_toArray, List.getElem?_cons_succ, List.getElem?_cons_zero, Option.getD_some]
  refine wpList_val rfl (.agg x0.cells.toArray) (by as_aux_lemma => kernel_rfl) ?_
  simp only [Act.put, Act.eval, List.setIfInBounds_toArray, List.set_cons_zero, List.set_cons_succ, Nat.reduceAdd, Array.getD_eq_getD_getElem?, List.getElem?_toArray, List.getElem?_cons_succ, List.getElem?_cons_zero, Option.getD_some]
  generalize x0 = x at *
  iterate 3 go_step
  rw [z38]
  have hb8 := boxS wi S.none
  have hx8 := Reg.Ext.alloc wi (Obj.cells S.none.cells.toArray 25)
  have hsx := X.out.size
  generalize wi.alloc (Obj.cells S.none.cells.toArray 25) = w8 at *
  obtain ⟨g1, hg8⟩ : ∃ g, wi.heap.size = g := ⟨_, rfl⟩
  rw [hg8] at hb8 ⊢
  refine wpList_store_mid rfl 25 _ _ rfl g1 0 ((x).cells).toArray rfl ?_ (hb8.there _ (by have e1 := cells_length _ hxd; have e2 := cells_length _ none_dig; rw [List.size_toArray]; omega)) (by rw [List.size_toArray, cells_length _ hxd]; exact size38) (all_oneCell_toArray (oneS _)) ?_
  · rfl
  simp only [List.toList_toArray]
  simp only [Act.put, Act.eval, List.setIfInBounds_toArray, List.set_cons_zero, List.set_cons_succ, Nat.reduceAdd, Array.getD_eq_getD_getElem?, List.getElem?_toArray, List.getElem?_cons_succ, List.getElem?_cons_zero, Option.getD_some]
  have hbx := But.setCells g1 (x).cells 0 w8
  have hnew := Lib.hid (hb8.setAll (x).cells ((cells_length _ hxd).trans (cells_length _ none_dig).symm))
  have Xn := Lib.hid ((X.out.trans hx8).trans_but hbx (by omega))
  have H1 := hnew
  clear hnew
  clear X hb8 hx8 hbx hg8 hsx
  have X := Xn
  clear Xn
  generalize w8.setCells g1 0 (x).cells = wj at *
  clear wi w8
  generalize wj = wi at *
  -- {A
  go_upto_region 2 with (fail)
  refine wp_region_lit ?_
  refine wpList_load_row rfl 25 _ rfl g1 rfl 25 (x.cells).toArray (0, 0) _ H1.out undS rfl (by rw [List.size_toArray, cells_length x hxd]; exact size38) ?_
  simp only [Act.put, Act.eval, List.setIfInBounds_toArray, List.set_cons_zero, List.set_cons_succ, Nat.reduceAdd, Array.getD_eq_getD_getElem?, List.getElem?_toArray, List.getElem?_cons_succ, List.getElem?_cons_zero, Option.getD_some]
  repeat go_step
  refine (CW.out wi (HT.out.below X.out)).mono ?_
  rintro e wj ⟨rfl, xj⟩
  have H1n := Lib.hid (H1.out.ext xj)
  clear H1
  have H1 := H1n
  clear H1n
  rename_i hK
  refine hK _ _ ?_
  have Xn := Lib.hid (X.out.trans xj)
  clear X
  have X := Xn
  clear Xn
  clear xj wi
  generalize wj = wi at *
  go_upto_region 5 with (fail)
  refine wp_region_lit ?_
  repeat go_step
  refine (read_any _ wi (by rw [ByteArray.size_append, HFS.out]; decide) (HT.out.below X.out)).mono ?_
  rintro e wj ⟨rfl, xj⟩
  rw [HR1.out _ (by simp)]
  have H1n := Lib.hid (H1.out.ext xj)
  clear H1
  have H1 := H1n
  clear H1n
  rename_i hK
  refine hK _ _ ?_
  have Xn := Lib.hid (X.out.trans xj)
  clear X
  have X := Xn
  clear Xn
  clear xj wi
  generalize wj = wi at *
  iterate 15 go_step
  rw [z38]
  have hb8 := boxS wi S.none
  have hx8 := Reg.Ext.alloc wi (Obj.cells S.none.cells.toArray 25)
  have hsx := X.out.size
  generalize wi.alloc (Obj.cells S.none.cells.toArray 25) = w8 at *
  obtain ⟨g4, hg8⟩ : ∃ g, wi.heap.size = g := ⟨_, rfl⟩
  rw [hg8] at hb8 ⊢
  refine wpList_store_mid rfl 25 _ _ rfl g4 0 ((x).cells).toArray rfl ?_ (hb8.there _ (by have e1 := cells_length _ hxd; have e2 := cells_length _ none_dig; rw [List.size_toArray]; omega)) (by rw [List.size_toArray, cells_length _ hxd]; exact size38) (all_oneCell_toArray (oneS _)) ?_
  · rfl
  simp only [List.toList_toArray]
  simp only [Act.put, Act.eval, List.setIfInBounds_toArray, List.set_cons_zero, List.set_cons_succ, Nat.reduceAdd, Array.getD_eq_getD_getElem?, List.getElem?_toArray, List.getElem?_cons_succ, List.getElem?_cons_zero, Option.getD_some]
  have hbx := But.setCells g4 (x).cells 0 w8
  have hnew := Lib.hid (hb8.setAll (x).cells ((cells_length _ hxd).trans (cells_length _ none_dig).symm))
  have Xn := Lib.hid ((X.out.trans hx8).trans_but hbx (by omega))
  have H4 := hnew
  have h14 := H1.out.lt
  have H1n := Lib.hid ((H1.out.ext hx8).but hbx (by omega))
  clear hnew H1 h14
  have H1 := H1n
  clear H1n
  clear X hb8 hx8 hbx hg8 hsx
  have X := Xn
  clear Xn
  generalize w8.setCells g4 0 (x).cells = wj at *
  clear wi w8
  generalize wj = wi at *
  go_upto_region 6 with (fail)
  refine wp_region_lit ?_
  repeat go_step
  refine (read_any _ wi (by rw [ByteArray.size_extract, HFS.out]; decide) (HT.out.below X.out)).mono ?_
  rintro e wj ⟨rfl, xj⟩
  rw [HR2.out _ (by rw [ext_to])]
  have H1n := Lib.hid (H1.out.ext xj)
  have H4n := Lib.hid (H4.out.ext xj)
  clear H1 H4
  have H1 := H1n
  have H4 := H4n
  clear H1n H4n
  rename_i hK
  refine hK _ _ ?_
  have Xn := Lib.hid (X.out.trans xj)
  clear X
  have X := Xn
  clear Xn
  clear xj wi
  generalize wj = wi at *
  iterate 15 go_step
  rw [z38]
  have hb8 := boxS wi S.none
  have hx8 := Reg.Ext.alloc wi (Obj.cells S.none.cells.toArray 25)
  have hsx := X.out.size
  generalize wi.alloc (Obj.cells S.none.cells.toArray 25) = w8 at *
  obtain ⟨g7, hg8⟩ : ∃ g, wi.heap.size = g := ⟨_, rfl⟩
  rw [hg8] at hb8 ⊢
  refine wpList_store_mid rfl 25 _ _ rfl g7 0 ((S.none).cells).toArray rfl ?_ (hb8.there _ (by have e1 := cells_length _ none_dig; have e2 := cells_length _ none_dig; rw [List.size_toArray]; omega)) (by rw [List.size_toArray, cells_length _ none_dig]; exact size38) (all_oneCell_toArray (oneS _)) ?_
  · rfl
  simp only [List.toList_toArray]
  simp only [Act.put, Act.eval, List.setIfInBounds_toArray, List.set_cons_zero, List.set_cons_succ, Nat.reduceAdd, Array.getD_eq_getD_getElem?, List.getElem?_toArray, List.getElem?_cons_succ, List.getElem?_cons_zero, Option.getD_some]
  have hbx := But.setCells g7 (S.none).cells 0 w8
  have hnew := Lib.hid (hb8.setAll (S.none).cells ((cells_length _ none_dig).trans (cells_length _ none_dig).symm))
  have Xn := Lib.hid ((X.out.trans hx8).trans_but hbx (by omega))
  have h14 := H1.out.lt
  have h44 := H4.out.lt
  have H1n := Lib.hid ((H1.out.ext hx8).but hbx (by omega))
  have H4n := Lib.hid ((H4.out.ext hx8).but hbx (by omega))
  clear hnew H1 H4 h14 h44
  have H1 := H1n
  have H4 := H4n
  clear H1n H4n
  clear X hb8 hx8 hbx hg8 hsx
  have X := Xn
  clear Xn
  generalize w8.setCells g7 0 (S.none).cells = wj at *
  clear wi w8
  generalize wj = wi at *
  go_upto_region 7 with (fail)
  refine wp_region_lit ?_
  refine wpList_val rfl (.agg S.none.cells.toArray) (by as_aux_lemma => kernel_rfl) ?_
  simp only [Act.put, Act.eval, List.setIfInBounds_toArray, List.set_cons_zero, List.set_cons_succ, Nat.reduceAdd, Array.getD_eq_getD_getElem?, List.getElem?_toArray, List.getElem?_cons_succ, List.getElem?_cons_zero, Option.getD_some]
  repeat go_step
  refine (write_bad S.none none_dig none_bad wi).mono ?_
  rintro e wj ⟨rfl, xj⟩
  have H1n := Lib.hid (H1.out.ext xj)
  have H4n := Lib.hid (H4.out.ext xj)
  clear H1 H4
  have H1 := H1n
  have H4 := H4n
  clear H1n H4n
  rename_i hK
  refine hK _ _ ?_
  have Xn := Lib.hid (X.out.trans xj)
  clear X
  have X := Xn
  clear Xn
  clear xj wi
  generalize wj = wi at *
  go_upto_region 8 with (fail)
  refine wp_region_lit ?_
  have h2 : (F0 ++ F0).size = 78 := by rw [ByteArray.size_append, HFS.out]
  repeat go_step
  refine (all_any _ wi (by rw [ByteArray.size_append, h2]; decide) (HT.out.below X.out)).mono ?_
  rintro e wj ⟨v, rfl, hrow, xj⟩
  rw [HR3.out _ (by simp)] at hrow ⊢
  obtain ⟨-, p, c, rfl, -, -⟩ := hrow.rd
  clear hrow h2
  have H1n := Lib.hid (H1.out.ext xj)
  have H4n := Lib.hid (H4.out.ext xj)
  clear H1 H4
  have H1 := H1n
  have H4 := H4n
  clear H1n H4n
  rename_i hK
  refine hK _ _ ?_
  have Xn := Lib.hid (X.out.trans xj)
  clear X
  have X := Xn
  clear Xn
  clear xj wi
  generalize wj = wi at *
  have he := HE.out
  go_upto_region 9 with (fail)
  refine wp_region_lit ?_
  repeat (first | refine wpList_ldr rfl _ _ rfl g4 rfl _ _ _ H4 undS (by rw [cells_length x hxd]; exact size38) ?_ | refine wpList_ldr rfl _ _ rfl g1 rfl _ _ _ H1 undS (by rw [cells_length x hxd]; exact size38) ?_ | go_step)
  refine (CG.out wi).mono ?_
  rintro e wj ⟨rfl, xj⟩
  rename_i hK
  refine hK _ _ ?_
  have Xn := Lib.hid (X.out.trans xj)
  clear X
  have X := Xn
  clear Xn
  go_wp2_with fail
  go_ret
  exact ⟨rfl, X.out⟩
  -- A}
theorem awake_any (w : World) (hT : Crc.Tab w) : Calls Tryd.prog 7 #[] w fun e w' => e = .returned (.bool true) ∧ Reg.Ext w w' := awake_from w w hT (Reg.Ext.refl w)
end Slp
end Go.Proofs.YtbeghdoffiidoaaDoor
