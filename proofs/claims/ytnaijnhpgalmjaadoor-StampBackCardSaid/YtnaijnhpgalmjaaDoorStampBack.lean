/- The walk of the law StampBack. -/
import Derived.Test.YtnaijnhpgalmjaaDoorStampOrders
set_option linter.unusedSimpArgs false
set_option linter.unusedVariables false
set_option linter.unusedSectionVars false
namespace Go.Proofs.YtnaijnhpgalmjaaDoor
open Go.RowKit
namespace Stp
open Sha (Keys StartIs)
theorem beh_of (p l : List UInt8) (hl : l.length = 32) : beh p (p ++ HexP.hex l) = some l := by
  have h : Pre.has p (p ++ HexP.hex l) = true := by
    unfold Pre.has
    rw [List.isPrefixOf_iff_prefix]
    exact List.prefix_append _ _
  unfold beh
  rw [h, if_pos rfl, List.drop_left, HexP.unhex_hex]
  simp only
  rw [if_pos hl]
theorem of_beh {p s m : List UInt8} (h : beh p s = some m) : s = p ++ HexP.hex m := by
  unfold beh at h
  split at h
  · rename_i hp
    unfold Pre.has at hp
    rw [List.isPrefixOf_iff_prefix] at hp
    obtain ⟨t, rfl⟩ := hp
    rw [List.drop_left] at h
    split at h
    · rename_i m' hm
      split at h
      · injection h with h
        subst h
        rw [HexP.hex_unhex hm]
      · cases h
    · cases h
  · cases h
theorem not_both {s m n : List UInt8} (h : beh pA s = some m) (k : beh pK s = some n) : False := by
  have e := (of_beh h).symm.trans (of_beh k)
  unfold pA pK at e
  simp at e
theorem par_of (l : List UInt8) (hl : l.length = 32) : parV pA (pA ++ HexP.hex l) = .tuple #[.agg (l.map byteV).toArray, .int .i64 0] := by
  unfold parV behL behB; rw [beh_of _ _ hl]; rfl
theorem nam_of (l : List UInt8) (hl : l.length = 32) : behV pK (pK ++ HexP.hex l) = .tuple #[.agg (l.map byteV).toArray, .bool true] := by
  unfold behV; rw [beh_of _ _ hl]
theorem txt_eq (p a b : List UInt8) : ((⟨(p ++ HexP.hex a).toArray⟩ : ByteArray).toList == (⟨(p ++ HexP.hex b).toArray⟩ : ByteArray).toList) = (a == b) := by
  rw [ByteArray.toList_eq, ByteArray.toList_eq, Bool.eq_iff_iff, beq_iff_eq, beq_iff_eq]
  constructor
  · intro h
    simp only [List.toList_toArray] at h
    exact HexP.hex_inj (List.append_cancel_left h)
  · intro h; rw [h]
set_option maxRecDepth 100000 in
set_option maxHeartbeats 2000000 in
theorem back_law (a b : List UInt8) (s : ByteArray) (ha : a.length = 32) (hb : b.length = 32) (w : World) (hs : s.size ≤ maxLen) (hk : Keys w) (hst : StartIs w) :
    Calls Tryd.prog 5 #[.agg (a.map byteV).toArray, .agg (b.map byteV).toArray, .string s] w fun e w' => e = .returned (.bool true) ∧ Reg.Ext w w' := by
  unfold maxLen at hs
  have HKY := Lib.hid hk
  have HS := Lib.hid hst
  clear hk hst
  have hb1 := box_blk w a
  have hx1 := Reg.Ext.alloc w (Obj.cells (a.map byteV).toArray 23)
  have hb2 := box_blk (w.alloc (Obj.cells (a.map byteV).toArray 23)) b
  have hx2 := Reg.Ext.alloc (w.alloc (Obj.cells (a.map byteV).toArray 23)) (Obj.cells (b.map byteV).toArray 23)
  have H1 := Lib.hid (hb1.ext hx2)
  have H2 := Lib.hid hb2
  have X := Lib.hid (hx1.trans hx2)
  clear hb1 hx1 hb2 hx2
  go_enter Tryd.func5, Tryd.ntmps5
  go_wp2_with fail
  rw [show (w.alloc (Obj.cells (a.map byteV).toArray 23)).heap.size = w.heap.size + 1 from Array.size_push _] at H2
  generalize ((w.alloc (Obj.cells (a.map byteV).toArray 23)).alloc (Obj.cells (b.map byteV).toArray 23)) = w1 at *
  generalize w.heap.size = g1 at H1 H2 ⊢
  generalize g1 + 1 = g2 at H2 ⊢
  refine (awake_any _ (HKY.out.ext X.out) (HS.out.ext X.out)).mono ?_
  rintro e wn ⟨rfl, xn⟩
  have X := Lib.hid (X.out.trans xn)
  have H1 := Lib.hid (H1.out.ext xn)
  have H2 := Lib.hid (H2.out.ext xn)
  clear xn
  by_cases hl : s.size ≤ 200
  · have d1 : decide ((200 : Int) < (s.size : Int)) = false := by simp; omega
    obtain ⟨PA, hPA⟩ : ∃ PA : ByteArray, PA = ⟨(pA ++ HexP.hex a).toArray⟩ := ⟨_, rfl⟩
    obtain ⟨PB, hPB⟩ : ∃ PB : ByteArray, PB = ⟨(pA ++ HexP.hex b).toArray⟩ := ⟨_, rfl⟩
    obtain ⟨FA, hFA⟩ : ∃ FA : ByteArray, FA = ⟨(pK ++ HexP.hex a).toArray⟩ := ⟨_, rfl⟩
    obtain ⟨FB, hFB⟩ : ∃ FB : ByteArray, FB = ⟨(pK ++ HexP.hex b).toArray⟩ := ⟨_, rfl⟩
    have cPA := Lib.hid (print_any a ha)
    have cPB := Lib.hid (print_any b hb)
    have cFA := Lib.hid (file_any a ha)
    have cFB := Lib.hid (file_any b hb)
    rw [← hPA] at cPA
    rw [← hPB] at cPB
    rw [← hFA] at cFA
    rw [← hFB] at cFB
    have ePP : (PA.toList == PB.toList) = (a == b) := by rw [hPA, hPB, txt_eq]
    have eFF : (FA.toList == FB.toList) = (a == b) := by rw [hFA, hFB, txt_eq]
    have vPA := Lib.hid (par_of a ha)
    have vFA := Lib.hid (nam_of a ha)
    have lPA : PA.data.toList = pA ++ HexP.hex a := by rw [hPA]
    have lFA : FA.data.toList = pK ++ HexP.hex a := by rw [hFA]
    rw [← lPA] at vPA
    rw [← lFA] at vFA
    have zPA : PA.size ≤ 274877906944 := by
      rw [← len_data, lPA, List.length_append, HexP.hex_length, ha]; decide
    have zFA : FA.size ≤ 274877906944 := by
      rw [← len_data, lFA, List.length_append, HexP.hex_length, ha]; decide
    clear hPA hPB hFA hFB lPA lFA
    have HEE := Lib.hid (equal_dig ha ha)
    rw [show (a == a) = true by simp] at HEE
    have HEQ := Lib.hid (equal_dig ha hb)
    generalize hne : (a == b) = ne at *
    clear hne
    have EPP := Lib.hid ePP
    have EFF := Lib.hid eFF
    clear ePP eFF
    go_upto_region 5 with (fail)
    refine wp_region_lit ?_
    repeat (first | refine wpList_ld rfl _ rfl g1 rfl _ a ha H1 ?_ | refine wpList_ld rfl _ rfl g2 rfl _ b hb H2 ?_ | go_step)
    refine (cPA.out _).mono ?_
    rintro e wn ⟨rfl, xn⟩
    have X := Lib.hid (X.out.trans xn)
    have H1 := Lib.hid (H1.out.ext xn)
    have H2 := Lib.hid (H2.out.ext xn)
    clear xn
    rename_i hK
    refine hK _ _ ?_
    repeat (first | refine wpList_ld rfl _ rfl g1 rfl _ a ha H1 ?_ | refine wpList_ld rfl _ rfl g2 rfl _ b hb H2 ?_ | go_step)
    refine (parse_any PA _ zPA).mono ?_
    rintro e wn ⟨rfl, xn⟩
    have X := Lib.hid (X.out.trans xn)
    have H1 := Lib.hid (H1.out.ext xn)
    have H2 := Lib.hid (H2.out.ext xn)
    clear xn
    rw [vPA.out]
    rename_i hK
    refine hK _ _ ?_
    iterate 12 go_step
    rw [zlit]
    have hbf := box_blk wn zeros
    have hxf := Reg.Ext.alloc wn (Obj.cells (zeros.map byteV).toArray 23)
    have hxs := hxf.trans_but (But.setCells wn.heap.size ((a).map byteV) 0 _) (Nat.le_refl _)
    generalize wn.alloc (Obj.cells (zeros.map byteV).toArray 23) = wf at *
    have HBF := Lib.hid hbf
    clear hbf hxf
    refine wpList_store_mid rfl 23 _ _ rfl wn.heap.size 0 ((a).map byteV).toArray rfl rfl (HBF.out.there _ (by rw [List.size_toArray, List.length_map, ha]; simp [zeros_len])) (by rw [List.size_toArray, List.length_map, ha]; kernel_rfl) ?_ ?_
    · refine all_oneCell_toArray fun v hv => ?_
      obtain ⟨x, _, rfl⟩ := List.mem_map.1 hv
      rfl
    simp only [List.toList_toArray]
    simp only [Act.put, Act.eval, List.setIfInBounds_toArray, List.set_cons_zero, List.set_cons_succ, Nat.reduceAdd, Array.getD_eq_getD_getElem?, List.getElem?_toArray, List.getElem?_cons_succ, List.getElem?_cons_zero, Option.getD_some]
    have hbs := HBF.out.setAll ((a).map byteV) (by simp only [List.length_map, ha, zeros_len])
    generalize wf.setCells wn.heap.size 0 ((a).map byteV) = w2 at *
    have H3 := Lib.hid hbs
    have XF := Lib.hid hxs
    clear hbs hxs HBF
    generalize hgf : wn.heap.size = g3 at *
    have hn3 : wn.heap.size ≤ g3 := by omega
    clear hgf
    have H1 := Lib.hid (H1.out.ext XF.out)
    have H2 := Lib.hid (H2.out.ext XF.out)
    have X := Lib.hid (X.out.trans XF.out)
    clear XF
    go_upto_region 6 with (fail)
    refine wp_region_lit ?_
    repeat (first | refine wpList_ld rfl _ rfl g1 rfl _ a ha H1 ?_ | refine wpList_ld rfl _ rfl g2 rfl _ b hb H2 ?_ | go_step)
    refine (cFA.out _).mono ?_
    rintro e wn ⟨rfl, xn⟩
    have X := Lib.hid (X.out.trans xn)
    have H1 := Lib.hid (H1.out.ext xn)
    have H2 := Lib.hid (H2.out.ext xn)
    have H3 := Lib.hid (H3.out.ext xn)
    clear xn
    rename_i hK
    refine hK _ _ ?_
    repeat (first | refine wpList_ld rfl _ rfl g1 rfl _ a ha H1 ?_ | refine wpList_ld rfl _ rfl g2 rfl _ b hb H2 ?_ | go_step)
    refine (named_any FA _ zFA).mono ?_
    rintro e wn ⟨rfl, xn⟩
    have X := Lib.hid (X.out.trans xn)
    have H1 := Lib.hid (H1.out.ext xn)
    have H2 := Lib.hid (H2.out.ext xn)
    have H3 := Lib.hid (H3.out.ext xn)
    clear xn
    rw [vFA.out]
    rename_i hK
    refine hK _ _ ?_
    iterate 12 go_step
    rw [zlit]
    have hbf := box_blk wn zeros
    have hxf := Reg.Ext.alloc wn (Obj.cells (zeros.map byteV).toArray 23)
    have hxs := hxf.trans_but (But.setCells wn.heap.size ((a).map byteV) 0 _) (Nat.le_refl _)
    generalize wn.alloc (Obj.cells (zeros.map byteV).toArray 23) = wf at *
    have HBF := Lib.hid hbf
    clear hbf hxf
    refine wpList_store_mid rfl 23 _ _ rfl wn.heap.size 0 ((a).map byteV).toArray rfl rfl (HBF.out.there _ (by rw [List.size_toArray, List.length_map, ha]; simp [zeros_len])) (by rw [List.size_toArray, List.length_map, ha]; kernel_rfl) ?_ ?_
    · refine all_oneCell_toArray fun v hv => ?_
      obtain ⟨x, _, rfl⟩ := List.mem_map.1 hv
      rfl
    simp only [List.toList_toArray]
    simp only [Act.put, Act.eval, List.setIfInBounds_toArray, List.set_cons_zero, List.set_cons_succ, Nat.reduceAdd, Array.getD_eq_getD_getElem?, List.getElem?_toArray, List.getElem?_cons_succ, List.getElem?_cons_zero, Option.getD_some]
    have hbs := HBF.out.setAll ((a).map byteV) (by simp only [List.length_map, ha, zeros_len])
    generalize wf.setCells wn.heap.size 0 ((a).map byteV) = w4 at *
    have H4 := Lib.hid hbs
    have XF := Lib.hid hxs
    clear hbs hxs HBF
    generalize hgf : wn.heap.size = g4 at *
    have hn4 : wn.heap.size ≤ g4 := by omega
    clear hgf
    have H1 := Lib.hid (H1.out.ext XF.out)
    have H2 := Lib.hid (H2.out.ext XF.out)
    have H3 := Lib.hid (H3.out.ext XF.out)
    have X := Lib.hid (X.out.trans XF.out)
    clear XF
    go_wp2_with fail
    apply Reg.wp_tab Reg.Ext (by kernel_rfl) (by kernel_rfl) Reg.Ext.refl (fun _ _ _ => Reg.Ext.trans) (Reg.Ext.drew _)
    case h =>
      intro O
      apply Reg.TW.pure_ (c := .agg ((a).map byteV).toArray) rfl
      · intro w1 hw1 hf K hK
        simp only [Act.put, List.setIfInBounds_toArray, List.set_cons_zero, List.set_cons_succ] at hK
        have HK := Lib.hid hK
        clear hK
        unfold Reg.One; dsimp only
        refine wpList_ld rfl _ rfl g3 rfl _ _ ha (Lib.hid (H3.out.ext hw1)) ?_
        simp only [Act.put, Act.eval, List.setIfInBounds_toArray, List.set_cons_zero, List.set_cons_succ, Nat.reduceAdd, Array.getD_eq_getD_getElem?, List.getElem?_toArray, List.getElem?_cons_succ, List.getElem?_cons_zero, Option.getD_some]
        go_wp2_with fail
        exact HK.out _ (Reg.Ext.refl _)
      · simp only [Act.put, Act.eval, List.setIfInBounds_toArray, List.set_cons_zero, List.set_cons_succ, Nat.reduceAdd, Array.getD_eq_getD_getElem?, List.getElem?_toArray, List.getElem?_cons_succ, List.getElem?_cons_zero, Option.getD_some]
        rfl
      apply Reg.TW.pure_ (c := .agg ((a).map byteV).toArray) rfl
      · intro w1 hw1 hf K hK
        simp only [Act.put, List.setIfInBounds_toArray, List.set_cons_zero, List.set_cons_succ] at hK
        have HK := Lib.hid hK
        clear hK
        unfold Reg.One; dsimp only
        refine wpList_ld rfl _ rfl g1 rfl _ _ ha (Lib.hid (H1.out.ext hw1)) ?_
        simp only [Act.put, Act.eval, List.setIfInBounds_toArray, List.set_cons_zero, List.set_cons_succ, Nat.reduceAdd, Array.getD_eq_getD_getElem?, List.getElem?_toArray, List.getElem?_cons_succ, List.getElem?_cons_zero, Option.getD_some]
        go_wp2_with fail
        exact HK.out _ (Reg.Ext.refl _)
      · simp only [Act.put, Act.eval, List.setIfInBounds_toArray, List.set_cons_zero, List.set_cons_succ, Nat.reduceAdd, Array.getD_eq_getD_getElem?, List.getElem?_toArray, List.getElem?_cons_succ, List.getElem?_cons_zero, Option.getD_some]
        rfl
      repeat (first
        | (apply Reg.TW.move_ Reg.Ext.refl _ rfl rfl
           · simp only [Act.put, Act.eval, List.setIfInBounds_toArray, List.set_cons_zero, List.set_cons_succ, Nat.reduceAdd, Array.getD_eq_getD_getElem?, List.getElem?_toArray, List.getElem?_cons_succ, List.getElem?_cons_zero, Option.getD_some]
             rfl)
        | (apply Reg.TW.assign_ Reg.Ext.refl _ rfl rfl
           · simp only [Act.put, Act.eval, List.setIfInBounds_toArray, List.set_cons_zero, List.set_cons_succ, Nat.reduceAdd, Array.getD_eq_getD_getElem?, List.getElem?_toArray, List.getElem?_cons_succ, List.getElem?_cons_zero, Option.getD_some]
             rfl)
        | (apply Reg.TW.skip_ rfl
           · simp only [Act.put, Act.eval, List.setIfInBounds_toArray, List.set_cons_zero, List.set_cons_succ, Nat.reduceAdd, Array.getD_eq_getD_getElem?, List.getElem?_toArray, List.getElem?_cons_succ, List.getElem?_cons_zero, Option.getD_some]
             rfl)
        | (apply Reg.TW.pure_ rfl
           · intro w1 hw1 hf K hK
             simp only [Act.put, List.setIfInBounds_toArray, List.set_cons_zero, List.set_cons_succ] at hK
             have HK := Lib.hid hK
             clear hf hK
             have q1 := HEE.out; have q2 := HEQ.out; have q3 := EPP.out; have q4 := EFF.out
             unfold Reg.One; dsimp only
             go_wp2_with fail
             exact HK.out _ (Reg.Ext.refl _)
           · simp only [Act.put, Act.eval, List.setIfInBounds_toArray, List.set_cons_zero, List.set_cons_succ, Nat.reduceAdd, Array.getD_eq_getD_getElem?, List.getElem?_toArray, List.getElem?_cons_succ, List.getElem?_cons_zero, Option.getD_some]
             rfl))
      apply Reg.TW.pure_ (c := .agg ((a).map byteV).toArray) rfl
      · intro w1 hw1 hf K hK
        simp only [Act.put, List.setIfInBounds_toArray, List.set_cons_zero, List.set_cons_succ] at hK
        have HK := Lib.hid hK
        clear hK
        unfold Reg.One; dsimp only
        refine wpList_ld rfl _ rfl g4 rfl _ _ ha (Lib.hid (H4.out.ext hw1)) ?_
        simp only [Act.put, Act.eval, List.setIfInBounds_toArray, List.set_cons_zero, List.set_cons_succ, Nat.reduceAdd, Array.getD_eq_getD_getElem?, List.getElem?_toArray, List.getElem?_cons_succ, List.getElem?_cons_zero, Option.getD_some]
        go_wp2_with fail
        exact HK.out _ (Reg.Ext.refl _)
      · simp only [Act.put, Act.eval, List.setIfInBounds_toArray, List.set_cons_zero, List.set_cons_succ, Nat.reduceAdd, Array.getD_eq_getD_getElem?, List.getElem?_toArray, List.getElem?_cons_succ, List.getElem?_cons_zero, Option.getD_some]
        rfl
      apply Reg.TW.pure_ (c := .agg ((a).map byteV).toArray) rfl
      · intro w1 hw1 hf K hK
        simp only [Act.put, List.setIfInBounds_toArray, List.set_cons_zero, List.set_cons_succ] at hK
        have HK := Lib.hid hK
        clear hK
        unfold Reg.One; dsimp only
        refine wpList_ld rfl _ rfl g1 rfl _ _ ha (Lib.hid (H1.out.ext hw1)) ?_
        simp only [Act.put, Act.eval, List.setIfInBounds_toArray, List.set_cons_zero, List.set_cons_succ, Nat.reduceAdd, Array.getD_eq_getD_getElem?, List.getElem?_toArray, List.getElem?_cons_succ, List.getElem?_cons_zero, Option.getD_some]
        go_wp2_with fail
        exact HK.out _ (Reg.Ext.refl _)
      · simp only [Act.put, Act.eval, List.setIfInBounds_toArray, List.set_cons_zero, List.set_cons_succ, Nat.reduceAdd, Array.getD_eq_getD_getElem?, List.getElem?_toArray, List.getElem?_cons_succ, List.getElem?_cons_zero, Option.getD_some]
        rfl
      repeat (first
        | (apply Reg.TW.move_ Reg.Ext.refl _ rfl rfl
           · simp only [Act.put, Act.eval, List.setIfInBounds_toArray, List.set_cons_zero, List.set_cons_succ, Nat.reduceAdd, Array.getD_eq_getD_getElem?, List.getElem?_toArray, List.getElem?_cons_succ, List.getElem?_cons_zero, Option.getD_some]
             rfl)
        | (apply Reg.TW.assign_ Reg.Ext.refl _ rfl rfl
           · simp only [Act.put, Act.eval, List.setIfInBounds_toArray, List.set_cons_zero, List.set_cons_succ, Nat.reduceAdd, Array.getD_eq_getD_getElem?, List.getElem?_toArray, List.getElem?_cons_succ, List.getElem?_cons_zero, Option.getD_some]
             rfl)
        | (apply Reg.TW.skip_ rfl
           · simp only [Act.put, Act.eval, List.setIfInBounds_toArray, List.set_cons_zero, List.set_cons_succ, Nat.reduceAdd, Array.getD_eq_getD_getElem?, List.getElem?_toArray, List.getElem?_cons_succ, List.getElem?_cons_zero, Option.getD_some]
             rfl)
        | (apply Reg.TW.pure_ rfl
           · intro w1 hw1 hf K hK
             simp only [Act.put, List.setIfInBounds_toArray, List.set_cons_zero, List.set_cons_succ] at hK
             have HK := Lib.hid hK
             clear hf hK
             have q1 := HEE.out; have q2 := HEQ.out; have q3 := EPP.out; have q4 := EFF.out
             unfold Reg.One; dsimp only
             go_wp2_with fail
             exact HK.out _ (Reg.Ext.refl _)
           · simp only [Act.put, Act.eval, List.setIfInBounds_toArray, List.set_cons_zero, List.set_cons_succ, Nat.reduceAdd, Array.getD_eq_getD_getElem?, List.getElem?_toArray, List.getElem?_cons_succ, List.getElem?_cons_zero, Option.getD_some]
             rfl))
      apply Reg.TW.pure_ (c := .agg ((a).map byteV).toArray) rfl
      · intro w1 hw1 hf K hK
        simp only [Act.put, List.setIfInBounds_toArray, List.set_cons_zero, List.set_cons_succ] at hK
        have HK := Lib.hid hK
        clear hK
        unfold Reg.One; dsimp only
        refine wpList_ld rfl _ rfl g1 rfl _ _ ha (Lib.hid (H1.out.ext hw1)) ?_
        simp only [Act.put, Act.eval, List.setIfInBounds_toArray, List.set_cons_zero, List.set_cons_succ, Nat.reduceAdd, Array.getD_eq_getD_getElem?, List.getElem?_toArray, List.getElem?_cons_succ, List.getElem?_cons_zero, Option.getD_some]
        go_wp2_with fail
        exact HK.out _ (Reg.Ext.refl _)
      · simp only [Act.put, Act.eval, List.setIfInBounds_toArray, List.set_cons_zero, List.set_cons_succ, Nat.reduceAdd, Array.getD_eq_getD_getElem?, List.getElem?_toArray, List.getElem?_cons_succ, List.getElem?_cons_zero, Option.getD_some]
        rfl
      apply Reg.TW.call_ (c := .string PA) (fun _ => True) rfl (fun _ _ _ h => h)
      · intro w1 hw1 hf K hK
        simp only [Act.put, List.setIfInBounds_toArray, List.set_cons_zero, List.set_cons_succ] at hK
        have HK := Lib.hid hK
        clear hK
        unfold Reg.One; dsimp only
        go_wp2_with fail
        refine (cPA.out _).mono ?_
        rintro e w' ⟨rfl, hx⟩
        go_wp2_with fail
        exact HK.out _ hx trivial
      · simp only [Act.put, Act.eval, List.setIfInBounds_toArray, List.set_cons_zero, List.set_cons_succ, Nat.reduceAdd, Array.getD_eq_getD_getElem?, List.getElem?_toArray, List.getElem?_cons_succ, List.getElem?_cons_zero, Option.getD_some]
        rfl
      apply Reg.TW.pure_ (c := .agg ((b).map byteV).toArray) rfl
      · intro w1 hw1 hf K hK
        simp only [Act.put, List.setIfInBounds_toArray, List.set_cons_zero, List.set_cons_succ] at hK
        have HK := Lib.hid hK
        clear hK
        unfold Reg.One; dsimp only
        refine wpList_ld rfl _ rfl g2 rfl _ _ hb (Lib.hid (H2.out.ext hw1)) ?_
        simp only [Act.put, Act.eval, List.setIfInBounds_toArray, List.set_cons_zero, List.set_cons_succ, Nat.reduceAdd, Array.getD_eq_getD_getElem?, List.getElem?_toArray, List.getElem?_cons_succ, List.getElem?_cons_zero, Option.getD_some]
        go_wp2_with fail
        exact HK.out _ (Reg.Ext.refl _)
      · simp only [Act.put, Act.eval, List.setIfInBounds_toArray, List.set_cons_zero, List.set_cons_succ, Nat.reduceAdd, Array.getD_eq_getD_getElem?, List.getElem?_toArray, List.getElem?_cons_succ, List.getElem?_cons_zero, Option.getD_some]
        rfl
      apply Reg.TW.call_ (c := .string PB) (fun _ => True) rfl (fun _ _ _ h => h)
      · intro w1 hw1 hf K hK
        simp only [Act.put, List.setIfInBounds_toArray, List.set_cons_zero, List.set_cons_succ] at hK
        have HK := Lib.hid hK
        clear hK
        unfold Reg.One; dsimp only
        go_wp2_with fail
        refine (cPB.out _).mono ?_
        rintro e w' ⟨rfl, hx⟩
        go_wp2_with fail
        exact HK.out _ hx trivial
      · simp only [Act.put, Act.eval, List.setIfInBounds_toArray, List.set_cons_zero, List.set_cons_succ, Nat.reduceAdd, Array.getD_eq_getD_getElem?, List.getElem?_toArray, List.getElem?_cons_succ, List.getElem?_cons_zero, Option.getD_some]
        rfl
      repeat (first
        | (apply Reg.TW.move_ Reg.Ext.refl _ rfl rfl
           · simp only [Act.put, Act.eval, List.setIfInBounds_toArray, List.set_cons_zero, List.set_cons_succ, Nat.reduceAdd, Array.getD_eq_getD_getElem?, List.getElem?_toArray, List.getElem?_cons_succ, List.getElem?_cons_zero, Option.getD_some]
             rfl)
        | (apply Reg.TW.assign_ Reg.Ext.refl _ rfl rfl
           · simp only [Act.put, Act.eval, List.setIfInBounds_toArray, List.set_cons_zero, List.set_cons_succ, Nat.reduceAdd, Array.getD_eq_getD_getElem?, List.getElem?_toArray, List.getElem?_cons_succ, List.getElem?_cons_zero, Option.getD_some]
             rfl)
        | (apply Reg.TW.skip_ rfl
           · simp only [Act.put, Act.eval, List.setIfInBounds_toArray, List.set_cons_zero, List.set_cons_succ, Nat.reduceAdd, Array.getD_eq_getD_getElem?, List.getElem?_toArray, List.getElem?_cons_succ, List.getElem?_cons_zero, Option.getD_some]
             rfl)
        | (apply Reg.TW.pure_ rfl
           · intro w1 hw1 hf K hK
             simp only [Act.put, List.setIfInBounds_toArray, List.set_cons_zero, List.set_cons_succ] at hK
             have HK := Lib.hid hK
             clear hf hK
             have q1 := HEE.out; have q2 := HEQ.out; have q3 := EPP.out; have q4 := EFF.out
             unfold Reg.One; dsimp only
             go_wp2_with fail
             exact HK.out _ (Reg.Ext.refl _)
           · simp only [Act.put, Act.eval, List.setIfInBounds_toArray, List.set_cons_zero, List.set_cons_succ, Nat.reduceAdd, Array.getD_eq_getD_getElem?, List.getElem?_toArray, List.getElem?_cons_succ, List.getElem?_cons_zero, Option.getD_some]
             rfl))
      apply Reg.TW.pure_ (c := .agg ((a).map byteV).toArray) rfl
      · intro w1 hw1 hf K hK
        simp only [Act.put, List.setIfInBounds_toArray, List.set_cons_zero, List.set_cons_succ] at hK
        have HK := Lib.hid hK
        clear hK
        unfold Reg.One; dsimp only
        refine wpList_ld rfl _ rfl g1 rfl _ _ ha (Lib.hid (H1.out.ext hw1)) ?_
        simp only [Act.put, Act.eval, List.setIfInBounds_toArray, List.set_cons_zero, List.set_cons_succ, Nat.reduceAdd, Array.getD_eq_getD_getElem?, List.getElem?_toArray, List.getElem?_cons_succ, List.getElem?_cons_zero, Option.getD_some]
        go_wp2_with fail
        exact HK.out _ (Reg.Ext.refl _)
      · simp only [Act.put, Act.eval, List.setIfInBounds_toArray, List.set_cons_zero, List.set_cons_succ, Nat.reduceAdd, Array.getD_eq_getD_getElem?, List.getElem?_toArray, List.getElem?_cons_succ, List.getElem?_cons_zero, Option.getD_some]
        rfl
      apply Reg.TW.pure_ (c := .agg ((b).map byteV).toArray) rfl
      · intro w1 hw1 hf K hK
        simp only [Act.put, List.setIfInBounds_toArray, List.set_cons_zero, List.set_cons_succ] at hK
        have HK := Lib.hid hK
        clear hK
        unfold Reg.One; dsimp only
        refine wpList_ld rfl _ rfl g2 rfl _ _ hb (Lib.hid (H2.out.ext hw1)) ?_
        simp only [Act.put, Act.eval, List.setIfInBounds_toArray, List.set_cons_zero, List.set_cons_succ, Nat.reduceAdd, Array.getD_eq_getD_getElem?, List.getElem?_toArray, List.getElem?_cons_succ, List.getElem?_cons_zero, Option.getD_some]
        go_wp2_with fail
        exact HK.out _ (Reg.Ext.refl _)
      · simp only [Act.put, Act.eval, List.setIfInBounds_toArray, List.set_cons_zero, List.set_cons_succ, Nat.reduceAdd, Array.getD_eq_getD_getElem?, List.getElem?_toArray, List.getElem?_cons_succ, List.getElem?_cons_zero, Option.getD_some]
        rfl
      repeat (first
        | (apply Reg.TW.move_ Reg.Ext.refl _ rfl rfl
           · simp only [Act.put, Act.eval, List.setIfInBounds_toArray, List.set_cons_zero, List.set_cons_succ, Nat.reduceAdd, Array.getD_eq_getD_getElem?, List.getElem?_toArray, List.getElem?_cons_succ, List.getElem?_cons_zero, Option.getD_some]
             rfl)
        | (apply Reg.TW.assign_ Reg.Ext.refl _ rfl rfl
           · simp only [Act.put, Act.eval, List.setIfInBounds_toArray, List.set_cons_zero, List.set_cons_succ, Nat.reduceAdd, Array.getD_eq_getD_getElem?, List.getElem?_toArray, List.getElem?_cons_succ, List.getElem?_cons_zero, Option.getD_some]
             rfl)
        | (apply Reg.TW.skip_ rfl
           · simp only [Act.put, Act.eval, List.setIfInBounds_toArray, List.set_cons_zero, List.set_cons_succ, Nat.reduceAdd, Array.getD_eq_getD_getElem?, List.getElem?_toArray, List.getElem?_cons_succ, List.getElem?_cons_zero, Option.getD_some]
             rfl)
        | (apply Reg.TW.pure_ rfl
           · intro w1 hw1 hf K hK
             simp only [Act.put, List.setIfInBounds_toArray, List.set_cons_zero, List.set_cons_succ] at hK
             have HK := Lib.hid hK
             clear hf hK
             have q1 := HEE.out; have q2 := HEQ.out; have q3 := EPP.out; have q4 := EFF.out
             unfold Reg.One; dsimp only
             go_wp2_with fail
             exact HK.out _ (Reg.Ext.refl _)
           · simp only [Act.put, Act.eval, List.setIfInBounds_toArray, List.set_cons_zero, List.set_cons_succ, Nat.reduceAdd, Array.getD_eq_getD_getElem?, List.getElem?_toArray, List.getElem?_cons_succ, List.getElem?_cons_zero, Option.getD_some]
             rfl))
      apply Reg.TW.pure_ (c := .agg ((a).map byteV).toArray) rfl
      · intro w1 hw1 hf K hK
        simp only [Act.put, List.setIfInBounds_toArray, List.set_cons_zero, List.set_cons_succ] at hK
        have HK := Lib.hid hK
        clear hK
        unfold Reg.One; dsimp only
        refine wpList_ld rfl _ rfl g1 rfl _ _ ha (Lib.hid (H1.out.ext hw1)) ?_
        simp only [Act.put, Act.eval, List.setIfInBounds_toArray, List.set_cons_zero, List.set_cons_succ, Nat.reduceAdd, Array.getD_eq_getD_getElem?, List.getElem?_toArray, List.getElem?_cons_succ, List.getElem?_cons_zero, Option.getD_some]
        go_wp2_with fail
        exact HK.out _ (Reg.Ext.refl _)
      · simp only [Act.put, Act.eval, List.setIfInBounds_toArray, List.set_cons_zero, List.set_cons_succ, Nat.reduceAdd, Array.getD_eq_getD_getElem?, List.getElem?_toArray, List.getElem?_cons_succ, List.getElem?_cons_zero, Option.getD_some]
        rfl
      apply Reg.TW.call_ (c := .string FA) (fun _ => True) rfl (fun _ _ _ h => h)
      · intro w1 hw1 hf K hK
        simp only [Act.put, List.setIfInBounds_toArray, List.set_cons_zero, List.set_cons_succ] at hK
        have HK := Lib.hid hK
        clear hK
        unfold Reg.One; dsimp only
        go_wp2_with fail
        refine (cFA.out _).mono ?_
        rintro e w' ⟨rfl, hx⟩
        go_wp2_with fail
        exact HK.out _ hx trivial
      · simp only [Act.put, Act.eval, List.setIfInBounds_toArray, List.set_cons_zero, List.set_cons_succ, Nat.reduceAdd, Array.getD_eq_getD_getElem?, List.getElem?_toArray, List.getElem?_cons_succ, List.getElem?_cons_zero, Option.getD_some]
        rfl
      apply Reg.TW.pure_ (c := .agg ((b).map byteV).toArray) rfl
      · intro w1 hw1 hf K hK
        simp only [Act.put, List.setIfInBounds_toArray, List.set_cons_zero, List.set_cons_succ] at hK
        have HK := Lib.hid hK
        clear hK
        unfold Reg.One; dsimp only
        refine wpList_ld rfl _ rfl g2 rfl _ _ hb (Lib.hid (H2.out.ext hw1)) ?_
        simp only [Act.put, Act.eval, List.setIfInBounds_toArray, List.set_cons_zero, List.set_cons_succ, Nat.reduceAdd, Array.getD_eq_getD_getElem?, List.getElem?_toArray, List.getElem?_cons_succ, List.getElem?_cons_zero, Option.getD_some]
        go_wp2_with fail
        exact HK.out _ (Reg.Ext.refl _)
      · simp only [Act.put, Act.eval, List.setIfInBounds_toArray, List.set_cons_zero, List.set_cons_succ, Nat.reduceAdd, Array.getD_eq_getD_getElem?, List.getElem?_toArray, List.getElem?_cons_succ, List.getElem?_cons_zero, Option.getD_some]
        rfl
      apply Reg.TW.call_ (c := .string FB) (fun _ => True) rfl (fun _ _ _ h => h)
      · intro w1 hw1 hf K hK
        simp only [Act.put, List.setIfInBounds_toArray, List.set_cons_zero, List.set_cons_succ] at hK
        have HK := Lib.hid hK
        clear hK
        unfold Reg.One; dsimp only
        go_wp2_with fail
        refine (cFB.out _).mono ?_
        rintro e w' ⟨rfl, hx⟩
        go_wp2_with fail
        exact HK.out _ hx trivial
      · simp only [Act.put, Act.eval, List.setIfInBounds_toArray, List.set_cons_zero, List.set_cons_succ, Nat.reduceAdd, Array.getD_eq_getD_getElem?, List.getElem?_toArray, List.getElem?_cons_succ, List.getElem?_cons_zero, Option.getD_some]
        rfl
      repeat (first
        | (apply Reg.TW.move_ Reg.Ext.refl _ rfl rfl
           · simp only [Act.put, Act.eval, List.setIfInBounds_toArray, List.set_cons_zero, List.set_cons_succ, Nat.reduceAdd, Array.getD_eq_getD_getElem?, List.getElem?_toArray, List.getElem?_cons_succ, List.getElem?_cons_zero, Option.getD_some]
             rfl)
        | (apply Reg.TW.assign_ Reg.Ext.refl _ rfl rfl
           · simp only [Act.put, Act.eval, List.setIfInBounds_toArray, List.set_cons_zero, List.set_cons_succ, Nat.reduceAdd, Array.getD_eq_getD_getElem?, List.getElem?_toArray, List.getElem?_cons_succ, List.getElem?_cons_zero, Option.getD_some]
             rfl)
        | (apply Reg.TW.skip_ rfl
           · simp only [Act.put, Act.eval, List.setIfInBounds_toArray, List.set_cons_zero, List.set_cons_succ, Nat.reduceAdd, Array.getD_eq_getD_getElem?, List.getElem?_toArray, List.getElem?_cons_succ, List.getElem?_cons_zero, Option.getD_some]
             rfl)
        | (apply Reg.TW.pure_ rfl
           · intro w1 hw1 hf K hK
             simp only [Act.put, List.setIfInBounds_toArray, List.set_cons_zero, List.set_cons_succ] at hK
             have HK := Lib.hid hK
             clear hf hK
             have q1 := HEE.out; have q2 := HEQ.out; have q3 := EPP.out; have q4 := EFF.out
             unfold Reg.One; dsimp only
             go_wp2_with fail
             exact HK.out _ (Reg.Ext.refl _)
           · simp only [Act.put, Act.eval, List.setIfInBounds_toArray, List.set_cons_zero, List.set_cons_succ, Nat.reduceAdd, Array.getD_eq_getD_getElem?, List.getElem?_toArray, List.getElem?_cons_succ, List.getElem?_cons_zero, Option.getD_some]
             rfl))
      apply Reg.TW.pure_ (c := .agg ((a).map byteV).toArray) rfl
      · intro w1 hw1 hf K hK
        simp only [Act.put, List.setIfInBounds_toArray, List.set_cons_zero, List.set_cons_succ] at hK
        have HK := Lib.hid hK
        clear hK
        unfold Reg.One; dsimp only
        refine wpList_ld rfl _ rfl g1 rfl _ _ ha (Lib.hid (H1.out.ext hw1)) ?_
        simp only [Act.put, Act.eval, List.setIfInBounds_toArray, List.set_cons_zero, List.set_cons_succ, Nat.reduceAdd, Array.getD_eq_getD_getElem?, List.getElem?_toArray, List.getElem?_cons_succ, List.getElem?_cons_zero, Option.getD_some]
        go_wp2_with fail
        exact HK.out _ (Reg.Ext.refl _)
      · simp only [Act.put, Act.eval, List.setIfInBounds_toArray, List.set_cons_zero, List.set_cons_succ, Nat.reduceAdd, Array.getD_eq_getD_getElem?, List.getElem?_toArray, List.getElem?_cons_succ, List.getElem?_cons_zero, Option.getD_some]
        rfl
      apply Reg.TW.pure_ (c := .agg ((b).map byteV).toArray) rfl
      · intro w1 hw1 hf K hK
        simp only [Act.put, List.setIfInBounds_toArray, List.set_cons_zero, List.set_cons_succ] at hK
        have HK := Lib.hid hK
        clear hK
        unfold Reg.One; dsimp only
        refine wpList_ld rfl _ rfl g2 rfl _ _ hb (Lib.hid (H2.out.ext hw1)) ?_
        simp only [Act.put, Act.eval, List.setIfInBounds_toArray, List.set_cons_zero, List.set_cons_succ, Nat.reduceAdd, Array.getD_eq_getD_getElem?, List.getElem?_toArray, List.getElem?_cons_succ, List.getElem?_cons_zero, Option.getD_some]
        go_wp2_with fail
        exact HK.out _ (Reg.Ext.refl _)
      · simp only [Act.put, Act.eval, List.setIfInBounds_toArray, List.set_cons_zero, List.set_cons_succ, Nat.reduceAdd, Array.getD_eq_getD_getElem?, List.getElem?_toArray, List.getElem?_cons_succ, List.getElem?_cons_zero, Option.getD_some]
        rfl
      repeat (first
        | (apply Reg.TW.move_ Reg.Ext.refl _ rfl rfl
           · simp only [Act.put, Act.eval, List.setIfInBounds_toArray, List.set_cons_zero, List.set_cons_succ, Nat.reduceAdd, Array.getD_eq_getD_getElem?, List.getElem?_toArray, List.getElem?_cons_succ, List.getElem?_cons_zero, Option.getD_some]
             rfl)
        | (apply Reg.TW.assign_ Reg.Ext.refl _ rfl rfl
           · simp only [Act.put, Act.eval, List.setIfInBounds_toArray, List.set_cons_zero, List.set_cons_succ, Nat.reduceAdd, Array.getD_eq_getD_getElem?, List.getElem?_toArray, List.getElem?_cons_succ, List.getElem?_cons_zero, Option.getD_some]
             rfl)
        | (apply Reg.TW.skip_ rfl
           · simp only [Act.put, Act.eval, List.setIfInBounds_toArray, List.set_cons_zero, List.set_cons_succ, Nat.reduceAdd, Array.getD_eq_getD_getElem?, List.getElem?_toArray, List.getElem?_cons_succ, List.getElem?_cons_zero, Option.getD_some]
             rfl)
        | (apply Reg.TW.pure_ rfl
           · intro w1 hw1 hf K hK
             simp only [Act.put, List.setIfInBounds_toArray, List.set_cons_zero, List.set_cons_succ] at hK
             have HK := Lib.hid hK
             clear hf hK
             have q1 := HEE.out; have q2 := HEQ.out; have q3 := EPP.out; have q4 := EFF.out
             unfold Reg.One; dsimp only
             go_wp2_with fail
             exact HK.out _ (Reg.Ext.refl _)
           · simp only [Act.put, Act.eval, List.setIfInBounds_toArray, List.set_cons_zero, List.set_cons_succ, Nat.reduceAdd, Array.getD_eq_getD_getElem?, List.getElem?_toArray, List.getElem?_cons_succ, List.getElem?_cons_zero, Option.getD_some]
             rfl))
      refine Reg.TW.nil_ ?_
      intro w5 xw _
      have X := Lib.hid (X.out.trans xw)
      clear H1 H2 H3 H4 xw cPA cPB cFA cFB EPP EFF HEE HEQ vPA vFA zPA zFA hn3 hn4
      have hss : ∀ p m, s.data.toList = p ++ HexP.hex m → (⟨(p ++ HexP.hex m).toArray⟩ : ByteArray) = s := by
        intro p m h
        rw [← h]
      cases hA : beh pA s.data.toList with
      | some m =>
        have hm := beh_len hA
        have HVA := Lib.hid (show parV pA s.data.toList = .tuple #[.agg (m.map byteV).toArray, .int .i64 0] by unfold parV behL behB; rw [hA]; rfl)
        have hK : beh pK s.data.toList = none := by
          cases hK : beh pK s.data.toList with
          | none => rfl
          | some n => exact (not_both hA hK).elim
        have HVK := Lib.hid (show behV pK s.data.toList = .tuple #[.agg (zeros.map byteV).toArray, .bool false] by unfold behV; rw [hK])
        have cP := Lib.hid (print_any m hm)
        rw [hss _ _ (of_beh hA)] at cP
        clear hA hK hss
        go_wp2_with fail
        refine (parse_any s _ (by omega)).mono ?_
        rintro e wn ⟨rfl, xn⟩
        have X := Lib.hid (X.out.trans xn)
        clear xn
        rw [HVA.out]
        rename_i hK
        refine hK _ _ ?_
        iterate 12 go_step
        rw [zlit]
        have hbf := box_blk wn zeros
        have hxf := Reg.Ext.alloc wn (Obj.cells (zeros.map byteV).toArray 23)
        have hxs := hxf.trans_but (But.setCells wn.heap.size ((m).map byteV) 0 _) (Nat.le_refl _)
        generalize wn.alloc (Obj.cells (zeros.map byteV).toArray 23) = wf at *
        have HBF := Lib.hid hbf
        clear hbf hxf
        refine wpList_store_mid rfl 23 _ _ rfl wn.heap.size 0 ((m).map byteV).toArray rfl rfl (HBF.out.there _ (by rw [List.size_toArray, List.length_map, hm]; simp [zeros_len])) (by rw [List.size_toArray, List.length_map, hm]; kernel_rfl) ?_ ?_
        · refine all_oneCell_toArray fun v hv => ?_
          obtain ⟨x, _, rfl⟩ := List.mem_map.1 hv
          rfl
        simp only [List.toList_toArray]
        simp only [Act.put, Act.eval, List.setIfInBounds_toArray, List.set_cons_zero, List.set_cons_succ, Nat.reduceAdd, Array.getD_eq_getD_getElem?, List.getElem?_toArray, List.getElem?_cons_succ, List.getElem?_cons_zero, Option.getD_some]
        have hbs := HBF.out.setAll ((m).map byteV) (by simp only [List.length_map, hm, zeros_len])
        generalize wf.setCells wn.heap.size 0 ((m).map byteV) = w6 at *
        have H5 := Lib.hid hbs
        have XF := Lib.hid hxs
        clear hbs hxs HBF
        generalize hgf : wn.heap.size = g5 at *
        have hn5 : wn.heap.size ≤ g5 := by omega
        clear hgf
        have X := Lib.hid (X.out.trans XF.out)
        clear XF
        go_wp2_with fail
        refine (named_any s _ (by omega)).mono ?_
        rintro e wn ⟨rfl, xn⟩
        have X := Lib.hid (X.out.trans xn)
        have H5 := Lib.hid (H5.out.ext xn)
        clear xn
        rw [HVK.out]
        rename_i hK
        refine hK _ _ ?_
        iterate 12 go_step
        rw [zlit]
        have hbf := box_blk wn zeros
        have hxf := Reg.Ext.alloc wn (Obj.cells (zeros.map byteV).toArray 23)
        have hxs := hxf.trans_but (But.setCells wn.heap.size ((zeros).map byteV) 0 _) (Nat.le_refl _)
        generalize wn.alloc (Obj.cells (zeros.map byteV).toArray 23) = wf at *
        have HBF := Lib.hid hbf
        clear hbf hxf
        refine wpList_store_mid rfl 23 _ _ rfl wn.heap.size 0 ((zeros).map byteV).toArray rfl rfl (HBF.out.there _ (by rw [List.size_toArray, List.length_map, zeros_len]; simp [zeros_len])) (by rw [List.size_toArray, List.length_map, zeros_len]; kernel_rfl) ?_ ?_
        · refine all_oneCell_toArray fun v hv => ?_
          obtain ⟨x, _, rfl⟩ := List.mem_map.1 hv
          rfl
        simp only [List.toList_toArray]
        simp only [Act.put, Act.eval, List.setIfInBounds_toArray, List.set_cons_zero, List.set_cons_succ, Nat.reduceAdd, Array.getD_eq_getD_getElem?, List.getElem?_toArray, List.getElem?_cons_succ, List.getElem?_cons_zero, Option.getD_some]
        have hbs := HBF.out.setAll ((zeros).map byteV) (by simp only [List.length_map, zeros_len, zeros_len])
        generalize wf.setCells wn.heap.size 0 ((zeros).map byteV) = w8 at *
        have H6 := Lib.hid hbs
        have XF := Lib.hid hxs
        clear hbs hxs HBF
        generalize hgf : wn.heap.size = g6 at *
        have hn6 : wn.heap.size ≤ g6 := by omega
        clear hgf
        have H5 := Lib.hid (H5.out.ext XF.out)
        have X := Lib.hid (X.out.trans XF.out)
        clear XF
        go_upto_region 11 with (fail)
        refine wp_region_lit ?_
        repeat (first | refine wpList_ld rfl _ rfl g5 rfl _ _ hm H5 ?_ | refine wpList_ld rfl _ rfl g6 rfl _ _ zeros_len H6 ?_ | go_step)
        refine (cP.out _).mono ?_
        rintro e wn ⟨rfl, xn⟩
        have X := Lib.hid (X.out.trans xn)
        clear xn
        go_wp2_with fail
        go_ret
        exact ⟨rfl, X.out⟩
      | none =>
        have HVA := Lib.hid (show parV pA s.data.toList = .tuple #[.agg (zeros.map byteV).toArray, .int .i64 3] by unfold parV behL behB; rw [hA]; rfl)
        cases hK : beh pK s.data.toList with
        | some m =>
          have hm := beh_len hK
          have HVK := Lib.hid (show behV pK s.data.toList = .tuple #[.agg (m.map byteV).toArray, .bool true] by unfold behV; rw [hK])
          have cP := Lib.hid (file_any m hm)
          rw [hss _ _ (of_beh hK)] at cP
          clear hA hK hss
          go_wp2_with fail
          refine (parse_any s _ (by omega)).mono ?_
          rintro e wn ⟨rfl, xn⟩
          have X := Lib.hid (X.out.trans xn)
          clear xn
          rw [HVA.out]
          rename_i hK
          refine hK _ _ ?_
          iterate 12 go_step
          rw [zlit]
          have hbf := box_blk wn zeros
          have hxf := Reg.Ext.alloc wn (Obj.cells (zeros.map byteV).toArray 23)
          have hxs := hxf.trans_but (But.setCells wn.heap.size ((zeros).map byteV) 0 _) (Nat.le_refl _)
          generalize wn.alloc (Obj.cells (zeros.map byteV).toArray 23) = wf at *
          have HBF := Lib.hid hbf
          clear hbf hxf
          refine wpList_store_mid rfl 23 _ _ rfl wn.heap.size 0 ((zeros).map byteV).toArray rfl rfl (HBF.out.there _ (by rw [List.size_toArray, List.length_map, zeros_len]; simp [zeros_len])) (by rw [List.size_toArray, List.length_map, zeros_len]; kernel_rfl) ?_ ?_
          · refine all_oneCell_toArray fun v hv => ?_
            obtain ⟨x, _, rfl⟩ := List.mem_map.1 hv
            rfl
          simp only [List.toList_toArray]
          simp only [Act.put, Act.eval, List.setIfInBounds_toArray, List.set_cons_zero, List.set_cons_succ, Nat.reduceAdd, Array.getD_eq_getD_getElem?, List.getElem?_toArray, List.getElem?_cons_succ, List.getElem?_cons_zero, Option.getD_some]
          have hbs := HBF.out.setAll ((zeros).map byteV) (by simp only [List.length_map, zeros_len, zeros_len])
          generalize wf.setCells wn.heap.size 0 ((zeros).map byteV) = w6 at *
          have H5 := Lib.hid hbs
          have XF := Lib.hid hxs
          clear hbs hxs HBF
          generalize hgf : wn.heap.size = g5 at *
          have hn5 : wn.heap.size ≤ g5 := by omega
          clear hgf
          have X := Lib.hid (X.out.trans XF.out)
          clear XF
          go_wp2_with fail
          refine (named_any s _ (by omega)).mono ?_
          rintro e wn ⟨rfl, xn⟩
          have X := Lib.hid (X.out.trans xn)
          have H5 := Lib.hid (H5.out.ext xn)
          clear xn
          rw [HVK.out]
          rename_i hK
          refine hK _ _ ?_
          iterate 12 go_step
          rw [zlit]
          have hbf := box_blk wn zeros
          have hxf := Reg.Ext.alloc wn (Obj.cells (zeros.map byteV).toArray 23)
          have hxs := hxf.trans_but (But.setCells wn.heap.size ((m).map byteV) 0 _) (Nat.le_refl _)
          generalize wn.alloc (Obj.cells (zeros.map byteV).toArray 23) = wf at *
          have HBF := Lib.hid hbf
          clear hbf hxf
          refine wpList_store_mid rfl 23 _ _ rfl wn.heap.size 0 ((m).map byteV).toArray rfl rfl (HBF.out.there _ (by rw [List.size_toArray, List.length_map, hm]; simp [zeros_len])) (by rw [List.size_toArray, List.length_map, hm]; kernel_rfl) ?_ ?_
          · refine all_oneCell_toArray fun v hv => ?_
            obtain ⟨x, _, rfl⟩ := List.mem_map.1 hv
            rfl
          simp only [List.toList_toArray]
          simp only [Act.put, Act.eval, List.setIfInBounds_toArray, List.set_cons_zero, List.set_cons_succ, Nat.reduceAdd, Array.getD_eq_getD_getElem?, List.getElem?_toArray, List.getElem?_cons_succ, List.getElem?_cons_zero, Option.getD_some]
          have hbs := HBF.out.setAll ((m).map byteV) (by simp only [List.length_map, hm, zeros_len])
          generalize wf.setCells wn.heap.size 0 ((m).map byteV) = w8 at *
          have H6 := Lib.hid hbs
          have XF := Lib.hid hxs
          clear hbs hxs HBF
          generalize hgf : wn.heap.size = g6 at *
          have hn6 : wn.heap.size ≤ g6 := by omega
          clear hgf
          have H5 := Lib.hid (H5.out.ext XF.out)
          have X := Lib.hid (X.out.trans XF.out)
          clear XF
          go_upto_region 11 with (fail)
          refine wp_region_lit ?_
          repeat (first | refine wpList_ld rfl _ rfl g5 rfl _ _ zeros_len H5 ?_ | refine wpList_ld rfl _ rfl g6 rfl _ _ hm H6 ?_ | go_step)
          refine (cP.out _).mono ?_
          rintro e wn ⟨rfl, xn⟩
          have X := Lib.hid (X.out.trans xn)
          clear xn
          go_wp2_with fail
          go_ret
          exact ⟨rfl, X.out⟩
        | none =>
          have HVK := Lib.hid (show behV pK s.data.toList = .tuple #[.agg (zeros.map byteV).toArray, .bool false] by unfold behV; rw [hK])
          clear hA hK hss
          go_wp2_with fail
          refine (parse_any s _ (by omega)).mono ?_
          rintro e wn ⟨rfl, xn⟩
          have X := Lib.hid (X.out.trans xn)
          clear xn
          rw [HVA.out]
          rename_i hK
          refine hK _ _ ?_
          iterate 12 go_step
          rw [zlit]
          have hbf := box_blk wn zeros
          have hxf := Reg.Ext.alloc wn (Obj.cells (zeros.map byteV).toArray 23)
          have hxs := hxf.trans_but (But.setCells wn.heap.size ((zeros).map byteV) 0 _) (Nat.le_refl _)
          generalize wn.alloc (Obj.cells (zeros.map byteV).toArray 23) = wf at *
          have HBF := Lib.hid hbf
          clear hbf hxf
          refine wpList_store_mid rfl 23 _ _ rfl wn.heap.size 0 ((zeros).map byteV).toArray rfl rfl (HBF.out.there _ (by rw [List.size_toArray, List.length_map, zeros_len]; simp [zeros_len])) (by rw [List.size_toArray, List.length_map, zeros_len]; kernel_rfl) ?_ ?_
          · refine all_oneCell_toArray fun v hv => ?_
            obtain ⟨x, _, rfl⟩ := List.mem_map.1 hv
            rfl
          simp only [List.toList_toArray]
          simp only [Act.put, Act.eval, List.setIfInBounds_toArray, List.set_cons_zero, List.set_cons_succ, Nat.reduceAdd, Array.getD_eq_getD_getElem?, List.getElem?_toArray, List.getElem?_cons_succ, List.getElem?_cons_zero, Option.getD_some]
          have hbs := HBF.out.setAll ((zeros).map byteV) (by simp only [List.length_map, zeros_len, zeros_len])
          generalize wf.setCells wn.heap.size 0 ((zeros).map byteV) = w6 at *
          have H5 := Lib.hid hbs
          have XF := Lib.hid hxs
          clear hbs hxs HBF
          generalize hgf : wn.heap.size = g5 at *
          have hn5 : wn.heap.size ≤ g5 := by omega
          clear hgf
          have X := Lib.hid (X.out.trans XF.out)
          clear XF
          go_wp2_with fail
          refine (named_any s _ (by omega)).mono ?_
          rintro e wn ⟨rfl, xn⟩
          have X := Lib.hid (X.out.trans xn)
          have H5 := Lib.hid (H5.out.ext xn)
          clear xn
          rw [HVK.out]
          rename_i hK
          refine hK _ _ ?_
          iterate 12 go_step
          rw [zlit]
          have hbf := box_blk wn zeros
          have hxf := Reg.Ext.alloc wn (Obj.cells (zeros.map byteV).toArray 23)
          have hxs := hxf.trans_but (But.setCells wn.heap.size ((zeros).map byteV) 0 _) (Nat.le_refl _)
          generalize wn.alloc (Obj.cells (zeros.map byteV).toArray 23) = wf at *
          have HBF := Lib.hid hbf
          clear hbf hxf
          refine wpList_store_mid rfl 23 _ _ rfl wn.heap.size 0 ((zeros).map byteV).toArray rfl rfl (HBF.out.there _ (by rw [List.size_toArray, List.length_map, zeros_len]; simp [zeros_len])) (by rw [List.size_toArray, List.length_map, zeros_len]; kernel_rfl) ?_ ?_
          · refine all_oneCell_toArray fun v hv => ?_
            obtain ⟨x, _, rfl⟩ := List.mem_map.1 hv
            rfl
          simp only [List.toList_toArray]
          simp only [Act.put, Act.eval, List.setIfInBounds_toArray, List.set_cons_zero, List.set_cons_succ, Nat.reduceAdd, Array.getD_eq_getD_getElem?, List.getElem?_toArray, List.getElem?_cons_succ, List.getElem?_cons_zero, Option.getD_some]
          have hbs := HBF.out.setAll ((zeros).map byteV) (by simp only [List.length_map, zeros_len, zeros_len])
          generalize wf.setCells wn.heap.size 0 ((zeros).map byteV) = w8 at *
          have H6 := Lib.hid hbs
          have XF := Lib.hid hxs
          clear hbs hxs HBF
          generalize hgf : wn.heap.size = g6 at *
          have hn6 : wn.heap.size ≤ g6 := by omega
          clear hgf
          have H5 := Lib.hid (H5.out.ext XF.out)
          have X := Lib.hid (X.out.trans XF.out)
          clear XF
          go_wp2_with fail
          go_ret
          exact ⟨rfl, X.out⟩
    case hlen => rfl
  · have d1 : decide ((200 : Int) < (s.size : Int)) = true := by simp; omega
    go_wp2_with fail
    go_ret
    exact ⟨rfl, X.out⟩
end Stp
end Go.Proofs.YtnaijnhpgalmjaaDoor
