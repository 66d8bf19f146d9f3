/- The walk of the law StampExact. -/
import Derived.Test.YtnaijnhpgalmjaaDoorStampOrders
import Derived.Test.YtnaijnhpgalmjaaDoorStampRefB
import Derived.Test.YtnaijnhpgalmjaaDoorStampRefO
set_option linter.unusedSimpArgs false
set_option linter.unusedVariables false
set_option linter.unusedSectionVars false
namespace Go.Proofs.YtnaijnhpgalmjaaDoor
open Go.RowKit
namespace Stp
open Sha (Keys StartIs)
theorem beh_two (p s : List UInt8) : ∃ L u, behV p s = .tuple #[.agg (L.map byteV).toArray, .bool u] ∧ L.length = 32 ∧ behL p s = L ∧ behB p s = u := ⟨_, _, behV_two p s, behL_len p s, rfl, rfl⟩
set_option maxRecDepth 100000 in
set_option maxHeartbeats 4000000 in
theorem exact_law (a b : List UInt8) (s : ByteArray) (ha : a.length = 32) (hb : b.length = 32) (w : World) (hs : s.size ≤ maxLen) (hk : Keys w) (hst : StartIs w) :
    Calls Tryd.prog 4 #[.agg (a.map byteV).toArray, .agg (b.map byteV).toArray, .string s] w fun e w' => e = .returned (.bool true) ∧ Reg.Ext w w' := by
  unfold maxLen at hs
  have HKY := Lib.hid hk
  have HS := Lib.hid hst
  clear hk hst
  have hb1 := box_blk w a
  have hx1 := Reg.Ext.alloc w (Obj.cells (a.map byteV).toArray 23)
  have hb2 := box_blk (w.alloc (Obj.cells (a.map byteV).toArray 23)) b
  have hx2 := Reg.Ext.alloc (w.alloc (Obj.cells (a.map byteV).toArray 23)) (Obj.cells (b.map byteV).toArray 23)
  have H1 := Lib.hid (hb1.ext hx2)
  have H2 := Lib.hid hb2
  have X := Lib.hid (hx1.trans hx2)
  clear hb1 hx1 hb2 hx2
  go_enter Tryd.func4, Tryd.ntmps4
  go_wp2_with fail
  rw [show (w.alloc (Obj.cells (a.map byteV).toArray 23)).heap.size = w.heap.size + 1 from Array.size_push _] at H2
  generalize ((w.alloc (Obj.cells (a.map byteV).toArray 23)).alloc (Obj.cells (b.map byteV).toArray 23)) = w1 at *
  generalize w.heap.size = g1 at H1 H2 ⊢
  generalize g1 + 1 = g2 at H2 ⊢
  refine (awake_any _ (HKY.out.ext X.out) (HS.out.ext X.out)).mono ?_
  rintro e wn ⟨rfl, xn⟩
  have X := Lib.hid (X.out.trans xn)
  have H1 := Lib.hid (H1.out.ext xn)
  have H2 := Lib.hid (H2.out.ext xn)
  clear xn
  by_cases hl : s.size ≤ 200
  · have d1 : decide ((200 : Int) < (s.size : Int)) = false := by simp; omega
    obtain ⟨PA, hPA⟩ : ∃ PA : ByteArray, PA = ⟨(pA ++ HexP.hex a).toArray⟩ := ⟨_, rfl⟩
    obtain ⟨FA, hFA⟩ : ∃ FA : ByteArray, FA = ⟨(pK ++ HexP.hex a).toArray⟩ := ⟨_, rfl⟩
    have cP := Lib.hid (print_any a ha)
    have cPR := Lib.hid (printR_any a ha)
    have cF := Lib.hid (file_any a ha)
    have cFR := Lib.hid (fileR_any a ha)
    rw [← hPA] at cP cPR
    rw [← hFA] at cF cFR
    have cL := Lib.hid (less_any a b ha hb)
    have cLR := Lib.hid (lessR_any a b ha hb)
    generalize lessL a b = lb at *
    clear hPA hFA
    obtain ⟨D, hD, hDl⟩ := sum_ex s.data.toList
    have cO := Lib.hid (fun w hk hst => of_str' s D hD hDl w (by omega) hk hst)
    have cOR := Lib.hid (fun w => ofR_any' s D hD hDl w (by omega))
    clear hD
    have HED := Lib.hid (equal_dig hDl hDl)
    rw [show (D == D) = true by simp] at HED
    obtain ⟨L1, u, hv1, hl1, hL1, hu1⟩ := beh_two pA s.data.toList
    obtain ⟨L2, v, hv2, hl2, -, -⟩ := beh_two pK s.data.toList
    have hp1 : parV pA s.data.toList = .tuple #[.agg (L1.map byteV).toArray, .int .i64 (if u then 0 else 3)] := by unfold parV; rw [hL1, hu1]
    have HE1 := Lib.hid (equal_dig hl1 hl1)
    rw [show (L1 == L1) = true by simp] at HE1
    have HE2 := Lib.hid (equal_dig hl2 hl2)
    rw [show (L2 == L2) = true by simp] at HE2
    have HV1 := Lib.hid hv1
    have HV2 := Lib.hid hv2
    have HP1 := Lib.hid hp1
    clear hv1 hv2 hp1 hL1 hu1
    generalize hc : (if u then 0 else 3 : Int) = c at *
    have HC := Lib.hid hc
    clear hc
    go_wp2_with fail
    refine (parse_any s _ (by omega)).mono ?_
    rintro e wn ⟨rfl, xn⟩
    have X := Lib.hid (X.out.trans xn)
    have H1 := Lib.hid (H1.out.ext xn)
    have H2 := Lib.hid (H2.out.ext xn)
    clear xn
    rw [HP1.out]
    rename_i hK
    refine hK _ _ ?_
    iterate 12 go_step
    rw [zlit]
    have hbf := box_blk wn zeros
    have hxf := Reg.Ext.alloc wn (Obj.cells (zeros.map byteV).toArray 23)
    have hxs := hxf.trans_but (But.setCells wn.heap.size ((L1).map byteV) 0 _) (Nat.le_refl _)
    generalize wn.alloc (Obj.cells (zeros.map byteV).toArray 23) = wf at *
    have HBF := Lib.hid hbf
    clear hbf hxf
    refine wpList_store_mid rfl 23 _ _ rfl wn.heap.size 0 ((L1).map byteV).toArray rfl rfl (HBF.out.there _ (by rw [List.size_toArray, List.length_map, hl1]; simp [zeros_len])) (by rw [List.size_toArray, List.length_map, hl1]; kernel_rfl) ?_ ?_
    · refine all_oneCell_toArray fun v hv => ?_
      obtain ⟨x, _, rfl⟩ := List.mem_map.1 hv
      rfl
    simp only [List.toList_toArray]
    simp only [Act.put, Act.eval, List.setIfInBounds_toArray, List.set_cons_zero, List.set_cons_succ, Nat.reduceAdd, Array.getD_eq_getD_getElem?, List.getElem?_toArray, List.getElem?_cons_succ, List.getElem?_cons_zero, Option.getD_some]
    have hbs := HBF.out.setAll ((L1).map byteV) (by simp only [List.length_map, hl1, zeros_len])
    generalize wf.setCells wn.heap.size 0 ((L1).map byteV) = w7 at *
    have H7 := Lib.hid hbs
    have XF := Lib.hid hxs
    clear hbs hxs HBF
    generalize hgf : wn.heap.size = g7 at *
    have hn7 : wn.heap.size ≤ g7 := by omega
    clear hgf
    have H1 := Lib.hid (H1.out.ext XF.out)
    have H2 := Lib.hid (H2.out.ext XF.out)
    have X := Lib.hid (X.out.trans XF.out)
    clear XF hn7
    go_wp2_with fail
    refine (behindR_any ⟨pA.toArray⟩ s _ (by omega) (by rw [siz]; decide)).mono ?_
    rintro e wn ⟨rfl, xn⟩
    have X := Lib.hid (X.out.trans xn)
    have H1 := Lib.hid (H1.out.ext xn)
    have H2 := Lib.hid (H2.out.ext xn)
    have H7 := Lib.hid (H7.out.ext xn)
    clear xn
    rw [lst, HV1.out]
    rename_i hK
    refine hK _ _ ?_
    iterate 12 go_step
    rw [zlit]
    have hbf := box_blk wn zeros
    have hxf := Reg.Ext.alloc wn (Obj.cells (zeros.map byteV).toArray 23)
    have hxs := hxf.trans_but (But.setCells wn.heap.size ((L1).map byteV) 0 _) (Nat.le_refl _)
    generalize wn.alloc (Obj.cells (zeros.map byteV).toArray 23) = wf at *
    have HBF := Lib.hid hbf
    clear hbf hxf
    refine wpList_store_mid rfl 23 _ _ rfl wn.heap.size 0 ((L1).map byteV).toArray rfl rfl (HBF.out.there _ (by rw [List.size_toArray, List.length_map, hl1]; simp [zeros_len])) (by rw [List.size_toArray, List.length_map, hl1]; kernel_rfl) ?_ ?_
    · refine all_oneCell_toArray fun v hv => ?_
      obtain ⟨x, _, rfl⟩ := List.mem_map.1 hv
      rfl
    simp only [List.toList_toArray]
    simp only [Act.put, Act.eval, List.setIfInBounds_toArray, List.set_cons_zero, List.set_cons_succ, Nat.reduceAdd, Array.getD_eq_getD_getElem?, List.getElem?_toArray, List.getElem?_cons_succ, List.getElem?_cons_zero, Option.getD_some]
    have hbs := HBF.out.setAll ((L1).map byteV) (by simp only [List.length_map, hl1, zeros_len])
    generalize wf.setCells wn.heap.size 0 ((L1).map byteV) = w9 at *
    have H9 := Lib.hid hbs
    have XF := Lib.hid hxs
    clear hbs hxs HBF
    generalize hgf : wn.heap.size = g9 at *
    have hn9 : wn.heap.size ≤ g9 := by omega
    clear hgf
    have H1 := Lib.hid (H1.out.ext XF.out)
    have H2 := Lib.hid (H2.out.ext XF.out)
    have X := Lib.hid (X.out.trans XF.out)
    have H7 := Lib.hid (H7.out.ext XF.out)
    clear XF hn9
    go_wp2_with fail
    refine (named_any s _ (by omega)).mono ?_
    rintro e wn ⟨rfl, xn⟩
    have X := Lib.hid (X.out.trans xn)
    have H1 := Lib.hid (H1.out.ext xn)
    have H2 := Lib.hid (H2.out.ext xn)
    have H7 := Lib.hid (H7.out.ext xn)
    have H9 := Lib.hid (H9.out.ext xn)
    clear xn
    rw [HV2.out]
    rename_i hK
    refine hK _ _ ?_
    iterate 12 go_step
    rw [zlit]
    have hbf := box_blk wn zeros
    have hxf := Reg.Ext.alloc wn (Obj.cells (zeros.map byteV).toArray 23)
    have hxs := hxf.trans_but (But.setCells wn.heap.size ((L2).map byteV) 0 _) (Nat.le_refl _)
    generalize wn.alloc (Obj.cells (zeros.map byteV).toArray 23) = wf at *
    have HBF := Lib.hid hbf
    clear hbf hxf
    refine wpList_store_mid rfl 23 _ _ rfl wn.heap.size 0 ((L2).map byteV).toArray rfl rfl (HBF.out.there _ (by rw [List.size_toArray, List.length_map, hl2]; simp [zeros_len])) (by rw [List.size_toArray, List.length_map, hl2]; kernel_rfl) ?_ ?_
    · refine all_oneCell_toArray fun v hv => ?_
      obtain ⟨x, _, rfl⟩ := List.mem_map.1 hv
      rfl
    simp only [List.toList_toArray]
    simp only [Act.put, Act.eval, List.setIfInBounds_toArray, List.set_cons_zero, List.set_cons_succ, Nat.reduceAdd, Array.getD_eq_getD_getElem?, List.getElem?_toArray, List.getElem?_cons_succ, List.getElem?_cons_zero, Option.getD_some]
    have hbs := HBF.out.setAll ((L2).map byteV) (by simp only [List.length_map, hl2, zeros_len])
    generalize wf.setCells wn.heap.size 0 ((L2).map byteV) = w11 at *
    have H11 := Lib.hid hbs
    have XF := Lib.hid hxs
    clear hbs hxs HBF
    generalize hgf : wn.heap.size = g11 at *
    have hn11 : wn.heap.size ≤ g11 := by omega
    clear hgf
    have H1 := Lib.hid (H1.out.ext XF.out)
    have H2 := Lib.hid (H2.out.ext XF.out)
    have X := Lib.hid (X.out.trans XF.out)
    have H7 := Lib.hid (H7.out.ext XF.out)
    have H9 := Lib.hid (H9.out.ext XF.out)
    clear XF hn11
    go_wp2_with fail
    refine (behindR_any ⟨pK.toArray⟩ s _ (by omega) (by rw [siz]; decide)).mono ?_
    rintro e wn ⟨rfl, xn⟩
    have X := Lib.hid (X.out.trans xn)
    have H1 := Lib.hid (H1.out.ext xn)
    have H2 := Lib.hid (H2.out.ext xn)
    have H7 := Lib.hid (H7.out.ext xn)
    have H9 := Lib.hid (H9.out.ext xn)
    have H11 := Lib.hid (H11.out.ext xn)
    clear xn
    rw [lst, HV2.out]
    rename_i hK
    refine hK _ _ ?_
    iterate 12 go_step
    rw [zlit]
    have hbf := box_blk wn zeros
    have hxf := Reg.Ext.alloc wn (Obj.cells (zeros.map byteV).toArray 23)
    have hxs := hxf.trans_but (But.setCells wn.heap.size ((L2).map byteV) 0 _) (Nat.le_refl _)
    generalize wn.alloc (Obj.cells (zeros.map byteV).toArray 23) = wf at *
    have HBF := Lib.hid hbf
    clear hbf hxf
    refine wpList_store_mid rfl 23 _ _ rfl wn.heap.size 0 ((L2).map byteV).toArray rfl rfl (HBF.out.there _ (by rw [List.size_toArray, List.length_map, hl2]; simp [zeros_len])) (by rw [List.size_toArray, List.length_map, hl2]; kernel_rfl) ?_ ?_
    · refine all_oneCell_toArray fun v hv => ?_
      obtain ⟨x, _, rfl⟩ := List.mem_map.1 hv
      rfl
    simp only [List.toList_toArray]
    simp only [Act.put, Act.eval, List.setIfInBounds_toArray, List.set_cons_zero, List.set_cons_succ, Nat.reduceAdd, Array.getD_eq_getD_getElem?, List.getElem?_toArray, List.getElem?_cons_succ, List.getElem?_cons_zero, Option.getD_some]
    have hbs := HBF.out.setAll ((L2).map byteV) (by simp only [List.length_map, hl2, zeros_len])
    generalize wf.setCells wn.heap.size 0 ((L2).map byteV) = w13 at *
    have H13 := Lib.hid hbs
    have XF := Lib.hid hxs
    clear hbs hxs HBF
    generalize hgf : wn.heap.size = g13 at *
    have hn13 : wn.heap.size ≤ g13 := by omega
    clear hgf
    have H1 := Lib.hid (H1.out.ext XF.out)
    have H2 := Lib.hid (H2.out.ext XF.out)
    have X := Lib.hid (X.out.trans XF.out)
    have H7 := Lib.hid (H7.out.ext XF.out)
    have H9 := Lib.hid (H9.out.ext XF.out)
    have H11 := Lib.hid (H11.out.ext XF.out)
    clear XF hn13 HV1 HV2 HP1
    cases u with
    | true =>
      have hc : c = 0 := HC.out.symm
      subst hc
      go_upto_region 9 with (fail)
      refine wp_region_lit ?_
      have q1 := HE1.out
      have q2 := HE2.out
      repeat (first | refine wpList_ld rfl _ rfl g7 rfl _ _ hl1 H7 ?_ | refine wpList_ld rfl _ rfl g9 rfl _ _ hl1 H9 ?_ | refine wpList_ld rfl _ rfl g11 rfl _ _ hl2 H11 ?_ | refine wpList_ld rfl _ rfl g13 rfl _ _ hl2 H13 ?_ | go_step)
      clear q1 q2 H7 H9 H11 H13
      go_wp2_with fail
      apply Reg.wp_tab Reg.Ext (by kernel_rfl) (by kernel_rfl) Reg.Ext.refl (fun _ _ _ => Reg.Ext.trans) (Reg.Ext.drew _)
      case h =>
        intro O
        apply Reg.TW.pure_ (c := .agg ((a).map byteV).toArray) rfl
        · intro w1 hw1 hf K hK
          simp only [Act.put, List.setIfInBounds_toArray, List.set_cons_zero, List.set_cons_succ] at hK
          have HK := Lib.hid hK
          clear hK
          unfold Reg.One; dsimp only
          refine wpList_ld rfl _ rfl g1 rfl _ _ ha (Lib.hid (H1.out.ext hw1)) ?_
          simp only [Act.put, Act.eval, List.setIfInBounds_toArray, List.set_cons_zero, List.set_cons_succ, Nat.reduceAdd, Array.getD_eq_getD_getElem?, List.getElem?_toArray, List.getElem?_cons_succ, List.getElem?_cons_zero, Option.getD_some]
          go_wp2_with fail
          exact HK.out _ (Reg.Ext.refl _)
        · simp only [Act.put, Act.eval, List.setIfInBounds_toArray, List.set_cons_zero, List.set_cons_succ, Nat.reduceAdd, Array.getD_eq_getD_getElem?, List.getElem?_toArray, List.getElem?_cons_succ, List.getElem?_cons_zero, Option.getD_some]
          rfl
        apply Reg.TW.call_ (c := .string PA) (fun _ => True) rfl (fun _ _ _ h => h)
        · intro w1 hw1 hf K hK
          simp only [Act.put, List.setIfInBounds_toArray, List.set_cons_zero, List.set_cons_succ] at hK
          have HK := Lib.hid hK
          clear hK
          unfold Reg.One; dsimp only
          go_wp2_with fail
          refine (cP.out _).mono ?_
          rintro e w' ⟨rfl, hx⟩
          go_wp2_with fail
          exact HK.out _ hx trivial
        · simp only [Act.put, Act.eval, List.setIfInBounds_toArray, List.set_cons_zero, List.set_cons_succ, Nat.reduceAdd, Array.getD_eq_getD_getElem?, List.getElem?_toArray, List.getElem?_cons_succ, List.getElem?_cons_zero, Option.getD_some]
          rfl
        apply Reg.TW.pure_ (c := .agg ((a).map byteV).toArray) rfl
        · intro w1 hw1 hf K hK
          simp only [Act.put, List.setIfInBounds_toArray, List.set_cons_zero, List.set_cons_succ] at hK
          have HK := Lib.hid hK
          clear hK
          unfold Reg.One; dsimp only
          refine wpList_ld rfl _ rfl g1 rfl _ _ ha (Lib.hid (H1.out.ext hw1)) ?_
          simp only [Act.put, Act.eval, List.setIfInBounds_toArray, List.set_cons_zero, List.set_cons_succ, Nat.reduceAdd, Array.getD_eq_getD_getElem?, List.getElem?_toArray, List.getElem?_cons_succ, List.getElem?_cons_zero, Option.getD_some]
          go_wp2_with fail
          exact HK.out _ (Reg.Ext.refl _)
        · simp only [Act.put, Act.eval, List.setIfInBounds_toArray, List.set_cons_zero, List.set_cons_succ, Nat.reduceAdd, Array.getD_eq_getD_getElem?, List.getElem?_toArray, List.getElem?_cons_succ, List.getElem?_cons_zero, Option.getD_some]
          rfl
        apply Reg.TW.call_ (c := .string PA) (fun _ => True) rfl (fun _ _ _ h => h)
        · intro w1 hw1 hf K hK
          simp only [Act.put, List.setIfInBounds_toArray, List.set_cons_zero, List.set_cons_succ] at hK
          have HK := Lib.hid hK
          clear hK
          unfold Reg.One; dsimp only
          go_wp2_with fail
          refine (cPR.out _).mono ?_
          rintro e w' ⟨rfl, hx⟩
          go_wp2_with fail
          exact HK.out _ hx trivial
        · simp only [Act.put, Act.eval, List.setIfInBounds_toArray, List.set_cons_zero, List.set_cons_succ, Nat.reduceAdd, Array.getD_eq_getD_getElem?, List.getElem?_toArray, List.getElem?_cons_succ, List.getElem?_cons_zero, Option.getD_some]
          rfl
        repeat (first
          | (apply Reg.TW.move_ Reg.Ext.refl _ rfl rfl
             · simp only [Act.put, Act.eval, List.setIfInBounds_toArray, List.set_cons_zero, List.set_cons_succ, Nat.reduceAdd, Array.getD_eq_getD_getElem?, List.getElem?_toArray, List.getElem?_cons_succ, List.getElem?_cons_zero, Option.getD_some]
               rfl)
          | (apply Reg.TW.assign_ Reg.Ext.refl _ rfl rfl
             · simp only [Act.put, Act.eval, List.setIfInBounds_toArray, List.set_cons_zero, List.set_cons_succ, Nat.reduceAdd, Array.getD_eq_getD_getElem?, List.getElem?_toArray, List.getElem?_cons_succ, List.getElem?_cons_zero, Option.getD_some]
               rfl)
          | (apply Reg.TW.skip_ rfl
             · simp only [Act.put, Act.eval, List.setIfInBounds_toArray, List.set_cons_zero, List.set_cons_succ, Nat.reduceAdd, Array.getD_eq_getD_getElem?, List.getElem?_toArray, List.getElem?_cons_succ, List.getElem?_cons_zero, Option.getD_some]
               rfl)
          | (apply Reg.TW.pure_ rfl
             · intro w1 hw1 hf K hK
               simp only [Act.put, List.setIfInBounds_toArray, List.set_cons_zero, List.set_cons_succ] at hK
               have HK := Lib.hid hK
               clear hf hK
               unfold Reg.One; dsimp only
               go_wp2_with fail
               exact HK.out _ (Reg.Ext.refl _)
             · simp only [Act.put, Act.eval, List.setIfInBounds_toArray, List.set_cons_zero, List.set_cons_succ, Nat.reduceAdd, Array.getD_eq_getD_getElem?, List.getElem?_toArray, List.getElem?_cons_succ, List.getElem?_cons_zero, Option.getD_some]
               rfl))
        apply Reg.TW.pure_ (c := .agg ((a).map byteV).toArray) rfl
        · intro w1 hw1 hf K hK
          simp only [Act.put, List.setIfInBounds_toArray, List.set_cons_zero, List.set_cons_succ] at hK
          have HK := Lib.hid hK
          clear hK
          unfold Reg.One; dsimp only
          refine wpList_ld rfl _ rfl g1 rfl _ _ ha (Lib.hid (H1.out.ext hw1)) ?_
          simp only [Act.put, Act.eval, List.setIfInBounds_toArray, List.set_cons_zero, List.set_cons_succ, Nat.reduceAdd, Array.getD_eq_getD_getElem?, List.getElem?_toArray, List.getElem?_cons_succ, List.getElem?_cons_zero, Option.getD_some]
          go_wp2_with fail
          exact HK.out _ (Reg.Ext.refl _)
        · simp only [Act.put, Act.eval, List.setIfInBounds_toArray, List.set_cons_zero, List.set_cons_succ, Nat.reduceAdd, Array.getD_eq_getD_getElem?, List.getElem?_toArray, List.getElem?_cons_succ, List.getElem?_cons_zero, Option.getD_some]
          rfl
        apply Reg.TW.call_ (c := .string FA) (fun _ => True) rfl (fun _ _ _ h => h)
        · intro w1 hw1 hf K hK
          simp only [Act.put, List.setIfInBounds_toArray, List.set_cons_zero, List.set_cons_succ] at hK
          have HK := Lib.hid hK
          clear hK
          unfold Reg.One; dsimp only
          go_wp2_with fail
          refine (cF.out _).mono ?_
          rintro e w' ⟨rfl, hx⟩
          go_wp2_with fail
          exact HK.out _ hx trivial
        · simp only [Act.put, Act.eval, List.setIfInBounds_toArray, List.set_cons_zero, List.set_cons_succ, Nat.reduceAdd, Array.getD_eq_getD_getElem?, List.getElem?_toArray, List.getElem?_cons_succ, List.getElem?_cons_zero, Option.getD_some]
          rfl
        apply Reg.TW.pure_ (c := .agg ((a).map byteV).toArray) rfl
        · intro w1 hw1 hf K hK
          simp only [Act.put, List.setIfInBounds_toArray, List.set_cons_zero, List.set_cons_succ] at hK
          have HK := Lib.hid hK
          clear hK
          unfold Reg.One; dsimp only
          refine wpList_ld rfl _ rfl g1 rfl _ _ ha (Lib.hid (H1.out.ext hw1)) ?_
          simp only [Act.put, Act.eval, List.setIfInBounds_toArray, List.set_cons_zero, List.set_cons_succ, Nat.reduceAdd, Array.getD_eq_getD_getElem?, List.getElem?_toArray, List.getElem?_cons_succ, List.getElem?_cons_zero, Option.getD_some]
          go_wp2_with fail
          exact HK.out _ (Reg.Ext.refl _)
        · simp only [Act.put, Act.eval, List.setIfInBounds_toArray, List.set_cons_zero, List.set_cons_succ, Nat.reduceAdd, Array.getD_eq_getD_getElem?, List.getElem?_toArray, List.getElem?_cons_succ, List.getElem?_cons_zero, Option.getD_some]
          rfl
        apply Reg.TW.call_ (c := .string FA) (fun _ => True) rfl (fun _ _ _ h => h)
        · intro w1 hw1 hf K hK
          simp only [Act.put, List.setIfInBounds_toArray, List.set_cons_zero, List.set_cons_succ] at hK
          have HK := Lib.hid hK
          clear hK
          unfold Reg.One; dsimp only
          go_wp2_with fail
          refine (cFR.out _).mono ?_
          rintro e w' ⟨rfl, hx⟩
          go_wp2_with fail
          exact HK.out _ hx trivial
        · simp only [Act.put, Act.eval, List.setIfInBounds_toArray, List.set_cons_zero, List.set_cons_succ, Nat.reduceAdd, Array.getD_eq_getD_getElem?, List.getElem?_toArray, List.getElem?_cons_succ, List.getElem?_cons_zero, Option.getD_some]
          rfl
        repeat (first
          | (apply Reg.TW.move_ Reg.Ext.refl _ rfl rfl
             · simp only [Act.put, Act.eval, List.setIfInBounds_toArray, List.set_cons_zero, List.set_cons_succ, Nat.reduceAdd, Array.getD_eq_getD_getElem?, List.getElem?_toArray, List.getElem?_cons_succ, List.getElem?_cons_zero, Option.getD_some]
               rfl)
          | (apply Reg.TW.assign_ Reg.Ext.refl _ rfl rfl
             · simp only [Act.put, Act.eval, List.setIfInBounds_toArray, List.set_cons_zero, List.set_cons_succ, Nat.reduceAdd, Array.getD_eq_getD_getElem?, List.getElem?_toArray, List.getElem?_cons_succ, List.getElem?_cons_zero, Option.getD_some]
               rfl)
          | (apply Reg.TW.skip_ rfl
             · simp only [Act.put, Act.eval, List.setIfInBounds_toArray, List.set_cons_zero, List.set_cons_succ, Nat.reduceAdd, Array.getD_eq_getD_getElem?, List.getElem?_toArray, List.getElem?_cons_succ, List.getElem?_cons_zero, Option.getD_some]
               rfl)
          | (apply Reg.TW.pure_ rfl
             · intro w1 hw1 hf K hK
               simp only [Act.put, List.setIfInBounds_toArray, List.set_cons_zero, List.set_cons_succ] at hK
               have HK := Lib.hid hK
               clear hf hK
               unfold Reg.One; dsimp only
               go_wp2_with fail
               exact HK.out _ (Reg.Ext.refl _)
             · simp only [Act.put, Act.eval, List.setIfInBounds_toArray, List.set_cons_zero, List.set_cons_succ, Nat.reduceAdd, Array.getD_eq_getD_getElem?, List.getElem?_toArray, List.getElem?_cons_succ, List.getElem?_cons_zero, Option.getD_some]
               rfl))
        apply Reg.TW.pure_ (c := .agg ((a).map byteV).toArray) rfl
        · intro w1 hw1 hf K hK
          simp only [Act.put, List.setIfInBounds_toArray, List.set_cons_zero, List.set_cons_succ] at hK
          have HK := Lib.hid hK
          clear hK
          unfold Reg.One; dsimp only
          refine wpList_ld rfl _ rfl g1 rfl _ _ ha (Lib.hid (H1.out.ext hw1)) ?_
          simp only [Act.put, Act.eval, List.setIfInBounds_toArray, List.set_cons_zero, List.set_cons_succ, Nat.reduceAdd, Array.getD_eq_getD_getElem?, List.getElem?_toArray, List.getElem?_cons_succ, List.getElem?_cons_zero, Option.getD_some]
          go_wp2_with fail
          exact HK.out _ (Reg.Ext.refl _)
        · simp only [Act.put, Act.eval, List.setIfInBounds_toArray, List.set_cons_zero, List.set_cons_succ, Nat.reduceAdd, Array.getD_eq_getD_getElem?, List.getElem?_toArray, List.getElem?_cons_succ, List.getElem?_cons_zero, Option.getD_some]
          rfl
        apply Reg.TW.pure_ (c := .agg ((b).map byteV).toArray) rfl
        · intro w1 hw1 hf K hK
          simp only [Act.put, List.setIfInBounds_toArray, List.set_cons_zero, List.set_cons_succ] at hK
          have HK := Lib.hid hK
          clear hK
          unfold Reg.One; dsimp only
          refine wpList_ld rfl _ rfl g2 rfl _ _ hb (Lib.hid (H2.out.ext hw1)) ?_
          simp only [Act.put, Act.eval, List.setIfInBounds_toArray, List.set_cons_zero, List.set_cons_succ, Nat.reduceAdd, Array.getD_eq_getD_getElem?, List.getElem?_toArray, List.getElem?_cons_succ, List.getElem?_cons_zero, Option.getD_some]
          go_wp2_with fail
          exact HK.out _ (Reg.Ext.refl _)
        · simp only [Act.put, Act.eval, List.setIfInBounds_toArray, List.set_cons_zero, List.set_cons_succ, Nat.reduceAdd, Array.getD_eq_getD_getElem?, List.getElem?_toArray, List.getElem?_cons_succ, List.getElem?_cons_zero, Option.getD_some]
          rfl
        apply Reg.TW.call_ (c := .bool lb) (fun _ => True) rfl (fun _ _ _ h => h)
        · intro w1 hw1 hf K hK
          simp only [Act.put, List.setIfInBounds_toArray, List.set_cons_zero, List.set_cons_succ] at hK
          have HK := Lib.hid hK
          clear hK
          unfold Reg.One; dsimp only
          go_wp2_with fail
          refine (cL.out _).mono ?_
          rintro e w' ⟨rfl, hx⟩
          go_wp2_with fail
          exact HK.out _ hx trivial
        · simp only [Act.put, Act.eval, List.setIfInBounds_toArray, List.set_cons_zero, List.set_cons_succ, Nat.reduceAdd, Array.getD_eq_getD_getElem?, List.getElem?_toArray, List.getElem?_cons_succ, List.getElem?_cons_zero, Option.getD_some]
          rfl
        apply Reg.TW.pure_ (c := .agg ((a).map byteV).toArray) rfl
        · intro w1 hw1 hf K hK
          simp only [Act.put, List.setIfInBounds_toArray, List.set_cons_zero, List.set_cons_succ] at hK
          have HK := Lib.hid hK
          clear hK
          unfold Reg.One; dsimp only
          refine wpList_ld rfl _ rfl g1 rfl _ _ ha (Lib.hid (H1.out.ext hw1)) ?_
          simp only [Act.put, Act.eval, List.setIfInBounds_toArray, List.set_cons_zero, List.set_cons_succ, Nat.reduceAdd, Array.getD_eq_getD_getElem?, List.getElem?_toArray, List.getElem?_cons_succ, List.getElem?_cons_zero, Option.getD_some]
          go_wp2_with fail
          exact HK.out _ (Reg.Ext.refl _)
        · simp only [Act.put, Act.eval, List.setIfInBounds_toArray, List.set_cons_zero, List.set_cons_succ, Nat.reduceAdd, Array.getD_eq_getD_getElem?, List.getElem?_toArray, List.getElem?_cons_succ, List.getElem?_cons_zero, Option.getD_some]
          rfl
        apply Reg.TW.pure_ (c := .agg ((b).map byteV).toArray) rfl
        · intro w1 hw1 hf K hK
          simp only [Act.put, List.setIfInBounds_toArray, List.set_cons_zero, List.set_cons_succ] at hK
          have HK := Lib.hid hK
          clear hK
          unfold Reg.One; dsimp only
          refine wpList_ld rfl _ rfl g2 rfl _ _ hb (Lib.hid (H2.out.ext hw1)) ?_
          simp only [Act.put, Act.eval, List.setIfInBounds_toArray, List.set_cons_zero, List.set_cons_succ, Nat.reduceAdd, Array.getD_eq_getD_getElem?, List.getElem?_toArray, List.getElem?_cons_succ, List.getElem?_cons_zero, Option.getD_some]
          go_wp2_with fail
          exact HK.out _ (Reg.Ext.refl _)
        · simp only [Act.put, Act.eval, List.setIfInBounds_toArray, List.set_cons_zero, List.set_cons_succ, Nat.reduceAdd, Array.getD_eq_getD_getElem?, List.getElem?_toArray, List.getElem?_cons_succ, List.getElem?_cons_zero, Option.getD_some]
          rfl
        apply Reg.TW.call_ (c := .bool lb) (fun _ => True) rfl (fun _ _ _ h => h)
        · intro w1 hw1 hf K hK
          simp only [Act.put, List.setIfInBounds_toArray, List.set_cons_zero, List.set_cons_succ] at hK
          have HK := Lib.hid hK
          clear hK
          unfold Reg.One; dsimp only
          go_wp2_with fail
          refine (cLR.out _).mono ?_
          rintro e w' ⟨rfl, hx⟩
          go_wp2_with fail
          exact HK.out _ hx trivial
        · simp only [Act.put, Act.eval, List.setIfInBounds_toArray, List.set_cons_zero, List.set_cons_succ, Nat.reduceAdd, Array.getD_eq_getD_getElem?, List.getElem?_toArray, List.getElem?_cons_succ, List.getElem?_cons_zero, Option.getD_some]
          rfl
        repeat (first
          | (apply Reg.TW.move_ Reg.Ext.refl _ rfl rfl
             · simp only [Act.put, Act.eval, List.setIfInBounds_toArray, List.set_cons_zero, List.set_cons_succ, Nat.reduceAdd, Array.getD_eq_getD_getElem?, List.getElem?_toArray, List.getElem?_cons_succ, List.getElem?_cons_zero, Option.getD_some]
               rfl)
          | (apply Reg.TW.assign_ Reg.Ext.refl _ rfl rfl
             · simp only [Act.put, Act.eval, List.setIfInBounds_toArray, List.set_cons_zero, List.set_cons_succ, Nat.reduceAdd, Array.getD_eq_getD_getElem?, List.getElem?_toArray, List.getElem?_cons_succ, List.getElem?_cons_zero, Option.getD_some]
               rfl)
          | (apply Reg.TW.skip_ rfl
             · simp only [Act.put, Act.eval, List.setIfInBounds_toArray, List.set_cons_zero, List.set_cons_succ, Nat.reduceAdd, Array.getD_eq_getD_getElem?, List.getElem?_toArray, List.getElem?_cons_succ, List.getElem?_cons_zero, Option.getD_some]
               rfl)
          | (apply Reg.TW.pure_ rfl
             · intro w1 hw1 hf K hK
               simp only [Act.put, List.setIfInBounds_toArray, List.set_cons_zero, List.set_cons_succ] at hK
               have HK := Lib.hid hK
               clear hf hK
               unfold Reg.One; dsimp only
               go_wp2_with fail
               exact HK.out _ (Reg.Ext.refl _)
             · simp only [Act.put, Act.eval, List.setIfInBounds_toArray, List.set_cons_zero, List.set_cons_succ, Nat.reduceAdd, Array.getD_eq_getD_getElem?, List.getElem?_toArray, List.getElem?_cons_succ, List.getElem?_cons_zero, Option.getD_some]
               rfl))
        apply Reg.TW.call_ (c := .agg (D.map byteV).toArray) (fun _ => True) rfl (fun _ _ _ h => h)
        · intro w1 hw1 hf K hK
          simp only [Act.put, List.setIfInBounds_toArray, List.set_cons_zero, List.set_cons_succ] at hK
          have HK := Lib.hid hK
          clear hK
          unfold Reg.One; dsimp only
          go_wp2_with fail
          refine (cO.out _ (HKY.out.ext (X.out.trans hw1)) (HS.out.ext (X.out.trans hw1))).mono ?_
          rintro e w' ⟨rfl, hx⟩
          go_wp2_with fail
          exact HK.out _ hx trivial
        · simp only [Act.put, Act.eval, List.setIfInBounds_toArray, List.set_cons_zero, List.set_cons_succ, Nat.reduceAdd, Array.getD_eq_getD_getElem?, List.getElem?_toArray, List.getElem?_cons_succ, List.getElem?_cons_zero, Option.getD_some]
          rfl
        repeat (first
          | (apply Reg.TW.move_ Reg.Ext.refl _ rfl rfl
             · simp only [Act.put, Act.eval, List.setIfInBounds_toArray, List.set_cons_zero, List.set_cons_succ, Nat.reduceAdd, Array.getD_eq_getD_getElem?, List.getElem?_toArray, List.getElem?_cons_succ, List.getElem?_cons_zero, Option.getD_some]
               rfl)
          | (apply Reg.TW.assign_ Reg.Ext.refl _ rfl rfl
             · simp only [Act.put, Act.eval, List.setIfInBounds_toArray, List.set_cons_zero, List.set_cons_succ, Nat.reduceAdd, Array.getD_eq_getD_getElem?, List.getElem?_toArray, List.getElem?_cons_succ, List.getElem?_cons_zero, Option.getD_some]
               rfl)
          | (apply Reg.TW.skip_ rfl
             · simp only [Act.put, Act.eval, List.setIfInBounds_toArray, List.set_cons_zero, List.set_cons_succ, Nat.reduceAdd, Array.getD_eq_getD_getElem?, List.getElem?_toArray, List.getElem?_cons_succ, List.getElem?_cons_zero, Option.getD_some]
               rfl)
          | (apply Reg.TW.pure_ rfl
             · intro w1 hw1 hf K hK
               simp only [Act.put, List.setIfInBounds_toArray, List.set_cons_zero, List.set_cons_succ] at hK
               have HK := Lib.hid hK
               clear hf hK
               unfold Reg.One; dsimp only
               go_wp2_with fail
               exact HK.out _ (Reg.Ext.refl _)
             · simp only [Act.put, Act.eval, List.setIfInBounds_toArray, List.set_cons_zero, List.set_cons_succ, Nat.reduceAdd, Array.getD_eq_getD_getElem?, List.getElem?_toArray, List.getElem?_cons_succ, List.getElem?_cons_zero, Option.getD_some]
               rfl))
        apply Reg.TW.call_ (c := .agg (D.map byteV).toArray) (fun _ => True) rfl (fun _ _ _ h => h)
        · intro w1 hw1 hf K hK
          simp only [Act.put, List.setIfInBounds_toArray, List.set_cons_zero, List.set_cons_succ] at hK
          have HK := Lib.hid hK
          clear hK
          unfold Reg.One; dsimp only
          go_wp2_with fail
          refine (cOR.out _).mono ?_
          rintro e w' ⟨rfl, hx⟩
          go_wp2_with fail
          exact HK.out _ hx trivial
        · simp only [Act.put, Act.eval, List.setIfInBounds_toArray, List.set_cons_zero, List.set_cons_succ, Nat.reduceAdd, Array.getD_eq_getD_getElem?, List.getElem?_toArray, List.getElem?_cons_succ, List.getElem?_cons_zero, Option.getD_some]
          rfl
        repeat (first
          | (apply Reg.TW.move_ Reg.Ext.refl _ rfl rfl
             · simp only [Act.put, Act.eval, List.setIfInBounds_toArray, List.set_cons_zero, List.set_cons_succ, Nat.reduceAdd, Array.getD_eq_getD_getElem?, List.getElem?_toArray, List.getElem?_cons_succ, List.getElem?_cons_zero, Option.getD_some]
               rfl)
          | (apply Reg.TW.assign_ Reg.Ext.refl _ rfl rfl
             · simp only [Act.put, Act.eval, List.setIfInBounds_toArray, List.set_cons_zero, List.set_cons_succ, Nat.reduceAdd, Array.getD_eq_getD_getElem?, List.getElem?_toArray, List.getElem?_cons_succ, List.getElem?_cons_zero, Option.getD_some]
               rfl)
          | (apply Reg.TW.skip_ rfl
             · simp only [Act.put, Act.eval, List.setIfInBounds_toArray, List.set_cons_zero, List.set_cons_succ, Nat.reduceAdd, Array.getD_eq_getD_getElem?, List.getElem?_toArray, List.getElem?_cons_succ, List.getElem?_cons_zero, Option.getD_some]
               rfl)
          | (apply Reg.TW.pure_ rfl
             · intro w1 hw1 hf K hK
               simp only [Act.put, List.setIfInBounds_toArray, List.set_cons_zero, List.set_cons_succ] at hK
               have HK := Lib.hid hK
               clear hf hK
               have q3 := HED.out
               unfold Reg.One; dsimp only
               go_wp2_with fail
               exact HK.out _ (Reg.Ext.refl _)
             · simp only [Act.put, Act.eval, List.setIfInBounds_toArray, List.set_cons_zero, List.set_cons_succ, Nat.reduceAdd, Array.getD_eq_getD_getElem?, List.getElem?_toArray, List.getElem?_cons_succ, List.getElem?_cons_zero, Option.getD_some]
               rfl))
        refine Reg.TW.nil_ ?_
        intro w9 hw9 _
        go_wp2
        go_ret
        exact ⟨rfl, X.out.trans hw9⟩
      case hlen => rfl
    | false =>
      have hc : c = 3 := HC.out.symm
      subst hc
      go_upto_region 9 with (fail)
      refine wp_region_lit ?_
      have q1 := HE1.out
      have q2 := HE2.out
      repeat (first | refine wpList_ld rfl _ rfl g7 rfl _ _ hl1 H7 ?_ | refine wpList_ld rfl _ rfl g9 rfl _ _ hl1 H9 ?_ | refine wpList_ld rfl _ rfl g11 rfl _ _ hl2 H11 ?_ | refine wpList_ld rfl _ rfl g13 rfl _ _ hl2 H13 ?_ | go_step)
      clear q1 q2 H7 H9 H11 H13
      go_wp2_with fail
      apply Reg.wp_tab Reg.Ext (by kernel_rfl) (by kernel_rfl) Reg.Ext.refl (fun _ _ _ => Reg.Ext.trans) (Reg.Ext.drew _)
      case h =>
        intro O
        apply Reg.TW.pure_ (c := .agg ((a).map byteV).toArray) rfl
        · intro w1 hw1 hf K hK
          simp only [Act.put, List.setIfInBounds_toArray, List.set_cons_zero, List.set_cons_succ] at hK
          have HK := Lib.hid hK
          clear hK
          unfold Reg.One; dsimp only
          refine wpList_ld rfl _ rfl g1 rfl _ _ ha (Lib.hid (H1.out.ext hw1)) ?_
          simp only [Act.put, Act.eval, List.setIfInBounds_toArray, List.set_cons_zero, List.set_cons_succ, Nat.reduceAdd, Array.getD_eq_getD_getElem?, List.getElem?_toArray, List.getElem?_cons_succ, List.getElem?_cons_zero, Option.getD_some]
          go_wp2_with fail
          exact HK.out _ (Reg.Ext.refl _)
        · simp only [Act.put, Act.eval, List.setIfInBounds_toArray, List.set_cons_zero, List.set_cons_succ, Nat.reduceAdd, Array.getD_eq_getD_getElem?, List.getElem?_toArray, List.getElem?_cons_succ, List.getElem?_cons_zero, Option.getD_some]
          rfl
        apply Reg.TW.call_ (c := .string PA) (fun _ => True) rfl (fun _ _ _ h => h)
        · intro w1 hw1 hf K hK
          simp only [Act.put, List.setIfInBounds_toArray, List.set_cons_zero, List.set_cons_succ] at hK
          have HK := Lib.hid hK
          clear hK
          unfold Reg.One; dsimp only
          go_wp2_with fail
          refine (cP.out _).mono ?_
          rintro e w' ⟨rfl, hx⟩
          go_wp2_with fail
          exact HK.out _ hx trivial
        · simp only [Act.put, Act.eval, List.setIfInBounds_toArray, List.set_cons_zero, List.set_cons_succ, Nat.reduceAdd, Array.getD_eq_getD_getElem?, List.getElem?_toArray, List.getElem?_cons_succ, List.getElem?_cons_zero, Option.getD_some]
          rfl
        apply Reg.TW.pure_ (c := .agg ((a).map byteV).toArray) rfl
        · intro w1 hw1 hf K hK
          simp only [Act.put, List.setIfInBounds_toArray, List.set_cons_zero, List.set_cons_succ] at hK
          have HK := Lib.hid hK
          clear hK
          unfold Reg.One; dsimp only
          refine wpList_ld rfl _ rfl g1 rfl _ _ ha (Lib.hid (H1.out.ext hw1)) ?_
          simp only [Act.put, Act.eval, List.setIfInBounds_toArray, List.set_cons_zero, List.set_cons_succ, Nat.reduceAdd, Array.getD_eq_getD_getElem?, List.getElem?_toArray, List.getElem?_cons_succ, List.getElem?_cons_zero, Option.getD_some]
          go_wp2_with fail
          exact HK.out _ (Reg.Ext.refl _)
        · simp only [Act.put, Act.eval, List.setIfInBounds_toArray, List.set_cons_zero, List.set_cons_succ, Nat.reduceAdd, Array.getD_eq_getD_getElem?, List.getElem?_toArray, List.getElem?_cons_succ, List.getElem?_cons_zero, Option.getD_some]
          rfl
        apply Reg.TW.call_ (c := .string PA) (fun _ => True) rfl (fun _ _ _ h => h)
        · intro w1 hw1 hf K hK
          simp only [Act.put, List.setIfInBounds_toArray, List.set_cons_zero, List.set_cons_succ] at hK
          have HK := Lib.hid hK
          clear hK
          unfold Reg.One; dsimp only
          go_wp2_with fail
          refine (cPR.out _).mono ?_
          rintro e w' ⟨rfl, hx⟩
          go_wp2_with fail
          exact HK.out _ hx trivial
        · simp only [Act.put, Act.eval, List.setIfInBounds_toArray, List.set_cons_zero, List.set_cons_succ, Nat.reduceAdd, Array.getD_eq_getD_getElem?, List.getElem?_toArray, List.getElem?_cons_succ, List.getElem?_cons_zero, Option.getD_some]
          rfl
        repeat (first
          | (apply Reg.TW.move_ Reg.Ext.refl _ rfl rfl
             · simp only [Act.put, Act.eval, List.setIfInBounds_toArray, List.set_cons_zero, List.set_cons_succ, Nat.reduceAdd, Array.getD_eq_getD_getElem?, List.getElem?_toArray, List.getElem?_cons_succ, List.getElem?_cons_zero, Option.getD_some]
               rfl)
          | (apply Reg.TW.assign_ Reg.Ext.refl _ rfl rfl
             · simp only [Act.put, Act.eval, List.setIfInBounds_toArray, List.set_cons_zero, List.set_cons_succ, Nat.reduceAdd, Array.getD_eq_getD_getElem?, List.getElem?_toArray, List.getElem?_cons_succ, List.getElem?_cons_zero, Option.getD_some]
               rfl)
          | (apply Reg.TW.skip_ rfl
             · simp only [Act.put, Act.eval, List.setIfInBounds_toArray, List.set_cons_zero, List.set_cons_succ, Nat.reduceAdd, Array.getD_eq_getD_getElem?, List.getElem?_toArray, List.getElem?_cons_succ, List.getElem?_cons_zero, Option.getD_some]
               rfl)
          | (apply Reg.TW.pure_ rfl
             · intro w1 hw1 hf K hK
               simp only [Act.put, List.setIfInBounds_toArray, List.set_cons_zero, List.set_cons_succ] at hK
               have HK := Lib.hid hK
               clear hf hK
               unfold Reg.One; dsimp only
               go_wp2_with fail
               exact HK.out _ (Reg.Ext.refl _)
             · simp only [Act.put, Act.eval, List.setIfInBounds_toArray, List.set_cons_zero, List.set_cons_succ, Nat.reduceAdd, Array.getD_eq_getD_getElem?, List.getElem?_toArray, List.getElem?_cons_succ, List.getElem?_cons_zero, Option.getD_some]
               rfl))
        apply Reg.TW.pure_ (c := .agg ((a).map byteV).toArray) rfl
        · intro w1 hw1 hf K hK
          simp only [Act.put, List.setIfInBounds_toArray, List.set_cons_zero, List.set_cons_succ] at hK
          have HK := Lib.hid hK
          clear hK
          unfold Reg.One; dsimp only
          refine wpList_ld rfl _ rfl g1 rfl _ _ ha (Lib.hid (H1.out.ext hw1)) ?_
          simp only [Act.put, Act.eval, List.setIfInBounds_toArray, List.set_cons_zero, List.set_cons_succ, Nat.reduceAdd, Array.getD_eq_getD_getElem?, List.getElem?_toArray, List.getElem?_cons_succ, List.getElem?_cons_zero, Option.getD_some]
          go_wp2_with fail
          exact HK.out _ (Reg.Ext.refl _)
        · simp only [Act.put, Act.eval, List.setIfInBounds_toArray, List.set_cons_zero, List.set_cons_succ, Nat.reduceAdd, Array.getD_eq_getD_getElem?, List.getElem?_toArray, List.getElem?_cons_succ, List.getElem?_cons_zero, Option.getD_some]
          rfl
        apply Reg.TW.call_ (c := .string FA) (fun _ => True) rfl (fun _ _ _ h => h)
        · intro w1 hw1 hf K hK
          simp only [Act.put, List.setIfInBounds_toArray, List.set_cons_zero, List.set_cons_succ] at hK
          have HK := Lib.hid hK
          clear hK
          unfold Reg.One; dsimp only
          go_wp2_with fail
          refine (cF.out _).mono ?_
          rintro e w' ⟨rfl, hx⟩
          go_wp2_with fail
          exact HK.out _ hx trivial
        · simp only [Act.put, Act.eval, List.setIfInBounds_toArray, List.set_cons_zero, List.set_cons_succ, Nat.reduceAdd, Array.getD_eq_getD_getElem?, List.getElem?_toArray, List.getElem?_cons_succ, List.getElem?_cons_zero, Option.getD_some]
          rfl
        apply Reg.TW.pure_ (c := .agg ((a).map byteV).toArray) rfl
        · intro w1 hw1 hf K hK
          simp only [Act.put, List.setIfInBounds_toArray, List.set_cons_zero, List.set_cons_succ] at hK
          have HK := Lib.hid hK
          clear hK
          unfold Reg.One; dsimp only
          refine wpList_ld rfl _ rfl g1 rfl _ _ ha (Lib.hid (H1.out.ext hw1)) ?_
          simp only [Act.put, Act.eval, List.setIfInBounds_toArray, List.set_cons_zero, List.set_cons_succ, Nat.reduceAdd, Array.getD_eq_getD_getElem?, List.getElem?_toArray, List.getElem?_cons_succ, List.getElem?_cons_zero, Option.getD_some]
          go_wp2_with fail
          exact HK.out _ (Reg.Ext.refl _)
        · simp only [Act.put, Act.eval, List.setIfInBounds_toArray, List.set_cons_zero, List.set_cons_succ, Nat.reduceAdd, Array.getD_eq_getD_getElem?, List.getElem?_toArray, List.getElem?_cons_succ, List.getElem?_cons_zero, Option.getD_some]
          rfl
        apply Reg.TW.call_ (c := .string FA) (fun _ => True) rfl (fun _ _ _ h => h)
        · intro w1 hw1 hf K hK
          simp only [Act.put, List.setIfInBounds_toArray, List.set_cons_zero, List.set_cons_succ] at hK
          have HK := Lib.hid hK
          clear hK
          unfold Reg.One; dsimp only
          go_wp2_with fail
          refine (cFR.out _).mono ?_
          rintro e w' ⟨rfl, hx⟩
          go_wp2_with fail
          exact HK.out _ hx trivial
        · simp only [Act.put, Act.eval, List.setIfInBounds_toArray, List.set_cons_zero, List.set_cons_succ, Nat.reduceAdd, Array.getD_eq_getD_getElem?, List.getElem?_toArray, List.getElem?_cons_succ, List.getElem?_cons_zero, Option.getD_some]
          rfl
        repeat (first
          | (apply Reg.TW.move_ Reg.Ext.refl _ rfl rfl
             · simp only [Act.put, Act.eval, List.setIfInBounds_toArray, List.set_cons_zero, List.set_cons_succ, Nat.reduceAdd, Array.getD_eq_getD_getElem?, List.getElem?_toArray, List.getElem?_cons_succ, List.getElem?_cons_zero, Option.getD_some]
               rfl)
          | (apply Reg.TW.assign_ Reg.Ext.refl _ rfl rfl
             · simp only [Act.put, Act.eval, List.setIfInBounds_toArray, List.set_cons_zero, List.set_cons_succ, Nat.reduceAdd, Array.getD_eq_getD_getElem?, List.getElem?_toArray, List.getElem?_cons_succ, List.getElem?_cons_zero, Option.getD_some]
               rfl)
          | (apply Reg.TW.skip_ rfl
             · simp only [Act.put, Act.eval, List.setIfInBounds_toArray, List.set_cons_zero, List.set_cons_succ, Nat.reduceAdd, Array.getD_eq_getD_getElem?, List.getElem?_toArray, List.getElem?_cons_succ, List.getElem?_cons_zero, Option.getD_some]
               rfl)
          | (apply Reg.TW.pure_ rfl
             · intro w1 hw1 hf K hK
               simp only [Act.put, List.setIfInBounds_toArray, List.set_cons_zero, List.set_cons_succ] at hK
               have HK := Lib.hid hK
               clear hf hK
               unfold Reg.One; dsimp only
               go_wp2_with fail
               exact HK.out _ (Reg.Ext.refl _)
             · simp only [Act.put, Act.eval, List.setIfInBounds_toArray, List.set_cons_zero, List.set_cons_succ, Nat.reduceAdd, Array.getD_eq_getD_getElem?, List.getElem?_toArray, List.getElem?_cons_succ, List.getElem?_cons_zero, Option.getD_some]
               rfl))
        apply Reg.TW.pure_ (c := .agg ((a).map byteV).toArray) rfl
        · intro w1 hw1 hf K hK
          simp only [Act.put, List.setIfInBounds_toArray, List.set_cons_zero, List.set_cons_succ] at hK
          have HK := Lib.hid hK
          clear hK
          unfold Reg.One; dsimp only
          refine wpList_ld rfl _ rfl g1 rfl _ _ ha (Lib.hid (H1.out.ext hw1)) ?_
          simp only [Act.put, Act.eval, List.setIfInBounds_toArray, List.set_cons_zero, List.set_cons_succ, Nat.reduceAdd, Array.getD_eq_getD_getElem?, List.getElem?_toArray, List.getElem?_cons_succ, List.getElem?_cons_zero, Option.getD_some]
          go_wp2_with fail
          exact HK.out _ (Reg.Ext.refl _)
        · simp only [Act.put, Act.eval, List.setIfInBounds_toArray, List.set_cons_zero, List.set_cons_succ, Nat.reduceAdd, Array.getD_eq_getD_getElem?, List.getElem?_toArray, List.getElem?_cons_succ, List.getElem?_cons_zero, Option.getD_some]
          rfl
        apply Reg.TW.pure_ (c := .agg ((b).map byteV).toArray) rfl
        · intro w1 hw1 hf K hK
          simp only [Act.put, List.setIfInBounds_toArray, List.set_cons_zero, List.set_cons_succ] at hK
          have HK := Lib.hid hK
          clear hK
          unfold Reg.One; dsimp only
          refine wpList_ld rfl _ rfl g2 rfl _ _ hb (Lib.hid (H2.out.ext hw1)) ?_
          simp only [Act.put, Act.eval, List.setIfInBounds_toArray, List.set_cons_zero, List.set_cons_succ, Nat.reduceAdd, Array.getD_eq_getD_getElem?, List.getElem?_toArray, List.getElem?_cons_succ, List.getElem?_cons_zero, Option.getD_some]
          go_wp2_with fail
          exact HK.out _ (Reg.Ext.refl _)
        · simp only [Act.put, Act.eval, List.setIfInBounds_toArray, List.set_cons_zero, List.set_cons_succ, Nat.reduceAdd, Array.getD_eq_getD_getElem?, List.getElem?_toArray, List.getElem?_cons_succ, List.getElem?_cons_zero, Option.getD_some]
          rfl
        apply Reg.TW.call_ (c := .bool lb) (fun _ => True) rfl (fun _ _ _ h => h)
        · intro w1 hw1 hf K hK
          simp only [Act.put, List.setIfInBounds_toArray, List.set_cons_zero, List.set_cons_succ] at hK
          have HK := Lib.hid hK
          clear hK
          unfold Reg.One; dsimp only
          go_wp2_with fail
          refine (cL.out _).mono ?_
          rintro e w' ⟨rfl, hx⟩
          go_wp2_with fail
          exact HK.out _ hx trivial
        · simp only [Act.put, Act.eval, List.setIfInBounds_toArray, List.set_cons_zero, List.set_cons_succ, Nat.reduceAdd, Array.getD_eq_getD_getElem?, List.getElem?_toArray, List.getElem?_cons_succ, List.getElem?_cons_zero, Option.getD_some]
          rfl
        apply Reg.TW.pure_ (c := .agg ((a).map byteV).toArray) rfl
        · intro w1 hw1 hf K hK
          simp only [Act.put, List.setIfInBounds_toArray, List.set_cons_zero, List.set_cons_succ] at hK
          have HK := Lib.hid hK
          clear hK
          unfold Reg.One; dsimp only
          refine wpList_ld rfl _ rfl g1 rfl _ _ ha (Lib.hid (H1.out.ext hw1)) ?_
          simp only [Act.put, Act.eval, List.setIfInBounds_toArray, List.set_cons_zero, List.set_cons_succ, Nat.reduceAdd, Array.getD_eq_getD_getElem?, List.getElem?_toArray, List.getElem?_cons_succ, List.getElem?_cons_zero, Option.getD_some]
          go_wp2_with fail
          exact HK.out _ (Reg.Ext.refl _)
        · simp only [Act.put, Act.eval, List.setIfInBounds_toArray, List.set_cons_zero, List.set_cons_succ, Nat.reduceAdd, Array.getD_eq_getD_getElem?, List.getElem?_toArray, List.getElem?_cons_succ, List.getElem?_cons_zero, Option.getD_some]
          rfl
        apply Reg.TW.pure_ (c := .agg ((b).map byteV).toArray) rfl
        · intro w1 hw1 hf K hK
          simp only [Act.put, List.setIfInBounds_toArray, List.set_cons_zero, List.set_cons_succ] at hK
          have HK := Lib.hid hK
          clear hK
          unfold Reg.One; dsimp only
          refine wpList_ld rfl _ rfl g2 rfl _ _ hb (Lib.hid (H2.out.ext hw1)) ?_
          simp only [Act.put, Act.eval, List.setIfInBounds_toArray, List.set_cons_zero, List.set_cons_succ, Nat.reduceAdd, Array.getD_eq_getD_getElem?, List.getElem?_toArray, List.getElem?_cons_succ, List.getElem?_cons_zero, Option.getD_some]
          go_wp2_with fail
          exact HK.out _ (Reg.Ext.refl _)
        · simp only [Act.put, Act.eval, List.setIfInBounds_toArray, List.set_cons_zero, List.set_cons_succ, Nat.reduceAdd, Array.getD_eq_getD_getElem?, List.getElem?_toArray, List.getElem?_cons_succ, List.getElem?_cons_zero, Option.getD_some]
          rfl
        apply Reg.TW.call_ (c := .bool lb) (fun _ => True) rfl (fun _ _ _ h => h)
        · intro w1 hw1 hf K hK
          simp only [Act.put, List.setIfInBounds_toArray, List.set_cons_zero, List.set_cons_succ] at hK
          have HK := Lib.hid hK
          clear hK
          unfold Reg.One; dsimp only
          go_wp2_with fail
          refine (cLR.out _).mono ?_
          rintro e w' ⟨rfl, hx⟩
          go_wp2_with fail
          exact HK.out _ hx trivial
        · simp only [Act.put, Act.eval, List.setIfInBounds_toArray, List.set_cons_zero, List.set_cons_succ, Nat.reduceAdd, Array.getD_eq_getD_getElem?, List.getElem?_toArray, List.getElem?_cons_succ, List.getElem?_cons_zero, Option.getD_some]
          rfl
        repeat (first
          | (apply Reg.TW.move_ Reg.Ext.refl _ rfl rfl
             · simp only [Act.put, Act.eval, List.setIfInBounds_toArray, List.set_cons_zero, List.set_cons_succ, Nat.reduceAdd, Array.getD_eq_getD_getElem?, List.getElem?_toArray, List.getElem?_cons_succ, List.getElem?_cons_zero, Option.getD_some]
               rfl)
          | (apply Reg.TW.assign_ Reg.Ext.refl _ rfl rfl
             · simp only [Act.put, Act.eval, List.setIfInBounds_toArray, List.set_cons_zero, List.set_cons_succ, Nat.reduceAdd, Array.getD_eq_getD_getElem?, List.getElem?_toArray, List.getElem?_cons_succ, List.getElem?_cons_zero, Option.getD_some]
               rfl)
          | (apply Reg.TW.skip_ rfl
             · simp only [Act.put, Act.eval, List.setIfInBounds_toArray, List.set_cons_zero, List.set_cons_succ, Nat.reduceAdd, Array.getD_eq_getD_getElem?, List.getElem?_toArray, List.getElem?_cons_succ, List.getElem?_cons_zero, Option.getD_some]
               rfl)
          | (apply Reg.TW.pure_ rfl
             · intro w1 hw1 hf K hK
               simp only [Act.put, List.setIfInBounds_toArray, List.set_cons_zero, List.set_cons_succ] at hK
               have HK := Lib.hid hK
               clear hf hK
               unfold Reg.One; dsimp only
               go_wp2_with fail
               exact HK.out _ (Reg.Ext.refl _)
             · simp only [Act.put, Act.eval, List.setIfInBounds_toArray, List.set_cons_zero, List.set_cons_succ, Nat.reduceAdd, Array.getD_eq_getD_getElem?, List.getElem?_toArray, List.getElem?_cons_succ, List.getElem?_cons_zero, Option.getD_some]
               rfl))
        apply Reg.TW.call_ (c := .agg (D.map byteV).toArray) (fun _ => True) rfl (fun _ _ _ h => h)
        · intro w1 hw1 hf K hK
          simp only [Act.put, List.setIfInBounds_toArray, List.set_cons_zero, List.set_cons_succ] at hK
          have HK := Lib.hid hK
          clear hK
          unfold Reg.One; dsimp only
          go_wp2_with fail
          refine (cO.out _ (HKY.out.ext (X.out.trans hw1)) (HS.out.ext (X.out.trans hw1))).mono ?_
          rintro e w' ⟨rfl, hx⟩
          go_wp2_with fail
          exact HK.out _ hx trivial
        · simp only [Act.put, Act.eval, List.setIfInBounds_toArray, List.set_cons_zero, List.set_cons_succ, Nat.reduceAdd, Array.getD_eq_getD_getElem?, List.getElem?_toArray, List.getElem?_cons_succ, List.getElem?_cons_zero, Option.getD_some]
          rfl
        repeat (first
          | (apply Reg.TW.move_ Reg.Ext.refl _ rfl rfl
             · simp only [Act.put, Act.eval, List.setIfInBounds_toArray, List.set_cons_zero, List.set_cons_succ, Nat.reduceAdd, Array.getD_eq_getD_getElem?, List.getElem?_toArray, List.getElem?_cons_succ, List.getElem?_cons_zero, Option.getD_some]
               rfl)
          | (apply Reg.TW.assign_ Reg.Ext.refl _ rfl rfl
             · simp only [Act.put, Act.eval, List.setIfInBounds_toArray, List.set_cons_zero, List.set_cons_succ, Nat.reduceAdd, Array.getD_eq_getD_getElem?, List.getElem?_toArray, List.getElem?_cons_succ, List.getElem?_cons_zero, Option.getD_some]
               rfl)
          | (apply Reg.TW.skip_ rfl
             · simp only [Act.put, Act.eval, List.setIfInBounds_toArray, List.set_cons_zero, List.set_cons_succ, Nat.reduceAdd, Array.getD_eq_getD_getElem?, List.getElem?_toArray, List.getElem?_cons_succ, List.getElem?_cons_zero, Option.getD_some]
               rfl)
          | (apply Reg.TW.pure_ rfl
             · intro w1 hw1 hf K hK
               simp only [Act.put, List.setIfInBounds_toArray, List.set_cons_zero, List.set_cons_succ] at hK
               have HK := Lib.hid hK
               clear hf hK
               unfold Reg.One; dsimp only
               go_wp2_with fail
               exact HK.out _ (Reg.Ext.refl _)
             · simp only [Act.put, Act.eval, List.setIfInBounds_toArray, List.set_cons_zero, List.set_cons_succ, Nat.reduceAdd, Array.getD_eq_getD_getElem?, List.getElem?_toArray, List.getElem?_cons_succ, List.getElem?_cons_zero, Option.getD_some]
               rfl))
        apply Reg.TW.call_ (c := .agg (D.map byteV).toArray) (fun _ => True) rfl (fun _ _ _ h => h)
        · intro w1 hw1 hf K hK
          simp only [Act.put, List.setIfInBounds_toArray, List.set_cons_zero, List.set_cons_succ] at hK
          have HK := Lib.hid hK
          clear hK
          unfold Reg.One; dsimp only
          go_wp2_with fail
          refine (cOR.out _).mono ?_
          rintro e w' ⟨rfl, hx⟩
          go_wp2_with fail
          exact HK.out _ hx trivial
        · simp only [Act.put, Act.eval, List.setIfInBounds_toArray, List.set_cons_zero, List.set_cons_succ, Nat.reduceAdd, Array.getD_eq_getD_getElem?, List.getElem?_toArray, List.getElem?_cons_succ, List.getElem?_cons_zero, Option.getD_some]
          rfl
        repeat (first
          | (apply Reg.TW.move_ Reg.Ext.refl _ rfl rfl
             · simp only [Act.put, Act.eval, List.setIfInBounds_toArray, List.set_cons_zero, List.set_cons_succ, Nat.reduceAdd, Array.getD_eq_getD_getElem?, List.getElem?_toArray, List.getElem?_cons_succ, List.getElem?_cons_zero, Option.getD_some]
               rfl)
          | (apply Reg.TW.assign_ Reg.Ext.refl _ rfl rfl
             · simp only [Act.put, Act.eval, List.setIfInBounds_toArray, List.set_cons_zero, List.set_cons_succ, Nat.reduceAdd, Array.getD_eq_getD_getElem?, List.getElem?_toArray, List.getElem?_cons_succ, List.getElem?_cons_zero, Option.getD_some]
               rfl)
          | (apply Reg.TW.skip_ rfl
             · simp only [Act.put, Act.eval, List.setIfInBounds_toArray, List.set_cons_zero, List.set_cons_succ, Nat.reduceAdd, Array.getD_eq_getD_getElem?, List.getElem?_toArray, List.getElem?_cons_succ, List.getElem?_cons_zero, Option.getD_some]
               rfl)
          | (apply Reg.TW.pure_ rfl
             · intro w1 hw1 hf K hK
               simp only [Act.put, List.setIfInBounds_toArray, List.set_cons_zero, List.set_cons_succ] at hK
               have HK := Lib.hid hK
               clear hf hK
               have q3 := HED.out
               unfold Reg.One; dsimp only
               go_wp2_with fail
               exact HK.out _ (Reg.Ext.refl _)
             · simp only [Act.put, Act.eval, List.setIfInBounds_toArray, List.set_cons_zero, List.set_cons_succ, Nat.reduceAdd, Array.getD_eq_getD_getElem?, List.getElem?_toArray, List.getElem?_cons_succ, List.getElem?_cons_zero, Option.getD_some]
               rfl))
        refine Reg.TW.nil_ ?_
        intro w9 hw9 _
        go_wp2
        go_ret
        exact ⟨rfl, X.out.trans hw9⟩
      case hlen => rfl
  · have d1 : decide ((200 : Int) < (s.size : Int)) = true := by simp; omega
    go_wp2_with fail
    go_ret
    exact ⟨rfl, X.out⟩
end Stp
end Go.Proofs.YtnaijnhpgalmjaaDoor
