/- The walk of the reference's Parse. -/
import Derived.Test.YtbeghdoffiidoaaDoorSlipTook
import Derived.Test.YtbeghdoffiidoaaDoorSlipGoodR
import Derived.Test.YtbeghdoffiidoaaDoorSlipParsed
set_option linter.unusedSimpArgs false
set_option linter.unusedVariables false
set_option linter.unusedSectionVars false
namespace Go.Proofs.YtbeghdoffiidoaaDoor
open Go.RowKit
namespace Slp
theorem set_dig (x : S) (j : Nat) (c : UInt8) (h : j < x.dig.length) : x.cells.set (3 + j) (byteV c) = ({ x with dig := x.dig.set j c } : S).cells := by
  rw [cells_eq, cells_eq, List.append_assoc, List.append_assoc, List.set_append_right _ _ (by simp)]
  congr 1
  rw [show 3 + j - [Value.int .i64 x.k, .string x.repo, .string x.tag].length = j by simp, List.set_append_left _ _ (by rw [List.length_map]; exact h), List.map_set]
  rfl
theorem set_next (m d : List UInt8) (j : Nat) (hm : j < m.length) (hd : j < d.length) : (m.take j ++ d.drop j).set j m[j] = m.take (j + 1) ++ d.drop (j + 1) := by
  rw [List.set_append_right _ _ (by rw [List.length_take]; omega), List.length_take, Nat.min_eq_left (by omega), Nat.sub_self, List.drop_eq_getElem_cons hd, List.set_cons_zero, List.take_succ_eq_append_getElem hm, List.append_assoc]
  rfl
theorem parse_nil : parse [] = none := by decide +kernel
theorem parse_bad (c : UInt8) (r : List UInt8) (h : known (c.toNat : Int) = false) : parse (c :: r) = none := by
  unfold parse
  rw [if_neg]
  rintro ⟨-, hg⟩
  have hk : (parsed (c :: r)).1.k = (c.toNat : Int) := by
    unfold parsed first
    rw [nextB_cons]
    have hf : flds ((c.toNat : Nat) : Int) = ⟨false, false, false, false⟩ := by
      unfold known at h
      rw [decide_eq_false_iff_not] at h
      unfold flds
      rw [if_neg (by omega), if_neg (by omega), if_neg (by omega), if_neg (by omega), if_neg (by omega), if_neg (by omega)]
    simp only [hf, parseF, Bool.false_eq_true, if_false]
  have := ((good_iff _).1 hg).1
  rw [hk, h] at this
  cases this
set_option maxRecDepth 100000 in
set_option maxHeartbeats 8000000 in
theorem parseR_any (s : ByteArray) (w : World) (hs : s.size ≤ 1048576) :
    Calls Tryd.prog 38 #[.string s] w fun e w' => e = .returned (parseV s.data.toList) ∧ Reg.Ext w w' := by
  go_enter Tryd.func38, Tryd.ntmps38
  go_upto_region 1 with (fail)
  rw [z38]
  have hb2 := boxS w S.none
  have hx2 := Reg.Ext.alloc w (Obj.cells S.none.cells.toArray 25)
  generalize w.alloc (Obj.cells S.none.cells.toArray 25) = w2 at *
  obtain ⟨g2, hg2⟩ : ∃ g, w.heap.size = g := ⟨_, rfl⟩
  rw [hg2] at hb2 ⊢
  refine wp_region_lit ?_
  refine wpList_val rfl (.agg S.none.cells.toArray) (by as_aux_lemma => kernel_rfl) ?_
  simp only [Act.put, Act.eval, List.setIfInBounds_toArray, List.set_cons_zero, List.set_cons_succ, Nat.reduceAdd, Array.getD_eq_getD_getElem?, List.getElem?_toArray, List.getElem?_cons_succ, List.getElem?_cons_zero, Option.getD_some]
  iterate 3 go_step
  rw [z38]
  have hb4 := boxS w2 S.none
  have hx4 := Reg.Ext.alloc w2 (Obj.cells S.none.cells.toArray 25)
  have hs2 := hx2.size
  have lt2 := hb2.lt
  generalize w2.alloc (Obj.cells S.none.cells.toArray 25) = w4 at *
  obtain ⟨g4, hg4⟩ : ∃ g, w2.heap.size = g := ⟨_, rfl⟩
  rw [hg4] at hb4 hs2 lt2 ⊢
  refine wpList_store_mid rfl 25 _ _ rfl g4 0 ((S.none).cells).toArray rfl ?_ (hb4.there _ (by have e1 := cells_length _ none_dig; have e2 := cells_length _ none_dig; rw [List.size_toArray]; omega)) (by rw [List.size_toArray, cells_length _ none_dig]; exact size38) (all_oneCell_toArray (oneS _)) ?_
  · rfl
  simp only [List.toList_toArray]
  simp only [Act.put, Act.eval, List.setIfInBounds_toArray, List.set_cons_zero, List.set_cons_succ, Nat.reduceAdd, Array.getD_eq_getD_getElem?, List.getElem?_toArray, List.getElem?_cons_succ, List.getElem?_cons_zero, Option.getD_some]
  have hbx := But.setCells g4 S.none.cells 0 w4
  have HY := Lib.hid (hb4.setAll S.none.cells rfl)
  have H2 := Lib.hid ((hb2.ext hx4).but hbx (by omega))
  have l4 : w.heap.size ≤ g4 := hs2
  have l2 : w.heap.size ≤ g2 := by omega
  have X := Lib.hid ((hx2.trans hx4).trans_but hbx l4)
  clear hb2 hx2 hb4 hx4 hbx hg2 hg4
  generalize w4.setCells g4 0 S.none.cells = wi at *
  have l24 : g2 < g4 := lt2
  clear lt2 hs2 w2 w4
  have hlen := len_data s
  by_cases h0 : s.size = 0
  · have d0 : ((s.size : Int) == 0) = true := by rw [h0]; rfl
    have HV : Hid (parseV s.data.toList = .tuple #[.agg S.none.cells.toArray, .bool false]) := by
      show parseV _ = _
      have : s.data.toList = [] := List.length_eq_zero_iff.1 (by omega)
      rw [this]
      unfold parseV
      rw [parse_nil]
    clear h0 hlen
    go_upto_region 3 with (fail)
    refine wp_region_lit ?_
    refine wpList_load_row rfl 25 _ rfl g4 rfl 25 (S.none.cells).toArray (0, 0) _ HY.out undS rfl (by rw [List.size_toArray, cells_length _ none_dig]; exact size38) ?_
    simp only [Act.put, Act.eval, List.setIfInBounds_toArray, List.set_cons_zero, List.set_cons_succ, Nat.reduceAdd, Array.getD_eq_getD_getElem?, List.getElem?_toArray, List.getElem?_cons_succ, List.getElem?_cons_zero, Option.getD_some]
    have h2 := H2.out
    refine wpList_store_mid rfl 25 _ _ rfl g2 0 ((S.none).cells).toArray rfl ?_ (h2.there _ (by have e1 := cells_length _ none_dig; have e2 := cells_length _ none_dig; rw [List.size_toArray]; omega)) (by rw [List.size_toArray, cells_length _ none_dig]; exact size38) (all_oneCell_toArray (oneS _)) ?_
    · rfl
    simp only [List.toList_toArray]
    simp only [Act.put, Act.eval, List.setIfInBounds_toArray, List.set_cons_zero, List.set_cons_succ, Nat.reduceAdd, Array.getD_eq_getD_getElem?, List.getElem?_toArray, List.getElem?_cons_succ, List.getElem?_cons_zero, Option.getD_some]
    have HN := Lib.hid (h2.setAll S.none.cells rfl)
    have XN := Lib.hid (X.out.trans_but (But.setCells g2 S.none.cells 0 wi) l2)
    generalize wi.setCells g2 0 S.none.cells = wn at *
    clear h2 H2 X
    go_wp2_with fail
    exact bodyPost_ret (results_row2 rfl _ _ g2 25 (S.none.cells).toArray (0, 0) _ rfl HN.out undS rfl (by rw [List.size_toArray, cells_length _ none_dig]; exact size38)) rfl ⟨by rw [HV.out]; rfl, XN.out⟩
  have d0 : ((s.size : Int) == 0) = false := by rw [Bool.eq_false_iff, ne_eq, beq_iff_eq]; omega
  have hix := index_any s 0 (by omega)
  rw [show ((0 : Nat) : Int) = 0 from rfl] at hix
  obtain ⟨c, r, hcr⟩ : ∃ c r, s.data.toList = c :: r := by
    cases hl : s.data.toList with
    | nil => rw [hl] at hlen; simp at hlen; omega
    | cons c r => exact ⟨c, r, rfl⟩
  have hc0 : s.data.toList[0]'(by omega) = c := by simp [hcr]
  rw [hc0] at hix
  have hcl := c.toNat_lt
  cases hkn : known (c.toNat : Int) with
  | false =>
    have HV : Hid (parseV s.data.toList = .tuple #[.agg S.none.cells.toArray, .bool false]) := by
      show parseV _ = _
      rw [hcr]
      unfold parseV
      rw [parse_bad c r hkn]
    unfold known at hkn
    rw [decide_eq_false_iff_not] at hkn
    generalize c.toNat = n at *
    clear hc0 hcr hlen h0
    by_cases hn1 : n < 1
    · have dn : decide ((n : Int) < 1) = true := by rw [decide_eq_true_iff]; omega
      clear hkn hn1
      go_upto_region 3 with (fail)
      refine wp_region_lit ?_
      refine wpList_load_row rfl 25 _ rfl g4 rfl 25 (S.none.cells).toArray (0, 0) _ HY.out undS rfl (by rw [List.size_toArray, cells_length _ none_dig]; exact size38) ?_
      simp only [Act.put, Act.eval, List.setIfInBounds_toArray, List.set_cons_zero, List.set_cons_succ, Nat.reduceAdd, Array.getD_eq_getD_getElem?, List.getElem?_toArray, List.getElem?_cons_succ, List.getElem?_cons_zero, Option.getD_some]
      have h2 := H2.out
      refine wpList_store_mid rfl 25 _ _ rfl g2 0 ((S.none).cells).toArray rfl ?_ (h2.there _ (by have e1 := cells_length _ none_dig; have e2 := cells_length _ none_dig; rw [List.size_toArray]; omega)) (by rw [List.size_toArray, cells_length _ none_dig]; exact size38) (all_oneCell_toArray (oneS _)) ?_
      · rfl
      simp only [List.toList_toArray]
      simp only [Act.put, Act.eval, List.setIfInBounds_toArray, List.set_cons_zero, List.set_cons_succ, Nat.reduceAdd, Array.getD_eq_getD_getElem?, List.getElem?_toArray, List.getElem?_cons_succ, List.getElem?_cons_zero, Option.getD_some]
      have HN := Lib.hid (h2.setAll S.none.cells rfl)
      have XN := Lib.hid (X.out.trans_but (But.setCells g2 S.none.cells 0 wi) l2)
      generalize wi.setCells g2 0 S.none.cells = wn at *
      clear h2 H2 X
      go_wp2_with fail
      exact bodyPost_ret (results_row2 rfl _ _ g2 25 (S.none.cells).toArray (0, 0) _ rfl HN.out undS rfl (by rw [List.size_toArray, cells_length _ none_dig]; exact size38)) rfl ⟨by rw [HV.out]; rfl, XN.out⟩
    · have dn : decide ((n : Int) < 1) = false := by rw [decide_eq_false_iff_not]; omega
      have dn6 : decide ((6 : Int) < (n : Int)) = true := by rw [decide_eq_true_iff]; omega
      clear hkn hn1
      go_upto_region 3 with (fail)
      refine wp_region_lit ?_
      refine wpList_load_row rfl 25 _ rfl g4 rfl 25 (S.none.cells).toArray (0, 0) _ HY.out undS rfl (by rw [List.size_toArray, cells_length _ none_dig]; exact size38) ?_
      simp only [Act.put, Act.eval, List.setIfInBounds_toArray, List.set_cons_zero, List.set_cons_succ, Nat.reduceAdd, Array.getD_eq_getD_getElem?, List.getElem?_toArray, List.getElem?_cons_succ, List.getElem?_cons_zero, Option.getD_some]
      have h2 := H2.out
      refine wpList_store_mid rfl 25 _ _ rfl g2 0 ((S.none).cells).toArray rfl ?_ (h2.there _ (by have e1 := cells_length _ none_dig; have e2 := cells_length _ none_dig; rw [List.size_toArray]; omega)) (by rw [List.size_toArray, cells_length _ none_dig]; exact size38) (all_oneCell_toArray (oneS _)) ?_
      · rfl
      simp only [List.toList_toArray]
      simp only [Act.put, Act.eval, List.setIfInBounds_toArray, List.set_cons_zero, List.set_cons_succ, Nat.reduceAdd, Array.getD_eq_getD_getElem?, List.getElem?_toArray, List.getElem?_cons_succ, List.getElem?_cons_zero, Option.getD_some]
      have HN := Lib.hid (h2.setAll S.none.cells rfl)
      have XN := Lib.hid (X.out.trans_but (But.setCells g2 S.none.cells 0 wi) l2)
      generalize wi.setCells g2 0 S.none.cells = wn at *
      clear h2 H2 X
      go_wp2_with fail
      exact bodyPost_ret (results_row2 rfl _ _ g2 25 (S.none.cells).toArray (0, 0) _ rfl HN.out undS rfl (by rw [List.size_toArray, cells_length _ none_dig]; exact size38)) rfl ⟨by rw [HV.out]; rfl, XN.out⟩
  | true =>
    have hkk := hkn
    unfold known at hkk
    rw [decide_eq_true_iff] at hkk
    have HFI : Hid (first s.data.toList = ({ S.none with k := (c.toNat : Int) }, some (s.data.toList.drop 1))) := by
      show first _ = _
      rw [hcr]
      unfold first
      rw [nextB_cons]
      rfl
    have HPR : Hid (parsed s.data.toList = parseF (flds (c.toNat : Int)) (first s.data.toList)) := by
      show parsed _ = _
      unfold parsed
      rw [hcr, nextB_cons]
    have CH := Lib.hid (has_any (c.toNat : Int) hkn)
    have hfk := flds_known hkn
    generalize c.toNat = n at *
    have dn : decide ((n : Int) < 1) = false := by rw [decide_eq_false_iff_not]; omega
    have dn6 : decide ((6 : Int) < (n : Int)) = false := by rw [decide_eq_false_iff_not]; omega
    have hl1 : 1 ≤ s.data.toList.length := by omega
    clear hc0 hcr hlen h0 hkn
    obtain ⟨p, hp⟩ : ∃ p, p = first s.data.toList := ⟨_, rfl⟩
    rw [← hp] at HPR HFI
    have hs0 := HY.out.set_ 0 (.int .i64 (n : Int))
    have r0 : wi.cell? ⟨g4, 0, none⟩ = some (.int .i64 0) := HY.out.cell 0
    have f0 := HY.out.frozen 0
    have hbx := But.set_ g4 wi 0 (.int .i64 (n : Int))
    have HYn : Hid (Blk (wi.setCell ⟨g4, 0, none⟩ (.int .i64 (n : Int))) g4 25 p.1.cells) := by
      rw [HFI.out]
      exact hs0
    have HD : p.1.dig.length = 32 := by rw [HFI.out]; exact none_dig
    have HPL : Hid (Plc s.data.toList p.2 1) := .inr ⟨1, hl1, by rw [HFI.out], rfl⟩
    have hpk : p.1.k = (n : Int) := by rw [HFI.out]
    have HPK := Lib.hid hpk
    have H2n := Lib.hid (H2.out.but hbx (by omega))
    have Xn := Lib.hid (X.out.trans_but hbx l4)
    clear hs0 hp HFI hl1 hpk
    go_upto_region 5 with (fail)
    clear HY H2 X hbx r0 f0 dn dn6 hix
    generalize wi.setCell ⟨g4, 0, none⟩ (.int .i64 (n : Int)) = wj at *
    clear wi
    have HY := HYn
    have H2 := H2n
    have X := Xn
    clear HYn H2n Xn
    generalize wj = wi at *
    have c0 : wi.cell? ⟨g4, 0, none⟩ = some (.int .i64 (n : Int)) := by rw [← HPK.out]; exact HY.out.cell 0
    go_wp2_with fail
    refine (CH.out wi).mono ?_
    rintro e w5 ⟨rfl, x5⟩
    have HYn := Lib.hid (HY.out.ext x5)
    have H2n := Lib.hid (H2.out.ext x5)
    have Xn := Lib.hid (X.out.trans x5)
    clear HY H2 X CH c0 x5
    clear wi
    have HY := HYn
    have H2 := H2n
    have X := Xn
    clear HYn H2n Xn
    obtain ⟨f, hf⟩ : ∃ f, f = flds (n : Int) := ⟨_, rfl⟩
    rw [← hf] at hfk HPR ⊢
    clear hf
    rcases hfk with rfl | rfl | rfl | rfl | rfl
    ·
      -- {A
      have HR : Hid (parsed s.data.toList = pAt (pThing (pDig (pNames p)))) := HPR
      rw [show (F.cells ⟨true, true, true, true⟩) = [.bool true, .bool true, .bool true, .bool true] from rfl]
      go_upto_region 7 with (fail)
      have hbf : Blk (w5.alloc (Obj.cells #[Value.bool true, Value.bool true, Value.bool true, Value.bool true] 66)) w5.heap.size 66 [.bool true, .bool true, .bool true, .bool true] := Blk.new w5 66 #[Value.bool true, Value.bool true, Value.bool true, Value.bool true]
      have hxf := Reg.Ext.alloc w5 (Obj.cells #[Value.bool true, Value.bool true, Value.bool true, Value.bool true] 66)
      have HF := Lib.hid hbf
      have HYn := Lib.hid (HY.out.ext hxf)
      have H2n := Lib.hid (H2.out.ext hxf)
      have Xn := Lib.hid (X.out.trans hxf)
      have l45 := HY.out.lt
      clear HY H2 X hbf hxf
      have HY := HYn
      have H2 := H2n
      have X := Xn
      clear HYn H2n Xn
      generalize w5.alloc (Obj.cells #[Value.bool true, Value.bool true, Value.bool true, Value.bool true] 66) = wi at *
      generalize w5.heap.size = g5 at *
      generalize (1 : Int) = a at HPL ⊢
      have p0 : wi.cell? ⟨g5, 0, none⟩ = some (.bool true) := HF.out.cell 0
      have p1 : wi.cell? ⟨g5, 1, none⟩ = some (.bool true) := HF.out.cell 1
      have p2 : wi.cell? ⟨g5, 2, none⟩ = some (.bool true) := HF.out.cell 2
      have p3 : wi.cell? ⟨g5, 3, none⟩ = some (.bool true) := HF.out.cell 3
      have C1 := Lib.hid (took_any s p.2 a wi hs HPL.out)
      go_wp2_with fail
      refine (C1.out).mono ?_
      rintro e wj ⟨a1, rfl, hp1, xj⟩
      have HP1 := Lib.hid hp1
      clear C1 hp1 p0 p1 p2 p3
      have HYn := Lib.hid (HY.out.ext xj)
      have HFn := Lib.hid (HF.out.ext xj)
      have H2n := Lib.hid (H2.out.ext xj)
      have Xn := Lib.hid (X.out.trans xj)
      clear xj HY HF H2 X
      try clear wi
      have HY := HYn
      have HF := HFn
      have H2 := H2n
      have X := Xn
      clear HYn HFn H2n Xn
      generalize wj = wi at *
      have C2 := Lib.hid (took_any s (textS p.2).2 a1 wi hs HP1.out)
      go_wp2_with fail
      refine (C2.out).mono ?_
      rintro e wj ⟨a2, rfl, hp2, xj⟩
      have HP2 : Hid (Plc s.data.toList (pNames p).2 a2) := hp2
      clear C2 hp2 HP1 HPL
      have HYn := Lib.hid (HY.out.ext xj)
      have HFn := Lib.hid (HF.out.ext xj)
      have H2n := Lib.hid (H2.out.ext xj)
      have Xn := Lib.hid (X.out.trans xj)
      clear xj HY HF H2 X
      try clear wi
      have HY := HYn
      have HF := HFn
      have H2 := H2n
      have X := Xn
      clear HYn HFn H2n Xn
      generalize wj = wi at *
      have r1 : wi.cell? ⟨g4, 1, none⟩ = some (.string p.1.repo) := HY.out.cell 1
      have r2 : wi.cell? ⟨g4, 2, none⟩ = some (.string p.1.tag) := HY.out.cell 2
      have f1 := HY.out.frozen 1
      have f2 := HY.out.frozen 2
      have hs0 := (HY.out.set_ 1 (.string ⟨(textS p.2).1.toArray⟩)).set_ 2 (.string ⟨(textS (textS p.2).2).1.toArray⟩)
      rw [set1, set2] at hs0
      have hbx := (But.set_ g4 wi 1 (.string ⟨(textS p.2).1.toArray⟩)).trans (But.set_ g4 _ 2 (.string ⟨(textS (textS p.2).2).1.toArray⟩))
      have HYn : Hid (Blk ((wi.setCell ⟨g4, 1, none⟩ (.string ⟨(textS p.2).1.toArray⟩)).setCell ⟨g4, 2, none⟩ (.string ⟨(textS (textS p.2).2).1.toArray⟩)) g4 25 (pNames p).1.cells) := hs0
      clear hs0
      go_upto_region 13 with (fail)
      clear r1 r2 f1 f2
      have HDn : (pNames p).1.dig.length = 32 := HD
      have HFn := Lib.hid (HF.out.but hbx (by omega))
      have H2n := Lib.hid (H2.out.but hbx (by omega))
      have Xn := Lib.hid (X.out.trans_but hbx l4)
      clear hbx HY HD HF H2 X
      generalize ((wi.setCell ⟨g4, 1, none⟩ (.string ⟨(textS p.2).1.toArray⟩)).setCell ⟨g4, 2, none⟩ (.string ⟨(textS (textS p.2).2).1.toArray⟩)) = wi at *
      generalize pNames p = p at *
      generalize a2 = a at *
      have HY := HYn
      have HD := HDn
      have HF := HFn
      have H2 := H2n
      have X := Xn
      have HPL := HP2
      clear HYn HDn HFn H2n Xn HP2
      have p0 : wi.cell? ⟨g5, 0, none⟩ = some (.bool true) := HF.out.cell 0
      have p1 : wi.cell? ⟨g5, 1, none⟩ = some (.bool true) := HF.out.cell 1
      have p2 : wi.cell? ⟨g5, 2, none⟩ = some (.bool true) := HF.out.cell 2
      have p3 : wi.cell? ⟨g5, 3, none⟩ = some (.bool true) := HF.out.cell 3
      rcases HPL.out with ⟨hp2, ha⟩ | ⟨k, hk, hp2, ha⟩
      · have hpd : pDig p = (p.1, none) := by unfold pDig; rw [hp2]; rfl
        subst ha
        -- {N
        go_upto_region 21 with (fail)
        clear p0 p1 p2 p3 HPL hp2
        have HPL : Hid (Plc s.data.toList (pDig p).2 (-1)) := .inl ⟨by rw [hpd], rfl⟩
        have HYn : Hid (Blk wi g4 25 (pDig p).1.cells) := by rw [hpd]; exact HY.out
        have HDn : (pDig p).1.dig.length = 32 := pDig_len p HD
        clear HY HD hpd
        generalize pDig p = p at *
        generalize (-1 : Int) = a at HPL ⊢
        have HY := HYn
        have HD := HDn
        clear HYn HDn
        have p0 : wi.cell? ⟨g5, 0, none⟩ = some (.bool true) := HF.out.cell 0
        have p1 : wi.cell? ⟨g5, 1, none⟩ = some (.bool true) := HF.out.cell 1
        have p2 : wi.cell? ⟨g5, 2, none⟩ = some (.bool true) := HF.out.cell 2
        have p3 : wi.cell? ⟨g5, 3, none⟩ = some (.bool true) := HF.out.cell 3
        have C1 := Lib.hid (took_any s p.2 a wi hs HPL.out)
        go_wp2_with fail
        refine (C1.out).mono ?_
        rintro e wj ⟨a1, rfl, hp1, xj⟩
        have HP1 := Lib.hid hp1
        clear C1 hp1 p0 p1 p2 p3
        have HYn := Lib.hid (HY.out.ext xj)
        have HFn := Lib.hid (HF.out.ext xj)
        have H2n := Lib.hid (H2.out.ext xj)
        have Xn := Lib.hid (X.out.trans xj)
        clear xj HY HF H2 X
        try clear wi
        have HY := HYn
        have HF := HFn
        have H2 := H2n
        have X := Xn
        clear HYn HFn H2n Xn
        generalize wj = wi at *
        have C2 := Lib.hid (counted_any s (textS p.2).2 a1 wi hs HP1.out)
        go_wp2_with fail
        refine (C2.out).mono ?_
        rintro e wj ⟨a2, rfl, hp2, xj⟩
        have HP2 : Hid (Plc s.data.toList (pThing p).2 a2) := hp2
        clear C2 hp2 HP1 HPL
        have HYn := Lib.hid (HY.out.ext xj)
        have HFn := Lib.hid (HF.out.ext xj)
        have H2n := Lib.hid (H2.out.ext xj)
        have Xn := Lib.hid (X.out.trans xj)
        clear xj HY HF H2 X
        try clear wi
        have HY := HYn
        have HF := HFn
        have H2 := H2n
        have X := Xn
        clear HYn HFn H2n Xn
        generalize wj = wi at *
        have r1 : wi.cell? ⟨g4, 35, none⟩ = some (.string p.1.typ) := by rw [HY.out.cell, at35 p.1 HD]
        have r2 : wi.cell? ⟨g4, 36, none⟩ = some (.int .i64 p.1.size) := by rw [HY.out.cell, at36 p.1 HD]
        have f1 := HY.out.frozen 35
        have f2 := HY.out.frozen 36
        have hs0 := HY.out.set_ 35 (.string ⟨(textS p.2).1.toArray⟩)
        rw [set35 p.1 HD] at hs0
        have hs1 := hs0.set_ 36 (.int .i64 ((numS (textS p.2).2).1 : Int))
        rw [set36 ({ p.1 with typ := ⟨(textS p.2).1.toArray⟩ } : S) HD] at hs1
        have hbx := (But.set_ g4 wi 35 (.string ⟨(textS p.2).1.toArray⟩)).trans (But.set_ g4 _ 36 (.int .i64 ((numS (textS p.2).2).1 : Int)))
        have HYn : Hid (Blk ((wi.setCell ⟨g4, 35, none⟩ (.string ⟨(textS p.2).1.toArray⟩)).setCell ⟨g4, 36, none⟩ (.int .i64 ((numS (textS p.2).2).1 : Int))) g4 25 (pThing p).1.cells) := hs1
        clear hs0 hs1
        go_upto_region 27 with (fail)
        clear r1 r2 f1 f2
        have HDn : (pThing p).1.dig.length = 32 := HD
        have HFn := Lib.hid (HF.out.but hbx (by omega))
        have H2n := Lib.hid (H2.out.but hbx (by omega))
        have Xn := Lib.hid (X.out.trans_but hbx l4)
        clear hbx HY HD HF H2 X
        generalize ((wi.setCell ⟨g4, 35, none⟩ (.string ⟨(textS p.2).1.toArray⟩)).setCell ⟨g4, 36, none⟩ (.int .i64 ((numS (textS p.2).2).1 : Int))) = wi at *
        generalize pThing p = p at *
        generalize a2 = a at *
        have HY := HYn
        have HD := HDn
        have HF := HFn
        have H2 := H2n
        have X := Xn
        have HPL := HP2
        clear HYn HDn HFn H2n Xn HP2
        have p0 : wi.cell? ⟨g5, 0, none⟩ = some (.bool true) := HF.out.cell 0
        have p1 : wi.cell? ⟨g5, 1, none⟩ = some (.bool true) := HF.out.cell 1
        have p2 : wi.cell? ⟨g5, 2, none⟩ = some (.bool true) := HF.out.cell 2
        have p3 : wi.cell? ⟨g5, 3, none⟩ = some (.bool true) := HF.out.cell 3
        have C2 := Lib.hid (counted_any s p.2 a wi hs HPL.out)
        go_wp2_with fail
        refine (C2.out).mono ?_
        rintro e wj ⟨a2, rfl, hp2, xj⟩
        have HP2 : Hid (Plc s.data.toList (pAt p).2 a2) := hp2
        clear C2 hp2 HPL p0 p1 p2 p3
        have HYn := Lib.hid (HY.out.ext xj)
        have HFn := Lib.hid (HF.out.ext xj)
        have H2n := Lib.hid (H2.out.ext xj)
        have Xn := Lib.hid (X.out.trans xj)
        clear xj HY HF H2 X
        try clear wi
        have HY := HYn
        have HF := HFn
        have H2 := H2n
        have X := Xn
        clear HYn HFn H2n Xn
        generalize wj = wi at *
        have r1 : wi.cell? ⟨g4, 37, none⟩ = some (.int .i64 p.1.at_) := by rw [HY.out.cell, at37 p.1 HD]
        have f1 := HY.out.frozen 37
        have hs0 := HY.out.set_ 37 (.int .i64 ((numS p.2).1 : Int))
        rw [set37 p.1 HD] at hs0
        have hbx := But.set_ g4 wi 37 (.int .i64 ((numS p.2).1 : Int))
        have HYn : Hid (Blk (wi.setCell ⟨g4, 37, none⟩ (.int .i64 ((numS p.2).1 : Int))) g4 25 (pAt p).1.cells) := hs0
        clear hs0
        go_upto_region 31 with (fail)
        clear r1 f1
        have HDn : (pAt p).1.dig.length = 32 := HD
        have HFn := Lib.hid (HF.out.but hbx (by omega))
        have H2n := Lib.hid (H2.out.but hbx (by omega))
        have Xn := Lib.hid (X.out.trans_but hbx l4)
        clear hbx HY HD HF H2 X
        generalize (wi.setCell ⟨g4, 37, none⟩ (.int .i64 ((numS p.2).1 : Int))) = wi at *
        generalize pAt p = p at *
        generalize a2 = a at *
        have HY := HYn
        have HD := HDn
        have HF := HFn
        have H2 := H2n
        have X := Xn
        have HPL := HP2
        clear HYn HDn HFn H2n Xn HP2
        have p0 : wi.cell? ⟨g5, 0, none⟩ = some (.bool true) := HF.out.cell 0
        have p1 : wi.cell? ⟨g5, 1, none⟩ = some (.bool true) := HF.out.cell 1
        have p2 : wi.cell? ⟨g5, 2, none⟩ = some (.bool true) := HF.out.cell 2
        have p3 : wi.cell? ⟨g5, 3, none⟩ = some (.bool true) := HF.out.cell 3
        rcases HPL.out with ⟨hp2, ha⟩ | ⟨k, hk, hp2, ha⟩
        · have HV : Hid (parseV s.data.toList = .tuple #[.agg S.none.cells.toArray, .bool false]) := by
            show parseV _ = _
            unfold parseV parse
            rw [HR.out, if_neg (by rw [hp2]; simp)]
          subst ha
          have da : ((-1 : Int) != (s.size : Int)) = true := by rw [bne_iff_ne]; omega
          clear HR hp2 HPL
          go_upto_region 32 with (fail)
          refine wp_region_lit ?_
          refine wpList_val rfl (.agg S.none.cells.toArray) (by as_aux_lemma => kernel_rfl) ?_
          simp only [Act.put, Act.eval, List.setIfInBounds_toArray, List.set_cons_zero, List.set_cons_succ, Nat.reduceAdd, Array.getD_eq_getD_getElem?, List.getElem?_toArray, List.getElem?_cons_succ, List.getElem?_cons_zero, Option.getD_some]
          have h2 := H2.out
          refine wpList_store_mid rfl 25 _ _ rfl g2 0 ((S.none).cells).toArray rfl ?_ (h2.there _ (by have e1 := cells_length _ none_dig; have e2 := cells_length _ none_dig; rw [List.size_toArray]; omega)) (by rw [List.size_toArray, cells_length _ none_dig]; exact size38) (all_oneCell_toArray (oneS _)) ?_
          · rfl
          simp only [List.toList_toArray]
          simp only [Act.put, Act.eval, List.setIfInBounds_toArray, List.set_cons_zero, List.set_cons_succ, Nat.reduceAdd, Array.getD_eq_getD_getElem?, List.getElem?_toArray, List.getElem?_cons_succ, List.getElem?_cons_zero, Option.getD_some]
          have HN := Lib.hid (h2.setAll S.none.cells rfl)
          have XN := Lib.hid (X.out.trans_but (But.setCells g2 S.none.cells 0 wi) l2)
          generalize wi.setCells g2 0 S.none.cells = wn at *
          clear h2 H2 X
          go_wp2_with fail
          exact bodyPost_ret (results_row2 rfl _ _ g2 25 (S.none.cells).toArray (0, 0) _ rfl HN.out undS rfl (by rw [List.size_toArray, cells_length _ none_dig]; exact size38)) rfl ⟨by rw [HV.out]; rfl, XN.out⟩
        · subst ha
          rw [len_data] at hk
          by_cases hks : k = s.size
          · have da : ((k : Int) != (s.size : Int)) = false := by rw [hks]; simp
            have hp3 : p.2 = some [] := by rw [hp2, List.drop_of_length_le (by rw [len_data]; omega)]
            have CG := Lib.hid (goodR_any p.1 HD wi)
            cases hg : good p.1 with
            | true =>
              have HV : Hid (parseV s.data.toList = .tuple #[.agg p.1.cells.toArray, .bool true]) := by
                show parseV _ = _
                unfold parseV parse
                rw [HR.out, if_pos ⟨hp3, hg⟩]
              rw [hg] at CG
              clear HR hp2 hp3 hg HPL
              go_upto_region 31 with (fail)
              refine wp_region_lit ?_
              repeat (first | refine wpList_ldr rfl _ _ rfl g4 rfl _ _ _ HY undS (by rw [cells_length p.1 HD]; exact size38) ?_ | go_step)
              refine (CG.out).mono ?_
              rintro e wj ⟨rfl, xj⟩
              rename_i hK
              refine hK _ _ ?_
              clear CG p0 p1 p2 p3
              have HYn := Lib.hid (HY.out.ext xj)
              have HFn := Lib.hid (HF.out.ext xj)
              have H2n := Lib.hid (H2.out.ext xj)
              have Xn := Lib.hid (X.out.trans xj)
              clear xj HY HF H2 X
              try clear wi
              have HY := HYn
              have HF := HFn
              have H2 := H2n
              have X := Xn
              clear HYn HFn H2n Xn
              generalize wj = wi at *
              go_upto_region 33 with (fail)
              refine wp_region_lit ?_
              have hyo := HY.out
              have h2 := H2.out
              refine wpList_load_row rfl 25 _ rfl g4 rfl 25 (p.1.cells).toArray (0, 0) _ hyo undS rfl (by rw [List.size_toArray, cells_length p.1 HD]; exact size38) ?_
              simp only [Act.put, Act.eval, List.setIfInBounds_toArray, List.set_cons_zero, List.set_cons_succ, Nat.reduceAdd, Array.getD_eq_getD_getElem?, List.getElem?_toArray, List.getElem?_cons_succ, List.getElem?_cons_zero, Option.getD_some]
              refine wpList_store_mid rfl 25 _ _ rfl g2 0 ((p.1).cells).toArray rfl ?_ (h2.there _ (by have e1 := cells_length _ HD; have e2 := cells_length _ none_dig; rw [List.size_toArray]; omega)) (by rw [List.size_toArray, cells_length _ HD]; exact size38) (all_oneCell_toArray (oneS _)) ?_
              · rfl
              simp only [List.toList_toArray]
              simp only [Act.put, Act.eval, List.setIfInBounds_toArray, List.set_cons_zero, List.set_cons_succ, Nat.reduceAdd, Array.getD_eq_getD_getElem?, List.getElem?_toArray, List.getElem?_cons_succ, List.getElem?_cons_zero, Option.getD_some]
              have HN := Lib.hid (h2.setAll p.1.cells ((cells_length _ HD).trans (cells_length _ none_dig).symm))
              have XN := Lib.hid (X.out.trans_but (But.setCells g2 p.1.cells 0 wi) l2)
              generalize wi.setCells g2 0 p.1.cells = wn at *
              clear h2 hyo H2 X HY
              go_wp2_with fail
              exact bodyPost_ret (results_row2 rfl _ _ g2 25 (p.1.cells).toArray (0, 0) _ rfl HN.out undS rfl (by rw [List.size_toArray, cells_length _ HD]; exact size38)) rfl ⟨by rw [HV.out]; rfl, XN.out⟩
            | false =>
              have HV : Hid (parseV s.data.toList = .tuple #[.agg S.none.cells.toArray, .bool false]) := by
                show parseV _ = _
                unfold parseV parse
                rw [HR.out, if_neg (by rw [hg]; simp)]
              rw [hg] at CG
              clear HR hp2 hp3 hg HPL
              go_upto_region 31 with (fail)
              refine wp_region_lit ?_
              repeat (first | refine wpList_ldr rfl _ _ rfl g4 rfl _ _ _ HY undS (by rw [cells_length p.1 HD]; exact size38) ?_ | go_step)
              refine (CG.out).mono ?_
              rintro e wj ⟨rfl, xj⟩
              rename_i hK
              refine hK _ _ ?_
              clear CG p0 p1 p2 p3
              have HYn := Lib.hid (HY.out.ext xj)
              have HFn := Lib.hid (HF.out.ext xj)
              have H2n := Lib.hid (H2.out.ext xj)
              have Xn := Lib.hid (X.out.trans xj)
              clear xj HY HF H2 X
              try clear wi
              have HY := HYn
              have HF := HFn
              have H2 := H2n
              have X := Xn
              clear HYn HFn H2n Xn
              generalize wj = wi at *
              go_upto_region 32 with (fail)
              refine wp_region_lit ?_
              refine wpList_val rfl (.agg S.none.cells.toArray) (by as_aux_lemma => kernel_rfl) ?_
              simp only [Act.put, Act.eval, List.setIfInBounds_toArray, List.set_cons_zero, List.set_cons_succ, Nat.reduceAdd, Array.getD_eq_getD_getElem?, List.getElem?_toArray, List.getElem?_cons_succ, List.getElem?_cons_zero, Option.getD_some]
              have h2 := H2.out
              refine wpList_store_mid rfl 25 _ _ rfl g2 0 ((S.none).cells).toArray rfl ?_ (h2.there _ (by have e1 := cells_length _ none_dig; have e2 := cells_length _ none_dig; rw [List.size_toArray]; omega)) (by rw [List.size_toArray, cells_length _ none_dig]; exact size38) (all_oneCell_toArray (oneS _)) ?_
              · rfl
              simp only [List.toList_toArray]
              simp only [Act.put, Act.eval, List.setIfInBounds_toArray, List.set_cons_zero, List.set_cons_succ, Nat.reduceAdd, Array.getD_eq_getD_getElem?, List.getElem?_toArray, List.getElem?_cons_succ, List.getElem?_cons_zero, Option.getD_some]
              have HN := Lib.hid (h2.setAll S.none.cells rfl)
              have XN := Lib.hid (X.out.trans_but (But.setCells g2 S.none.cells 0 wi) l2)
              generalize wi.setCells g2 0 S.none.cells = wn at *
              clear h2 H2 X
              go_wp2_with fail
              exact bodyPost_ret (results_row2 rfl _ _ g2 25 (S.none.cells).toArray (0, 0) _ rfl HN.out undS rfl (by rw [List.size_toArray, cells_length _ none_dig]; exact size38)) rfl ⟨by rw [HV.out]; rfl, XN.out⟩
          · have da : ((k : Int) != (s.size : Int)) = true := by rw [bne_iff_ne]; omega
            have HV : Hid (parseV s.data.toList = .tuple #[.agg S.none.cells.toArray, .bool false]) := by
              show parseV _ = _
              unfold parseV parse
              rw [HR.out, if_neg]
              rintro ⟨h1, -⟩
              rw [hp2] at h1
              injection h1 with h1
              have := congrArg List.length h1
              rw [List.length_drop, len_data] at this
              simp at this
              omega
            clear HR hp2 HPL
            go_upto_region 32 with (fail)
            refine wp_region_lit ?_
            refine wpList_val rfl (.agg S.none.cells.toArray) (by as_aux_lemma => kernel_rfl) ?_
            simp only [Act.put, Act.eval, List.setIfInBounds_toArray, List.set_cons_zero, List.set_cons_succ, Nat.reduceAdd, Array.getD_eq_getD_getElem?, List.getElem?_toArray, List.getElem?_cons_succ, List.getElem?_cons_zero, Option.getD_some]
            have h2 := H2.out
            refine wpList_store_mid rfl 25 _ _ rfl g2 0 ((S.none).cells).toArray rfl ?_ (h2.there _ (by have e1 := cells_length _ none_dig; have e2 := cells_length _ none_dig; rw [List.size_toArray]; omega)) (by rw [List.size_toArray, cells_length _ none_dig]; exact size38) (all_oneCell_toArray (oneS _)) ?_
            · rfl
            simp only [List.toList_toArray]
            simp only [Act.put, Act.eval, List.setIfInBounds_toArray, List.set_cons_zero, List.set_cons_succ, Nat.reduceAdd, Array.getD_eq_getD_getElem?, List.getElem?_toArray, List.getElem?_cons_succ, List.getElem?_cons_zero, Option.getD_some]
            have HN := Lib.hid (h2.setAll S.none.cells rfl)
            have XN := Lib.hid (X.out.trans_but (But.setCells g2 S.none.cells 0 wi) l2)
            generalize wi.setCells g2 0 S.none.cells = wn at *
            clear h2 H2 X
            go_wp2_with fail
            exact bodyPost_ret (results_row2 rfl _ _ g2 25 (S.none.cells).toArray (0, 0) _ rfl HN.out undS rfl (by rw [List.size_toArray, cells_length _ none_dig]; exact size38)) rfl ⟨by rw [HV.out]; rfl, XN.out⟩
        -- N}
      · subst ha
        rw [len_data] at hk
        have dk0 : decide ((0 : Int) ≤ (k : Int)) = true := by rw [decide_eq_true_iff]; omega
        by_cases h32 : k + 32 ≤ s.size
        · have d32 : decide ((32 : Int) ≤ (s.size : Int) - (k : Int)) = true := by rw [decide_eq_true_iff]; omega
          -- {Y
          have hml : ((s.data.toList.drop k).take 32).length = 32 := by rw [List.length_take, List.length_drop, len_data]; omega
          have hpd : pDig p = ({ p.1 with dig := (s.data.toList.drop k).take 32 }, some (s.data.toList.drop (k + 32))) := by
            unfold pDig
            rw [hp2, take_ok (by rw [List.length_drop, len_data]; omega), if_neg (by intro e; have e2 := congrArg List.length e; simp only at e2; rw [hml] at e2; cases e2), List.drop_drop]
          have HM : Hid (∀ j (hj : j < 32), ∃ hq : k + j < s.data.toList.length, ((s.data.toList.drop k).take 32)[j]? = some (s.data.toList[k + j]'hq)) := by
            intro j hj
            have hq : k + j < s.data.toList.length := by rw [len_data]; omega
            refine ⟨hq, ?_⟩
            rw [List.getElem?_take_of_lt (by omega), List.getElem?_drop, List.getElem?_eq_getElem hq]
          have HPD := Lib.hid hpd
          have HML := Lib.hid hml
          generalize (s.data.toList.drop k).take 32 = m at *
          have HPK2 : Hid (Plc s.data.toList (some (s.data.toList.drop (k + 32))) ((k : Int) + 32)) := .inr ⟨k + 32, by rw [len_data]; omega, rfl, by omega⟩
          clear hpd hml HPL hp2
          go_upto_region 14 with (fail)
          clear p0 p1 p2 p3 dk0 d32
          have HY0 : Hid (Blk wi g4 25 ({ p.1 with dig := m.take 0 ++ p.1.dig.drop 0 } : S).cells) := HY.out
          go_wp2_with fail
          go_loopw [11] (fun i wr => ∃ j : Nat, j ≤ 32 ∧ i = .int .i64 (j : Int) ∧ Hid (Blk wr g4 25 ({ p.1 with dig := m.take j ++ p.1.dig.drop j } : S).cells) ∧ Hid (But g4 wi wr)) (fun i _ => 32 - (intOf i).toNat)
          case atStart => exact ⟨0, by omega, rfl, HY0, But.refl _ _⟩
          case round =>
            obtain ⟨j, hj, rfl, HYJ, HB⟩ := hrel
            clear HY0
            have hjd : (m.take j ++ p.1.dig.drop j).length = 32 := by rw [List.length_append, List.length_take, List.length_drop, HML.out, HD]; omega
            by_cases hjl : j < 32
            · have dj : decide ((j : Int) < 32) = true := by rw [decide_eq_true_iff]; omega
              obtain ⟨hq, hmj⟩ := HM.out j hjl
              have hjm : j < m.length := by rw [HML.out]; exact hjl
              rw [List.getElem?_eq_getElem hjm] at hmj
              injection hmj with hmj
              have hix := index_any s (k + j) (by rw [len_data] at hq; exact hq)
              rw [← hmj, show ((k + j : Nat) : Int) = (k : Int) + (j : Int) by omega] at hix
              have hbl := HYJ.out.set_ (3 + j) (byteV m[j])
              rw [set_dig _ j _ (by rw [hjd]; exact hjl)] at hbl
              have hset : (m.take j ++ p.1.dig.drop j).set j m[j] = m.take (j + 1) ++ p.1.dig.drop (j + 1) := set_next m p.1.dig j hjm (by rw [HD]; exact hjl)
              simp only at hbl
              rw [hset] at hbl
              have r1 : wr.cell? ⟨g4, 3 + j, none⟩ = some (byteV ((m.take j ++ p.1.dig.drop j)[j]'(by rw [hjd]; exact hjl))) := range_dig HYJ.out j _ (by rw [List.getElem?_map, List.getElem?_eq_getElem (by rw [hjd]; exact hjl)]; rfl)
              have f1 := HYJ.out.frozen (3 + j)
              generalize byteV ((m.take j ++ p.1.dig.drop j)[j]'(by rw [hjd]; exact hjl)) = old at *
              have HBL : Hid (Blk (wr.setCell ⟨g4, 3 + j, none⟩ (.int .u8 (m[j].toNat : Int))) g4 25 ({ p.1 with dig := m.take (j + 1) ++ p.1.dig.drop (j + 1) } : S).cells) := hbl
              have HB2 : Hid (But g4 wi (wr.setCell ⟨g4, 3 + j, none⟩ (.int .u8 (m[j].toNat : Int)))) := HB.out.trans (But.set_ _ _ _ _)
              have hcl := (m[j]).toNat_lt
              clear hbl hset hq hmj HYJ HB hjd
              generalize m[j].toNat = c at *
              go_wp2_with fail
              go_roundw
              case rel => exact ⟨j + 1, by omega, by go_num, HBL, HB2⟩
              case measure => simp [intOf]; omega
            · have hje : j = 32 := by omega
              subst hje
              have dj : decide (((32 : Nat) : Int) < 32) = false := by decide
              have HYn : Hid (Blk wr g4 25 (pDig p).1.cells) := by
                rw [HPD.out]
                have h := HYJ.out
                rw [List.take_of_length_le (by rw [HML.out]; exact Nat.le_refl _), List.drop_of_length_le (by rw [HD]; exact Nat.le_refl _), List.append_nil] at h
                exact h
              have HPLn : Hid (Plc s.data.toList (pDig p).2 ((k : Int) + 32)) := by rw [HPD.out]; exact HPK2.out
              have HDn : (pDig p).1.dig.length = 32 := pDig_len p HD
              have HFn := Lib.hid (HF.out.but HB.out (by omega))
              have H2n := Lib.hid (H2.out.but HB.out (by omega))
              have Xn := Lib.hid (X.out.trans_but HB.out l4)
              clear HF H2 X HY HD HB HYJ HPK2 HPD HM HML hjd
              go_upto_region 21 with (fail)
              generalize pDig p = p at *
              generalize (k : Int) + 32 = a at HPLn ⊢
              generalize wr = wi at *
              have HY := HYn
              have HD := HDn
              have HF := HFn
              have H2 := H2n
              have X := Xn
              have HPL := HPLn
              clear HYn HDn HFn H2n Xn HPLn
              have p0 : wi.cell? ⟨g5, 0, none⟩ = some (.bool true) := HF.out.cell 0
              have p1 : wi.cell? ⟨g5, 1, none⟩ = some (.bool true) := HF.out.cell 1
              have p2 : wi.cell? ⟨g5, 2, none⟩ = some (.bool true) := HF.out.cell 2
              have p3 : wi.cell? ⟨g5, 3, none⟩ = some (.bool true) := HF.out.cell 3
              have C1 := Lib.hid (took_any s p.2 a wi hs HPL.out)
              go_wp2_with fail
              refine (C1.out).mono ?_
              rintro e wj ⟨a1, rfl, hp1, xj⟩
              have HP1 := Lib.hid hp1
              clear C1 hp1 p0 p1 p2 p3
              have HYn := Lib.hid (HY.out.ext xj)
              have HFn := Lib.hid (HF.out.ext xj)
              have H2n := Lib.hid (H2.out.ext xj)
              have Xn := Lib.hid (X.out.trans xj)
              clear xj HY HF H2 X
              try clear wi
              have HY := HYn
              have HF := HFn
              have H2 := H2n
              have X := Xn
              clear HYn HFn H2n Xn
              generalize wj = wi at *
              have C2 := Lib.hid (counted_any s (textS p.2).2 a1 wi hs HP1.out)
              go_wp2_with fail
              refine (C2.out).mono ?_
              rintro e wj ⟨a2, rfl, hp2, xj⟩
              have HP2 : Hid (Plc s.data.toList (pThing p).2 a2) := hp2
              clear C2 hp2 HP1 HPL
              have HYn := Lib.hid (HY.out.ext xj)
              have HFn := Lib.hid (HF.out.ext xj)
              have H2n := Lib.hid (H2.out.ext xj)
              have Xn := Lib.hid (X.out.trans xj)
              clear xj HY HF H2 X
              try clear wi
              have HY := HYn
              have HF := HFn
              have H2 := H2n
              have X := Xn
              clear HYn HFn H2n Xn
              generalize wj = wi at *
              have r1 : wi.cell? ⟨g4, 35, none⟩ = some (.string p.1.typ) := by rw [HY.out.cell, at35 p.1 HD]
              have r2 : wi.cell? ⟨g4, 36, none⟩ = some (.int .i64 p.1.size) := by rw [HY.out.cell, at36 p.1 HD]
              have f1 := HY.out.frozen 35
              have f2 := HY.out.frozen 36
              have hs0 := HY.out.set_ 35 (.string ⟨(textS p.2).1.toArray⟩)
              rw [set35 p.1 HD] at hs0
              have hs1 := hs0.set_ 36 (.int .i64 ((numS (textS p.2).2).1 : Int))
              rw [set36 ({ p.1 with typ := ⟨(textS p.2).1.toArray⟩ } : S) HD] at hs1
              have hbx := (But.set_ g4 wi 35 (.string ⟨(textS p.2).1.toArray⟩)).trans (But.set_ g4 _ 36 (.int .i64 ((numS (textS p.2).2).1 : Int)))
              have HYn : Hid (Blk ((wi.setCell ⟨g4, 35, none⟩ (.string ⟨(textS p.2).1.toArray⟩)).setCell ⟨g4, 36, none⟩ (.int .i64 ((numS (textS p.2).2).1 : Int))) g4 25 (pThing p).1.cells) := hs1
              clear hs0 hs1
              go_upto_region 27 with (fail)
              clear r1 r2 f1 f2
              have HDn : (pThing p).1.dig.length = 32 := HD
              have HFn := Lib.hid (HF.out.but hbx (by omega))
              have H2n := Lib.hid (H2.out.but hbx (by omega))
              have Xn := Lib.hid (X.out.trans_but hbx l4)
              clear hbx HY HD HF H2 X
              generalize ((wi.setCell ⟨g4, 35, none⟩ (.string ⟨(textS p.2).1.toArray⟩)).setCell ⟨g4, 36, none⟩ (.int .i64 ((numS (textS p.2).2).1 : Int))) = wi at *
              generalize pThing p = p at *
              generalize a2 = a at *
              have HY := HYn
              have HD := HDn
              have HF := HFn
              have H2 := H2n
              have X := Xn
              have HPL := HP2
              clear HYn HDn HFn H2n Xn HP2
              have p0 : wi.cell? ⟨g5, 0, none⟩ = some (.bool true) := HF.out.cell 0
              have p1 : wi.cell? ⟨g5, 1, none⟩ = some (.bool true) := HF.out.cell 1
              have p2 : wi.cell? ⟨g5, 2, none⟩ = some (.bool true) := HF.out.cell 2
              have p3 : wi.cell? ⟨g5, 3, none⟩ = some (.bool true) := HF.out.cell 3
              have C2 := Lib.hid (counted_any s p.2 a wi hs HPL.out)
              go_wp2_with fail
              refine (C2.out).mono ?_
              rintro e wj ⟨a2, rfl, hp2, xj⟩
              have HP2 : Hid (Plc s.data.toList (pAt p).2 a2) := hp2
              clear C2 hp2 HPL p0 p1 p2 p3
              have HYn := Lib.hid (HY.out.ext xj)
              have HFn := Lib.hid (HF.out.ext xj)
              have H2n := Lib.hid (H2.out.ext xj)
              have Xn := Lib.hid (X.out.trans xj)
              clear xj HY HF H2 X
              try clear wi
              have HY := HYn
              have HF := HFn
              have H2 := H2n
              have X := Xn
              clear HYn HFn H2n Xn
              generalize wj = wi at *
              have r1 : wi.cell? ⟨g4, 37, none⟩ = some (.int .i64 p.1.at_) := by rw [HY.out.cell, at37 p.1 HD]
              have f1 := HY.out.frozen 37
              have hs0 := HY.out.set_ 37 (.int .i64 ((numS p.2).1 : Int))
              rw [set37 p.1 HD] at hs0
              have hbx := But.set_ g4 wi 37 (.int .i64 ((numS p.2).1 : Int))
              have HYn : Hid (Blk (wi.setCell ⟨g4, 37, none⟩ (.int .i64 ((numS p.2).1 : Int))) g4 25 (pAt p).1.cells) := hs0
              clear hs0
              go_upto_region 31 with (fail)
              clear r1 f1
              have HDn : (pAt p).1.dig.length = 32 := HD
              have HFn := Lib.hid (HF.out.but hbx (by omega))
              have H2n := Lib.hid (H2.out.but hbx (by omega))
              have Xn := Lib.hid (X.out.trans_but hbx l4)
              clear hbx HY HD HF H2 X
              generalize (wi.setCell ⟨g4, 37, none⟩ (.int .i64 ((numS p.2).1 : Int))) = wi at *
              generalize pAt p = p at *
              generalize a2 = a at *
              have HY := HYn
              have HD := HDn
              have HF := HFn
              have H2 := H2n
              have X := Xn
              have HPL := HP2
              clear HYn HDn HFn H2n Xn HP2
              have p0 : wi.cell? ⟨g5, 0, none⟩ = some (.bool true) := HF.out.cell 0
              have p1 : wi.cell? ⟨g5, 1, none⟩ = some (.bool true) := HF.out.cell 1
              have p2 : wi.cell? ⟨g5, 2, none⟩ = some (.bool true) := HF.out.cell 2
              have p3 : wi.cell? ⟨g5, 3, none⟩ = some (.bool true) := HF.out.cell 3
              rcases HPL.out with ⟨hp2, ha⟩ | ⟨k, hk, hp2, ha⟩
              · have HV : Hid (parseV s.data.toList = .tuple #[.agg S.none.cells.toArray, .bool false]) := by
                  show parseV _ = _
                  unfold parseV parse
                  rw [HR.out, if_neg (by rw [hp2]; simp)]
                subst ha
                have da : ((-1 : Int) != (s.size : Int)) = true := by rw [bne_iff_ne]; omega
                clear HR hp2 HPL
                go_upto_region 32 with (fail)
                refine wp_region_lit ?_
                refine wpList_val rfl (.agg S.none.cells.toArray) (by as_aux_lemma => kernel_rfl) ?_
                simp only [Act.put, Act.eval, List.setIfInBounds_toArray, List.set_cons_zero, List.set_cons_succ, Nat.reduceAdd, Array.getD_eq_getD_getElem?, List.getElem?_toArray, List.getElem?_cons_succ, List.getElem?_cons_zero, Option.getD_some]
                have h2 := H2.out
                refine wpList_store_mid rfl 25 _ _ rfl g2 0 ((S.none).cells).toArray rfl ?_ (h2.there _ (by have e1 := cells_length _ none_dig; have e2 := cells_length _ none_dig; rw [List.size_toArray]; omega)) (by rw [List.size_toArray, cells_length _ none_dig]; exact size38) (all_oneCell_toArray (oneS _)) ?_
                · rfl
                simp only [List.toList_toArray]
                simp only [Act.put, Act.eval, List.setIfInBounds_toArray, List.set_cons_zero, List.set_cons_succ, Nat.reduceAdd, Array.getD_eq_getD_getElem?, List.getElem?_toArray, List.getElem?_cons_succ, List.getElem?_cons_zero, Option.getD_some]
                have HN := Lib.hid (h2.setAll S.none.cells rfl)
                have XN := Lib.hid (X.out.trans_but (But.setCells g2 S.none.cells 0 wi) l2)
                generalize wi.setCells g2 0 S.none.cells = wn at *
                clear h2 H2 X
                go_wp2_with fail
                exact bodyPost_ret (results_row2 rfl _ _ g2 25 (S.none.cells).toArray (0, 0) _ rfl HN.out undS rfl (by rw [List.size_toArray, cells_length _ none_dig]; exact size38)) rfl ⟨by rw [HV.out]; rfl, XN.out⟩
              · subst ha
                rw [len_data] at hk
                by_cases hks : k = s.size
                · have da : ((k : Int) != (s.size : Int)) = false := by rw [hks]; simp
                  have hp3 : p.2 = some [] := by rw [hp2, List.drop_of_length_le (by rw [len_data]; omega)]
                  have CG := Lib.hid (goodR_any p.1 HD wi)
                  cases hg : good p.1 with
                  | true =>
                    have HV : Hid (parseV s.data.toList = .tuple #[.agg p.1.cells.toArray, .bool true]) := by
                      show parseV _ = _
                      unfold parseV parse
                      rw [HR.out, if_pos ⟨hp3, hg⟩]
                    rw [hg] at CG
                    clear HR hp2 hp3 hg HPL
                    go_upto_region 31 with (fail)
                    refine wp_region_lit ?_
                    repeat (first | refine wpList_ldr rfl _ _ rfl g4 rfl _ _ _ HY undS (by rw [cells_length p.1 HD]; exact size38) ?_ | go_step)
                    refine (CG.out).mono ?_
                    rintro e wj ⟨rfl, xj⟩
                    rename_i hK
                    refine hK _ _ ?_
                    clear CG p0 p1 p2 p3
                    have HYn := Lib.hid (HY.out.ext xj)
                    have HFn := Lib.hid (HF.out.ext xj)
                    have H2n := Lib.hid (H2.out.ext xj)
                    have Xn := Lib.hid (X.out.trans xj)
                    clear xj HY HF H2 X
                    try clear wi
                    have HY := HYn
                    have HF := HFn
                    have H2 := H2n
                    have X := Xn
                    clear HYn HFn H2n Xn
                    generalize wj = wi at *
                    go_upto_region 33 with (fail)
                    refine wp_region_lit ?_
                    have hyo := HY.out
                    have h2 := H2.out
                    refine wpList_load_row rfl 25 _ rfl g4 rfl 25 (p.1.cells).toArray (0, 0) _ hyo undS rfl (by rw [List.size_toArray, cells_length p.1 HD]; exact size38) ?_
                    simp only [Act.put, Act.eval, List.setIfInBounds_toArray, List.set_cons_zero, List.set_cons_succ, Nat.reduceAdd, Array.getD_eq_getD_getElem?, List.getElem?_toArray, List.getElem?_cons_succ, List.getElem?_cons_zero, Option.getD_some]
                    refine wpList_store_mid rfl 25 _ _ rfl g2 0 ((p.1).cells).toArray rfl ?_ (h2.there _ (by have e1 := cells_length _ HD; have e2 := cells_length _ none_dig; rw [List.size_toArray]; omega)) (by rw [List.size_toArray, cells_length _ HD]; exact size38) (all_oneCell_toArray (oneS _)) ?_
                    · rfl
                    simp only [List.toList_toArray]
                    simp only [Act.put, Act.eval, List.setIfInBounds_toArray, List.set_cons_zero, List.set_cons_succ, Nat.reduceAdd, Array.getD_eq_getD_getElem?, List.getElem?_toArray, List.getElem?_cons_succ, List.getElem?_cons_zero, Option.getD_some]
                    have HN := Lib.hid (h2.setAll p.1.cells ((cells_length _ HD).trans (cells_length _ none_dig).symm))
                    have XN := Lib.hid (X.out.trans_but (But.setCells g2 p.1.cells 0 wi) l2)
                    generalize wi.setCells g2 0 p.1.cells = wn at *
                    clear h2 hyo H2 X HY
                    go_wp2_with fail
                    exact bodyPost_ret (results_row2 rfl _ _ g2 25 (p.1.cells).toArray (0, 0) _ rfl HN.out undS rfl (by rw [List.size_toArray, cells_length _ HD]; exact size38)) rfl ⟨by rw [HV.out]; rfl, XN.out⟩
                  | false =>
                    have HV : Hid (parseV s.data.toList = .tuple #[.agg S.none.cells.toArray, .bool false]) := by
                      show parseV _ = _
                      unfold parseV parse
                      rw [HR.out, if_neg (by rw [hg]; simp)]
                    rw [hg] at CG
                    clear HR hp2 hp3 hg HPL
                    go_upto_region 31 with (fail)
                    refine wp_region_lit ?_
                    repeat (first | refine wpList_ldr rfl _ _ rfl g4 rfl _ _ _ HY undS (by rw [cells_length p.1 HD]; exact size38) ?_ | go_step)
                    refine (CG.out).mono ?_
                    rintro e wj ⟨rfl, xj⟩
                    rename_i hK
                    refine hK _ _ ?_
                    clear CG p0 p1 p2 p3
                    have HYn := Lib.hid (HY.out.ext xj)
                    have HFn := Lib.hid (HF.out.ext xj)
                    have H2n := Lib.hid (H2.out.ext xj)
                    have Xn := Lib.hid (X.out.trans xj)
                    clear xj HY HF H2 X
                    try clear wi
                    have HY := HYn
                    have HF := HFn
                    have H2 := H2n
                    have X := Xn
                    clear HYn HFn H2n Xn
                    generalize wj = wi at *
                    go_upto_region 32 with (fail)
                    refine wp_region_lit ?_
                    refine wpList_val rfl (.agg S.none.cells.toArray) (by as_aux_lemma => kernel_rfl) ?_
                    simp only [Act.put, Act.eval, List.setIfInBounds_toArray, List.set_cons_zero, List.set_cons_succ, Nat.reduceAdd, Array.getD_eq_getD_getElem?, List.getElem?_toArray, List.getElem?_cons_succ, List.getElem?_cons_zero, Option.getD_some]
                    have h2 := H2.out
                    refine wpList_store_mid rfl 25 _ _ rfl g2 0 ((S.none).cells).toArray rfl ?_ (h2.there _ (by have e1 := cells_length _ none_dig; have e2 := cells_length _ none_dig; rw [List.size_toArray]; omega)) (by rw [List.size_toArray, cells_length _ none_dig]; exact size38) (all_oneCell_toArray (oneS _)) ?_
                    · rfl
                    simp only [List.toList_toArray]
                    simp only [Act.put, Act.eval, List.setIfInBounds_toArray, List.set_cons_zero, List.set_cons_succ, Nat.reduceAdd, Array.getD_eq_getD_getElem?, List.getElem?_toArray, List.getElem?_cons_succ, List.getElem?_cons_zero, Option.getD_some]
                    have HN := Lib.hid (h2.setAll S.none.cells rfl)
                    have XN := Lib.hid (X.out.trans_but (But.setCells g2 S.none.cells 0 wi) l2)
                    generalize wi.setCells g2 0 S.none.cells = wn at *
                    clear h2 H2 X
                    go_wp2_with fail
                    exact bodyPost_ret (results_row2 rfl _ _ g2 25 (S.none.cells).toArray (0, 0) _ rfl HN.out undS rfl (by rw [List.size_toArray, cells_length _ none_dig]; exact size38)) rfl ⟨by rw [HV.out]; rfl, XN.out⟩
                · have da : ((k : Int) != (s.size : Int)) = true := by rw [bne_iff_ne]; omega
                  have HV : Hid (parseV s.data.toList = .tuple #[.agg S.none.cells.toArray, .bool false]) := by
                    show parseV _ = _
                    unfold parseV parse
                    rw [HR.out, if_neg]
                    rintro ⟨h1, -⟩
                    rw [hp2] at h1
                    injection h1 with h1
                    have := congrArg List.length h1
                    rw [List.length_drop, len_data] at this
                    simp at this
                    omega
                  clear HR hp2 HPL
                  go_upto_region 32 with (fail)
                  refine wp_region_lit ?_
                  refine wpList_val rfl (.agg S.none.cells.toArray) (by as_aux_lemma => kernel_rfl) ?_
                  simp only [Act.put, Act.eval, List.setIfInBounds_toArray, List.set_cons_zero, List.set_cons_succ, Nat.reduceAdd, Array.getD_eq_getD_getElem?, List.getElem?_toArray, List.getElem?_cons_succ, List.getElem?_cons_zero, Option.getD_some]
                  have h2 := H2.out
                  refine wpList_store_mid rfl 25 _ _ rfl g2 0 ((S.none).cells).toArray rfl ?_ (h2.there _ (by have e1 := cells_length _ none_dig; have e2 := cells_length _ none_dig; rw [List.size_toArray]; omega)) (by rw [List.size_toArray, cells_length _ none_dig]; exact size38) (all_oneCell_toArray (oneS _)) ?_
                  · rfl
                  simp only [List.toList_toArray]
                  simp only [Act.put, Act.eval, List.setIfInBounds_toArray, List.set_cons_zero, List.set_cons_succ, Nat.reduceAdd, Array.getD_eq_getD_getElem?, List.getElem?_toArray, List.getElem?_cons_succ, List.getElem?_cons_zero, Option.getD_some]
                  have HN := Lib.hid (h2.setAll S.none.cells rfl)
                  have XN := Lib.hid (X.out.trans_but (But.setCells g2 S.none.cells 0 wi) l2)
                  generalize wi.setCells g2 0 S.none.cells = wn at *
                  clear h2 H2 X
                  go_wp2_with fail
                  exact bodyPost_ret (results_row2 rfl _ _ g2 25 (S.none.cells).toArray (0, 0) _ rfl HN.out undS rfl (by rw [List.size_toArray, cells_length _ none_dig]; exact size38)) rfl ⟨by rw [HV.out]; rfl, XN.out⟩
          -- Y}
        · have d32 : decide ((32 : Int) ≤ (s.size : Int) - (k : Int)) = false := by rw [decide_eq_false_iff_not]; omega
          have hpd : pDig p = (p.1, none) := by unfold pDig; rw [hp2, take_no (by rw [List.length_drop, len_data]; omega)]; rfl
          -- {M
          go_upto_region 21 with (fail)
          clear p0 p1 p2 p3 HPL hp2
          have HPL : Hid (Plc s.data.toList (pDig p).2 (-1)) := .inl ⟨by rw [hpd], rfl⟩
          have HYn : Hid (Blk wi g4 25 (pDig p).1.cells) := by rw [hpd]; exact HY.out
          have HDn : (pDig p).1.dig.length = 32 := pDig_len p HD
          clear HY HD hpd
          generalize pDig p = p at *
          generalize (-1 : Int) = a at HPL ⊢
          have HY := HYn
          have HD := HDn
          clear HYn HDn
          clear dk0 d32
          have p0 : wi.cell? ⟨g5, 0, none⟩ = some (.bool true) := HF.out.cell 0
          have p1 : wi.cell? ⟨g5, 1, none⟩ = some (.bool true) := HF.out.cell 1
          have p2 : wi.cell? ⟨g5, 2, none⟩ = some (.bool true) := HF.out.cell 2
          have p3 : wi.cell? ⟨g5, 3, none⟩ = some (.bool true) := HF.out.cell 3
          have C1 := Lib.hid (took_any s p.2 a wi hs HPL.out)
          go_wp2_with fail
          refine (C1.out).mono ?_
          rintro e wj ⟨a1, rfl, hp1, xj⟩
          have HP1 := Lib.hid hp1
          clear C1 hp1 p0 p1 p2 p3
          have HYn := Lib.hid (HY.out.ext xj)
          have HFn := Lib.hid (HF.out.ext xj)
          have H2n := Lib.hid (H2.out.ext xj)
          have Xn := Lib.hid (X.out.trans xj)
          clear xj HY HF H2 X
          try clear wi
          have HY := HYn
          have HF := HFn
          have H2 := H2n
          have X := Xn
          clear HYn HFn H2n Xn
          generalize wj = wi at *
          have C2 := Lib.hid (counted_any s (textS p.2).2 a1 wi hs HP1.out)
          go_wp2_with fail
          refine (C2.out).mono ?_
          rintro e wj ⟨a2, rfl, hp2, xj⟩
          have HP2 : Hid (Plc s.data.toList (pThing p).2 a2) := hp2
          clear C2 hp2 HP1 HPL
          have HYn := Lib.hid (HY.out.ext xj)
          have HFn := Lib.hid (HF.out.ext xj)
          have H2n := Lib.hid (H2.out.ext xj)
          have Xn := Lib.hid (X.out.trans xj)
          clear xj HY HF H2 X
          try clear wi
          have HY := HYn
          have HF := HFn
          have H2 := H2n
          have X := Xn
          clear HYn HFn H2n Xn
          generalize wj = wi at *
          have r1 : wi.cell? ⟨g4, 35, none⟩ = some (.string p.1.typ) := by rw [HY.out.cell, at35 p.1 HD]
          have r2 : wi.cell? ⟨g4, 36, none⟩ = some (.int .i64 p.1.size) := by rw [HY.out.cell, at36 p.1 HD]
          have f1 := HY.out.frozen 35
          have f2 := HY.out.frozen 36
          have hs0 := HY.out.set_ 35 (.string ⟨(textS p.2).1.toArray⟩)
          rw [set35 p.1 HD] at hs0
          have hs1 := hs0.set_ 36 (.int .i64 ((numS (textS p.2).2).1 : Int))
          rw [set36 ({ p.1 with typ := ⟨(textS p.2).1.toArray⟩ } : S) HD] at hs1
          have hbx := (But.set_ g4 wi 35 (.string ⟨(textS p.2).1.toArray⟩)).trans (But.set_ g4 _ 36 (.int .i64 ((numS (textS p.2).2).1 : Int)))
          have HYn : Hid (Blk ((wi.setCell ⟨g4, 35, none⟩ (.string ⟨(textS p.2).1.toArray⟩)).setCell ⟨g4, 36, none⟩ (.int .i64 ((numS (textS p.2).2).1 : Int))) g4 25 (pThing p).1.cells) := hs1
          clear hs0 hs1
          go_upto_region 27 with (fail)
          clear r1 r2 f1 f2
          have HDn : (pThing p).1.dig.length = 32 := HD
          have HFn := Lib.hid (HF.out.but hbx (by omega))
          have H2n := Lib.hid (H2.out.but hbx (by omega))
          have Xn := Lib.hid (X.out.trans_but hbx l4)
          clear hbx HY HD HF H2 X
          generalize ((wi.setCell ⟨g4, 35, none⟩ (.string ⟨(textS p.2).1.toArray⟩)).setCell ⟨g4, 36, none⟩ (.int .i64 ((numS (textS p.2).2).1 : Int))) = wi at *
          generalize pThing p = p at *
          generalize a2 = a at *
          have HY := HYn
          have HD := HDn
          have HF := HFn
          have H2 := H2n
          have X := Xn
          have HPL := HP2
          clear HYn HDn HFn H2n Xn HP2
          have p0 : wi.cell? ⟨g5, 0, none⟩ = some (.bool true) := HF.out.cell 0
          have p1 : wi.cell? ⟨g5, 1, none⟩ = some (.bool true) := HF.out.cell 1
          have p2 : wi.cell? ⟨g5, 2, none⟩ = some (.bool true) := HF.out.cell 2
          have p3 : wi.cell? ⟨g5, 3, none⟩ = some (.bool true) := HF.out.cell 3
          have C2 := Lib.hid (counted_any s p.2 a wi hs HPL.out)
          go_wp2_with fail
          refine (C2.out).mono ?_
          rintro e wj ⟨a2, rfl, hp2, xj⟩
          have HP2 : Hid (Plc s.data.toList (pAt p).2 a2) := hp2
          clear C2 hp2 HPL p0 p1 p2 p3
          have HYn := Lib.hid (HY.out.ext xj)
          have HFn := Lib.hid (HF.out.ext xj)
          have H2n := Lib.hid (H2.out.ext xj)
          have Xn := Lib.hid (X.out.trans xj)
          clear xj HY HF H2 X
          try clear wi
          have HY := HYn
          have HF := HFn
          have H2 := H2n
          have X := Xn
          clear HYn HFn H2n Xn
          generalize wj = wi at *
          have r1 : wi.cell? ⟨g4, 37, none⟩ = some (.int .i64 p.1.at_) := by rw [HY.out.cell, at37 p.1 HD]
          have f1 := HY.out.frozen 37
          have hs0 := HY.out.set_ 37 (.int .i64 ((numS p.2).1 : Int))
          rw [set37 p.1 HD] at hs0
          have hbx := But.set_ g4 wi 37 (.int .i64 ((numS p.2).1 : Int))
          have HYn : Hid (Blk (wi.setCell ⟨g4, 37, none⟩ (.int .i64 ((numS p.2).1 : Int))) g4 25 (pAt p).1.cells) := hs0
          clear hs0
          go_upto_region 31 with (fail)
          clear r1 f1
          have HDn : (pAt p).1.dig.length = 32 := HD
          have HFn := Lib.hid (HF.out.but hbx (by omega))
          have H2n := Lib.hid (H2.out.but hbx (by omega))
          have Xn := Lib.hid (X.out.trans_but hbx l4)
          clear hbx HY HD HF H2 X
          generalize (wi.setCell ⟨g4, 37, none⟩ (.int .i64 ((numS p.2).1 : Int))) = wi at *
          generalize pAt p = p at *
          generalize a2 = a at *
          have HY := HYn
          have HD := HDn
          have HF := HFn
          have H2 := H2n
          have X := Xn
          have HPL := HP2
          clear HYn HDn HFn H2n Xn HP2
          have p0 : wi.cell? ⟨g5, 0, none⟩ = some (.bool true) := HF.out.cell 0
          have p1 : wi.cell? ⟨g5, 1, none⟩ = some (.bool true) := HF.out.cell 1
          have p2 : wi.cell? ⟨g5, 2, none⟩ = some (.bool true) := HF.out.cell 2
          have p3 : wi.cell? ⟨g5, 3, none⟩ = some (.bool true) := HF.out.cell 3
          rcases HPL.out with ⟨hp2, ha⟩ | ⟨k, hk, hp2, ha⟩
          · have HV : Hid (parseV s.data.toList = .tuple #[.agg S.none.cells.toArray, .bool false]) := by
              show parseV _ = _
              unfold parseV parse
              rw [HR.out, if_neg (by rw [hp2]; simp)]
            subst ha
            have da : ((-1 : Int) != (s.size : Int)) = true := by rw [bne_iff_ne]; omega
            clear HR hp2 HPL
            go_upto_region 32 with (fail)
            refine wp_region_lit ?_
            refine wpList_val rfl (.agg S.none.cells.toArray) (by as_aux_lemma => kernel_rfl) ?_
            simp only [Act.put, Act.eval, List.setIfInBounds_toArray, List.set_cons_zero, List.set_cons_succ, Nat.reduceAdd, Array.getD_eq_getD_getElem?, List.getElem?_toArray, List.getElem?_cons_succ, List.getElem?_cons_zero, Option.getD_some]
            have h2 := H2.out
            refine wpList_store_mid rfl 25 _ _ rfl g2 0 ((S.none).cells).toArray rfl ?_ (h2.there _ (by have e1 := cells_length _ none_dig; have e2 := cells_length _ none_dig; rw [List.size_toArray]; omega)) (by rw [List.size_toArray, cells_length _ none_dig]; exact size38) (all_oneCell_toArray (oneS _)) ?_
            · rfl
            simp only [List.toList_toArray]
            simp only [Act.put, Act.eval, List.setIfInBounds_toArray, List.set_cons_zero, List.set_cons_succ, Nat.reduceAdd, Array.getD_eq_getD_getElem?, List.getElem?_toArray, List.getElem?_cons_succ, List.getElem?_cons_zero, Option.getD_some]
            have HN := Lib.hid (h2.setAll S.none.cells rfl)
            have XN := Lib.hid (X.out.trans_but (But.setCells g2 S.none.cells 0 wi) l2)
            generalize wi.setCells g2 0 S.none.cells = wn at *
            clear h2 H2 X
            go_wp2_with fail
            exact bodyPost_ret (results_row2 rfl _ _ g2 25 (S.none.cells).toArray (0, 0) _ rfl HN.out undS rfl (by rw [List.size_toArray, cells_length _ none_dig]; exact size38)) rfl ⟨by rw [HV.out]; rfl, XN.out⟩
          · subst ha
            rw [len_data] at hk
            by_cases hks : k = s.size
            · have da : ((k : Int) != (s.size : Int)) = false := by rw [hks]; simp
              have hp3 : p.2 = some [] := by rw [hp2, List.drop_of_length_le (by rw [len_data]; omega)]
              have CG := Lib.hid (goodR_any p.1 HD wi)
              cases hg : good p.1 with
              | true =>
                have HV : Hid (parseV s.data.toList = .tuple #[.agg p.1.cells.toArray, .bool true]) := by
                  show parseV _ = _
                  unfold parseV parse
                  rw [HR.out, if_pos ⟨hp3, hg⟩]
                rw [hg] at CG
                clear HR hp2 hp3 hg HPL
                go_upto_region 31 with (fail)
                refine wp_region_lit ?_
                repeat (first | refine wpList_ldr rfl _ _ rfl g4 rfl _ _ _ HY undS (by rw [cells_length p.1 HD]; exact size38) ?_ | go_step)
                refine (CG.out).mono ?_
                rintro e wj ⟨rfl, xj⟩
                rename_i hK
                refine hK _ _ ?_
                clear CG p0 p1 p2 p3
                have HYn := Lib.hid (HY.out.ext xj)
                have HFn := Lib.hid (HF.out.ext xj)
                have H2n := Lib.hid (H2.out.ext xj)
                have Xn := Lib.hid (X.out.trans xj)
                clear xj HY HF H2 X
                try clear wi
                have HY := HYn
                have HF := HFn
                have H2 := H2n
                have X := Xn
                clear HYn HFn H2n Xn
                generalize wj = wi at *
                go_upto_region 33 with (fail)
                refine wp_region_lit ?_
                have hyo := HY.out
                have h2 := H2.out
                refine wpList_load_row rfl 25 _ rfl g4 rfl 25 (p.1.cells).toArray (0, 0) _ hyo undS rfl (by rw [List.size_toArray, cells_length p.1 HD]; exact size38) ?_
                simp only [Act.put, Act.eval, List.setIfInBounds_toArray, List.set_cons_zero, List.set_cons_succ, Nat.reduceAdd, Array.getD_eq_getD_getElem?, List.getElem?_toArray, List.getElem?_cons_succ, List.getElem?_cons_zero, Option.getD_some]
                refine wpList_store_mid rfl 25 _ _ rfl g2 0 ((p.1).cells).toArray rfl ?_ (h2.there _ (by have e1 := cells_length _ HD; have e2 := cells_length _ none_dig; rw [List.size_toArray]; omega)) (by rw [List.size_toArray, cells_length _ HD]; exact size38) (all_oneCell_toArray (oneS _)) ?_
                · rfl
                simp only [List.toList_toArray]
                simp only [Act.put, Act.eval, List.setIfInBounds_toArray, List.set_cons_zero, List.set_cons_succ, Nat.reduceAdd, Array.getD_eq_getD_getElem?, List.getElem?_toArray, List.getElem?_cons_succ, List.getElem?_cons_zero, Option.getD_some]
                have HN := Lib.hid (h2.setAll p.1.cells ((cells_length _ HD).trans (cells_length _ none_dig).symm))
                have XN := Lib.hid (X.out.trans_but (But.setCells g2 p.1.cells 0 wi) l2)
                generalize wi.setCells g2 0 p.1.cells = wn at *
                clear h2 hyo H2 X HY
                go_wp2_with fail
                exact bodyPost_ret (results_row2 rfl _ _ g2 25 (p.1.cells).toArray (0, 0) _ rfl HN.out undS rfl (by rw [List.size_toArray, cells_length _ HD]; exact size38)) rfl ⟨by rw [HV.out]; rfl, XN.out⟩
              | false =>
                have HV : Hid (parseV s.data.toList = .tuple #[.agg S.none.cells.toArray, .bool false]) := by
                  show parseV _ = _
                  unfold parseV parse
                  rw [HR.out, if_neg (by rw [hg]; simp)]
                rw [hg] at CG
                clear HR hp2 hp3 hg HPL
                go_upto_region 31 with (fail)
                refine wp_region_lit ?_
                repeat (first | refine wpList_ldr rfl _ _ rfl g4 rfl _ _ _ HY undS (by rw [cells_length p.1 HD]; exact size38) ?_ | go_step)
                refine (CG.out).mono ?_
                rintro e wj ⟨rfl, xj⟩
                rename_i hK
                refine hK _ _ ?_
                clear CG p0 p1 p2 p3
                have HYn := Lib.hid (HY.out.ext xj)
                have HFn := Lib.hid (HF.out.ext xj)
                have H2n := Lib.hid (H2.out.ext xj)
                have Xn := Lib.hid (X.out.trans xj)
                clear xj HY HF H2 X
                try clear wi
                have HY := HYn
                have HF := HFn
                have H2 := H2n
                have X := Xn
                clear HYn HFn H2n Xn
                generalize wj = wi at *
                go_upto_region 32 with (fail)
                refine wp_region_lit ?_
                refine wpList_val rfl (.agg S.none.cells.toArray) (by as_aux_lemma => kernel_rfl) ?_
                simp only [Act.put, Act.eval, List.setIfInBounds_toArray, List.set_cons_zero, List.set_cons_succ, Nat.reduceAdd, Array.getD_eq_getD_getElem?, List.getElem?_toArray, List.getElem?_cons_succ, List.getElem?_cons_zero, Option.getD_some]
                have h2 := H2.out
                refine wpList_store_mid rfl 25 _ _ rfl g2 0 ((S.none).cells).toArray rfl ?_ (h2.there _ (by have e1 := cells_length _ none_dig; have e2 := cells_length _ none_dig; rw [List.size_toArray]; omega)) (by rw [List.size_toArray, cells_length _ none_dig]; exact size38) (all_oneCell_toArray (oneS _)) ?_
                · rfl
                simp only [List.toList_toArray]
                simp only [Act.put, Act.eval, List.setIfInBounds_toArray, List.set_cons_zero, List.set_cons_succ, Nat.reduceAdd, Array.getD_eq_getD_getElem?, List.getElem?_toArray, List.getElem?_cons_succ, List.getElem?_cons_zero, Option.getD_some]
                have HN := Lib.hid (h2.setAll S.none.cells rfl)
                have XN := Lib.hid (X.out.trans_but (But.setCells g2 S.none.cells 0 wi) l2)
                generalize wi.setCells g2 0 S.none.cells = wn at *
                clear h2 H2 X
                go_wp2_with fail
                exact bodyPost_ret (results_row2 rfl _ _ g2 25 (S.none.cells).toArray (0, 0) _ rfl HN.out undS rfl (by rw [List.size_toArray, cells_length _ none_dig]; exact size38)) rfl ⟨by rw [HV.out]; rfl, XN.out⟩
            · have da : ((k : Int) != (s.size : Int)) = true := by rw [bne_iff_ne]; omega
              have HV : Hid (parseV s.data.toList = .tuple #[.agg S.none.cells.toArray, .bool false]) := by
                show parseV _ = _
                unfold parseV parse
                rw [HR.out, if_neg]
                rintro ⟨h1, -⟩
                rw [hp2] at h1
                injection h1 with h1
                have := congrArg List.length h1
                rw [List.length_drop, len_data] at this
                simp at this
                omega
              clear HR hp2 HPL
              go_upto_region 32 with (fail)
              refine wp_region_lit ?_
              refine wpList_val rfl (.agg S.none.cells.toArray) (by as_aux_lemma => kernel_rfl) ?_
              simp only [Act.put, Act.eval, List.setIfInBounds_toArray, List.set_cons_zero, List.set_cons_succ, Nat.reduceAdd, Array.getD_eq_getD_getElem?, List.getElem?_toArray, List.getElem?_cons_succ, List.getElem?_cons_zero, Option.getD_some]
              have h2 := H2.out
              refine wpList_store_mid rfl 25 _ _ rfl g2 0 ((S.none).cells).toArray rfl ?_ (h2.there _ (by have e1 := cells_length _ none_dig; have e2 := cells_length _ none_dig; rw [List.size_toArray]; omega)) (by rw [List.size_toArray, cells_length _ none_dig]; exact size38) (all_oneCell_toArray (oneS _)) ?_
              · rfl
              simp only [List.toList_toArray]
              simp only [Act.put, Act.eval, List.setIfInBounds_toArray, List.set_cons_zero, List.set_cons_succ, Nat.reduceAdd, Array.getD_eq_getD_getElem?, List.getElem?_toArray, List.getElem?_cons_succ, List.getElem?_cons_zero, Option.getD_some]
              have HN := Lib.hid (h2.setAll S.none.cells rfl)
              have XN := Lib.hid (X.out.trans_but (But.setCells g2 S.none.cells 0 wi) l2)
              generalize wi.setCells g2 0 S.none.cells = wn at *
              clear h2 H2 X
              go_wp2_with fail
              exact bodyPost_ret (results_row2 rfl _ _ g2 25 (S.none.cells).toArray (0, 0) _ rfl HN.out undS rfl (by rw [List.size_toArray, cells_length _ none_dig]; exact size38)) rfl ⟨by rw [HV.out]; rfl, XN.out⟩
          -- M}
      -- A}
    ·
      -- {B
      have HR : Hid (parsed s.data.toList = pAt (pNames p)) := HPR
      rw [show (F.cells ⟨true, false, false, true⟩) = [.bool true, .bool false, .bool false, .bool true] from rfl]
      go_upto_region 7 with (fail)
      have hbf : Blk (w5.alloc (Obj.cells #[Value.bool true, Value.bool false, Value.bool false, Value.bool true] 66)) w5.heap.size 66 [.bool true, .bool false, .bool false, .bool true] := Blk.new w5 66 #[Value.bool true, Value.bool false, Value.bool false, Value.bool true]
      have hxf := Reg.Ext.alloc w5 (Obj.cells #[Value.bool true, Value.bool false, Value.bool false, Value.bool true] 66)
      have HF := Lib.hid hbf
      have HYn := Lib.hid (HY.out.ext hxf)
      have H2n := Lib.hid (H2.out.ext hxf)
      have Xn := Lib.hid (X.out.trans hxf)
      have l45 := HY.out.lt
      clear HY H2 X hbf hxf
      have HY := HYn
      have H2 := H2n
      have X := Xn
      clear HYn H2n Xn
      generalize w5.alloc (Obj.cells #[Value.bool true, Value.bool false, Value.bool false, Value.bool true] 66) = wi at *
      generalize w5.heap.size = g5 at *
      generalize (1 : Int) = a at HPL ⊢
      have p0 : wi.cell? ⟨g5, 0, none⟩ = some (.bool true) := HF.out.cell 0
      have p1 : wi.cell? ⟨g5, 1, none⟩ = some (.bool false) := HF.out.cell 1
      have p2 : wi.cell? ⟨g5, 2, none⟩ = some (.bool false) := HF.out.cell 2
      have p3 : wi.cell? ⟨g5, 3, none⟩ = some (.bool true) := HF.out.cell 3
      have C1 := Lib.hid (took_any s p.2 a wi hs HPL.out)
      go_wp2_with fail
      refine (C1.out).mono ?_
      rintro e wj ⟨a1, rfl, hp1, xj⟩
      have HP1 := Lib.hid hp1
      clear C1 hp1 p0 p1 p2 p3
      have HYn := Lib.hid (HY.out.ext xj)
      have HFn := Lib.hid (HF.out.ext xj)
      have H2n := Lib.hid (H2.out.ext xj)
      have Xn := Lib.hid (X.out.trans xj)
      clear xj HY HF H2 X
      try clear wi
      have HY := HYn
      have HF := HFn
      have H2 := H2n
      have X := Xn
      clear HYn HFn H2n Xn
      generalize wj = wi at *
      have C2 := Lib.hid (took_any s (textS p.2).2 a1 wi hs HP1.out)
      go_wp2_with fail
      refine (C2.out).mono ?_
      rintro e wj ⟨a2, rfl, hp2, xj⟩
      have HP2 : Hid (Plc s.data.toList (pNames p).2 a2) := hp2
      clear C2 hp2 HP1 HPL
      have HYn := Lib.hid (HY.out.ext xj)
      have HFn := Lib.hid (HF.out.ext xj)
      have H2n := Lib.hid (H2.out.ext xj)
      have Xn := Lib.hid (X.out.trans xj)
      clear xj HY HF H2 X
      try clear wi
      have HY := HYn
      have HF := HFn
      have H2 := H2n
      have X := Xn
      clear HYn HFn H2n Xn
      generalize wj = wi at *
      have r1 : wi.cell? ⟨g4, 1, none⟩ = some (.string p.1.repo) := HY.out.cell 1
      have r2 : wi.cell? ⟨g4, 2, none⟩ = some (.string p.1.tag) := HY.out.cell 2
      have f1 := HY.out.frozen 1
      have f2 := HY.out.frozen 2
      have hs0 := (HY.out.set_ 1 (.string ⟨(textS p.2).1.toArray⟩)).set_ 2 (.string ⟨(textS (textS p.2).2).1.toArray⟩)
      rw [set1, set2] at hs0
      have hbx := (But.set_ g4 wi 1 (.string ⟨(textS p.2).1.toArray⟩)).trans (But.set_ g4 _ 2 (.string ⟨(textS (textS p.2).2).1.toArray⟩))
      have HYn : Hid (Blk ((wi.setCell ⟨g4, 1, none⟩ (.string ⟨(textS p.2).1.toArray⟩)).setCell ⟨g4, 2, none⟩ (.string ⟨(textS (textS p.2).2).1.toArray⟩)) g4 25 (pNames p).1.cells) := hs0
      clear hs0
      go_upto_region 13 with (fail)
      clear r1 r2 f1 f2
      have HDn : (pNames p).1.dig.length = 32 := HD
      have HFn := Lib.hid (HF.out.but hbx (by omega))
      have H2n := Lib.hid (H2.out.but hbx (by omega))
      have Xn := Lib.hid (X.out.trans_but hbx l4)
      clear hbx HY HD HF H2 X
      generalize ((wi.setCell ⟨g4, 1, none⟩ (.string ⟨(textS p.2).1.toArray⟩)).setCell ⟨g4, 2, none⟩ (.string ⟨(textS (textS p.2).2).1.toArray⟩)) = wi at *
      generalize pNames p = p at *
      generalize a2 = a at *
      have HY := HYn
      have HD := HDn
      have HF := HFn
      have H2 := H2n
      have X := Xn
      have HPL := HP2
      clear HYn HDn HFn H2n Xn HP2
      have p0 : wi.cell? ⟨g5, 0, none⟩ = some (.bool true) := HF.out.cell 0
      have p1 : wi.cell? ⟨g5, 1, none⟩ = some (.bool false) := HF.out.cell 1
      have p2 : wi.cell? ⟨g5, 2, none⟩ = some (.bool false) := HF.out.cell 2
      have p3 : wi.cell? ⟨g5, 3, none⟩ = some (.bool true) := HF.out.cell 3
      have C2 := Lib.hid (counted_any s p.2 a wi hs HPL.out)
      go_wp2_with fail
      refine (C2.out).mono ?_
      rintro e wj ⟨a2, rfl, hp2, xj⟩
      have HP2 : Hid (Plc s.data.toList (pAt p).2 a2) := hp2
      clear C2 hp2 HPL p0 p1 p2 p3
      have HYn := Lib.hid (HY.out.ext xj)
      have HFn := Lib.hid (HF.out.ext xj)
      have H2n := Lib.hid (H2.out.ext xj)
      have Xn := Lib.hid (X.out.trans xj)
      clear xj HY HF H2 X
      try clear wi
      have HY := HYn
      have HF := HFn
      have H2 := H2n
      have X := Xn
      clear HYn HFn H2n Xn
      generalize wj = wi at *
      have r1 : wi.cell? ⟨g4, 37, none⟩ = some (.int .i64 p.1.at_) := by rw [HY.out.cell, at37 p.1 HD]
      have f1 := HY.out.frozen 37
      have hs0 := HY.out.set_ 37 (.int .i64 ((numS p.2).1 : Int))
      rw [set37 p.1 HD] at hs0
      have hbx := But.set_ g4 wi 37 (.int .i64 ((numS p.2).1 : Int))
      have HYn : Hid (Blk (wi.setCell ⟨g4, 37, none⟩ (.int .i64 ((numS p.2).1 : Int))) g4 25 (pAt p).1.cells) := hs0
      clear hs0
      go_upto_region 31 with (fail)
      clear r1 f1
      have HDn : (pAt p).1.dig.length = 32 := HD
      have HFn := Lib.hid (HF.out.but hbx (by omega))
      have H2n := Lib.hid (H2.out.but hbx (by omega))
      have Xn := Lib.hid (X.out.trans_but hbx l4)
      clear hbx HY HD HF H2 X
      generalize (wi.setCell ⟨g4, 37, none⟩ (.int .i64 ((numS p.2).1 : Int))) = wi at *
      generalize pAt p = p at *
      generalize a2 = a at *
      have HY := HYn
      have HD := HDn
      have HF := HFn
      have H2 := H2n
      have X := Xn
      have HPL := HP2
      clear HYn HDn HFn H2n Xn HP2
      have p0 : wi.cell? ⟨g5, 0, none⟩ = some (.bool true) := HF.out.cell 0
      have p1 : wi.cell? ⟨g5, 1, none⟩ = some (.bool false) := HF.out.cell 1
      have p2 : wi.cell? ⟨g5, 2, none⟩ = some (.bool false) := HF.out.cell 2
      have p3 : wi.cell? ⟨g5, 3, none⟩ = some (.bool true) := HF.out.cell 3
      rcases HPL.out with ⟨hp2, ha⟩ | ⟨k, hk, hp2, ha⟩
      · have HV : Hid (parseV s.data.toList = .tuple #[.agg S.none.cells.toArray, .bool false]) := by
          show parseV _ = _
          unfold parseV parse
          rw [HR.out, if_neg (by rw [hp2]; simp)]
        subst ha
        have da : ((-1 : Int) != (s.size : Int)) = true := by rw [bne_iff_ne]; omega
        clear HR hp2 HPL
        go_upto_region 32 with (fail)
        refine wp_region_lit ?_
        refine wpList_val rfl (.agg S.none.cells.toArray) (by as_aux_lemma => kernel_rfl) ?_
        simp only [Act.put, Act.eval, List.setIfInBounds_toArray, List.set_cons_zero, List.set_cons_succ, Nat.reduceAdd, Array.getD_eq_getD_getElem?, List.getElem?_toArray, List.getElem?_cons_succ, List.getElem?_cons_zero, Option.getD_some]
        have h2 := H2.out
        refine wpList_store_mid rfl 25 _ _ rfl g2 0 ((S.none).cells).toArray rfl ?_ (h2.there _ (by have e1 := cells_length _ none_dig; have e2 := cells_length _ none_dig; rw [List.size_toArray]; omega)) (by rw [List.size_toArray, cells_length _ none_dig]; exact size38) (all_oneCell_toArray (oneS _)) ?_
        · rfl
        simp only [List.toList_toArray]
        simp only [Act.put, Act.eval, List.setIfInBounds_toArray, List.set_cons_zero, List.set_cons_succ, Nat.reduceAdd, Array.getD_eq_getD_getElem?, List.getElem?_toArray, List.getElem?_cons_succ, List.getElem?_cons_zero, Option.getD_some]
        have HN := Lib.hid (h2.setAll S.none.cells rfl)
        have XN := Lib.hid (X.out.trans_but (But.setCells g2 S.none.cells 0 wi) l2)
        generalize wi.setCells g2 0 S.none.cells = wn at *
        clear h2 H2 X
        go_wp2_with fail
        exact bodyPost_ret (results_row2 rfl _ _ g2 25 (S.none.cells).toArray (0, 0) _ rfl HN.out undS rfl (by rw [List.size_toArray, cells_length _ none_dig]; exact size38)) rfl ⟨by rw [HV.out]; rfl, XN.out⟩
      · subst ha
        rw [len_data] at hk
        by_cases hks : k = s.size
        · have da : ((k : Int) != (s.size : Int)) = false := by rw [hks]; simp
          have hp3 : p.2 = some [] := by rw [hp2, List.drop_of_length_le (by rw [len_data]; omega)]
          have CG := Lib.hid (goodR_any p.1 HD wi)
          cases hg : good p.1 with
          | true =>
            have HV : Hid (parseV s.data.toList = .tuple #[.agg p.1.cells.toArray, .bool true]) := by
              show parseV _ = _
              unfold parseV parse
              rw [HR.out, if_pos ⟨hp3, hg⟩]
            rw [hg] at CG
            clear HR hp2 hp3 hg HPL
            go_upto_region 31 with (fail)
            refine wp_region_lit ?_
            repeat (first | refine wpList_ldr rfl _ _ rfl g4 rfl _ _ _ HY undS (by rw [cells_length p.1 HD]; exact size38) ?_ | go_step)
            refine (CG.out).mono ?_
            rintro e wj ⟨rfl, xj⟩
            rename_i hK
            refine hK _ _ ?_
            clear CG p0 p1 p2 p3
            have HYn := Lib.hid (HY.out.ext xj)
            have HFn := Lib.hid (HF.out.ext xj)
            have H2n := Lib.hid (H2.out.ext xj)
            have Xn := Lib.hid (X.out.trans xj)
            clear xj HY HF H2 X
            try clear wi
            have HY := HYn
            have HF := HFn
            have H2 := H2n
            have X := Xn
            clear HYn HFn H2n Xn
            generalize wj = wi at *
            go_upto_region 33 with (fail)
            refine wp_region_lit ?_
            have hyo := HY.out
            have h2 := H2.out
            refine wpList_load_row rfl 25 _ rfl g4 rfl 25 (p.1.cells).toArray (0, 0) _ hyo undS rfl (by rw [List.size_toArray, cells_length p.1 HD]; exact size38) ?_
            simp only [Act.put, Act.eval, List.setIfInBounds_toArray, List.set_cons_zero, List.set_cons_succ, Nat.reduceAdd, Array.getD_eq_getD_getElem?, List.getElem?_toArray, List.getElem?_cons_succ, List.getElem?_cons_zero, Option.getD_some]
            refine wpList_store_mid rfl 25 _ _ rfl g2 0 ((p.1).cells).toArray rfl ?_ (h2.there _ (by have e1 := cells_length _ HD; have e2 := cells_length _ none_dig; rw [List.size_toArray]; omega)) (by rw [List.size_toArray, cells_length _ HD]; exact size38) (all_oneCell_toArray (oneS _)) ?_
            · rfl
            simp only [List.toList_toArray]
            simp only [Act.put, Act.eval, List.setIfInBounds_toArray, List.set_cons_zero, List.set_cons_succ, Nat.reduceAdd, Array.getD_eq_getD_getElem?, List.getElem?_toArray, List.getElem?_cons_succ, List.getElem?_cons_zero, Option.getD_some]
            have HN := Lib.hid (h2.setAll p.1.cells ((cells_length _ HD).trans (cells_length _ none_dig).symm))
            have XN := Lib.hid (X.out.trans_but (But.setCells g2 p.1.cells 0 wi) l2)
            generalize wi.setCells g2 0 p.1.cells = wn at *
            clear h2 hyo H2 X HY
            go_wp2_with fail
            exact bodyPost_ret (results_row2 rfl _ _ g2 25 (p.1.cells).toArray (0, 0) _ rfl HN.out undS rfl (by rw [List.size_toArray, cells_length _ HD]; exact size38)) rfl ⟨by rw [HV.out]; rfl, XN.out⟩
          | false =>
            have HV : Hid (parseV s.data.toList = .tuple #[.agg S.none.cells.toArray, .bool false]) := by
              show parseV _ = _
              unfold parseV parse
              rw [HR.out, if_neg (by rw [hg]; simp)]
            rw [hg] at CG
            clear HR hp2 hp3 hg HPL
            go_upto_region 31 with (fail)
            refine wp_region_lit ?_
            repeat (first | refine wpList_ldr rfl _ _ rfl g4 rfl _ _ _ HY undS (by rw [cells_length p.1 HD]; exact size38) ?_ | go_step)
            refine (CG.out).mono ?_
            rintro e wj ⟨rfl, xj⟩
            rename_i hK
            refine hK _ _ ?_
            clear CG p0 p1 p2 p3
            have HYn := Lib.hid (HY.out.ext xj)
            have HFn := Lib.hid (HF.out.ext xj)
            have H2n := Lib.hid (H2.out.ext xj)
            have Xn := Lib.hid (X.out.trans xj)
            clear xj HY HF H2 X
            try clear wi
            have HY := HYn
            have HF := HFn
            have H2 := H2n
            have X := Xn
            clear HYn HFn H2n Xn
            generalize wj = wi at *
            go_upto_region 32 with (fail)
            refine wp_region_lit ?_
            refine wpList_val rfl (.agg S.none.cells.toArray) (by as_aux_lemma => kernel_rfl) ?_
            simp only [Act.put, Act.eval, List.setIfInBounds_toArray, List.set_cons_zero, List.set_cons_succ, Nat.reduceAdd, Array.getD_eq_getD_getElem?, List.getElem?_toArray, List.getElem?_cons_succ, List.getElem?_cons_zero, Option.getD_some]
            have h2 := H2.out
            refine wpList_store_mid rfl 25 _ _ rfl g2 0 ((S.none).cells).toArray rfl ?_ (h2.there _ (by have e1 := cells_length _ none_dig; have e2 := cells_length _ none_dig; rw [List.size_toArray]; omega)) (by rw [List.size_toArray, cells_length _ none_dig]; exact size38) (all_oneCell_toArray (oneS _)) ?_
            · rfl
            simp only [List.toList_toArray]
            simp only [Act.put, Act.eval, List.setIfInBounds_toArray, List.set_cons_zero, List.set_cons_succ, Nat.reduceAdd, Array.getD_eq_getD_getElem?, List.getElem?_toArray, List.getElem?_cons_succ, List.getElem?_cons_zero, Option.getD_some]
            have HN := Lib.hid (h2.setAll S.none.cells rfl)
            have XN := Lib.hid (X.out.trans_but (But.setCells g2 S.none.cells 0 wi) l2)
            generalize wi.setCells g2 0 S.none.cells = wn at *
            clear h2 H2 X
            go_wp2_with fail
            exact bodyPost_ret (results_row2 rfl _ _ g2 25 (S.none.cells).toArray (0, 0) _ rfl HN.out undS rfl (by rw [List.size_toArray, cells_length _ none_dig]; exact size38)) rfl ⟨by rw [HV.out]; rfl, XN.out⟩
        · have da : ((k : Int) != (s.size : Int)) = true := by rw [bne_iff_ne]; omega
          have HV : Hid (parseV s.data.toList = .tuple #[.agg S.none.cells.toArray, .bool false]) := by
            show parseV _ = _
            unfold parseV parse
            rw [HR.out, if_neg]
            rintro ⟨h1, -⟩
            rw [hp2] at h1
            injection h1 with h1
            have := congrArg List.length h1
            rw [List.length_drop, len_data] at this
            simp at this
            omega
          clear HR hp2 HPL
          go_upto_region 32 with (fail)
          refine wp_region_lit ?_
          refine wpList_val rfl (.agg S.none.cells.toArray) (by as_aux_lemma => kernel_rfl) ?_
          simp only [Act.put, Act.eval, List.setIfInBounds_toArray, List.set_cons_zero, List.set_cons_succ, Nat.reduceAdd, Array.getD_eq_getD_getElem?, List.getElem?_toArray, List.getElem?_cons_succ, List.getElem?_cons_zero, Option.getD_some]
          have h2 := H2.out
          refine wpList_store_mid rfl 25 _ _ rfl g2 0 ((S.none).cells).toArray rfl ?_ (h2.there _ (by have e1 := cells_length _ none_dig; have e2 := cells_length _ none_dig; rw [List.size_toArray]; omega)) (by rw [List.size_toArray, cells_length _ none_dig]; exact size38) (all_oneCell_toArray (oneS _)) ?_
          · rfl
          simp only [List.toList_toArray]
          simp only [Act.put, Act.eval, List.setIfInBounds_toArray, List.set_cons_zero, List.set_cons_succ, Nat.reduceAdd, Array.getD_eq_getD_getElem?, List.getElem?_toArray, List.getElem?_cons_succ, List.getElem?_cons_zero, Option.getD_some]
          have HN := Lib.hid (h2.setAll S.none.cells rfl)
          have XN := Lib.hid (X.out.trans_but (But.setCells g2 S.none.cells 0 wi) l2)
          generalize wi.setCells g2 0 S.none.cells = wn at *
          clear h2 H2 X
          go_wp2_with fail
          exact bodyPost_ret (results_row2 rfl _ _ g2 25 (S.none.cells).toArray (0, 0) _ rfl HN.out undS rfl (by rw [List.size_toArray, cells_length _ none_dig]; exact size38)) rfl ⟨by rw [HV.out]; rfl, XN.out⟩
      -- B}
    ·
      -- {C
      have HR : Hid (parsed s.data.toList = pNames p) := HPR
      rw [show (F.cells ⟨true, false, false, false⟩) = [.bool true, .bool false, .bool false, .bool false] from rfl]
      go_upto_region 7 with (fail)
      have hbf : Blk (w5.alloc (Obj.cells #[Value.bool true, Value.bool false, Value.bool false, Value.bool false] 66)) w5.heap.size 66 [.bool true, .bool false, .bool false, .bool false] := Blk.new w5 66 #[Value.bool true, Value.bool false, Value.bool false, Value.bool false]
      have hxf := Reg.Ext.alloc w5 (Obj.cells #[Value.bool true, Value.bool false, Value.bool false, Value.bool false] 66)
      have HF := Lib.hid hbf
      have HYn := Lib.hid (HY.out.ext hxf)
      have H2n := Lib.hid (H2.out.ext hxf)
      have Xn := Lib.hid (X.out.trans hxf)
      have l45 := HY.out.lt
      clear HY H2 X hbf hxf
      have HY := HYn
      have H2 := H2n
      have X := Xn
      clear HYn H2n Xn
      generalize w5.alloc (Obj.cells #[Value.bool true, Value.bool false, Value.bool false, Value.bool false] 66) = wi at *
      generalize w5.heap.size = g5 at *
      generalize (1 : Int) = a at HPL ⊢
      have p0 : wi.cell? ⟨g5, 0, none⟩ = some (.bool true) := HF.out.cell 0
      have p1 : wi.cell? ⟨g5, 1, none⟩ = some (.bool false) := HF.out.cell 1
      have p2 : wi.cell? ⟨g5, 2, none⟩ = some (.bool false) := HF.out.cell 2
      have p3 : wi.cell? ⟨g5, 3, none⟩ = some (.bool false) := HF.out.cell 3
      have C1 := Lib.hid (took_any s p.2 a wi hs HPL.out)
      go_wp2_with fail
      refine (C1.out).mono ?_
      rintro e wj ⟨a1, rfl, hp1, xj⟩
      have HP1 := Lib.hid hp1
      clear C1 hp1 p0 p1 p2 p3
      have HYn := Lib.hid (HY.out.ext xj)
      have HFn := Lib.hid (HF.out.ext xj)
      have H2n := Lib.hid (H2.out.ext xj)
      have Xn := Lib.hid (X.out.trans xj)
      clear xj HY HF H2 X
      try clear wi
      have HY := HYn
      have HF := HFn
      have H2 := H2n
      have X := Xn
      clear HYn HFn H2n Xn
      generalize wj = wi at *
      have C2 := Lib.hid (took_any s (textS p.2).2 a1 wi hs HP1.out)
      go_wp2_with fail
      refine (C2.out).mono ?_
      rintro e wj ⟨a2, rfl, hp2, xj⟩
      have HP2 : Hid (Plc s.data.toList (pNames p).2 a2) := hp2
      clear C2 hp2 HP1 HPL
      have HYn := Lib.hid (HY.out.ext xj)
      have HFn := Lib.hid (HF.out.ext xj)
      have H2n := Lib.hid (H2.out.ext xj)
      have Xn := Lib.hid (X.out.trans xj)
      clear xj HY HF H2 X
      try clear wi
      have HY := HYn
      have HF := HFn
      have H2 := H2n
      have X := Xn
      clear HYn HFn H2n Xn
      generalize wj = wi at *
      have r1 : wi.cell? ⟨g4, 1, none⟩ = some (.string p.1.repo) := HY.out.cell 1
      have r2 : wi.cell? ⟨g4, 2, none⟩ = some (.string p.1.tag) := HY.out.cell 2
      have f1 := HY.out.frozen 1
      have f2 := HY.out.frozen 2
      have hs0 := (HY.out.set_ 1 (.string ⟨(textS p.2).1.toArray⟩)).set_ 2 (.string ⟨(textS (textS p.2).2).1.toArray⟩)
      rw [set1, set2] at hs0
      have hbx := (But.set_ g4 wi 1 (.string ⟨(textS p.2).1.toArray⟩)).trans (But.set_ g4 _ 2 (.string ⟨(textS (textS p.2).2).1.toArray⟩))
      have HYn : Hid (Blk ((wi.setCell ⟨g4, 1, none⟩ (.string ⟨(textS p.2).1.toArray⟩)).setCell ⟨g4, 2, none⟩ (.string ⟨(textS (textS p.2).2).1.toArray⟩)) g4 25 (pNames p).1.cells) := hs0
      clear hs0
      go_upto_region 13 with (fail)
      clear r1 r2 f1 f2
      have HDn : (pNames p).1.dig.length = 32 := HD
      have HFn := Lib.hid (HF.out.but hbx (by omega))
      have H2n := Lib.hid (H2.out.but hbx (by omega))
      have Xn := Lib.hid (X.out.trans_but hbx l4)
      clear hbx HY HD HF H2 X
      generalize ((wi.setCell ⟨g4, 1, none⟩ (.string ⟨(textS p.2).1.toArray⟩)).setCell ⟨g4, 2, none⟩ (.string ⟨(textS (textS p.2).2).1.toArray⟩)) = wi at *
      generalize pNames p = p at *
      generalize a2 = a at *
      have HY := HYn
      have HD := HDn
      have HF := HFn
      have H2 := H2n
      have X := Xn
      have HPL := HP2
      clear HYn HDn HFn H2n Xn HP2
      have p0 : wi.cell? ⟨g5, 0, none⟩ = some (.bool true) := HF.out.cell 0
      have p1 : wi.cell? ⟨g5, 1, none⟩ = some (.bool false) := HF.out.cell 1
      have p2 : wi.cell? ⟨g5, 2, none⟩ = some (.bool false) := HF.out.cell 2
      have p3 : wi.cell? ⟨g5, 3, none⟩ = some (.bool false) := HF.out.cell 3
      rcases HPL.out with ⟨hp2, ha⟩ | ⟨k, hk, hp2, ha⟩
      · have HV : Hid (parseV s.data.toList = .tuple #[.agg S.none.cells.toArray, .bool false]) := by
          show parseV _ = _
          unfold parseV parse
          rw [HR.out, if_neg (by rw [hp2]; simp)]
        subst ha
        have da : ((-1 : Int) != (s.size : Int)) = true := by rw [bne_iff_ne]; omega
        clear HR hp2 HPL
        go_upto_region 32 with (fail)
        refine wp_region_lit ?_
        refine wpList_val rfl (.agg S.none.cells.toArray) (by as_aux_lemma => kernel_rfl) ?_
        simp only [Act.put, Act.eval, List.setIfInBounds_toArray, List.set_cons_zero, List.set_cons_succ, Nat.reduceAdd, Array.getD_eq_getD_getElem?, List.getElem?_toArray, List.getElem?_cons_succ, List.getElem?_cons_zero, Option.getD_some]
        have h2 := H2.out
        refine wpList_store_mid rfl 25 _ _ rfl g2 0 ((S.none).cells).toArray rfl ?_ (h2.there _ (by have e1 := cells_length _ none_dig; have e2 := cells_length _ none_dig; rw [List.size_toArray]; omega)) (by rw [List.size_toArray, cells_length _ none_dig]; exact size38) (all_oneCell_toArray (oneS _)) ?_
        · rfl
        simp only [List.toList_toArray]
        simp only [Act.put, Act.eval, List.setIfInBounds_toArray, List.set_cons_zero, List.set_cons_succ, Nat.reduceAdd, Array.getD_eq_getD_getElem?, List.getElem?_toArray, List.getElem?_cons_succ, List.getElem?_cons_zero, Option.getD_some]
        have HN := Lib.hid (h2.setAll S.none.cells rfl)
        have XN := Lib.hid (X.out.trans_but (But.setCells g2 S.none.cells 0 wi) l2)
        generalize wi.setCells g2 0 S.none.cells = wn at *
        clear h2 H2 X
        go_wp2_with fail
        exact bodyPost_ret (results_row2 rfl _ _ g2 25 (S.none.cells).toArray (0, 0) _ rfl HN.out undS rfl (by rw [List.size_toArray, cells_length _ none_dig]; exact size38)) rfl ⟨by rw [HV.out]; rfl, XN.out⟩
      · subst ha
        rw [len_data] at hk
        by_cases hks : k = s.size
        · have da : ((k : Int) != (s.size : Int)) = false := by rw [hks]; simp
          have hp3 : p.2 = some [] := by rw [hp2, List.drop_of_length_le (by rw [len_data]; omega)]
          have CG := Lib.hid (goodR_any p.1 HD wi)
          cases hg : good p.1 with
          | true =>
            have HV : Hid (parseV s.data.toList = .tuple #[.agg p.1.cells.toArray, .bool true]) := by
              show parseV _ = _
              unfold parseV parse
              rw [HR.out, if_pos ⟨hp3, hg⟩]
            rw [hg] at CG
            clear HR hp2 hp3 hg HPL
            go_upto_region 31 with (fail)
            refine wp_region_lit ?_
            repeat (first | refine wpList_ldr rfl _ _ rfl g4 rfl _ _ _ HY undS (by rw [cells_length p.1 HD]; exact size38) ?_ | go_step)
            refine (CG.out).mono ?_
            rintro e wj ⟨rfl, xj⟩
            rename_i hK
            refine hK _ _ ?_
            clear CG p0 p1 p2 p3
            have HYn := Lib.hid (HY.out.ext xj)
            have HFn := Lib.hid (HF.out.ext xj)
            have H2n := Lib.hid (H2.out.ext xj)
            have Xn := Lib.hid (X.out.trans xj)
            clear xj HY HF H2 X
            try clear wi
            have HY := HYn
            have HF := HFn
            have H2 := H2n
            have X := Xn
            clear HYn HFn H2n Xn
            generalize wj = wi at *
            go_upto_region 33 with (fail)
            refine wp_region_lit ?_
            have hyo := HY.out
            have h2 := H2.out
            refine wpList_load_row rfl 25 _ rfl g4 rfl 25 (p.1.cells).toArray (0, 0) _ hyo undS rfl (by rw [List.size_toArray, cells_length p.1 HD]; exact size38) ?_
            simp only [Act.put, Act.eval, List.setIfInBounds_toArray, List.set_cons_zero, List.set_cons_succ, Nat.reduceAdd, Array.getD_eq_getD_getElem?, List.getElem?_toArray, List.getElem?_cons_succ, List.getElem?_cons_zero, Option.getD_some]
            refine wpList_store_mid rfl 25 _ _ rfl g2 0 ((p.1).cells).toArray rfl ?_ (h2.there _ (by have e1 := cells_length _ HD; have e2 := cells_length _ none_dig; rw [List.size_toArray]; omega)) (by rw [List.size_toArray, cells_length _ HD]; exact size38) (all_oneCell_toArray (oneS _)) ?_
            · rfl
            simp only [List.toList_toArray]
            simp only [Act.put, Act.eval, List.setIfInBounds_toArray, List.set_cons_zero, List.set_cons_succ, Nat.reduceAdd, Array.getD_eq_getD_getElem?, List.getElem?_toArray, List.getElem?_cons_succ, List.getElem?_cons_zero, Option.getD_some]
            have HN := Lib.hid (h2.setAll p.1.cells ((cells_length _ HD).trans (cells_length _ none_dig).symm))
            have XN := Lib.hid (X.out.trans_but (But.setCells g2 p.1.cells 0 wi) l2)
            generalize wi.setCells g2 0 p.1.cells = wn at *
            clear h2 hyo H2 X HY
            go_wp2_with fail
            exact bodyPost_ret (results_row2 rfl _ _ g2 25 (p.1.cells).toArray (0, 0) _ rfl HN.out undS rfl (by rw [List.size_toArray, cells_length _ HD]; exact size38)) rfl ⟨by rw [HV.out]; rfl, XN.out⟩
          | false =>
            have HV : Hid (parseV s.data.toList = .tuple #[.agg S.none.cells.toArray, .bool false]) := by
              show parseV _ = _
              unfold parseV parse
              rw [HR.out, if_neg (by rw [hg]; simp)]
            rw [hg] at CG
            clear HR hp2 hp3 hg HPL
            go_upto_region 31 with (fail)
            refine wp_region_lit ?_
            repeat (first | refine wpList_ldr rfl _ _ rfl g4 rfl _ _ _ HY undS (by rw [cells_length p.1 HD]; exact size38) ?_ | go_step)
            refine (CG.out).mono ?_
            rintro e wj ⟨rfl, xj⟩
            rename_i hK
            refine hK _ _ ?_
            clear CG p0 p1 p2 p3
            have HYn := Lib.hid (HY.out.ext xj)
            have HFn := Lib.hid (HF.out.ext xj)
            have H2n := Lib.hid (H2.out.ext xj)
            have Xn := Lib.hid (X.out.trans xj)
            clear xj HY HF H2 X
            try clear wi
            have HY := HYn
            have HF := HFn
            have H2 := H2n
            have X := Xn
            clear HYn HFn H2n Xn
            generalize wj = wi at *
            go_upto_region 32 with (fail)
            refine wp_region_lit ?_
            refine wpList_val rfl (.agg S.none.cells.toArray) (by as_aux_lemma => kernel_rfl) ?_
            simp only [Act.put, Act.eval, List.setIfInBounds_toArray, List.set_cons_zero, List.set_cons_succ, Nat.reduceAdd, Array.getD_eq_getD_getElem?, List.getElem?_toArray, List.getElem?_cons_succ, List.getElem?_cons_zero, Option.getD_some]
            have h2 := H2.out
            refine wpList_store_mid rfl 25 _ _ rfl g2 0 ((S.none).cells).toArray rfl ?_ (h2.there _ (by have e1 := cells_length _ none_dig; have e2 := cells_length _ none_dig; rw [List.size_toArray]; omega)) (by rw [List.size_toArray, cells_length _ none_dig]; exact size38) (all_oneCell_toArray (oneS _)) ?_
            · rfl
            simp only [List.toList_toArray]
            simp only [Act.put, Act.eval, List.setIfInBounds_toArray, List.set_cons_zero, List.set_cons_succ, Nat.reduceAdd, Array.getD_eq_getD_getElem?, List.getElem?_toArray, List.getElem?_cons_succ, List.getElem?_cons_zero, Option.getD_some]
            have HN := Lib.hid (h2.setAll S.none.cells rfl)
            have XN := Lib.hid (X.out.trans_but (But.setCells g2 S.none.cells 0 wi) l2)
            generalize wi.setCells g2 0 S.none.cells = wn at *
            clear h2 H2 X
            go_wp2_with fail
            exact bodyPost_ret (results_row2 rfl _ _ g2 25 (S.none.cells).toArray (0, 0) _ rfl HN.out undS rfl (by rw [List.size_toArray, cells_length _ none_dig]; exact size38)) rfl ⟨by rw [HV.out]; rfl, XN.out⟩
        · have da : ((k : Int) != (s.size : Int)) = true := by rw [bne_iff_ne]; omega
          have HV : Hid (parseV s.data.toList = .tuple #[.agg S.none.cells.toArray, .bool false]) := by
            show parseV _ = _
            unfold parseV parse
            rw [HR.out, if_neg]
            rintro ⟨h1, -⟩
            rw [hp2] at h1
            injection h1 with h1
            have := congrArg List.length h1
            rw [List.length_drop, len_data] at this
            simp at this
            omega
          clear HR hp2 HPL
          go_upto_region 32 with (fail)
          refine wp_region_lit ?_
          refine wpList_val rfl (.agg S.none.cells.toArray) (by as_aux_lemma => kernel_rfl) ?_
          simp only [Act.put, Act.eval, List.setIfInBounds_toArray, List.set_cons_zero, List.set_cons_succ, Nat.reduceAdd, Array.getD_eq_getD_getElem?, List.getElem?_toArray, List.getElem?_cons_succ, List.getElem?_cons_zero, Option.getD_some]
          have h2 := H2.out
          refine wpList_store_mid rfl 25 _ _ rfl g2 0 ((S.none).cells).toArray rfl ?_ (h2.there _ (by have e1 := cells_length _ none_dig; have e2 := cells_length _ none_dig; rw [List.size_toArray]; omega)) (by rw [List.size_toArray, cells_length _ none_dig]; exact size38) (all_oneCell_toArray (oneS _)) ?_
          · rfl
          simp only [List.toList_toArray]
          simp only [Act.put, Act.eval, List.setIfInBounds_toArray, List.set_cons_zero, List.set_cons_succ, Nat.reduceAdd, Array.getD_eq_getD_getElem?, List.getElem?_toArray, List.getElem?_cons_succ, List.getElem?_cons_zero, Option.getD_some]
          have HN := Lib.hid (h2.setAll S.none.cells rfl)
          have XN := Lib.hid (X.out.trans_but (But.setCells g2 S.none.cells 0 wi) l2)
          generalize wi.setCells g2 0 S.none.cells = wn at *
          clear h2 H2 X
          go_wp2_with fail
          exact bodyPost_ret (results_row2 rfl _ _ g2 25 (S.none.cells).toArray (0, 0) _ rfl HN.out undS rfl (by rw [List.size_toArray, cells_length _ none_dig]; exact size38)) rfl ⟨by rw [HV.out]; rfl, XN.out⟩
      -- C}
    ·
      -- {D
      have HR : Hid (parsed s.data.toList = pThing (pDig p)) := HPR
      rw [show (F.cells ⟨false, true, true, false⟩) = [.bool false, .bool true, .bool true, .bool false] from rfl]
      go_upto_region 7 with (fail)
      have hbf : Blk (w5.alloc (Obj.cells #[Value.bool false, Value.bool true, Value.bool true, Value.bool false] 66)) w5.heap.size 66 [.bool false, .bool true, .bool true, .bool false] := Blk.new w5 66 #[Value.bool false, Value.bool true, Value.bool true, Value.bool false]
      have hxf := Reg.Ext.alloc w5 (Obj.cells #[Value.bool false, Value.bool true, Value.bool true, Value.bool false] 66)
      have HF := Lib.hid hbf
      have HYn := Lib.hid (HY.out.ext hxf)
      have H2n := Lib.hid (H2.out.ext hxf)
      have Xn := Lib.hid (X.out.trans hxf)
      have l45 := HY.out.lt
      clear HY H2 X hbf hxf
      have HY := HYn
      have H2 := H2n
      have X := Xn
      clear HYn H2n Xn
      generalize w5.alloc (Obj.cells #[Value.bool false, Value.bool true, Value.bool true, Value.bool false] 66) = wi at *
      generalize w5.heap.size = g5 at *
      generalize (1 : Int) = a at HPL ⊢
      have p0 : wi.cell? ⟨g5, 0, none⟩ = some (.bool false) := HF.out.cell 0
      have p1 : wi.cell? ⟨g5, 1, none⟩ = some (.bool true) := HF.out.cell 1
      have p2 : wi.cell? ⟨g5, 2, none⟩ = some (.bool true) := HF.out.cell 2
      have p3 : wi.cell? ⟨g5, 3, none⟩ = some (.bool false) := HF.out.cell 3
      rcases HPL.out with ⟨hp2, ha⟩ | ⟨k, hk, hp2, ha⟩
      · have hpd : pDig p = (p.1, none) := by unfold pDig; rw [hp2]; rfl
        subst ha
        -- {N
        go_upto_region 21 with (fail)
        clear p0 p1 p2 p3 HPL hp2
        have HPL : Hid (Plc s.data.toList (pDig p).2 (-1)) := .inl ⟨by rw [hpd], rfl⟩
        have HYn : Hid (Blk wi g4 25 (pDig p).1.cells) := by rw [hpd]; exact HY.out
        have HDn : (pDig p).1.dig.length = 32 := pDig_len p HD
        clear HY HD hpd
        generalize pDig p = p at *
        generalize (-1 : Int) = a at HPL ⊢
        have HY := HYn
        have HD := HDn
        clear HYn HDn
        have p0 : wi.cell? ⟨g5, 0, none⟩ = some (.bool false) := HF.out.cell 0
        have p1 : wi.cell? ⟨g5, 1, none⟩ = some (.bool true) := HF.out.cell 1
        have p2 : wi.cell? ⟨g5, 2, none⟩ = some (.bool true) := HF.out.cell 2
        have p3 : wi.cell? ⟨g5, 3, none⟩ = some (.bool false) := HF.out.cell 3
        have C1 := Lib.hid (took_any s p.2 a wi hs HPL.out)
        go_wp2_with fail
        refine (C1.out).mono ?_
        rintro e wj ⟨a1, rfl, hp1, xj⟩
        have HP1 := Lib.hid hp1
        clear C1 hp1 p0 p1 p2 p3
        have HYn := Lib.hid (HY.out.ext xj)
        have HFn := Lib.hid (HF.out.ext xj)
        have H2n := Lib.hid (H2.out.ext xj)
        have Xn := Lib.hid (X.out.trans xj)
        clear xj HY HF H2 X
        try clear wi
        have HY := HYn
        have HF := HFn
        have H2 := H2n
        have X := Xn
        clear HYn HFn H2n Xn
        generalize wj = wi at *
        have C2 := Lib.hid (counted_any s (textS p.2).2 a1 wi hs HP1.out)
        go_wp2_with fail
        refine (C2.out).mono ?_
        rintro e wj ⟨a2, rfl, hp2, xj⟩
        have HP2 : Hid (Plc s.data.toList (pThing p).2 a2) := hp2
        clear C2 hp2 HP1 HPL
        have HYn := Lib.hid (HY.out.ext xj)
        have HFn := Lib.hid (HF.out.ext xj)
        have H2n := Lib.hid (H2.out.ext xj)
        have Xn := Lib.hid (X.out.trans xj)
        clear xj HY HF H2 X
        try clear wi
        have HY := HYn
        have HF := HFn
        have H2 := H2n
        have X := Xn
        clear HYn HFn H2n Xn
        generalize wj = wi at *
        have r1 : wi.cell? ⟨g4, 35, none⟩ = some (.string p.1.typ) := by rw [HY.out.cell, at35 p.1 HD]
        have r2 : wi.cell? ⟨g4, 36, none⟩ = some (.int .i64 p.1.size) := by rw [HY.out.cell, at36 p.1 HD]
        have f1 := HY.out.frozen 35
        have f2 := HY.out.frozen 36
        have hs0 := HY.out.set_ 35 (.string ⟨(textS p.2).1.toArray⟩)
        rw [set35 p.1 HD] at hs0
        have hs1 := hs0.set_ 36 (.int .i64 ((numS (textS p.2).2).1 : Int))
        rw [set36 ({ p.1 with typ := ⟨(textS p.2).1.toArray⟩ } : S) HD] at hs1
        have hbx := (But.set_ g4 wi 35 (.string ⟨(textS p.2).1.toArray⟩)).trans (But.set_ g4 _ 36 (.int .i64 ((numS (textS p.2).2).1 : Int)))
        have HYn : Hid (Blk ((wi.setCell ⟨g4, 35, none⟩ (.string ⟨(textS p.2).1.toArray⟩)).setCell ⟨g4, 36, none⟩ (.int .i64 ((numS (textS p.2).2).1 : Int))) g4 25 (pThing p).1.cells) := hs1
        clear hs0 hs1
        go_upto_region 27 with (fail)
        clear r1 r2 f1 f2
        have HDn : (pThing p).1.dig.length = 32 := HD
        have HFn := Lib.hid (HF.out.but hbx (by omega))
        have H2n := Lib.hid (H2.out.but hbx (by omega))
        have Xn := Lib.hid (X.out.trans_but hbx l4)
        clear hbx HY HD HF H2 X
        generalize ((wi.setCell ⟨g4, 35, none⟩ (.string ⟨(textS p.2).1.toArray⟩)).setCell ⟨g4, 36, none⟩ (.int .i64 ((numS (textS p.2).2).1 : Int))) = wi at *
        generalize pThing p = p at *
        generalize a2 = a at *
        have HY := HYn
        have HD := HDn
        have HF := HFn
        have H2 := H2n
        have X := Xn
        have HPL := HP2
        clear HYn HDn HFn H2n Xn HP2
        have p0 : wi.cell? ⟨g5, 0, none⟩ = some (.bool false) := HF.out.cell 0
        have p1 : wi.cell? ⟨g5, 1, none⟩ = some (.bool true) := HF.out.cell 1
        have p2 : wi.cell? ⟨g5, 2, none⟩ = some (.bool true) := HF.out.cell 2
        have p3 : wi.cell? ⟨g5, 3, none⟩ = some (.bool false) := HF.out.cell 3
        rcases HPL.out with ⟨hp2, ha⟩ | ⟨k, hk, hp2, ha⟩
        · have HV : Hid (parseV s.data.toList = .tuple #[.agg S.none.cells.toArray, .bool false]) := by
            show parseV _ = _
            unfold parseV parse
            rw [HR.out, if_neg (by rw [hp2]; simp)]
          subst ha
          have da : ((-1 : Int) != (s.size : Int)) = true := by rw [bne_iff_ne]; omega
          clear HR hp2 HPL
          go_upto_region 32 with (fail)
          refine wp_region_lit ?_
          refine wpList_val rfl (.agg S.none.cells.toArray) (by as_aux_lemma => kernel_rfl) ?_
          simp only [Act.put, Act.eval, List.setIfInBounds_toArray, List.set_cons_zero, List.set_cons_succ, Nat.reduceAdd, Array.getD_eq_getD_getElem?, List.getElem?_toArray, List.getElem?_cons_succ, List.getElem?_cons_zero, Option.getD_some]
          have h2 := H2.out
          refine wpList_store_mid rfl 25 _ _ rfl g2 0 ((S.none).cells).toArray rfl ?_ (h2.there _ (by have e1 := cells_length _ none_dig; have e2 := cells_length _ none_dig; rw [List.size_toArray]; omega)) (by rw [List.size_toArray, cells_length _ none_dig]; exact size38) (all_oneCell_toArray (oneS _)) ?_
          · rfl
          simp only [List.toList_toArray]
          simp only [Act.put, Act.eval, List.setIfInBounds_toArray, List.set_cons_zero, List.set_cons_succ, Nat.reduceAdd, Array.getD_eq_getD_getElem?, List.getElem?_toArray, List.getElem?_cons_succ, List.getElem?_cons_zero, Option.getD_some]
          have HN := Lib.hid (h2.setAll S.none.cells rfl)
          have XN := Lib.hid (X.out.trans_but (But.setCells g2 S.none.cells 0 wi) l2)
          generalize wi.setCells g2 0 S.none.cells = wn at *
          clear h2 H2 X
          go_wp2_with fail
          exact bodyPost_ret (results_row2 rfl _ _ g2 25 (S.none.cells).toArray (0, 0) _ rfl HN.out undS rfl (by rw [List.size_toArray, cells_length _ none_dig]; exact size38)) rfl ⟨by rw [HV.out]; rfl, XN.out⟩
        · subst ha
          rw [len_data] at hk
          by_cases hks : k = s.size
          · have da : ((k : Int) != (s.size : Int)) = false := by rw [hks]; simp
            have hp3 : p.2 = some [] := by rw [hp2, List.drop_of_length_le (by rw [len_data]; omega)]
            have CG := Lib.hid (goodR_any p.1 HD wi)
            cases hg : good p.1 with
            | true =>
              have HV : Hid (parseV s.data.toList = .tuple #[.agg p.1.cells.toArray, .bool true]) := by
                show parseV _ = _
                unfold parseV parse
                rw [HR.out, if_pos ⟨hp3, hg⟩]
              rw [hg] at CG
              clear HR hp2 hp3 hg HPL
              go_upto_region 31 with (fail)
              refine wp_region_lit ?_
              repeat (first | refine wpList_ldr rfl _ _ rfl g4 rfl _ _ _ HY undS (by rw [cells_length p.1 HD]; exact size38) ?_ | go_step)
              refine (CG.out).mono ?_
              rintro e wj ⟨rfl, xj⟩
              rename_i hK
              refine hK _ _ ?_
              clear CG p0 p1 p2 p3
              have HYn := Lib.hid (HY.out.ext xj)
              have HFn := Lib.hid (HF.out.ext xj)
              have H2n := Lib.hid (H2.out.ext xj)
              have Xn := Lib.hid (X.out.trans xj)
              clear xj HY HF H2 X
              try clear wi
              have HY := HYn
              have HF := HFn
              have H2 := H2n
              have X := Xn
              clear HYn HFn H2n Xn
              generalize wj = wi at *
              go_upto_region 33 with (fail)
              refine wp_region_lit ?_
              have hyo := HY.out
              have h2 := H2.out
              refine wpList_load_row rfl 25 _ rfl g4 rfl 25 (p.1.cells).toArray (0, 0) _ hyo undS rfl (by rw [List.size_toArray, cells_length p.1 HD]; exact size38) ?_
              simp only [Act.put, Act.eval, List.setIfInBounds_toArray, List.set_cons_zero, List.set_cons_succ, Nat.reduceAdd, Array.getD_eq_getD_getElem?, List.getElem?_toArray, List.getElem?_cons_succ, List.getElem?_cons_zero, Option.getD_some]
              refine wpList_store_mid rfl 25 _ _ rfl g2 0 ((p.1).cells).toArray rfl ?_ (h2.there _ (by have e1 := cells_length _ HD; have e2 := cells_length _ none_dig; rw [List.size_toArray]; omega)) (by rw [List.size_toArray, cells_length _ HD]; exact size38) (all_oneCell_toArray (oneS _)) ?_
              · rfl
              simp only [List.toList_toArray]
              simp only [Act.put, Act.eval, List.setIfInBounds_toArray, List.set_cons_zero, List.set_cons_succ, Nat.reduceAdd, Array.getD_eq_getD_getElem?, List.getElem?_toArray, List.getElem?_cons_succ, List.getElem?_cons_zero, Option.getD_some]
              have HN := Lib.hid (h2.setAll p.1.cells ((cells_length _ HD).trans (cells_length _ none_dig).symm))
              have XN := Lib.hid (X.out.trans_but (But.setCells g2 p.1.cells 0 wi) l2)
              generalize wi.setCells g2 0 p.1.cells = wn at *
              clear h2 hyo H2 X HY
              go_wp2_with fail
              exact bodyPost_ret (results_row2 rfl _ _ g2 25 (p.1.cells).toArray (0, 0) _ rfl HN.out undS rfl (by rw [List.size_toArray, cells_length _ HD]; exact size38)) rfl ⟨by rw [HV.out]; rfl, XN.out⟩
            | false =>
              have HV : Hid (parseV s.data.toList = .tuple #[.agg S.none.cells.toArray, .bool false]) := by
                show parseV _ = _
                unfold parseV parse
                rw [HR.out, if_neg (by rw [hg]; simp)]
              rw [hg] at CG
              clear HR hp2 hp3 hg HPL
              go_upto_region 31 with (fail)
              refine wp_region_lit ?_
              repeat (first | refine wpList_ldr rfl _ _ rfl g4 rfl _ _ _ HY undS (by rw [cells_length p.1 HD]; exact size38) ?_ | go_step)
              refine (CG.out).mono ?_
              rintro e wj ⟨rfl, xj⟩
              rename_i hK
              refine hK _ _ ?_
              clear CG p0 p1 p2 p3
              have HYn := Lib.hid (HY.out.ext xj)
              have HFn := Lib.hid (HF.out.ext xj)
              have H2n := Lib.hid (H2.out.ext xj)
              have Xn := Lib.hid (X.out.trans xj)
              clear xj HY HF H2 X
              try clear wi
              have HY := HYn
              have HF := HFn
              have H2 := H2n
              have X := Xn
              clear HYn HFn H2n Xn
              generalize wj = wi at *
              go_upto_region 32 with (fail)
              refine wp_region_lit ?_
              refine wpList_val rfl (.agg S.none.cells.toArray) (by as_aux_lemma => kernel_rfl) ?_
              simp only [Act.put, Act.eval, List.setIfInBounds_toArray, List.set_cons_zero, List.set_cons_succ, Nat.reduceAdd, Array.getD_eq_getD_getElem?, List.getElem?_toArray, List.getElem?_cons_succ, List.getElem?_cons_zero, Option.getD_some]
              have h2 := H2.out
              refine wpList_store_mid rfl 25 _ _ rfl g2 0 ((S.none).cells).toArray rfl ?_ (h2.there _ (by have e1 := cells_length _ none_dig; have e2 := cells_length _ none_dig; rw [List.size_toArray]; omega)) (by rw [List.size_toArray, cells_length _ none_dig]; exact size38) (all_oneCell_toArray (oneS _)) ?_
              · rfl
              simp only [List.toList_toArray]
              simp only [Act.put, Act.eval, List.setIfInBounds_toArray, List.set_cons_zero, List.set_cons_succ, Nat.reduceAdd, Array.getD_eq_getD_getElem?, List.getElem?_toArray, List.getElem?_cons_succ, List.getElem?_cons_zero, Option.getD_some]
              have HN := Lib.hid (h2.setAll S.none.cells rfl)
              have XN := Lib.hid (X.out.trans_but (But.setCells g2 S.none.cells 0 wi) l2)
              generalize wi.setCells g2 0 S.none.cells = wn at *
              clear h2 H2 X
              go_wp2_with fail
              exact bodyPost_ret (results_row2 rfl _ _ g2 25 (S.none.cells).toArray (0, 0) _ rfl HN.out undS rfl (by rw [List.size_toArray, cells_length _ none_dig]; exact size38)) rfl ⟨by rw [HV.out]; rfl, XN.out⟩
          · have da : ((k : Int) != (s.size : Int)) = true := by rw [bne_iff_ne]; omega
            have HV : Hid (parseV s.data.toList = .tuple #[.agg S.none.cells.toArray, .bool false]) := by
              show parseV _ = _
              unfold parseV parse
              rw [HR.out, if_neg]
              rintro ⟨h1, -⟩
              rw [hp2] at h1
              injection h1 with h1
              have := congrArg List.length h1
              rw [List.length_drop, len_data] at this
              simp at this
              omega
            clear HR hp2 HPL
            go_upto_region 32 with (fail)
            refine wp_region_lit ?_
            refine wpList_val rfl (.agg S.none.cells.toArray) (by as_aux_lemma => kernel_rfl) ?_
            simp only [Act.put, Act.eval, List.setIfInBounds_toArray, List.set_cons_zero, List.set_cons_succ, Nat.reduceAdd, Array.getD_eq_getD_getElem?, List.getElem?_toArray, List.getElem?_cons_succ, List.getElem?_cons_zero, Option.getD_some]
            have h2 := H2.out
            refine wpList_store_mid rfl 25 _ _ rfl g2 0 ((S.none).cells).toArray rfl ?_ (h2.there _ (by have e1 := cells_length _ none_dig; have e2 := cells_length _ none_dig; rw [List.size_toArray]; omega)) (by rw [List.size_toArray, cells_length _ none_dig]; exact size38) (all_oneCell_toArray (oneS _)) ?_
            · rfl
            simp only [List.toList_toArray]
            simp only [Act.put, Act.eval, List.setIfInBounds_toArray, List.set_cons_zero, List.set_cons_succ, Nat.reduceAdd, Array.getD_eq_getD_getElem?, List.getElem?_toArray, List.getElem?_cons_succ, List.getElem?_cons_zero, Option.getD_some]
            have HN := Lib.hid (h2.setAll S.none.cells rfl)
            have XN := Lib.hid (X.out.trans_but (But.setCells g2 S.none.cells 0 wi) l2)
            generalize wi.setCells g2 0 S.none.cells = wn at *
            clear h2 H2 X
            go_wp2_with fail
            exact bodyPost_ret (results_row2 rfl _ _ g2 25 (S.none.cells).toArray (0, 0) _ rfl HN.out undS rfl (by rw [List.size_toArray, cells_length _ none_dig]; exact size38)) rfl ⟨by rw [HV.out]; rfl, XN.out⟩
        -- N}
      · subst ha
        rw [len_data] at hk
        have dk0 : decide ((0 : Int) ≤ (k : Int)) = true := by rw [decide_eq_true_iff]; omega
        by_cases h32 : k + 32 ≤ s.size
        · have d32 : decide ((32 : Int) ≤ (s.size : Int) - (k : Int)) = true := by rw [decide_eq_true_iff]; omega
          -- {Y
          have hml : ((s.data.toList.drop k).take 32).length = 32 := by rw [List.length_take, List.length_drop, len_data]; omega
          have hpd : pDig p = ({ p.1 with dig := (s.data.toList.drop k).take 32 }, some (s.data.toList.drop (k + 32))) := by
            unfold pDig
            rw [hp2, take_ok (by rw [List.length_drop, len_data]; omega), if_neg (by intro e; have e2 := congrArg List.length e; simp only at e2; rw [hml] at e2; cases e2), List.drop_drop]
          have HM : Hid (∀ j (hj : j < 32), ∃ hq : k + j < s.data.toList.length, ((s.data.toList.drop k).take 32)[j]? = some (s.data.toList[k + j]'hq)) := by
            intro j hj
            have hq : k + j < s.data.toList.length := by rw [len_data]; omega
            refine ⟨hq, ?_⟩
            rw [List.getElem?_take_of_lt (by omega), List.getElem?_drop, List.getElem?_eq_getElem hq]
          have HPD := Lib.hid hpd
          have HML := Lib.hid hml
          generalize (s.data.toList.drop k).take 32 = m at *
          have HPK2 : Hid (Plc s.data.toList (some (s.data.toList.drop (k + 32))) ((k : Int) + 32)) := .inr ⟨k + 32, by rw [len_data]; omega, rfl, by omega⟩
          clear hpd hml HPL hp2
          go_upto_region 14 with (fail)
          clear p0 p1 p2 p3 dk0 d32
          have HY0 : Hid (Blk wi g4 25 ({ p.1 with dig := m.take 0 ++ p.1.dig.drop 0 } : S).cells) := HY.out
          go_wp2_with fail
          go_loopw [11] (fun i wr => ∃ j : Nat, j ≤ 32 ∧ i = .int .i64 (j : Int) ∧ Hid (Blk wr g4 25 ({ p.1 with dig := m.take j ++ p.1.dig.drop j } : S).cells) ∧ Hid (But g4 wi wr)) (fun i _ => 32 - (intOf i).toNat)
          case atStart => exact ⟨0, by omega, rfl, HY0, But.refl _ _⟩
          case round =>
            obtain ⟨j, hj, rfl, HYJ, HB⟩ := hrel
            clear HY0
            have hjd : (m.take j ++ p.1.dig.drop j).length = 32 := by rw [List.length_append, List.length_take, List.length_drop, HML.out, HD]; omega
            by_cases hjl : j < 32
            · have dj : decide ((j : Int) < 32) = true := by rw [decide_eq_true_iff]; omega
              obtain ⟨hq, hmj⟩ := HM.out j hjl
              have hjm : j < m.length := by rw [HML.out]; exact hjl
              rw [List.getElem?_eq_getElem hjm] at hmj
              injection hmj with hmj
              have hix := index_any s (k + j) (by rw [len_data] at hq; exact hq)
              rw [← hmj, show ((k + j : Nat) : Int) = (k : Int) + (j : Int) by omega] at hix
              have hbl := HYJ.out.set_ (3 + j) (byteV m[j])
              rw [set_dig _ j _ (by rw [hjd]; exact hjl)] at hbl
              have hset : (m.take j ++ p.1.dig.drop j).set j m[j] = m.take (j + 1) ++ p.1.dig.drop (j + 1) := set_next m p.1.dig j hjm (by rw [HD]; exact hjl)
              simp only at hbl
              rw [hset] at hbl
              have r1 : wr.cell? ⟨g4, 3 + j, none⟩ = some (byteV ((m.take j ++ p.1.dig.drop j)[j]'(by rw [hjd]; exact hjl))) := range_dig HYJ.out j _ (by rw [List.getElem?_map, List.getElem?_eq_getElem (by rw [hjd]; exact hjl)]; rfl)
              have f1 := HYJ.out.frozen (3 + j)
              generalize byteV ((m.take j ++ p.1.dig.drop j)[j]'(by rw [hjd]; exact hjl)) = old at *
              have HBL : Hid (Blk (wr.setCell ⟨g4, 3 + j, none⟩ (.int .u8 (m[j].toNat : Int))) g4 25 ({ p.1 with dig := m.take (j + 1) ++ p.1.dig.drop (j + 1) } : S).cells) := hbl
              have HB2 : Hid (But g4 wi (wr.setCell ⟨g4, 3 + j, none⟩ (.int .u8 (m[j].toNat : Int)))) := HB.out.trans (But.set_ _ _ _ _)
              have hcl := (m[j]).toNat_lt
              clear hbl hset hq hmj HYJ HB hjd
              generalize m[j].toNat = c at *
              go_wp2_with fail
              go_roundw
              case rel => exact ⟨j + 1, by omega, by go_num, HBL, HB2⟩
              case measure => simp [intOf]; omega
            · have hje : j = 32 := by omega
              subst hje
              have dj : decide (((32 : Nat) : Int) < 32) = false := by decide
              have HYn : Hid (Blk wr g4 25 (pDig p).1.cells) := by
                rw [HPD.out]
                have h := HYJ.out
                rw [List.take_of_length_le (by rw [HML.out]; exact Nat.le_refl _), List.drop_of_length_le (by rw [HD]; exact Nat.le_refl _), List.append_nil] at h
                exact h
              have HPLn : Hid (Plc s.data.toList (pDig p).2 ((k : Int) + 32)) := by rw [HPD.out]; exact HPK2.out
              have HDn : (pDig p).1.dig.length = 32 := pDig_len p HD
              have HFn := Lib.hid (HF.out.but HB.out (by omega))
              have H2n := Lib.hid (H2.out.but HB.out (by omega))
              have Xn := Lib.hid (X.out.trans_but HB.out l4)
              clear HF H2 X HY HD HB HYJ HPK2 HPD HM HML hjd
              go_upto_region 21 with (fail)
              generalize pDig p = p at *
              generalize (k : Int) + 32 = a at HPLn ⊢
              generalize wr = wi at *
              have HY := HYn
              have HD := HDn
              have HF := HFn
              have H2 := H2n
              have X := Xn
              have HPL := HPLn
              clear HYn HDn HFn H2n Xn HPLn
              have p0 : wi.cell? ⟨g5, 0, none⟩ = some (.bool false) := HF.out.cell 0
              have p1 : wi.cell? ⟨g5, 1, none⟩ = some (.bool true) := HF.out.cell 1
              have p2 : wi.cell? ⟨g5, 2, none⟩ = some (.bool true) := HF.out.cell 2
              have p3 : wi.cell? ⟨g5, 3, none⟩ = some (.bool false) := HF.out.cell 3
              have C1 := Lib.hid (took_any s p.2 a wi hs HPL.out)
              go_wp2_with fail
              refine (C1.out).mono ?_
              rintro e wj ⟨a1, rfl, hp1, xj⟩
              have HP1 := Lib.hid hp1
              clear C1 hp1 p0 p1 p2 p3
              have HYn := Lib.hid (HY.out.ext xj)
              have HFn := Lib.hid (HF.out.ext xj)
              have H2n := Lib.hid (H2.out.ext xj)
              have Xn := Lib.hid (X.out.trans xj)
              clear xj HY HF H2 X
              try clear wi
              have HY := HYn
              have HF := HFn
              have H2 := H2n
              have X := Xn
              clear HYn HFn H2n Xn
              generalize wj = wi at *
              have C2 := Lib.hid (counted_any s (textS p.2).2 a1 wi hs HP1.out)
              go_wp2_with fail
              refine (C2.out).mono ?_
              rintro e wj ⟨a2, rfl, hp2, xj⟩
              have HP2 : Hid (Plc s.data.toList (pThing p).2 a2) := hp2
              clear C2 hp2 HP1 HPL
              have HYn := Lib.hid (HY.out.ext xj)
              have HFn := Lib.hid (HF.out.ext xj)
              have H2n := Lib.hid (H2.out.ext xj)
              have Xn := Lib.hid (X.out.trans xj)
              clear xj HY HF H2 X
              try clear wi
              have HY := HYn
              have HF := HFn
              have H2 := H2n
              have X := Xn
              clear HYn HFn H2n Xn
              generalize wj = wi at *
              have r1 : wi.cell? ⟨g4, 35, none⟩ = some (.string p.1.typ) := by rw [HY.out.cell, at35 p.1 HD]
              have r2 : wi.cell? ⟨g4, 36, none⟩ = some (.int .i64 p.1.size) := by rw [HY.out.cell, at36 p.1 HD]
              have f1 := HY.out.frozen 35
              have f2 := HY.out.frozen 36
              have hs0 := HY.out.set_ 35 (.string ⟨(textS p.2).1.toArray⟩)
              rw [set35 p.1 HD] at hs0
              have hs1 := hs0.set_ 36 (.int .i64 ((numS (textS p.2).2).1 : Int))
              rw [set36 ({ p.1 with typ := ⟨(textS p.2).1.toArray⟩ } : S) HD] at hs1
              have hbx := (But.set_ g4 wi 35 (.string ⟨(textS p.2).1.toArray⟩)).trans (But.set_ g4 _ 36 (.int .i64 ((numS (textS p.2).2).1 : Int)))
              have HYn : Hid (Blk ((wi.setCell ⟨g4, 35, none⟩ (.string ⟨(textS p.2).1.toArray⟩)).setCell ⟨g4, 36, none⟩ (.int .i64 ((numS (textS p.2).2).1 : Int))) g4 25 (pThing p).1.cells) := hs1
              clear hs0 hs1
              go_upto_region 27 with (fail)
              clear r1 r2 f1 f2
              have HDn : (pThing p).1.dig.length = 32 := HD
              have HFn := Lib.hid (HF.out.but hbx (by omega))
              have H2n := Lib.hid (H2.out.but hbx (by omega))
              have Xn := Lib.hid (X.out.trans_but hbx l4)
              clear hbx HY HD HF H2 X
              generalize ((wi.setCell ⟨g4, 35, none⟩ (.string ⟨(textS p.2).1.toArray⟩)).setCell ⟨g4, 36, none⟩ (.int .i64 ((numS (textS p.2).2).1 : Int))) = wi at *
              generalize pThing p = p at *
              generalize a2 = a at *
              have HY := HYn
              have HD := HDn
              have HF := HFn
              have H2 := H2n
              have X := Xn
              have HPL := HP2
              clear HYn HDn HFn H2n Xn HP2
              have p0 : wi.cell? ⟨g5, 0, none⟩ = some (.bool false) := HF.out.cell 0
              have p1 : wi.cell? ⟨g5, 1, none⟩ = some (.bool true) := HF.out.cell 1
              have p2 : wi.cell? ⟨g5, 2, none⟩ = some (.bool true) := HF.out.cell 2
              have p3 : wi.cell? ⟨g5, 3, none⟩ = some (.bool false) := HF.out.cell 3
              rcases HPL.out with ⟨hp2, ha⟩ | ⟨k, hk, hp2, ha⟩
              · have HV : Hid (parseV s.data.toList = .tuple #[.agg S.none.cells.toArray, .bool false]) := by
                  show parseV _ = _
                  unfold parseV parse
                  rw [HR.out, if_neg (by rw [hp2]; simp)]
                subst ha
                have da : ((-1 : Int) != (s.size : Int)) = true := by rw [bne_iff_ne]; omega
                clear HR hp2 HPL
                go_upto_region 32 with (fail)
                refine wp_region_lit ?_
                refine wpList_val rfl (.agg S.none.cells.toArray) (by as_aux_lemma => kernel_rfl) ?_
                simp only [Act.put, Act.eval, List.setIfInBounds_toArray, List.set_cons_zero, List.set_cons_succ, Nat.reduceAdd, Array.getD_eq_getD_getElem?, List.getElem?_toArray, List.getElem?_cons_succ, List.getElem?_cons_zero, Option.getD_some]
                have h2 := H2.out
                refine wpList_store_mid rfl 25 _ _ rfl g2 0 ((S.none).cells).toArray rfl ?_ (h2.there _ (by have e1 := cells_length _ none_dig; have e2 := cells_length _ none_dig; rw [List.size_toArray]; omega)) (by rw [List.size_toArray, cells_length _ none_dig]; exact size38) (all_oneCell_toArray (oneS _)) ?_
                · rfl
                simp only [List.toList_toArray]
                simp only [Act.put, Act.eval, List.setIfInBounds_toArray, List.set_cons_zero, List.set_cons_succ, Nat.reduceAdd, Array.getD_eq_getD_getElem?, List.getElem?_toArray, List.getElem?_cons_succ, List.getElem?_cons_zero, Option.getD_some]
                have HN := Lib.hid (h2.setAll S.none.cells rfl)
                have XN := Lib.hid (X.out.trans_but (But.setCells g2 S.none.cells 0 wi) l2)
                generalize wi.setCells g2 0 S.none.cells = wn at *
                clear h2 H2 X
                go_wp2_with fail
                exact bodyPost_ret (results_row2 rfl _ _ g2 25 (S.none.cells).toArray (0, 0) _ rfl HN.out undS rfl (by rw [List.size_toArray, cells_length _ none_dig]; exact size38)) rfl ⟨by rw [HV.out]; rfl, XN.out⟩
              · subst ha
                rw [len_data] at hk
                by_cases hks : k = s.size
                · have da : ((k : Int) != (s.size : Int)) = false := by rw [hks]; simp
                  have hp3 : p.2 = some [] := by rw [hp2, List.drop_of_length_le (by rw [len_data]; omega)]
                  have CG := Lib.hid (goodR_any p.1 HD wi)
                  cases hg : good p.1 with
                  | true =>
                    have HV : Hid (parseV s.data.toList = .tuple #[.agg p.1.cells.toArray, .bool true]) := by
                      show parseV _ = _
                      unfold parseV parse
                      rw [HR.out, if_pos ⟨hp3, hg⟩]
                    rw [hg] at CG
                    clear HR hp2 hp3 hg HPL
                    go_upto_region 31 with (fail)
                    refine wp_region_lit ?_
                    repeat (first | refine wpList_ldr rfl _ _ rfl g4 rfl _ _ _ HY undS (by rw [cells_length p.1 HD]; exact size38) ?_ | go_step)
                    refine (CG.out).mono ?_
                    rintro e wj ⟨rfl, xj⟩
                    rename_i hK
                    refine hK _ _ ?_
                    clear CG p0 p1 p2 p3
                    have HYn := Lib.hid (HY.out.ext xj)
                    have HFn := Lib.hid (HF.out.ext xj)
                    have H2n := Lib.hid (H2.out.ext xj)
                    have Xn := Lib.hid (X.out.trans xj)
                    clear xj HY HF H2 X
                    try clear wi
                    have HY := HYn
                    have HF := HFn
                    have H2 := H2n
                    have X := Xn
                    clear HYn HFn H2n Xn
                    generalize wj = wi at *
                    go_upto_region 33 with (fail)
                    refine wp_region_lit ?_
                    have hyo := HY.out
                    have h2 := H2.out
                    refine wpList_load_row rfl 25 _ rfl g4 rfl 25 (p.1.cells).toArray (0, 0) _ hyo undS rfl (by rw [List.size_toArray, cells_length p.1 HD]; exact size38) ?_
                    simp only [Act.put, Act.eval, List.setIfInBounds_toArray, List.set_cons_zero, List.set_cons_succ, Nat.reduceAdd, Array.getD_eq_getD_getElem?, List.getElem?_toArray, List.getElem?_cons_succ, List.getElem?_cons_zero, Option.getD_some]
                    refine wpList_store_mid rfl 25 _ _ rfl g2 0 ((p.1).cells).toArray rfl ?_ (h2.there _ (by have e1 := cells_length _ HD; have e2 := cells_length _ none_dig; rw [List.size_toArray]; omega)) (by rw [List.size_toArray, cells_length _ HD]; exact size38) (all_oneCell_toArray (oneS _)) ?_
                    · rfl
                    simp only [List.toList_toArray]
                    simp only [Act.put, Act.eval, List.setIfInBounds_toArray, List.set_cons_zero, List.set_cons_succ, Nat.reduceAdd, Array.getD_eq_getD_getElem?, List.getElem?_toArray, List.getElem?_cons_succ, List.getElem?_cons_zero, Option.getD_some]
                    have HN := Lib.hid (h2.setAll p.1.cells ((cells_length _ HD).trans (cells_length _ none_dig).symm))
                    have XN := Lib.hid (X.out.trans_but (But.setCells g2 p.1.cells 0 wi) l2)
                    generalize wi.setCells g2 0 p.1.cells = wn at *
                    clear h2 hyo H2 X HY
                    go_wp2_with fail
                    exact bodyPost_ret (results_row2 rfl _ _ g2 25 (p.1.cells).toArray (0, 0) _ rfl HN.out undS rfl (by rw [List.size_toArray, cells_length _ HD]; exact size38)) rfl ⟨by rw [HV.out]; rfl, XN.out⟩
                  | false =>
                    have HV : Hid (parseV s.data.toList = .tuple #[.agg S.none.cells.toArray, .bool false]) := by
                      show parseV _ = _
                      unfold parseV parse
                      rw [HR.out, if_neg (by rw [hg]; simp)]
                    rw [hg] at CG
                    clear HR hp2 hp3 hg HPL
                    go_upto_region 31 with (fail)
                    refine wp_region_lit ?_
                    repeat (first | refine wpList_ldr rfl _ _ rfl g4 rfl _ _ _ HY undS (by rw [cells_length p.1 HD]; exact size38) ?_ | go_step)
                    refine (CG.out).mono ?_
                    rintro e wj ⟨rfl, xj⟩
                    rename_i hK
                    refine hK _ _ ?_
                    clear CG p0 p1 p2 p3
                    have HYn := Lib.hid (HY.out.ext xj)
                    have HFn := Lib.hid (HF.out.ext xj)
                    have H2n := Lib.hid (H2.out.ext xj)
                    have Xn := Lib.hid (X.out.trans xj)
                    clear xj HY HF H2 X
                    try clear wi
                    have HY := HYn
                    have HF := HFn
                    have H2 := H2n
                    have X := Xn
                    clear HYn HFn H2n Xn
                    generalize wj = wi at *
                    go_upto_region 32 with (fail)
                    refine wp_region_lit ?_
                    refine wpList_val rfl (.agg S.none.cells.toArray) (by as_aux_lemma => kernel_rfl) ?_
                    simp only [Act.put, Act.eval, List.setIfInBounds_toArray, List.set_cons_zero, List.set_cons_succ, Nat.reduceAdd, Array.getD_eq_getD_getElem?, List.getElem?_toArray, List.getElem?_cons_succ, List.getElem?_cons_zero, Option.getD_some]
                    have h2 := H2.out
                    refine wpList_store_mid rfl 25 _ _ rfl g2 0 ((S.none).cells).toArray rfl ?_ (h2.there _ (by have e1 := cells_length _ none_dig; have e2 := cells_length _ none_dig; rw [List.size_toArray]; omega)) (by rw [List.size_toArray, cells_length _ none_dig]; exact size38) (all_oneCell_toArray (oneS _)) ?_
                    · rfl
                    simp only [List.toList_toArray]
                    simp only [Act.put, Act.eval, List.setIfInBounds_toArray, List.set_cons_zero, List.set_cons_succ, Nat.reduceAdd, Array.getD_eq_getD_getElem?, List.getElem?_toArray, List.getElem?_cons_succ, List.getElem?_cons_zero, Option.getD_some]
                    have HN := Lib.hid (h2.setAll S.none.cells rfl)
                    have XN := Lib.hid (X.out.trans_but (But.setCells g2 S.none.cells 0 wi) l2)
                    generalize wi.setCells g2 0 S.none.cells = wn at *
                    clear h2 H2 X
                    go_wp2_with fail
                    exact bodyPost_ret (results_row2 rfl _ _ g2 25 (S.none.cells).toArray (0, 0) _ rfl HN.out undS rfl (by rw [List.size_toArray, cells_length _ none_dig]; exact size38)) rfl ⟨by rw [HV.out]; rfl, XN.out⟩
                · have da : ((k : Int) != (s.size : Int)) = true := by rw [bne_iff_ne]; omega
                  have HV : Hid (parseV s.data.toList = .tuple #[.agg S.none.cells.toArray, .bool false]) := by
                    show parseV _ = _
                    unfold parseV parse
                    rw [HR.out, if_neg]
                    rintro ⟨h1, -⟩
                    rw [hp2] at h1
                    injection h1 with h1
                    have := congrArg List.length h1
                    rw [List.length_drop, len_data] at this
                    simp at this
                    omega
                  clear HR hp2 HPL
                  go_upto_region 32 with (fail)
                  refine wp_region_lit ?_
                  refine wpList_val rfl (.agg S.none.cells.toArray) (by as_aux_lemma => kernel_rfl) ?_
                  simp only [Act.put, Act.eval, List.setIfInBounds_toArray, List.set_cons_zero, List.set_cons_succ, Nat.reduceAdd, Array.getD_eq_getD_getElem?, List.getElem?_toArray, List.getElem?_cons_succ, List.getElem?_cons_zero, Option.getD_some]
                  have h2 := H2.out
                  refine wpList_store_mid rfl 25 _ _ rfl g2 0 ((S.none).cells).toArray rfl ?_ (h2.there _ (by have e1 := cells_length _ none_dig; have e2 := cells_length _ none_dig; rw [List.size_toArray]; omega)) (by rw [List.size_toArray, cells_length _ none_dig]; exact size38) (all_oneCell_toArray (oneS _)) ?_
                  · rfl
                  simp only [List.toList_toArray]
                  simp only [Act.put, Act.eval, List.setIfInBounds_toArray, List.set_cons_zero, List.set_cons_succ, Nat.reduceAdd, Array.getD_eq_getD_getElem?, List.getElem?_toArray, List.getElem?_cons_succ, List.getElem?_cons_zero, Option.getD_some]
                  have HN := Lib.hid (h2.setAll S.none.cells rfl)
                  have XN := Lib.hid (X.out.trans_but (But.setCells g2 S.none.cells 0 wi) l2)
                  generalize wi.setCells g2 0 S.none.cells = wn at *
                  clear h2 H2 X
                  go_wp2_with fail
                  exact bodyPost_ret (results_row2 rfl _ _ g2 25 (S.none.cells).toArray (0, 0) _ rfl HN.out undS rfl (by rw [List.size_toArray, cells_length _ none_dig]; exact size38)) rfl ⟨by rw [HV.out]; rfl, XN.out⟩
          -- Y}
        · have d32 : decide ((32 : Int) ≤ (s.size : Int) - (k : Int)) = false := by rw [decide_eq_false_iff_not]; omega
          have hpd : pDig p = (p.1, none) := by unfold pDig; rw [hp2, take_no (by rw [List.length_drop, len_data]; omega)]; rfl
          -- {M
          go_upto_region 21 with (fail)
          clear p0 p1 p2 p3 HPL hp2
          have HPL : Hid (Plc s.data.toList (pDig p).2 (-1)) := .inl ⟨by rw [hpd], rfl⟩
          have HYn : Hid (Blk wi g4 25 (pDig p).1.cells) := by rw [hpd]; exact HY.out
          have HDn : (pDig p).1.dig.length = 32 := pDig_len p HD
          clear HY HD hpd
          generalize pDig p = p at *
          generalize (-1 : Int) = a at HPL ⊢
          have HY := HYn
          have HD := HDn
          clear HYn HDn
          clear dk0 d32
          have p0 : wi.cell? ⟨g5, 0, none⟩ = some (.bool false) := HF.out.cell 0
          have p1 : wi.cell? ⟨g5, 1, none⟩ = some (.bool true) := HF.out.cell 1
          have p2 : wi.cell? ⟨g5, 2, none⟩ = some (.bool true) := HF.out.cell 2
          have p3 : wi.cell? ⟨g5, 3, none⟩ = some (.bool false) := HF.out.cell 3
          have C1 := Lib.hid (took_any s p.2 a wi hs HPL.out)
          go_wp2_with fail
          refine (C1.out).mono ?_
          rintro e wj ⟨a1, rfl, hp1, xj⟩
          have HP1 := Lib.hid hp1
          clear C1 hp1 p0 p1 p2 p3
          have HYn := Lib.hid (HY.out.ext xj)
          have HFn := Lib.hid (HF.out.ext xj)
          have H2n := Lib.hid (H2.out.ext xj)
          have Xn := Lib.hid (X.out.trans xj)
          clear xj HY HF H2 X
          try clear wi
          have HY := HYn
          have HF := HFn
          have H2 := H2n
          have X := Xn
          clear HYn HFn H2n Xn
          generalize wj = wi at *
          have C2 := Lib.hid (counted_any s (textS p.2).2 a1 wi hs HP1.out)
          go_wp2_with fail
          refine (C2.out).mono ?_
          rintro e wj ⟨a2, rfl, hp2, xj⟩
          have HP2 : Hid (Plc s.data.toList (pThing p).2 a2) := hp2
          clear C2 hp2 HP1 HPL
          have HYn := Lib.hid (HY.out.ext xj)
          have HFn := Lib.hid (HF.out.ext xj)
          have H2n := Lib.hid (H2.out.ext xj)
          have Xn := Lib.hid (X.out.trans xj)
          clear xj HY HF H2 X
          try clear wi
          have HY := HYn
          have HF := HFn
          have H2 := H2n
          have X := Xn
          clear HYn HFn H2n Xn
          generalize wj = wi at *
          have r1 : wi.cell? ⟨g4, 35, none⟩ = some (.string p.1.typ) := by rw [HY.out.cell, at35 p.1 HD]
          have r2 : wi.cell? ⟨g4, 36, none⟩ = some (.int .i64 p.1.size) := by rw [HY.out.cell, at36 p.1 HD]
          have f1 := HY.out.frozen 35
          have f2 := HY.out.frozen 36
          have hs0 := HY.out.set_ 35 (.string ⟨(textS p.2).1.toArray⟩)
          rw [set35 p.1 HD] at hs0
          have hs1 := hs0.set_ 36 (.int .i64 ((numS (textS p.2).2).1 : Int))
          rw [set36 ({ p.1 with typ := ⟨(textS p.2).1.toArray⟩ } : S) HD] at hs1
          have hbx := (But.set_ g4 wi 35 (.string ⟨(textS p.2).1.toArray⟩)).trans (But.set_ g4 _ 36 (.int .i64 ((numS (textS p.2).2).1 : Int)))
          have HYn : Hid (Blk ((wi.setCell ⟨g4, 35, none⟩ (.string ⟨(textS p.2).1.toArray⟩)).setCell ⟨g4, 36, none⟩ (.int .i64 ((numS (textS p.2).2).1 : Int))) g4 25 (pThing p).1.cells) := hs1
          clear hs0 hs1
          go_upto_region 27 with (fail)
          clear r1 r2 f1 f2
          have HDn : (pThing p).1.dig.length = 32 := HD
          have HFn := Lib.hid (HF.out.but hbx (by omega))
          have H2n := Lib.hid (H2.out.but hbx (by omega))
          have Xn := Lib.hid (X.out.trans_but hbx l4)
          clear hbx HY HD HF H2 X
          generalize ((wi.setCell ⟨g4, 35, none⟩ (.string ⟨(textS p.2).1.toArray⟩)).setCell ⟨g4, 36, none⟩ (.int .i64 ((numS (textS p.2).2).1 : Int))) = wi at *
          generalize pThing p = p at *
          generalize a2 = a at *
          have HY := HYn
          have HD := HDn
          have HF := HFn
          have H2 := H2n
          have X := Xn
          have HPL := HP2
          clear HYn HDn HFn H2n Xn HP2
          have p0 : wi.cell? ⟨g5, 0, none⟩ = some (.bool false) := HF.out.cell 0
          have p1 : wi.cell? ⟨g5, 1, none⟩ = some (.bool true) := HF.out.cell 1
          have p2 : wi.cell? ⟨g5, 2, none⟩ = some (.bool true) := HF.out.cell 2
          have p3 : wi.cell? ⟨g5, 3, none⟩ = some (.bool false) := HF.out.cell 3
          rcases HPL.out with ⟨hp2, ha⟩ | ⟨k, hk, hp2, ha⟩
          · have HV : Hid (parseV s.data.toList = .tuple #[.agg S.none.cells.toArray, .bool false]) := by
              show parseV _ = _
              unfold parseV parse
              rw [HR.out, if_neg (by rw [hp2]; simp)]
            subst ha
            have da : ((-1 : Int) != (s.size : Int)) = true := by rw [bne_iff_ne]; omega
            clear HR hp2 HPL
            go_upto_region 32 with (fail)
            refine wp_region_lit ?_
            refine wpList_val rfl (.agg S.none.cells.toArray) (by as_aux_lemma => kernel_rfl) ?_
            simp only [Act.put, Act.eval, List.setIfInBounds_toArray, List.set_cons_zero, List.set_cons_succ, Nat.reduceAdd, Array.getD_eq_getD_getElem?, List.getElem?_toArray, List.getElem?_cons_succ, List.getElem?_cons_zero, Option.getD_some]
            have h2 := H2.out
            refine wpList_store_mid rfl 25 _ _ rfl g2 0 ((S.none).cells).toArray rfl ?_ (h2.there _ (by have e1 := cells_length _ none_dig; have e2 := cells_length _ none_dig; rw [List.size_toArray]; omega)) (by rw [List.size_toArray, cells_length _ none_dig]; exact size38) (all_oneCell_toArray (oneS _)) ?_
            · rfl
            simp only [List.toList_toArray]
            simp only [Act.put, Act.eval, List.setIfInBounds_toArray, List.set_cons_zero, List.set_cons_succ, Nat.reduceAdd, Array.getD_eq_getD_getElem?, List.getElem?_toArray, List.getElem?_cons_succ, List.getElem?_cons_zero, Option.getD_some]
            have HN := Lib.hid (h2.setAll S.none.cells rfl)
            have XN := Lib.hid (X.out.trans_but (But.setCells g2 S.none.cells 0 wi) l2)
            generalize wi.setCells g2 0 S.none.cells = wn at *
            clear h2 H2 X
            go_wp2_with fail
            exact bodyPost_ret (results_row2 rfl _ _ g2 25 (S.none.cells).toArray (0, 0) _ rfl HN.out undS rfl (by rw [List.size_toArray, cells_length _ none_dig]; exact size38)) rfl ⟨by rw [HV.out]; rfl, XN.out⟩
          · subst ha
            rw [len_data] at hk
            by_cases hks : k = s.size
            · have da : ((k : Int) != (s.size : Int)) = false := by rw [hks]; simp
              have hp3 : p.2 = some [] := by rw [hp2, List.drop_of_length_le (by rw [len_data]; omega)]
              have CG := Lib.hid (goodR_any p.1 HD wi)
              cases hg : good p.1 with
              | true =>
                have HV : Hid (parseV s.data.toList = .tuple #[.agg p.1.cells.toArray, .bool true]) := by
                  show parseV _ = _
                  unfold parseV parse
                  rw [HR.out, if_pos ⟨hp3, hg⟩]
                rw [hg] at CG
                clear HR hp2 hp3 hg HPL
                go_upto_region 31 with (fail)
                refine wp_region_lit ?_
                repeat (first | refine wpList_ldr rfl _ _ rfl g4 rfl _ _ _ HY undS (by rw [cells_length p.1 HD]; exact size38) ?_ | go_step)
                refine (CG.out).mono ?_
                rintro e wj ⟨rfl, xj⟩
                rename_i hK
                refine hK _ _ ?_
                clear CG p0 p1 p2 p3
                have HYn := Lib.hid (HY.out.ext xj)
                have HFn := Lib.hid (HF.out.ext xj)
                have H2n := Lib.hid (H2.out.ext xj)
                have Xn := Lib.hid (X.out.trans xj)
                clear xj HY HF H2 X
                try clear wi
                have HY := HYn
                have HF := HFn
                have H2 := H2n
                have X := Xn
                clear HYn HFn H2n Xn
                generalize wj = wi at *
                go_upto_region 33 with (fail)
                refine wp_region_lit ?_
                have hyo := HY.out
                have h2 := H2.out
                refine wpList_load_row rfl 25 _ rfl g4 rfl 25 (p.1.cells).toArray (0, 0) _ hyo undS rfl (by rw [List.size_toArray, cells_length p.1 HD]; exact size38) ?_
                simp only [Act.put, Act.eval, List.setIfInBounds_toArray, List.set_cons_zero, List.set_cons_succ, Nat.reduceAdd, Array.getD_eq_getD_getElem?, List.getElem?_toArray, List.getElem?_cons_succ, List.getElem?_cons_zero, Option.getD_some]
                refine wpList_store_mid rfl 25 _ _ rfl g2 0 ((p.1).cells).toArray rfl ?_ (h2.there _ (by have e1 := cells_length _ HD; have e2 := cells_length _ none_dig; rw [List.size_toArray]; omega)) (by rw [List.size_toArray, cells_length _ HD]; exact size38) (all_oneCell_toArray (oneS _)) ?_
                · rfl
                simp only [List.toList_toArray]
                simp only [Act.put, Act.eval, List.setIfInBounds_toArray, List.set_cons_zero, List.set_cons_succ, Nat.reduceAdd, Array.getD_eq_getD_getElem?, List.getElem?_toArray, List.getElem?_cons_succ, List.getElem?_cons_zero, Option.getD_some]
                have HN := Lib.hid (h2.setAll p.1.cells ((cells_length _ HD).trans (cells_length _ none_dig).symm))
                have XN := Lib.hid (X.out.trans_but (But.setCells g2 p.1.cells 0 wi) l2)
                generalize wi.setCells g2 0 p.1.cells = wn at *
                clear h2 hyo H2 X HY
                go_wp2_with fail
                exact bodyPost_ret (results_row2 rfl _ _ g2 25 (p.1.cells).toArray (0, 0) _ rfl HN.out undS rfl (by rw [List.size_toArray, cells_length _ HD]; exact size38)) rfl ⟨by rw [HV.out]; rfl, XN.out⟩
              | false =>
                have HV : Hid (parseV s.data.toList = .tuple #[.agg S.none.cells.toArray, .bool false]) := by
                  show parseV _ = _
                  unfold parseV parse
                  rw [HR.out, if_neg (by rw [hg]; simp)]
                rw [hg] at CG
                clear HR hp2 hp3 hg HPL
                go_upto_region 31 with (fail)
                refine wp_region_lit ?_
                repeat (first | refine wpList_ldr rfl _ _ rfl g4 rfl _ _ _ HY undS (by rw [cells_length p.1 HD]; exact size38) ?_ | go_step)
                refine (CG.out).mono ?_
                rintro e wj ⟨rfl, xj⟩
                rename_i hK
                refine hK _ _ ?_
                clear CG p0 p1 p2 p3
                have HYn := Lib.hid (HY.out.ext xj)
                have HFn := Lib.hid (HF.out.ext xj)
                have H2n := Lib.hid (H2.out.ext xj)
                have Xn := Lib.hid (X.out.trans xj)
                clear xj HY HF H2 X
                try clear wi
                have HY := HYn
                have HF := HFn
                have H2 := H2n
                have X := Xn
                clear HYn HFn H2n Xn
                generalize wj = wi at *
                go_upto_region 32 with (fail)
                refine wp_region_lit ?_
                refine wpList_val rfl (.agg S.none.cells.toArray) (by as_aux_lemma => kernel_rfl) ?_
                simp only [Act.put, Act.eval, List.setIfInBounds_toArray, List.set_cons_zero, List.set_cons_succ, Nat.reduceAdd, Array.getD_eq_getD_getElem?, List.getElem?_toArray, List.getElem?_cons_succ, List.getElem?_cons_zero, Option.getD_some]
                have h2 := H2.out
                refine wpList_store_mid rfl 25 _ _ rfl g2 0 ((S.none).cells).toArray rfl ?_ (h2.there _ (by have e1 := cells_length _ none_dig; have e2 := cells_length _ none_dig; rw [List.size_toArray]; omega)) (by rw [List.size_toArray, cells_length _ none_dig]; exact size38) (all_oneCell_toArray (oneS _)) ?_
                · rfl
                simp only [List.toList_toArray]
                simp only [Act.put, Act.eval, List.setIfInBounds_toArray, List.set_cons_zero, List.set_cons_succ, Nat.reduceAdd, Array.getD_eq_getD_getElem?, List.getElem?_toArray, List.getElem?_cons_succ, List.getElem?_cons_zero, Option.getD_some]
                have HN := Lib.hid (h2.setAll S.none.cells rfl)
                have XN := Lib.hid (X.out.trans_but (But.setCells g2 S.none.cells 0 wi) l2)
                generalize wi.setCells g2 0 S.none.cells = wn at *
                clear h2 H2 X
                go_wp2_with fail
                exact bodyPost_ret (results_row2 rfl _ _ g2 25 (S.none.cells).toArray (0, 0) _ rfl HN.out undS rfl (by rw [List.size_toArray, cells_length _ none_dig]; exact size38)) rfl ⟨by rw [HV.out]; rfl, XN.out⟩
            · have da : ((k : Int) != (s.size : Int)) = true := by rw [bne_iff_ne]; omega
              have HV : Hid (parseV s.data.toList = .tuple #[.agg S.none.cells.toArray, .bool false]) := by
                show parseV _ = _
                unfold parseV parse
                rw [HR.out, if_neg]
                rintro ⟨h1, -⟩
                rw [hp2] at h1
                injection h1 with h1
                have := congrArg List.length h1
                rw [List.length_drop, len_data] at this
                simp at this
                omega
              clear HR hp2 HPL
              go_upto_region 32 with (fail)
              refine wp_region_lit ?_
              refine wpList_val rfl (.agg S.none.cells.toArray) (by as_aux_lemma => kernel_rfl) ?_
              simp only [Act.put, Act.eval, List.setIfInBounds_toArray, List.set_cons_zero, List.set_cons_succ, Nat.reduceAdd, Array.getD_eq_getD_getElem?, List.getElem?_toArray, List.getElem?_cons_succ, List.getElem?_cons_zero, Option.getD_some]
              have h2 := H2.out
              refine wpList_store_mid rfl 25 _ _ rfl g2 0 ((S.none).cells).toArray rfl ?_ (h2.there _ (by have e1 := cells_length _ none_dig; have e2 := cells_length _ none_dig; rw [List.size_toArray]; omega)) (by rw [List.size_toArray, cells_length _ none_dig]; exact size38) (all_oneCell_toArray (oneS _)) ?_
              · rfl
              simp only [List.toList_toArray]
              simp only [Act.put, Act.eval, List.setIfInBounds_toArray, List.set_cons_zero, List.set_cons_succ, Nat.reduceAdd, Array.getD_eq_getD_getElem?, List.getElem?_toArray, List.getElem?_cons_succ, List.getElem?_cons_zero, Option.getD_some]
              have HN := Lib.hid (h2.setAll S.none.cells rfl)
              have XN := Lib.hid (X.out.trans_but (But.setCells g2 S.none.cells 0 wi) l2)
              generalize wi.setCells g2 0 S.none.cells = wn at *
              clear h2 H2 X
              go_wp2_with fail
              exact bodyPost_ret (results_row2 rfl _ _ g2 25 (S.none.cells).toArray (0, 0) _ rfl HN.out undS rfl (by rw [List.size_toArray, cells_length _ none_dig]; exact size38)) rfl ⟨by rw [HV.out]; rfl, XN.out⟩
          -- M}
      -- D}
    ·
      -- {E
      have HR : Hid (parsed s.data.toList = pDig p) := HPR
      rw [show (F.cells ⟨false, true, false, false⟩) = [.bool false, .bool true, .bool false, .bool false] from rfl]
      go_upto_region 7 with (fail)
      have hbf : Blk (w5.alloc (Obj.cells #[Value.bool false, Value.bool true, Value.bool false, Value.bool false] 66)) w5.heap.size 66 [.bool false, .bool true, .bool false, .bool false] := Blk.new w5 66 #[Value.bool false, Value.bool true, Value.bool false, Value.bool false]
      have hxf := Reg.Ext.alloc w5 (Obj.cells #[Value.bool false, Value.bool true, Value.bool false, Value.bool false] 66)
      have HF := Lib.hid hbf
      have HYn := Lib.hid (HY.out.ext hxf)
      have H2n := Lib.hid (H2.out.ext hxf)
      have Xn := Lib.hid (X.out.trans hxf)
      have l45 := HY.out.lt
      clear HY H2 X hbf hxf
      have HY := HYn
      have H2 := H2n
      have X := Xn
      clear HYn H2n Xn
      generalize w5.alloc (Obj.cells #[Value.bool false, Value.bool true, Value.bool false, Value.bool false] 66) = wi at *
      generalize w5.heap.size = g5 at *
      generalize (1 : Int) = a at HPL ⊢
      have p0 : wi.cell? ⟨g5, 0, none⟩ = some (.bool false) := HF.out.cell 0
      have p1 : wi.cell? ⟨g5, 1, none⟩ = some (.bool true) := HF.out.cell 1
      have p2 : wi.cell? ⟨g5, 2, none⟩ = some (.bool false) := HF.out.cell 2
      have p3 : wi.cell? ⟨g5, 3, none⟩ = some (.bool false) := HF.out.cell 3
      rcases HPL.out with ⟨hp2, ha⟩ | ⟨k, hk, hp2, ha⟩
      · have hpd : pDig p = (p.1, none) := by unfold pDig; rw [hp2]; rfl
        subst ha
        -- {N
        go_upto_region 21 with (fail)
        clear p0 p1 p2 p3 HPL hp2
        have HPL : Hid (Plc s.data.toList (pDig p).2 (-1)) := .inl ⟨by rw [hpd], rfl⟩
        have HYn : Hid (Blk wi g4 25 (pDig p).1.cells) := by rw [hpd]; exact HY.out
        have HDn : (pDig p).1.dig.length = 32 := pDig_len p HD
        clear HY HD hpd
        generalize pDig p = p at *
        generalize (-1 : Int) = a at HPL ⊢
        have HY := HYn
        have HD := HDn
        clear HYn HDn
        have p0 : wi.cell? ⟨g5, 0, none⟩ = some (.bool false) := HF.out.cell 0
        have p1 : wi.cell? ⟨g5, 1, none⟩ = some (.bool true) := HF.out.cell 1
        have p2 : wi.cell? ⟨g5, 2, none⟩ = some (.bool false) := HF.out.cell 2
        have p3 : wi.cell? ⟨g5, 3, none⟩ = some (.bool false) := HF.out.cell 3
        rcases HPL.out with ⟨hp2, ha⟩ | ⟨k, hk, hp2, ha⟩
        · have HV : Hid (parseV s.data.toList = .tuple #[.agg S.none.cells.toArray, .bool false]) := by
            show parseV _ = _
            unfold parseV parse
            rw [HR.out, if_neg (by rw [hp2]; simp)]
          subst ha
          have da : ((-1 : Int) != (s.size : Int)) = true := by rw [bne_iff_ne]; omega
          clear HR hp2 HPL
          go_upto_region 32 with (fail)
          refine wp_region_lit ?_
          refine wpList_val rfl (.agg S.none.cells.toArray) (by as_aux_lemma => kernel_rfl) ?_
          simp only [Act.put, Act.eval, List.setIfInBounds_toArray, List.set_cons_zero, List.set_cons_succ, Nat.reduceAdd, Array.getD_eq_getD_getElem?, List.getElem?_toArray, List.getElem?_cons_succ, List.getElem?_cons_zero, Option.getD_some]
          have h2 := H2.out
          refine wpList_store_mid rfl 25 _ _ rfl g2 0 ((S.none).cells).toArray rfl ?_ (h2.there _ (by have e1 := cells_length _ none_dig; have e2 := cells_length _ none_dig; rw [List.size_toArray]; omega)) (by rw [List.size_toArray, cells_length _ none_dig]; exact size38) (all_oneCell_toArray (oneS _)) ?_
          · rfl
          simp only [List.toList_toArray]
          simp only [Act.put, Act.eval, List.setIfInBounds_toArray, List.set_cons_zero, List.set_cons_succ, Nat.reduceAdd, Array.getD_eq_getD_getElem?, List.getElem?_toArray, List.getElem?_cons_succ, List.getElem?_cons_zero, Option.getD_some]
          have HN := Lib.hid (h2.setAll S.none.cells rfl)
          have XN := Lib.hid (X.out.trans_but (But.setCells g2 S.none.cells 0 wi) l2)
          generalize wi.setCells g2 0 S.none.cells = wn at *
          clear h2 H2 X
          go_wp2_with fail
          exact bodyPost_ret (results_row2 rfl _ _ g2 25 (S.none.cells).toArray (0, 0) _ rfl HN.out undS rfl (by rw [List.size_toArray, cells_length _ none_dig]; exact size38)) rfl ⟨by rw [HV.out]; rfl, XN.out⟩
        · subst ha
          rw [len_data] at hk
          by_cases hks : k = s.size
          · have da : ((k : Int) != (s.size : Int)) = false := by rw [hks]; simp
            have hp3 : p.2 = some [] := by rw [hp2, List.drop_of_length_le (by rw [len_data]; omega)]
            have CG := Lib.hid (goodR_any p.1 HD wi)
            cases hg : good p.1 with
            | true =>
              have HV : Hid (parseV s.data.toList = .tuple #[.agg p.1.cells.toArray, .bool true]) := by
                show parseV _ = _
                unfold parseV parse
                rw [HR.out, if_pos ⟨hp3, hg⟩]
              rw [hg] at CG
              clear HR hp2 hp3 hg HPL
              go_upto_region 31 with (fail)
              refine wp_region_lit ?_
              repeat (first | refine wpList_ldr rfl _ _ rfl g4 rfl _ _ _ HY undS (by rw [cells_length p.1 HD]; exact size38) ?_ | go_step)
              refine (CG.out).mono ?_
              rintro e wj ⟨rfl, xj⟩
              rename_i hK
              refine hK _ _ ?_
              clear CG p0 p1 p2 p3
              have HYn := Lib.hid (HY.out.ext xj)
              have HFn := Lib.hid (HF.out.ext xj)
              have H2n := Lib.hid (H2.out.ext xj)
              have Xn := Lib.hid (X.out.trans xj)
              clear xj HY HF H2 X
              try clear wi
              have HY := HYn
              have HF := HFn
              have H2 := H2n
              have X := Xn
              clear HYn HFn H2n Xn
              generalize wj = wi at *
              go_upto_region 33 with (fail)
              refine wp_region_lit ?_
              have hyo := HY.out
              have h2 := H2.out
              refine wpList_load_row rfl 25 _ rfl g4 rfl 25 (p.1.cells).toArray (0, 0) _ hyo undS rfl (by rw [List.size_toArray, cells_length p.1 HD]; exact size38) ?_
              simp only [Act.put, Act.eval, List.setIfInBounds_toArray, List.set_cons_zero, List.set_cons_succ, Nat.reduceAdd, Array.getD_eq_getD_getElem?, List.getElem?_toArray, List.getElem?_cons_succ, List.getElem?_cons_zero, Option.getD_some]
              refine wpList_store_mid rfl 25 _ _ rfl g2 0 ((p.1).cells).toArray rfl ?_ (h2.there _ (by have e1 := cells_length _ HD; have e2 := cells_length _ none_dig; rw [List.size_toArray]; omega)) (by rw [List.size_toArray, cells_length _ HD]; exact size38) (all_oneCell_toArray (oneS _)) ?_
              · rfl
              simp only [List.toList_toArray]
              simp only [Act.put, Act.eval, List.setIfInBounds_toArray, List.set_cons_zero, List.set_cons_succ, Nat.reduceAdd, Array.getD_eq_getD_getElem?, List.getElem?_toArray, List.getElem?_cons_succ, List.getElem?_cons_zero, Option.getD_some]
              have HN := Lib.hid (h2.setAll p.1.cells ((cells_length _ HD).trans (cells_length _ none_dig).symm))
              have XN := Lib.hid (X.out.trans_but (But.setCells g2 p.1.cells 0 wi) l2)
              generalize wi.setCells g2 0 p.1.cells = wn at *
              clear h2 hyo H2 X HY
              go_wp2_with fail
              exact bodyPost_ret (results_row2 rfl _ _ g2 25 (p.1.cells).toArray (0, 0) _ rfl HN.out undS rfl (by rw [List.size_toArray, cells_length _ HD]; exact size38)) rfl ⟨by rw [HV.out]; rfl, XN.out⟩
            | false =>
              have HV : Hid (parseV s.data.toList = .tuple #[.agg S.none.cells.toArray, .bool false]) := by
                show parseV _ = _
                unfold parseV parse
                rw [HR.out, if_neg (by rw [hg]; simp)]
              rw [hg] at CG
              clear HR hp2 hp3 hg HPL
              go_upto_region 31 with (fail)
              refine wp_region_lit ?_
              repeat (first | refine wpList_ldr rfl _ _ rfl g4 rfl _ _ _ HY undS (by rw [cells_length p.1 HD]; exact size38) ?_ | go_step)
              refine (CG.out).mono ?_
              rintro e wj ⟨rfl, xj⟩
              rename_i hK
              refine hK _ _ ?_
              clear CG p0 p1 p2 p3
              have HYn := Lib.hid (HY.out.ext xj)
              have HFn := Lib.hid (HF.out.ext xj)
              have H2n := Lib.hid (H2.out.ext xj)
              have Xn := Lib.hid (X.out.trans xj)
              clear xj HY HF H2 X
              try clear wi
              have HY := HYn
              have HF := HFn
              have H2 := H2n
              have X := Xn
              clear HYn HFn H2n Xn
              generalize wj = wi at *
              go_upto_region 32 with (fail)
              refine wp_region_lit ?_
              refine wpList_val rfl (.agg S.none.cells.toArray) (by as_aux_lemma => kernel_rfl) ?_
              simp only [Act.put, Act.eval, List.setIfInBounds_toArray, List.set_cons_zero, List.set_cons_succ, Nat.reduceAdd, Array.getD_eq_getD_getElem?, List.getElem?_toArray, List.getElem?_cons_succ, List.getElem?_cons_zero, Option.getD_some]
              have h2 := H2.out
              refine wpList_store_mid rfl 25 _ _ rfl g2 0 ((S.none).cells).toArray rfl ?_ (h2.there _ (by have e1 := cells_length _ none_dig; have e2 := cells_length _ none_dig; rw [List.size_toArray]; omega)) (by rw [List.size_toArray, cells_length _ none_dig]; exact size38) (all_oneCell_toArray (oneS _)) ?_
              · rfl
              simp only [List.toList_toArray]
              simp only [Act.put, Act.eval, List.setIfInBounds_toArray, List.set_cons_zero, List.set_cons_succ, Nat.reduceAdd, Array.getD_eq_getD_getElem?, List.getElem?_toArray, List.getElem?_cons_succ, List.getElem?_cons_zero, Option.getD_some]
              have HN := Lib.hid (h2.setAll S.none.cells rfl)
              have XN := Lib.hid (X.out.trans_but (But.setCells g2 S.none.cells 0 wi) l2)
              generalize wi.setCells g2 0 S.none.cells = wn at *
              clear h2 H2 X
              go_wp2_with fail
              exact bodyPost_ret (results_row2 rfl _ _ g2 25 (S.none.cells).toArray (0, 0) _ rfl HN.out undS rfl (by rw [List.size_toArray, cells_length _ none_dig]; exact size38)) rfl ⟨by rw [HV.out]; rfl, XN.out⟩
          · have da : ((k : Int) != (s.size : Int)) = true := by rw [bne_iff_ne]; omega
            have HV : Hid (parseV s.data.toList = .tuple #[.agg S.none.cells.toArray, .bool false]) := by
              show parseV _ = _
              unfold parseV parse
              rw [HR.out, if_neg]
              rintro ⟨h1, -⟩
              rw [hp2] at h1
              injection h1 with h1
              have := congrArg List.length h1
              rw [List.length_drop, len_data] at this
              simp at this
              omega
            clear HR hp2 HPL
            go_upto_region 32 with (fail)
            refine wp_region_lit ?_
            refine wpList_val rfl (.agg S.none.cells.toArray) (by as_aux_lemma => kernel_rfl) ?_
            simp only [Act.put, Act.eval, List.setIfInBounds_toArray, List.set_cons_zero, List.set_cons_succ, Nat.reduceAdd, Array.getD_eq_getD_getElem?, List.getElem?_toArray, List.getElem?_cons_succ, List.getElem?_cons_zero, Option.getD_some]
            have h2 := H2.out
            refine wpList_store_mid rfl 25 _ _ rfl g2 0 ((S.none).cells).toArray rfl ?_ (h2.there _ (by have e1 := cells_length _ none_dig; have e2 := cells_length _ none_dig; rw [List.size_toArray]; omega)) (by rw [List.size_toArray, cells_length _ none_dig]; exact size38) (all_oneCell_toArray (oneS _)) ?_
            · rfl
            simp only [List.toList_toArray]
            simp only [Act.put, Act.eval, List.setIfInBounds_toArray, List.set_cons_zero, List.set_cons_succ, Nat.reduceAdd, Array.getD_eq_getD_getElem?, List.getElem?_toArray, List.getElem?_cons_succ, List.getElem?_cons_zero, Option.getD_some]
            have HN := Lib.hid (h2.setAll S.none.cells rfl)
            have XN := Lib.hid (X.out.trans_but (But.setCells g2 S.none.cells 0 wi) l2)
            generalize wi.setCells g2 0 S.none.cells = wn at *
            clear h2 H2 X
            go_wp2_with fail
            exact bodyPost_ret (results_row2 rfl _ _ g2 25 (S.none.cells).toArray (0, 0) _ rfl HN.out undS rfl (by rw [List.size_toArray, cells_length _ none_dig]; exact size38)) rfl ⟨by rw [HV.out]; rfl, XN.out⟩
        -- N}
      · subst ha
        rw [len_data] at hk
        have dk0 : decide ((0 : Int) ≤ (k : Int)) = true := by rw [decide_eq_true_iff]; omega
        by_cases h32 : k + 32 ≤ s.size
        · have d32 : decide ((32 : Int) ≤ (s.size : Int) - (k : Int)) = true := by rw [decide_eq_true_iff]; omega
          -- {Y
          have hml : ((s.data.toList.drop k).take 32).length = 32 := by rw [List.length_take, List.length_drop, len_data]; omega
          have hpd : pDig p = ({ p.1 with dig := (s.data.toList.drop k).take 32 }, some (s.data.toList.drop (k + 32))) := by
            unfold pDig
            rw [hp2, take_ok (by rw [List.length_drop, len_data]; omega), if_neg (by intro e; have e2 := congrArg List.length e; simp only at e2; rw [hml] at e2; cases e2), List.drop_drop]
          have HM : Hid (∀ j (hj : j < 32), ∃ hq : k + j < s.data.toList.length, ((s.data.toList.drop k).take 32)[j]? = some (s.data.toList[k + j]'hq)) := by
            intro j hj
            have hq : k + j < s.data.toList.length := by rw [len_data]; omega
            refine ⟨hq, ?_⟩
            rw [List.getElem?_take_of_lt (by omega), List.getElem?_drop, List.getElem?_eq_getElem hq]
          have HPD := Lib.hid hpd
          have HML := Lib.hid hml
          generalize (s.data.toList.drop k).take 32 = m at *
          have HPK2 : Hid (Plc s.data.toList (some (s.data.toList.drop (k + 32))) ((k : Int) + 32)) := .inr ⟨k + 32, by rw [len_data]; omega, rfl, by omega⟩
          clear hpd hml HPL hp2
          go_upto_region 14 with (fail)
          clear p0 p1 p2 p3 dk0 d32
          have HY0 : Hid (Blk wi g4 25 ({ p.1 with dig := m.take 0 ++ p.1.dig.drop 0 } : S).cells) := HY.out
          go_wp2_with fail
          go_loopw [11] (fun i wr => ∃ j : Nat, j ≤ 32 ∧ i = .int .i64 (j : Int) ∧ Hid (Blk wr g4 25 ({ p.1 with dig := m.take j ++ p.1.dig.drop j } : S).cells) ∧ Hid (But g4 wi wr)) (fun i _ => 32 - (intOf i).toNat)
          case atStart => exact ⟨0, by omega, rfl, HY0, But.refl _ _⟩
          case round =>
            obtain ⟨j, hj, rfl, HYJ, HB⟩ := hrel
            clear HY0
            have hjd : (m.take j ++ p.1.dig.drop j).length = 32 := by rw [List.length_append, List.length_take, List.length_drop, HML.out, HD]; omega
            by_cases hjl : j < 32
            · have dj : decide ((j : Int) < 32) = true := by rw [decide_eq_true_iff]; omega
              obtain ⟨hq, hmj⟩ := HM.out j hjl
              have hjm : j < m.length := by rw [HML.out]; exact hjl
              rw [List.getElem?_eq_getElem hjm] at hmj
              injection hmj with hmj
              have hix := index_any s (k + j) (by rw [len_data] at hq; exact hq)
              rw [← hmj, show ((k + j : Nat) : Int) = (k : Int) + (j : Int) by omega] at hix
              have hbl := HYJ.out.set_ (3 + j) (byteV m[j])
              rw [set_dig _ j _ (by rw [hjd]; exact hjl)] at hbl
              have hset : (m.take j ++ p.1.dig.drop j).set j m[j] = m.take (j + 1) ++ p.1.dig.drop (j + 1) := set_next m p.1.dig j hjm (by rw [HD]; exact hjl)
              simp only at hbl
              rw [hset] at hbl
              have r1 : wr.cell? ⟨g4, 3 + j, none⟩ = some (byteV ((m.take j ++ p.1.dig.drop j)[j]'(by rw [hjd]; exact hjl))) := range_dig HYJ.out j _ (by rw [List.getElem?_map, List.getElem?_eq_getElem (by rw [hjd]; exact hjl)]; rfl)
              have f1 := HYJ.out.frozen (3 + j)
              generalize byteV ((m.take j ++ p.1.dig.drop j)[j]'(by rw [hjd]; exact hjl)) = old at *
              have HBL : Hid (Blk (wr.setCell ⟨g4, 3 + j, none⟩ (.int .u8 (m[j].toNat : Int))) g4 25 ({ p.1 with dig := m.take (j + 1) ++ p.1.dig.drop (j + 1) } : S).cells) := hbl
              have HB2 : Hid (But g4 wi (wr.setCell ⟨g4, 3 + j, none⟩ (.int .u8 (m[j].toNat : Int)))) := HB.out.trans (But.set_ _ _ _ _)
              have hcl := (m[j]).toNat_lt
              clear hbl hset hq hmj HYJ HB hjd
              generalize m[j].toNat = c at *
              go_wp2_with fail
              go_roundw
              case rel => exact ⟨j + 1, by omega, by go_num, HBL, HB2⟩
              case measure => simp [intOf]; omega
            · have hje : j = 32 := by omega
              subst hje
              have dj : decide (((32 : Nat) : Int) < 32) = false := by decide
              have HYn : Hid (Blk wr g4 25 (pDig p).1.cells) := by
                rw [HPD.out]
                have h := HYJ.out
                rw [List.take_of_length_le (by rw [HML.out]; exact Nat.le_refl _), List.drop_of_length_le (by rw [HD]; exact Nat.le_refl _), List.append_nil] at h
                exact h
              have HPLn : Hid (Plc s.data.toList (pDig p).2 ((k : Int) + 32)) := by rw [HPD.out]; exact HPK2.out
              have HDn : (pDig p).1.dig.length = 32 := pDig_len p HD
              have HFn := Lib.hid (HF.out.but HB.out (by omega))
              have H2n := Lib.hid (H2.out.but HB.out (by omega))
              have Xn := Lib.hid (X.out.trans_but HB.out l4)
              clear HF H2 X HY HD HB HYJ HPK2 HPD HM HML hjd
              go_upto_region 21 with (fail)
              generalize pDig p = p at *
              generalize (k : Int) + 32 = a at HPLn ⊢
              generalize wr = wi at *
              have HY := HYn
              have HD := HDn
              have HF := HFn
              have H2 := H2n
              have X := Xn
              have HPL := HPLn
              clear HYn HDn HFn H2n Xn HPLn
              have p0 : wi.cell? ⟨g5, 0, none⟩ = some (.bool false) := HF.out.cell 0
              have p1 : wi.cell? ⟨g5, 1, none⟩ = some (.bool true) := HF.out.cell 1
              have p2 : wi.cell? ⟨g5, 2, none⟩ = some (.bool false) := HF.out.cell 2
              have p3 : wi.cell? ⟨g5, 3, none⟩ = some (.bool false) := HF.out.cell 3
              rcases HPL.out with ⟨hp2, ha⟩ | ⟨k, hk, hp2, ha⟩
              · have HV : Hid (parseV s.data.toList = .tuple #[.agg S.none.cells.toArray, .bool false]) := by
                  show parseV _ = _
                  unfold parseV parse
                  rw [HR.out, if_neg (by rw [hp2]; simp)]
                subst ha
                have da : ((-1 : Int) != (s.size : Int)) = true := by rw [bne_iff_ne]; omega
                clear HR hp2 HPL
                go_upto_region 32 with (fail)
                refine wp_region_lit ?_
                refine wpList_val rfl (.agg S.none.cells.toArray) (by as_aux_lemma => kernel_rfl) ?_
                simp only [Act.put, Act.eval, List.setIfInBounds_toArray, List.set_cons_zero, List.set_cons_succ, Nat.reduceAdd, Array.getD_eq_getD_getElem?, List.getElem?_toArray, List.getElem?_cons_succ, List.getElem?_cons_zero, Option.getD_some]
                have h2 := H2.out
                refine wpList_store_mid rfl 25 _ _ rfl g2 0 ((S.none).cells).toArray rfl ?_ (h2.there _ (by have e1 := cells_length _ none_dig; have e2 := cells_length _ none_dig; rw [List.size_toArray]; omega)) (by rw [List.size_toArray, cells_length _ none_dig]; exact size38) (all_oneCell_toArray (oneS _)) ?_
                · rfl
                simp only [List.toList_toArray]
                simp only [Act.put, Act.eval, List.setIfInBounds_toArray, List.set_cons_zero, List.set_cons_succ, Nat.reduceAdd, Array.getD_eq_getD_getElem?, List.getElem?_toArray, List.getElem?_cons_succ, List.getElem?_cons_zero, Option.getD_some]
                have HN := Lib.hid (h2.setAll S.none.cells rfl)
                have XN := Lib.hid (X.out.trans_but (But.setCells g2 S.none.cells 0 wi) l2)
                generalize wi.setCells g2 0 S.none.cells = wn at *
                clear h2 H2 X
                go_wp2_with fail
                exact bodyPost_ret (results_row2 rfl _ _ g2 25 (S.none.cells).toArray (0, 0) _ rfl HN.out undS rfl (by rw [List.size_toArray, cells_length _ none_dig]; exact size38)) rfl ⟨by rw [HV.out]; rfl, XN.out⟩
              · subst ha
                rw [len_data] at hk
                by_cases hks : k = s.size
                · have da : ((k : Int) != (s.size : Int)) = false := by rw [hks]; simp
                  have hp3 : p.2 = some [] := by rw [hp2, List.drop_of_length_le (by rw [len_data]; omega)]
                  have CG := Lib.hid (goodR_any p.1 HD wi)
                  cases hg : good p.1 with
                  | true =>
                    have HV : Hid (parseV s.data.toList = .tuple #[.agg p.1.cells.toArray, .bool true]) := by
                      show parseV _ = _
                      unfold parseV parse
                      rw [HR.out, if_pos ⟨hp3, hg⟩]
                    rw [hg] at CG
                    clear HR hp2 hp3 hg HPL
                    go_upto_region 31 with (fail)
                    refine wp_region_lit ?_
                    repeat (first | refine wpList_ldr rfl _ _ rfl g4 rfl _ _ _ HY undS (by rw [cells_length p.1 HD]; exact size38) ?_ | go_step)
                    refine (CG.out).mono ?_
                    rintro e wj ⟨rfl, xj⟩
                    rename_i hK
                    refine hK _ _ ?_
                    clear CG p0 p1 p2 p3
                    have HYn := Lib.hid (HY.out.ext xj)
                    have HFn := Lib.hid (HF.out.ext xj)
                    have H2n := Lib.hid (H2.out.ext xj)
                    have Xn := Lib.hid (X.out.trans xj)
                    clear xj HY HF H2 X
                    try clear wi
                    have HY := HYn
                    have HF := HFn
                    have H2 := H2n
                    have X := Xn
                    clear HYn HFn H2n Xn
                    generalize wj = wi at *
                    go_upto_region 33 with (fail)
                    refine wp_region_lit ?_
                    have hyo := HY.out
                    have h2 := H2.out
                    refine wpList_load_row rfl 25 _ rfl g4 rfl 25 (p.1.cells).toArray (0, 0) _ hyo undS rfl (by rw [List.size_toArray, cells_length p.1 HD]; exact size38) ?_
                    simp only [Act.put, Act.eval, List.setIfInBounds_toArray, List.set_cons_zero, List.set_cons_succ, Nat.reduceAdd, Array.getD_eq_getD_getElem?, List.getElem?_toArray, List.getElem?_cons_succ, List.getElem?_cons_zero, Option.getD_some]
                    refine wpList_store_mid rfl 25 _ _ rfl g2 0 ((p.1).cells).toArray rfl ?_ (h2.there _ (by have e1 := cells_length _ HD; have e2 := cells_length _ none_dig; rw [List.size_toArray]; omega)) (by rw [List.size_toArray, cells_length _ HD]; exact size38) (all_oneCell_toArray (oneS _)) ?_
                    · rfl
                    simp only [List.toList_toArray]
                    simp only [Act.put, Act.eval, List.setIfInBounds_toArray, List.set_cons_zero, List.set_cons_succ, Nat.reduceAdd, Array.getD_eq_getD_getElem?, List.getElem?_toArray, List.getElem?_cons_succ, List.getElem?_cons_zero, Option.getD_some]
                    have HN := Lib.hid (h2.setAll p.1.cells ((cells_length _ HD).trans (cells_length _ none_dig).symm))
                    have XN := Lib.hid (X.out.trans_but (But.setCells g2 p.1.cells 0 wi) l2)
                    generalize wi.setCells g2 0 p.1.cells = wn at *
                    clear h2 hyo H2 X HY
                    go_wp2_with fail
                    exact bodyPost_ret (results_row2 rfl _ _ g2 25 (p.1.cells).toArray (0, 0) _ rfl HN.out undS rfl (by rw [List.size_toArray, cells_length _ HD]; exact size38)) rfl ⟨by rw [HV.out]; rfl, XN.out⟩
                  | false =>
                    have HV : Hid (parseV s.data.toList = .tuple #[.agg S.none.cells.toArray, .bool false]) := by
                      show parseV _ = _
                      unfold parseV parse
                      rw [HR.out, if_neg (by rw [hg]; simp)]
                    rw [hg] at CG
                    clear HR hp2 hp3 hg HPL
                    go_upto_region 31 with (fail)
                    refine wp_region_lit ?_
                    repeat (first | refine wpList_ldr rfl _ _ rfl g4 rfl _ _ _ HY undS (by rw [cells_length p.1 HD]; exact size38) ?_ | go_step)
                    refine (CG.out).mono ?_
                    rintro e wj ⟨rfl, xj⟩
                    rename_i hK
                    refine hK _ _ ?_
                    clear CG p0 p1 p2 p3
                    have HYn := Lib.hid (HY.out.ext xj)
                    have HFn := Lib.hid (HF.out.ext xj)
                    have H2n := Lib.hid (H2.out.ext xj)
                    have Xn := Lib.hid (X.out.trans xj)
                    clear xj HY HF H2 X
                    try clear wi
                    have HY := HYn
                    have HF := HFn
                    have H2 := H2n
                    have X := Xn
                    clear HYn HFn H2n Xn
                    generalize wj = wi at *
                    go_upto_region 32 with (fail)
                    refine wp_region_lit ?_
                    refine wpList_val rfl (.agg S.none.cells.toArray) (by as_aux_lemma => kernel_rfl) ?_
                    simp only [Act.put, Act.eval, List.setIfInBounds_toArray, List.set_cons_zero, List.set_cons_succ, Nat.reduceAdd, Array.getD_eq_getD_getElem?, List.getElem?_toArray, List.getElem?_cons_succ, List.getElem?_cons_zero, Option.getD_some]
                    have h2 := H2.out
                    refine wpList_store_mid rfl 25 _ _ rfl g2 0 ((S.none).cells).toArray rfl ?_ (h2.there _ (by have e1 := cells_length _ none_dig; have e2 := cells_length _ none_dig; rw [List.size_toArray]; omega)) (by rw [List.size_toArray, cells_length _ none_dig]; exact size38) (all_oneCell_toArray (oneS _)) ?_
                    · rfl
                    simp only [List.toList_toArray]
                    simp only [Act.put, Act.eval, List.setIfInBounds_toArray, List.set_cons_zero, List.set_cons_succ, Nat.reduceAdd, Array.getD_eq_getD_getElem?, List.getElem?_toArray, List.getElem?_cons_succ, List.getElem?_cons_zero, Option.getD_some]
                    have HN := Lib.hid (h2.setAll S.none.cells rfl)
                    have XN := Lib.hid (X.out.trans_but (But.setCells g2 S.none.cells 0 wi) l2)
                    generalize wi.setCells g2 0 S.none.cells = wn at *
                    clear h2 H2 X
                    go_wp2_with fail
                    exact bodyPost_ret (results_row2 rfl _ _ g2 25 (S.none.cells).toArray (0, 0) _ rfl HN.out undS rfl (by rw [List.size_toArray, cells_length _ none_dig]; exact size38)) rfl ⟨by rw [HV.out]; rfl, XN.out⟩
                · have da : ((k : Int) != (s.size : Int)) = true := by rw [bne_iff_ne]; omega
                  have HV : Hid (parseV s.data.toList = .tuple #[.agg S.none.cells.toArray, .bool false]) := by
                    show parseV _ = _
                    unfold parseV parse
                    rw [HR.out, if_neg]
                    rintro ⟨h1, -⟩
                    rw [hp2] at h1
                    injection h1 with h1
                    have := congrArg List.length h1
                    rw [List.length_drop, len_data] at this
                    simp at this
                    omega
                  clear HR hp2 HPL
                  go_upto_region 32 with (fail)
                  refine wp_region_lit ?_
                  refine wpList_val rfl (.agg S.none.cells.toArray) (by as_aux_lemma => kernel_rfl) ?_
                  simp only [Act.put, Act.eval, List.setIfInBounds_toArray, List.set_cons_zero, List.set_cons_succ, Nat.reduceAdd, Array.getD_eq_getD_getElem?, List.getElem?_toArray, List.getElem?_cons_succ, List.getElem?_cons_zero, Option.getD_some]
                  have h2 := H2.out
                  refine wpList_store_mid rfl 25 _ _ rfl g2 0 ((S.none).cells).toArray rfl ?_ (h2.there _ (by have e1 := cells_length _ none_dig; have e2 := cells_length _ none_dig; rw [List.size_toArray]; omega)) (by rw [List.size_toArray, cells_length _ none_dig]; exact size38) (all_oneCell_toArray (oneS _)) ?_
                  · rfl
                  simp only [List.toList_toArray]
                  simp only [Act.put, Act.eval, List.setIfInBounds_toArray, List.set_cons_zero, List.set_cons_succ, Nat.reduceAdd, Array.getD_eq_getD_getElem?, List.getElem?_toArray, List.getElem?_cons_succ, List.getElem?_cons_zero, Option.getD_some]
                  have HN := Lib.hid (h2.setAll S.none.cells rfl)
                  have XN := Lib.hid (X.out.trans_but (But.setCells g2 S.none.cells 0 wi) l2)
                  generalize wi.setCells g2 0 S.none.cells = wn at *
                  clear h2 H2 X
                  go_wp2_with fail
                  exact bodyPost_ret (results_row2 rfl _ _ g2 25 (S.none.cells).toArray (0, 0) _ rfl HN.out undS rfl (by rw [List.size_toArray, cells_length _ none_dig]; exact size38)) rfl ⟨by rw [HV.out]; rfl, XN.out⟩
          -- Y}
        · have d32 : decide ((32 : Int) ≤ (s.size : Int) - (k : Int)) = false := by rw [decide_eq_false_iff_not]; omega
          have hpd : pDig p = (p.1, none) := by unfold pDig; rw [hp2, take_no (by rw [List.length_drop, len_data]; omega)]; rfl
          -- {M
          go_upto_region 21 with (fail)
          clear p0 p1 p2 p3 HPL hp2
          have HPL : Hid (Plc s.data.toList (pDig p).2 (-1)) := .inl ⟨by rw [hpd], rfl⟩
          have HYn : Hid (Blk wi g4 25 (pDig p).1.cells) := by rw [hpd]; exact HY.out
          have HDn : (pDig p).1.dig.length = 32 := pDig_len p HD
          clear HY HD hpd
          generalize pDig p = p at *
          generalize (-1 : Int) = a at HPL ⊢
          have HY := HYn
          have HD := HDn
          clear HYn HDn
          clear dk0 d32
          have p0 : wi.cell? ⟨g5, 0, none⟩ = some (.bool false) := HF.out.cell 0
          have p1 : wi.cell? ⟨g5, 1, none⟩ = some (.bool true) := HF.out.cell 1
          have p2 : wi.cell? ⟨g5, 2, none⟩ = some (.bool false) := HF.out.cell 2
          have p3 : wi.cell? ⟨g5, 3, none⟩ = some (.bool false) := HF.out.cell 3
          rcases HPL.out with ⟨hp2, ha⟩ | ⟨k, hk, hp2, ha⟩
          · have HV : Hid (parseV s.data.toList = .tuple #[.agg S.none.cells.toArray, .bool false]) := by
              show parseV _ = _
              unfold parseV parse
              rw [HR.out, if_neg (by rw [hp2]; simp)]
            subst ha
            have da : ((-1 : Int) != (s.size : Int)) = true := by rw [bne_iff_ne]; omega
            clear HR hp2 HPL
            go_upto_region 32 with (fail)
            refine wp_region_lit ?_
            refine wpList_val rfl (.agg S.none.cells.toArray) (by as_aux_lemma => kernel_rfl) ?_
            simp only [Act.put, Act.eval, List.setIfInBounds_toArray, List.set_cons_zero, List.set_cons_succ, Nat.reduceAdd, Array.getD_eq_getD_getElem?, List.getElem?_toArray, List.getElem?_cons_succ, List.getElem?_cons_zero, Option.getD_some]
            have h2 := H2.out
            refine wpList_store_mid rfl 25 _ _ rfl g2 0 ((S.none).cells).toArray rfl ?_ (h2.there _ (by have e1 := cells_length _ none_dig; have e2 := cells_length _ none_dig; rw [List.size_toArray]; omega)) (by rw [List.size_toArray, cells_length _ none_dig]; exact size38) (all_oneCell_toArray (oneS _)) ?_
            · rfl
            simp only [List.toList_toArray]
            simp only [Act.put, Act.eval, List.setIfInBounds_toArray, List.set_cons_zero, List.set_cons_succ, Nat.reduceAdd, Array.getD_eq_getD_getElem?, List.getElem?_toArray, List.getElem?_cons_succ, List.getElem?_cons_zero, Option.getD_some]
            have HN := Lib.hid (h2.setAll S.none.cells rfl)
            have XN := Lib.hid (X.out.trans_but (But.setCells g2 S.none.cells 0 wi) l2)
            generalize wi.setCells g2 0 S.none.cells = wn at *
            clear h2 H2 X
            go_wp2_with fail
            exact bodyPost_ret (results_row2 rfl _ _ g2 25 (S.none.cells).toArray (0, 0) _ rfl HN.out undS rfl (by rw [List.size_toArray, cells_length _ none_dig]; exact size38)) rfl ⟨by rw [HV.out]; rfl, XN.out⟩
          · subst ha
            rw [len_data] at hk
            by_cases hks : k = s.size
            · have da : ((k : Int) != (s.size : Int)) = false := by rw [hks]; simp
              have hp3 : p.2 = some [] := by rw [hp2, List.drop_of_length_le (by rw [len_data]; omega)]
              have CG := Lib.hid (goodR_any p.1 HD wi)
              cases hg : good p.1 with
              | true =>
                have HV : Hid (parseV s.data.toList = .tuple #[.agg p.1.cells.toArray, .bool true]) := by
                  show parseV _ = _
                  unfold parseV parse
                  rw [HR.out, if_pos ⟨hp3, hg⟩]
                rw [hg] at CG
                clear HR hp2 hp3 hg HPL
                go_upto_region 31 with (fail)
                refine wp_region_lit ?_
                repeat (first | refine wpList_ldr rfl _ _ rfl g4 rfl _ _ _ HY undS (by rw [cells_length p.1 HD]; exact size38) ?_ | go_step)
                refine (CG.out).mono ?_
                rintro e wj ⟨rfl, xj⟩
                rename_i hK
                refine hK _ _ ?_
                clear CG p0 p1 p2 p3
                have HYn := Lib.hid (HY.out.ext xj)
                have HFn := Lib.hid (HF.out.ext xj)
                have H2n := Lib.hid (H2.out.ext xj)
                have Xn := Lib.hid (X.out.trans xj)
                clear xj HY HF H2 X
                try clear wi
                have HY := HYn
                have HF := HFn
                have H2 := H2n
                have X := Xn
                clear HYn HFn H2n Xn
                generalize wj = wi at *
                go_upto_region 33 with (fail)
                refine wp_region_lit ?_
                have hyo := HY.out
                have h2 := H2.out
                refine wpList_load_row rfl 25 _ rfl g4 rfl 25 (p.1.cells).toArray (0, 0) _ hyo undS rfl (by rw [List.size_toArray, cells_length p.1 HD]; exact size38) ?_
                simp only [Act.put, Act.eval, List.setIfInBounds_toArray, List.set_cons_zero, List.set_cons_succ, Nat.reduceAdd, Array.getD_eq_getD_getElem?, List.getElem?_toArray, List.getElem?_cons_succ, List.getElem?_cons_zero, Option.getD_some]
                refine wpList_store_mid rfl 25 _ _ rfl g2 0 ((p.1).cells).toArray rfl ?_ (h2.there _ (by have e1 := cells_length _ HD; have e2 := cells_length _ none_dig; rw [List.size_toArray]; omega)) (by rw [List.size_toArray, cells_length _ HD]; exact size38) (all_oneCell_toArray (oneS _)) ?_
                · rfl
                simp only [List.toList_toArray]
                simp only [Act.put, Act.eval, List.setIfInBounds_toArray, List.set_cons_zero, List.set_cons_succ, Nat.reduceAdd, Array.getD_eq_getD_getElem?, List.getElem?_toArray, List.getElem?_cons_succ, List.getElem?_cons_zero, Option.getD_some]
                have HN := Lib.hid (h2.setAll p.1.cells ((cells_length _ HD).trans (cells_length _ none_dig).symm))
                have XN := Lib.hid (X.out.trans_but (But.setCells g2 p.1.cells 0 wi) l2)
                generalize wi.setCells g2 0 p.1.cells = wn at *
                clear h2 hyo H2 X HY
                go_wp2_with fail
                exact bodyPost_ret (results_row2 rfl _ _ g2 25 (p.1.cells).toArray (0, 0) _ rfl HN.out undS rfl (by rw [List.size_toArray, cells_length _ HD]; exact size38)) rfl ⟨by rw [HV.out]; rfl, XN.out⟩
              | false =>
                have HV : Hid (parseV s.data.toList = .tuple #[.agg S.none.cells.toArray, .bool false]) := by
                  show parseV _ = _
                  unfold parseV parse
                  rw [HR.out, if_neg (by rw [hg]; simp)]
                rw [hg] at CG
                clear HR hp2 hp3 hg HPL
                go_upto_region 31 with (fail)
                refine wp_region_lit ?_
                repeat (first | refine wpList_ldr rfl _ _ rfl g4 rfl _ _ _ HY undS (by rw [cells_length p.1 HD]; exact size38) ?_ | go_step)
                refine (CG.out).mono ?_
                rintro e wj ⟨rfl, xj⟩
                rename_i hK
                refine hK _ _ ?_
                clear CG p0 p1 p2 p3
                have HYn := Lib.hid (HY.out.ext xj)
                have HFn := Lib.hid (HF.out.ext xj)
                have H2n := Lib.hid (H2.out.ext xj)
                have Xn := Lib.hid (X.out.trans xj)
                clear xj HY HF H2 X
                try clear wi
                have HY := HYn
                have HF := HFn
                have H2 := H2n
                have X := Xn
                clear HYn HFn H2n Xn
                generalize wj = wi at *
                go_upto_region 32 with (fail)
                refine wp_region_lit ?_
                refine wpList_val rfl (.agg S.none.cells.toArray) (by as_aux_lemma => kernel_rfl) ?_
                simp only [Act.put, Act.eval, List.setIfInBounds_toArray, List.set_cons_zero, List.set_cons_succ, Nat.reduceAdd, Array.getD_eq_getD_getElem?, List.getElem?_toArray, List.getElem?_cons_succ, List.getElem?_cons_zero, Option.getD_some]
                have h2 := H2.out
                refine wpList_store_mid rfl 25 _ _ rfl g2 0 ((S.none).cells).toArray rfl ?_ (h2.there _ (by have e1 := cells_length _ none_dig; have e2 := cells_length _ none_dig; rw [List.size_toArray]; omega)) (by rw [List.size_toArray, cells_length _ none_dig]; exact size38) (all_oneCell_toArray (oneS _)) ?_
                · rfl
                simp only [List.toList_toArray]
                simp only [Act.put, Act.eval, List.setIfInBounds_toArray, List.set_cons_zero, List.set_cons_succ, Nat.reduceAdd, Array.getD_eq_getD_getElem?, List.getElem?_toArray, List.getElem?_cons_succ, List.getElem?_cons_zero, Option.getD_some]
                have HN := Lib.hid (h2.setAll S.none.cells rfl)
                have XN := Lib.hid (X.out.trans_but (But.setCells g2 S.none.cells 0 wi) l2)
                generalize wi.setCells g2 0 S.none.cells = wn at *
                clear h2 H2 X
                go_wp2_with fail
                exact bodyPost_ret (results_row2 rfl _ _ g2 25 (S.none.cells).toArray (0, 0) _ rfl HN.out undS rfl (by rw [List.size_toArray, cells_length _ none_dig]; exact size38)) rfl ⟨by rw [HV.out]; rfl, XN.out⟩
            · have da : ((k : Int) != (s.size : Int)) = true := by rw [bne_iff_ne]; omega
              have HV : Hid (parseV s.data.toList = .tuple #[.agg S.none.cells.toArray, .bool false]) := by
                show parseV _ = _
                unfold parseV parse
                rw [HR.out, if_neg]
                rintro ⟨h1, -⟩
                rw [hp2] at h1
                injection h1 with h1
                have := congrArg List.length h1
                rw [List.length_drop, len_data] at this
                simp at this
                omega
              clear HR hp2 HPL
              go_upto_region 32 with (fail)
              refine wp_region_lit ?_
              refine wpList_val rfl (.agg S.none.cells.toArray) (by as_aux_lemma => kernel_rfl) ?_
              simp only [Act.put, Act.eval, List.setIfInBounds_toArray, List.set_cons_zero, List.set_cons_succ, Nat.reduceAdd, Array.getD_eq_getD_getElem?, List.getElem?_toArray, List.getElem?_cons_succ, List.getElem?_cons_zero, Option.getD_some]
              have h2 := H2.out
              refine wpList_store_mid rfl 25 _ _ rfl g2 0 ((S.none).cells).toArray rfl ?_ (h2.there _ (by have e1 := cells_length _ none_dig; have e2 := cells_length _ none_dig; rw [List.size_toArray]; omega)) (by rw [List.size_toArray, cells_length _ none_dig]; exact size38) (all_oneCell_toArray (oneS _)) ?_
              · rfl
              simp only [List.toList_toArray]
              simp only [Act.put, Act.eval, List.setIfInBounds_toArray, List.set_cons_zero, List.set_cons_succ, Nat.reduceAdd, Array.getD_eq_getD_getElem?, List.getElem?_toArray, List.getElem?_cons_succ, List.getElem?_cons_zero, Option.getD_some]
              have HN := Lib.hid (h2.setAll S.none.cells rfl)
              have XN := Lib.hid (X.out.trans_but (But.setCells g2 S.none.cells 0 wi) l2)
              generalize wi.setCells g2 0 S.none.cells = wn at *
              clear h2 H2 X
              go_wp2_with fail
              exact bodyPost_ret (results_row2 rfl _ _ g2 25 (S.none.cells).toArray (0, 0) _ rfl HN.out undS rfl (by rw [List.size_toArray, cells_length _ none_dig]; exact size38)) rfl ⟨by rw [HV.out]; rfl, XN.out⟩
          -- M}
      -- E}
end Slp
end Go.Proofs.YtbeghdoffiidoaaDoor
