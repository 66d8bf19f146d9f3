/- Chapter 15, the reference: Parse. -/
import Derived.Test.YtdoplndijlfabaaDoorPlaceRefI
import Derived.Test.YtdoplndijlfabaaDoorPlaceRefT
import Derived.Test.YtdoplndijlfabaaDoorStampRefB
set_option linter.unusedSimpArgs false
set_option linter.unusedVariables false
set_option linter.unusedSectionVars false
namespace Go.Proofs.YtdoplndijlfabaaDoor
open Go.RowKit
namespace Pl
open Rte
set_option maxRecDepth 100000 in
set_option maxHeartbeats 8000000 in
theorem parseR_any (s : ByteArray) (w : World) (h3 : s.size ≤ 274877906944) :
    Calls Tryd.prog 10 #[.string s] w fun e w' => e = .returned (rouV (parseP s.data.toList)) ∧ Reg.Ext w w' := by
  go_enter Tryd.func10, Tryd.ntmps10
  go_upto_region 1 with (fail)
  rw [z35]
  have hb1 := boxS w S.none
  have hx1 := Reg.Ext.alloc w (Obj.cells S.none.cells.toArray 26)
  generalize w.alloc (Obj.cells S.none.cells.toArray 26) = w1 at *
  have HR := Lib.hid hb1
  have HX := Lib.hid hx1
  clear hb1 hx1
  obtain ⟨gr, hgg⟩ : ∃ g, w.heap.size = g := ⟨_, rfl⟩
  rw [hgg] at HR ⊢
  have hgr : w.heap.size ≤ gr := by omega
  clear hgg
  refine wp_region_lit ?_
  refine wpList_val rfl (.agg S.none.cells.toArray) (by as_aux_lemma => kernel_rfl) ?_
  simp only [Act.put, Act.eval, List.setIfInBounds_toArray, List.set_cons_zero, List.set_cons_succ, Nat.reduceAdd, Array.getD_eq_getD_getElem?, List.getElem?_toArray, List.getElem?_cons_succ, List.getElem?_cons_zero, Option.getD_some]
  iterate 3 go_step
  rw [z35]
  have hbf := boxS w1 S.none
  have hxf := Reg.Ext.alloc w1 (Obj.cells S.none.cells.toArray 26)
  have hxs := hxf.trans_but (But.setCells w1.heap.size ((S.none).cells) 0 _) (Nat.le_refl _)
  generalize w1.alloc (Obj.cells S.none.cells.toArray 26) = wf at *
  have HBF := Lib.hid hbf
  clear hbf hxf
  refine wpList_store_mid rfl 26 _ _ rfl w1.heap.size 0 ((S.none).cells).toArray rfl rfl (HBF.out.there _ (by rw [List.size_toArray]; have a1 := cells_length (S.none) none_dig; have a2 := cells_length S.none none_dig; omega)) (by rw [List.size_toArray, cells_length _ none_dig]; exact size35) (all_oneCell_toArray (oneS _)) ?_
  simp only [List.toList_toArray]
  simp only [Act.put, Act.eval, List.setIfInBounds_toArray, List.set_cons_zero, List.set_cons_succ, Nat.reduceAdd, Array.getD_eq_getD_getElem?, List.getElem?_toArray, List.getElem?_cons_succ, List.getElem?_cons_zero, Option.getD_some]
  have hbs := HBF.out.setAll ((S.none).cells) (by have a1 := cells_length (S.none) none_dig; have a2 := cells_length S.none none_dig; omega)
  generalize wf.setCells w1.heap.size 0 ((S.none).cells) = w2 at *
  have B2 := Lib.hid hbs
  have X2 := Lib.hid hxs
  clear hbs hxs HBF
  generalize w1.heap.size = g4 at *
  have HR2 := Lib.hid (HR.out.ext X2.out)
  have HX2 := Lib.hid (HX.out.trans X2.out)
  clear X2 HR HX
  by_cases h4 : s.size < 4
  · have d1 : decide ((s.size : Int) < 4) = true := by rw [decide_eq_true_iff]; omega
    have HV := Lib.hid (show rouV (parseP s.data.toList) = .tuple #[.agg S.none.cells.toArray, .int .i64 7] by
      have : Pre.has rootL s.data.toList = false := Pre.has_short s ⟨rootL.toArray⟩ h4
      unfold parseP; rw [if_pos this]; rfl)
    go_upto_region 3 with (fail)
    refine wp_region_lit ?_
    refine wpList_rt rfl _ rfl g4 rfl _ S.none none_dig B2 ?_
    simp only [Act.put, Act.eval, List.setIfInBounds_toArray, List.set_cons_zero, List.set_cons_succ, Nat.reduceAdd, Array.getD_eq_getD_getElem?, List.getElem?_toArray, List.getElem?_cons_succ, List.getElem?_cons_zero, Option.getD_some]
    refine wpList_store_mid rfl 26 _ _ rfl gr 0 ((S.none).cells).toArray rfl rfl (HR2.out.there _ (by rw [List.size_toArray]; have a1 := cells_length (S.none) none_dig; have a2 := cells_length S.none none_dig; omega)) (by rw [List.size_toArray, cells_length _ none_dig]; exact size35) (all_oneCell_toArray (oneS _)) ?_
    simp only [List.toList_toArray]
    simp only [Act.put, Act.eval, List.setIfInBounds_toArray, List.set_cons_zero, List.set_cons_succ, Nat.reduceAdd, Array.getD_eq_getD_getElem?, List.getElem?_toArray, List.getElem?_cons_succ, List.getElem?_cons_zero, Option.getD_some]
    have HN := Lib.hid (HR2.out.setAll ((S.none).cells) (by have a1 := cells_length (S.none) none_dig; have a2 := cells_length S.none none_dig; omega))
    have XN := Lib.hid (HX2.out.trans_but (But.setCells gr ((S.none).cells) 0 w2) hgr)
    generalize w2.setCells gr 0 ((S.none).cells) = wn at *
    go_wp2_with fail
    exact bodyPost_ret (results_row2 rfl _ _ gr 26 ((S.none).cells).toArray (0, 0) _ rfl HN.out undS rfl (by rw [List.size_toArray, cells_length _ none_dig]; exact size35)) rfl ⟨by rw [HV.out]; rfl, XN.out⟩
  · have d1 : decide ((s.size : Int) < 4) = false := by rw [decide_eq_false_iff_not]; omega
    have tr := Pre.ext_pre s ⟨rootL.toArray⟩ (by show 4 ≤ s.size; omega)
    rw [show (⟨rootL.toArray⟩ : ByteArray).size = 4 from rfl, show (⟨rootL.toArray⟩ : ByteArray).toList = [47, 118, 50, 47] by rw [ByteArray.toList_eq]; rfl, lst] at tr
    cases hh : Pre.has rootL s.data.toList with
    | false =>
      have HV := Lib.hid (show rouV (parseP s.data.toList) = .tuple #[.agg S.none.cells.toArray, .int .i64 7] by unfold parseP; rw [if_pos hh]; rfl)
      rw [hh] at tr
      clear hh
      go_upto_region 3 with (fail)
      refine wp_region_lit ?_
      refine wpList_rt rfl _ rfl g4 rfl _ S.none none_dig B2 ?_
      simp only [Act.put, Act.eval, List.setIfInBounds_toArray, List.set_cons_zero, List.set_cons_succ, Nat.reduceAdd, Array.getD_eq_getD_getElem?, List.getElem?_toArray, List.getElem?_cons_succ, List.getElem?_cons_zero, Option.getD_some]
      refine wpList_store_mid rfl 26 _ _ rfl gr 0 ((S.none).cells).toArray rfl rfl (HR2.out.there _ (by rw [List.size_toArray]; have a1 := cells_length (S.none) none_dig; have a2 := cells_length S.none none_dig; omega)) (by rw [List.size_toArray, cells_length _ none_dig]; exact size35) (all_oneCell_toArray (oneS _)) ?_
      simp only [List.toList_toArray]
      simp only [Act.put, Act.eval, List.setIfInBounds_toArray, List.set_cons_zero, List.set_cons_succ, Nat.reduceAdd, Array.getD_eq_getD_getElem?, List.getElem?_toArray, List.getElem?_cons_succ, List.getElem?_cons_zero, Option.getD_some]
      have HN := Lib.hid (HR2.out.setAll ((S.none).cells) (by have a1 := cells_length (S.none) none_dig; have a2 := cells_length S.none none_dig; omega))
      have XN := Lib.hid (HX2.out.trans_but (But.setCells gr ((S.none).cells) 0 w2) hgr)
      generalize w2.setCells gr 0 ((S.none).cells) = wn at *
      go_wp2_with fail
      exact bodyPost_ret (results_row2 rfl _ _ gr 26 ((S.none).cells).toArray (0, 0) _ rfl HN.out undS rfl (by rw [List.size_toArray, cells_length _ none_dig]; exact size35)) rfl ⟨by rw [HV.out]; rfl, XN.out⟩
    | true =>
      rw [hh] at tr
      have hsp := has_split hh
      rw [show rootL.length = 4 from rfl] at hsp
      have hr : s.data.toList.drop 4 = (s.extract 4 s.size).data.toList := by rw [ext_from]
      have hpf : parseP s.data.toList = (if (s.extract 4 s.size).data.toList = [] then (⟨1, noStr, noStr, zeros⟩, 0) else match cutL (s.extract 4 s.size).data.toList with
        | none => (S.none, 7)
        | some (x, ref) => match cutL x with
          | none => (S.none, 7)
          | some (repo, word) => if word ≠ manL ∧ word ≠ blobL then (S.none, 7) else if repoP repo = false then (S.none, 10) else referP ⟨repo.toArray⟩ word ref : S × Int) := by
        rw [← hr]; unfold parseP; rw [if_neg (by rw [hh]; decide)]
        rfl
      have HPF := Lib.hid hpf
      clear hpf hh
      by_cases h0 : (s.extract 4 s.size).data.toList = []
      · have te : (s.toList == [47, 118, 50, 47]) = true := by rw [ByteArray.toList_eq, hsp, hr, h0]; rfl
        have HV := Lib.hid (show rouV (parseP s.data.toList) = .tuple #[.agg (⟨1, noStr, noStr, zeros⟩ : S).cells.toArray, .int .i64 0] by rw [HPF.out, if_pos h0]; rfl)
        clear HPF h0 hr hsp
        go_upto_region 5 with (fail)
        refine wp_region_lit ?_
        refine wpList_val rfl (.agg (⟨1, noStr, noStr, zeros⟩ : S).cells.toArray) (by as_aux_lemma => kernel_rfl) ?_
        simp only [Act.put, Act.eval, List.setIfInBounds_toArray, List.set_cons_zero, List.set_cons_succ, Nat.reduceAdd, Array.getD_eq_getD_getElem?, List.getElem?_toArray, List.getElem?_cons_succ, List.getElem?_cons_zero, Option.getD_some]
        refine wpList_store_mid rfl 26 _ _ rfl gr 0 (((⟨1, noStr, noStr, zeros⟩ : S)).cells).toArray rfl rfl (HR2.out.there _ (by rw [List.size_toArray]; have a1 := cells_length ((⟨1, noStr, noStr, zeros⟩ : S)) zeros_len; have a2 := cells_length S.none none_dig; omega)) (by rw [List.size_toArray, cells_length _ zeros_len]; exact size35) (all_oneCell_toArray (oneS _)) ?_
        simp only [List.toList_toArray]
        simp only [Act.put, Act.eval, List.setIfInBounds_toArray, List.set_cons_zero, List.set_cons_succ, Nat.reduceAdd, Array.getD_eq_getD_getElem?, List.getElem?_toArray, List.getElem?_cons_succ, List.getElem?_cons_zero, Option.getD_some]
        have HN := Lib.hid (HR2.out.setAll (((⟨1, noStr, noStr, zeros⟩ : S)).cells) (by have a1 := cells_length ((⟨1, noStr, noStr, zeros⟩ : S)) zeros_len; have a2 := cells_length S.none none_dig; omega))
        have XN := Lib.hid (HX2.out.trans_but (But.setCells gr (((⟨1, noStr, noStr, zeros⟩ : S)).cells) 0 w2) hgr)
        generalize w2.setCells gr 0 (((⟨1, noStr, noStr, zeros⟩ : S)).cells) = wn at *
        go_wp2_with fail
        exact bodyPost_ret (results_row2 rfl _ _ gr 26 (((⟨1, noStr, noStr, zeros⟩ : S)).cells).toArray (0, 0) _ rfl HN.out undS rfl (by rw [List.size_toArray, cells_length _ zeros_len]; exact size35)) rfl ⟨by rw [HV.out]; rfl, XN.out⟩
      · have te : (s.toList == [47, 118, 50, 47]) = false := by
          rw [ByteArray.toList_eq, beq_eq_false_iff_ne]
          intro e
          apply h0
          rw [← hr, e]; rfl
        have hpf := HPF.out
        rw [if_neg h0] at hpf
        have HP3 := Lib.hid hpf
        have hxs : (s.extract 4 s.size).size ≤ 274877906944 := ext_le _ _ _ h3
        have hxz : s.size = 4 + (s.extract 4 s.size).size := by rw [ByteArray.size_extract]; omega
        have HXZ := Lib.hid hxz
        clear HPF hpf h0 hr hsp hxz
        have HL := Lib.hid (last_any (s.extract 4 s.size) w2 hxs)
        go_wp2_with fail
        refine HL.out.mono ?_
        rintro e w3 ⟨rfl, rfl⟩
        clear HL
        cases hc : cutL (s.extract 4 s.size).data.toList with
        | none =>
          have hv := HP3.out
          rw [hc] at hv
          have HV := Lib.hid (show rouV (parseP s.data.toList) = .tuple #[.agg S.none.cells.toArray, .int .i64 7] by rw [hv]; rfl)
          rw [show lastZ (s.extract 4 s.size).data.toList = -1 by unfold lastZ; rw [hc]]
          clear hc hv HP3
          go_upto_region 8 with (fail)
          refine wp_region_lit ?_
          refine wpList_rt rfl _ rfl g4 rfl _ S.none none_dig B2 ?_
          simp only [Act.put, Act.eval, List.setIfInBounds_toArray, List.set_cons_zero, List.set_cons_succ, Nat.reduceAdd, Array.getD_eq_getD_getElem?, List.getElem?_toArray, List.getElem?_cons_succ, List.getElem?_cons_zero, Option.getD_some]
          refine wpList_store_mid rfl 26 _ _ rfl gr 0 ((S.none).cells).toArray rfl rfl (HR2.out.there _ (by rw [List.size_toArray]; have a1 := cells_length (S.none) none_dig; have a2 := cells_length S.none none_dig; omega)) (by rw [List.size_toArray, cells_length _ none_dig]; exact size35) (all_oneCell_toArray (oneS _)) ?_
          simp only [List.toList_toArray]
          simp only [Act.put, Act.eval, List.setIfInBounds_toArray, List.set_cons_zero, List.set_cons_succ, Nat.reduceAdd, Array.getD_eq_getD_getElem?, List.getElem?_toArray, List.getElem?_cons_succ, List.getElem?_cons_zero, Option.getD_some]
          have HN := Lib.hid (HR2.out.setAll ((S.none).cells) (by have a1 := cells_length (S.none) none_dig; have a2 := cells_length S.none none_dig; omega))
          have XN := Lib.hid (HX2.out.trans_but (But.setCells gr ((S.none).cells) 0 w2) hgr)
          generalize w2.setCells gr 0 ((S.none).cells) = wn at *
          go_wp2_with fail
          exact bodyPost_ret (results_row2 rfl _ _ gr 26 ((S.none).cells).toArray (0, 0) _ rfl HN.out undS rfl (by rw [List.size_toArray, cells_length _ none_dig]; exact size35)) rfl ⟨by rw [HV.out]; rfl, XN.out⟩
        | some p =>
          obtain ⟨x, f⟩ := p
          have hv := HP3.out
          rw [hc] at hv
          simp only at hv
          have HP4 := Lib.hid hv
          obtain ⟨hcut, _⟩ := cutL_some.1 hc
          rw [ext_from] at hcut
          rw [show lastZ (s.extract 4 s.size).data.toList = (x.length : Int) by unfold lastZ; rw [hc]]
          have hl := congrArg List.length hcut
          rw [List.length_append, List.length_cons, List.length_drop, len_data] at hl
          have hk5 : x.length + 5 ≤ s.size := by omega
          have hF : (s.extract (4 + x.length + 1) s.size).data.toList = f := by
            rw [ext_from, show 4 + x.length + 1 = 4 + (x.length + 1) by omega, ← List.drop_drop, hcut, ← List.drop_drop, List.drop_left]; rfl
          have hX : (s.extract 4 (4 + x.length)).data.toList = x := by
            rw [ext_data, hcut, show 4 + x.length - 4 = x.length by omega, List.take_left]
          clear hc hv HP3 hcut hl
          have HF := Lib.hid hF
          have HXX := Lib.hid hX
          clear hF hX
          generalize x.length = k at *
          have d2 : decide ((k : Int) < 0) = false := by rw [decide_eq_false_iff_not]; omega
          have hXs : (s.extract 4 (4 + k)).size ≤ 274877906944 := ext_le _ _ _ h3
          have hFs : (s.extract (4 + k + 1) s.size).size ≤ 274877906944 := ext_le _ _ _ h3
          have HL := Lib.hid (fun w => last_any (s.extract 4 (4 + k)) w hXs)
          go_wp2_with fail
          refine (HL.out w2).mono ?_
          rintro e w3 ⟨rfl, rfl⟩
          clear HL
          have hx := HXX.out
          have hf := HF.out
          have hp := HP4.out
          rw [← hx, ← hf] at hp
          clear HXX HF HP4 hx hf
          generalize s.extract 4 (4 + k) = X at *
          generalize s.extract (4 + k + 1) s.size = F at *
          have HP5 := Lib.hid hp
          clear hp
          cases hc : cutL X.data.toList with
          | none =>
            have hv := HP5.out
            rw [hc] at hv
            have HV := Lib.hid (show rouV (parseP s.data.toList) = .tuple #[.agg S.none.cells.toArray, .int .i64 7] by rw [hv]; rfl)
            rw [show lastZ X.data.toList = -1 by unfold lastZ; rw [hc]]
            clear hc hv HP5
            go_upto_region 13 with (fail)
            refine wp_region_lit ?_
            refine wpList_rt rfl _ rfl g4 rfl _ S.none none_dig B2 ?_
            simp only [Act.put, Act.eval, List.setIfInBounds_toArray, List.set_cons_zero, List.set_cons_succ, Nat.reduceAdd, Array.getD_eq_getD_getElem?, List.getElem?_toArray, List.getElem?_cons_succ, List.getElem?_cons_zero, Option.getD_some]
            refine wpList_store_mid rfl 26 _ _ rfl gr 0 ((S.none).cells).toArray rfl rfl (HR2.out.there _ (by rw [List.size_toArray]; have a1 := cells_length (S.none) none_dig; have a2 := cells_length S.none none_dig; omega)) (by rw [List.size_toArray, cells_length _ none_dig]; exact size35) (all_oneCell_toArray (oneS _)) ?_
            simp only [List.toList_toArray]
            simp only [Act.put, Act.eval, List.setIfInBounds_toArray, List.set_cons_zero, List.set_cons_succ, Nat.reduceAdd, Array.getD_eq_getD_getElem?, List.getElem?_toArray, List.getElem?_cons_succ, List.getElem?_cons_zero, Option.getD_some]
            have HN := Lib.hid (HR2.out.setAll ((S.none).cells) (by have a1 := cells_length (S.none) none_dig; have a2 := cells_length S.none none_dig; omega))
            have XN := Lib.hid (HX2.out.trans_but (But.setCells gr ((S.none).cells) 0 w2) hgr)
            generalize w2.setCells gr 0 ((S.none).cells) = wn at *
            go_wp2_with fail
            exact bodyPost_ret (results_row2 rfl _ _ gr 26 ((S.none).cells).toArray (0, 0) _ rfl HN.out undS rfl (by rw [List.size_toArray, cells_length _ none_dig]; exact size35)) rfl ⟨by rw [HV.out]; rfl, XN.out⟩
          | some p =>
            obtain ⟨o, d⟩ := p
            have hv := HP5.out
            rw [hc] at hv
            simp only at hv
            have HP6 := Lib.hid hv
            obtain ⟨hcut, _⟩ := cutL_some.1 hc
            rw [show lastZ X.data.toList = (o.length : Int) by unfold lastZ; rw [hc]]
            have hl := congrArg List.length hcut
            rw [List.length_append, List.length_cons, len_data] at hl
            have hko : o.length < X.size := by omega
            have hD : (X.extract (o.length + 1) X.size).data.toList = d := by
              rw [ext_from, hcut, ← List.drop_drop, List.drop_left]; rfl
            have hO : (X.extract 0 o.length).data.toList = o := by
              rw [ext_data, hcut]; simp
            clear hc hv HP5 hcut hl
            have HD := Lib.hid hD
            have HO := Lib.hid hO
            have tm := test_lit (X.extract (o.length + 1) X.size) manL
            have tb := test_lit (X.extract (o.length + 1) X.size) blobL
            rw [hD] at tm tb
            unfold manL at tm
            unfold blobL at tb
            clear hD hO
            generalize o.length = n at *
            have d3 : decide ((n : Int) < 0) = false := by rw [decide_eq_false_iff_not]; omega
            by_cases hm : d = manL
            · have tm1 : ((X.extract (n + 1) X.size).toList == [109, 97, 110, 105, 102, 101, 115, 116, 115]) = true := by rw [tm]; exact decide_eq_true hm
              have tb1 : ((X.extract (n + 1) X.size).toList == [98, 108, 111, 98, 115]) = false := by rw [tb, hm]; rfl
              clear tm tb
              go_upto_region 15 with (fail)
              refine wp_region_lit ?_
              iterate 9 go_step
              refine wpList_val rfl (.agg (start (X.extract 0 n)).cells.toArray) (by as_aux_lemma => kernel_rfl) ?_
              simp only [Act.put, Act.eval, List.setIfInBounds_toArray, List.set_cons_zero, List.set_cons_succ, Nat.reduceAdd, Array.getD_eq_getD_getElem?, List.getElem?_toArray, List.getElem?_cons_succ, List.getElem?_cons_zero, Option.getD_some]
              iterate 3 go_step
              have hg9 : w.heap.size ≤ w2.heap.size := HX2.out.size
              have hne9 : w2.heap.size ≠ gr := by have := HR2.out.lt; omega
              rw [z35]
              have hbf := boxS w2 S.none
              have hxf := Reg.Ext.alloc w2 (Obj.cells S.none.cells.toArray 26)
              have hxs := hxf.trans_but (But.setCells w2.heap.size ((start (X.extract 0 n)).cells) 0 _) (Nat.le_refl _)
              generalize w2.alloc (Obj.cells S.none.cells.toArray 26) = wf at *
              have HBF := Lib.hid hbf
              clear hbf hxf
              refine wpList_store_mid rfl 26 _ _ rfl w2.heap.size 0 ((start (X.extract 0 n)).cells).toArray rfl rfl (HBF.out.there _ (by rw [List.size_toArray]; have a1 := cells_length (start (X.extract 0 n)) zeros_len; have a2 := cells_length S.none none_dig; omega)) (by rw [List.size_toArray, cells_length _ zeros_len]; exact size35) (all_oneCell_toArray (oneS _)) ?_
              simp only [List.toList_toArray]
              simp only [Act.put, Act.eval, List.setIfInBounds_toArray, List.set_cons_zero, List.set_cons_succ, Nat.reduceAdd, Array.getD_eq_getD_getElem?, List.getElem?_toArray, List.getElem?_cons_succ, List.getElem?_cons_zero, Option.getD_some]
              have hbs := HBF.out.setAll ((start (X.extract 0 n)).cells) (by have a1 := cells_length (start (X.extract 0 n)) zeros_len; have a2 := cells_length S.none none_dig; omega)
              generalize wf.setCells w2.heap.size 0 ((start (X.extract 0 n)).cells) = w4 at *
              have B9 := Lib.hid hbs
              have X9 := Lib.hid hxs
              clear hbs hxs HBF
              generalize w2.heap.size = g9 at *
              have HR4 := Lib.hid (HR2.out.ext X9.out)
              have B4 := Lib.hid (B2.out.ext X9.out)
              have HX4 := Lib.hid (HX2.out.trans X9.out)
              clear X9 HR2 B2 HX2
              have c1 : w4.cell? ⟨g9, 1, none⟩ = some (.string (X.extract 0 n)) := B9.out.cell 1
              go_wp2_with fail
              refine (repoR_any (X.extract 0 n) w4).mono ?_
              rintro e w5 ⟨rfl, x5⟩
              have HR5 := Lib.hid (HR4.out.ext x5)
              have B5 := Lib.hid (B4.out.ext x5)
              have C5 := Lib.hid (B9.out.ext x5)
              have HX5 := Lib.hid (HX4.out.trans x5)
              clear x5 c1 HR4 B4 B9 HX4
              have hv := HP6.out
              rw [if_neg (by simp [hm])] at hv
              cases hrp : repoP (X.extract 0 n).data.toList with
              | false =>
                have HV := Lib.hid (show rouV (parseP s.data.toList) = .tuple #[.agg S.none.cells.toArray, .int .i64 10] by rw [hv, if_pos (by rw [← HO.out]; exact hrp)]; rfl)
                clear hv hrp HP6
                go_upto_region 17 with (fail)
                refine wp_region_lit ?_
                refine wpList_rt rfl _ rfl g4 rfl _ S.none none_dig B5 ?_
                simp only [Act.put, Act.eval, List.setIfInBounds_toArray, List.set_cons_zero, List.set_cons_succ, Nat.reduceAdd, Array.getD_eq_getD_getElem?, List.getElem?_toArray, List.getElem?_cons_succ, List.getElem?_cons_zero, Option.getD_some]
                refine wpList_store_mid rfl 26 _ _ rfl gr 0 ((S.none).cells).toArray rfl rfl (HR5.out.there _ (by rw [List.size_toArray]; have a1 := cells_length (S.none) none_dig; have a2 := cells_length S.none none_dig; omega)) (by rw [List.size_toArray, cells_length _ none_dig]; exact size35) (all_oneCell_toArray (oneS _)) ?_
                simp only [List.toList_toArray]
                simp only [Act.put, Act.eval, List.setIfInBounds_toArray, List.set_cons_zero, List.set_cons_succ, Nat.reduceAdd, Array.getD_eq_getD_getElem?, List.getElem?_toArray, List.getElem?_cons_succ, List.getElem?_cons_zero, Option.getD_some]
                have HN := Lib.hid (HR5.out.setAll ((S.none).cells) (by have a1 := cells_length (S.none) none_dig; have a2 := cells_length S.none none_dig; omega))
                have XN := Lib.hid (HX5.out.trans_but (But.setCells gr ((S.none).cells) 0 w5) hgr)
                generalize w5.setCells gr 0 ((S.none).cells) = wn at *
                go_wp2_with fail
                exact bodyPost_ret (results_row2 rfl _ _ gr 26 ((S.none).cells).toArray (0, 0) _ rfl HN.out undS rfl (by rw [List.size_toArray, cells_length _ none_dig]; exact size35)) rfl ⟨by rw [HV.out]; rfl, XN.out⟩
              | true =>
                rw [if_neg (by rw [← HO.out, hrp]; decide)] at hv
                have HP7 := Lib.hid hv
                clear hv hrp HP6
                by_cases h7 : F.size < 7
                · have d7 : decide ((F.size : Int) < 7) = true := by rw [decide_eq_true_iff]; omega
                  have hnp : Pre.has Stp.pA F.data.toList = false := Pre.has_short F ⟨Stp.pA.toArray⟩ h7
                  have HT := Lib.hid (fun w => tagR_any F w hFs)
                  go_wp2_with fail
                  refine (HT.out w5).mono ?_
                  rintro e w6 ⟨rfl, rfl⟩
                  clear HT
                  cases ht : tagP F.data.toList with
                  | false =>
                    have HV := Lib.hid (show rouV (parseP s.data.toList) = .tuple #[.agg S.none.cells.toArray, .int .i64 3] by
                      rw [HP7.out]; unfold referP; rw [if_pos ⟨hm, hnp⟩, if_neg (by rw [ht]; decide)]; rfl)
                    clear ht hnp HP7
                    go_upto_region 20 with (fail)
                    refine wp_region_lit ?_
                    refine wpList_rt rfl _ rfl g4 rfl _ S.none none_dig B5 ?_
                    simp only [Act.put, Act.eval, List.setIfInBounds_toArray, List.set_cons_zero, List.set_cons_succ, Nat.reduceAdd, Array.getD_eq_getD_getElem?, List.getElem?_toArray, List.getElem?_cons_succ, List.getElem?_cons_zero, Option.getD_some]
                    refine wpList_store_mid rfl 26 _ _ rfl gr 0 ((S.none).cells).toArray rfl rfl (HR5.out.there _ (by rw [List.size_toArray]; have a1 := cells_length (S.none) none_dig; have a2 := cells_length S.none none_dig; omega)) (by rw [List.size_toArray, cells_length _ none_dig]; exact size35) (all_oneCell_toArray (oneS _)) ?_
                    simp only [List.toList_toArray]
                    simp only [Act.put, Act.eval, List.setIfInBounds_toArray, List.set_cons_zero, List.set_cons_succ, Nat.reduceAdd, Array.getD_eq_getD_getElem?, List.getElem?_toArray, List.getElem?_cons_succ, List.getElem?_cons_zero, Option.getD_some]
                    have HN := Lib.hid (HR5.out.setAll ((S.none).cells) (by have a1 := cells_length (S.none) none_dig; have a2 := cells_length S.none none_dig; omega))
                    have XN := Lib.hid (HX5.out.trans_but (But.setCells gr ((S.none).cells) 0 w5) hgr)
                    generalize w5.setCells gr 0 ((S.none).cells) = wn at *
                    go_wp2_with fail
                    exact bodyPost_ret (results_row2 rfl _ _ gr 26 ((S.none).cells).toArray (0, 0) _ rfl HN.out undS rfl (by rw [List.size_toArray, cells_length _ none_dig]; exact size35)) rfl ⟨by rw [HV.out]; rfl, XN.out⟩
                  | true =>
                    have HV := Lib.hid (show rouV (parseP s.data.toList) = .tuple #[.agg (⟨2, X.extract 0 n, F, zeros⟩ : S).cells.toArray, .int .i64 0] by
                      rw [HP7.out]; unfold referP; rw [if_pos ⟨hm, hnp⟩, if_pos ht, ba_data, ← HO.out, ba_data]; rfl)
                    clear ht hnp HP7
                    have c0 : w5.cell? ⟨g9, 0, none⟩ = some (.int .i64 0) := C5.out.cell 0
                    have c2 : w5.cell? ⟨g9, 2, none⟩ = some (.string noStr) := C5.out.cell 2
                    have f0 := C5.out.frozen 0
                    have f2 := C5.out.frozen 2
                    have hs9 := (C5.out.set_ 0 (.int .i64 2)).set_ 2 (.string F)
                    rw [set0, set2] at hs9
                    have HBT := Lib.hid ((But.set_ g9 w5 0 (.int .i64 2)).trans (But.set_ g9 _ 2 (.string F)))
                    have HS := Lib.hid hs9
                    clear hs9
                    go_upto_region 23 with (fail)
                    clear c0 c2 f0 f2
                    generalize (w5.setCell ⟨g9, 0, none⟩ (.int .i64 2)).setCell ⟨g9, 2, none⟩ (.string F) = w7 at *
                    have HR7 := Lib.hid (HR5.out.but HBT.out (Ne.symm hne9))
                    have HX7 := Lib.hid (HX5.out.trans_but HBT.out hg9)
                    have HS7 : Hid (Blk w7 g9 26 (⟨2, X.extract 0 n, F, zeros⟩ : S).cells) := HS.out
                    refine wp_region_lit ?_
                    refine wpList_rt rfl _ rfl g9 rfl _ (⟨2, X.extract 0 n, F, zeros⟩ : S) zeros_len HS7 ?_
                    simp only [Act.put, Act.eval, List.setIfInBounds_toArray, List.set_cons_zero, List.set_cons_succ, Nat.reduceAdd, Array.getD_eq_getD_getElem?, List.getElem?_toArray, List.getElem?_cons_succ, List.getElem?_cons_zero, Option.getD_some]
                    refine wpList_store_mid rfl 26 _ _ rfl gr 0 (((⟨2, X.extract 0 n, F, zeros⟩ : S)).cells).toArray rfl rfl (HR7.out.there _ (by rw [List.size_toArray]; have a1 := cells_length ((⟨2, X.extract 0 n, F, zeros⟩ : S)) zeros_len; have a2 := cells_length S.none none_dig; omega)) (by rw [List.size_toArray, cells_length _ zeros_len]; exact size35) (all_oneCell_toArray (oneS _)) ?_
                    simp only [List.toList_toArray]
                    simp only [Act.put, Act.eval, List.setIfInBounds_toArray, List.set_cons_zero, List.set_cons_succ, Nat.reduceAdd, Array.getD_eq_getD_getElem?, List.getElem?_toArray, List.getElem?_cons_succ, List.getElem?_cons_zero, Option.getD_some]
                    have HN := Lib.hid (HR7.out.setAll (((⟨2, X.extract 0 n, F, zeros⟩ : S)).cells) (by have a1 := cells_length ((⟨2, X.extract 0 n, F, zeros⟩ : S)) zeros_len; have a2 := cells_length S.none none_dig; omega))
                    have XN := Lib.hid (HX7.out.trans_but (But.setCells gr (((⟨2, X.extract 0 n, F, zeros⟩ : S)).cells) 0 w7) hgr)
                    generalize w7.setCells gr 0 (((⟨2, X.extract 0 n, F, zeros⟩ : S)).cells) = wn at *
                    go_wp2_with fail
                    exact bodyPost_ret (results_row2 rfl _ _ gr 26 (((⟨2, X.extract 0 n, F, zeros⟩ : S)).cells).toArray (0, 0) _ rfl HN.out undS rfl (by rw [List.size_toArray, cells_length _ zeros_len]; exact size35)) rfl ⟨by rw [HV.out]; rfl, XN.out⟩
                · have d7 : decide ((F.size : Int) < 7) = false := by rw [decide_eq_false_iff_not]; omega
                  have tp := Pre.ext_pre F ⟨Stp.pA.toArray⟩ (by show 7 ≤ F.size; omega)
                  rw [show (⟨Stp.pA.toArray⟩ : ByteArray).size = 7 from rfl, show (⟨Stp.pA.toArray⟩ : ByteArray).toList = [115, 104, 97, 50, 53, 54, 58] by rw [ByteArray.toList_eq]; rfl, lst] at tp
                  cases hnp : Pre.has Stp.pA F.data.toList with
                  | false =>
                    rw [hnp] at tp
                    have HT := Lib.hid (fun w => tagR_any F w hFs)
                    go_wp2_with fail
                    refine (HT.out w5).mono ?_
                    rintro e w6 ⟨rfl, rfl⟩
                    clear HT
                    cases ht : tagP F.data.toList with
                    | false =>
                      have HV := Lib.hid (show rouV (parseP s.data.toList) = .tuple #[.agg S.none.cells.toArray, .int .i64 3] by
                        rw [HP7.out]; unfold referP; rw [if_pos ⟨hm, hnp⟩, if_neg (by rw [ht]; decide)]; rfl)
                      clear ht hnp HP7
                      go_upto_region 20 with (fail)
                      refine wp_region_lit ?_
                      refine wpList_rt rfl _ rfl g4 rfl _ S.none none_dig B5 ?_
                      simp only [Act.put, Act.eval, List.setIfInBounds_toArray, List.set_cons_zero, List.set_cons_succ, Nat.reduceAdd, Array.getD_eq_getD_getElem?, List.getElem?_toArray, List.getElem?_cons_succ, List.getElem?_cons_zero, Option.getD_some]
                      refine wpList_store_mid rfl 26 _ _ rfl gr 0 ((S.none).cells).toArray rfl rfl (HR5.out.there _ (by rw [List.size_toArray]; have a1 := cells_length (S.none) none_dig; have a2 := cells_length S.none none_dig; omega)) (by rw [List.size_toArray, cells_length _ none_dig]; exact size35) (all_oneCell_toArray (oneS _)) ?_
                      simp only [List.toList_toArray]
                      simp only [Act.put, Act.eval, List.setIfInBounds_toArray, List.set_cons_zero, List.set_cons_succ, Nat.reduceAdd, Array.getD_eq_getD_getElem?, List.getElem?_toArray, List.getElem?_cons_succ, List.getElem?_cons_zero, Option.getD_some]
                      have HN := Lib.hid (HR5.out.setAll ((S.none).cells) (by have a1 := cells_length (S.none) none_dig; have a2 := cells_length S.none none_dig; omega))
                      have XN := Lib.hid (HX5.out.trans_but (But.setCells gr ((S.none).cells) 0 w5) hgr)
                      generalize w5.setCells gr 0 ((S.none).cells) = wn at *
                      go_wp2_with fail
                      exact bodyPost_ret (results_row2 rfl _ _ gr 26 ((S.none).cells).toArray (0, 0) _ rfl HN.out undS rfl (by rw [List.size_toArray, cells_length _ none_dig]; exact size35)) rfl ⟨by rw [HV.out]; rfl, XN.out⟩
                    | true =>
                      have HV := Lib.hid (show rouV (parseP s.data.toList) = .tuple #[.agg (⟨2, X.extract 0 n, F, zeros⟩ : S).cells.toArray, .int .i64 0] by
                        rw [HP7.out]; unfold referP; rw [if_pos ⟨hm, hnp⟩, if_pos ht, ba_data, ← HO.out, ba_data]; rfl)
                      clear ht hnp HP7
                      have c0 : w5.cell? ⟨g9, 0, none⟩ = some (.int .i64 0) := C5.out.cell 0
                      have c2 : w5.cell? ⟨g9, 2, none⟩ = some (.string noStr) := C5.out.cell 2
                      have f0 := C5.out.frozen 0
                      have f2 := C5.out.frozen 2
                      have hs9 := (C5.out.set_ 0 (.int .i64 2)).set_ 2 (.string F)
                      rw [set0, set2] at hs9
                      have HBT := Lib.hid ((But.set_ g9 w5 0 (.int .i64 2)).trans (But.set_ g9 _ 2 (.string F)))
                      have HS := Lib.hid hs9
                      clear hs9
                      go_upto_region 23 with (fail)
                      clear c0 c2 f0 f2
                      generalize (w5.setCell ⟨g9, 0, none⟩ (.int .i64 2)).setCell ⟨g9, 2, none⟩ (.string F) = w7 at *
                      have HR7 := Lib.hid (HR5.out.but HBT.out (Ne.symm hne9))
                      have HX7 := Lib.hid (HX5.out.trans_but HBT.out hg9)
                      have HS7 : Hid (Blk w7 g9 26 (⟨2, X.extract 0 n, F, zeros⟩ : S).cells) := HS.out
                      refine wp_region_lit ?_
                      refine wpList_rt rfl _ rfl g9 rfl _ (⟨2, X.extract 0 n, F, zeros⟩ : S) zeros_len HS7 ?_
                      simp only [Act.put, Act.eval, List.setIfInBounds_toArray, List.set_cons_zero, List.set_cons_succ, Nat.reduceAdd, Array.getD_eq_getD_getElem?, List.getElem?_toArray, List.getElem?_cons_succ, List.getElem?_cons_zero, Option.getD_some]
                      refine wpList_store_mid rfl 26 _ _ rfl gr 0 (((⟨2, X.extract 0 n, F, zeros⟩ : S)).cells).toArray rfl rfl (HR7.out.there _ (by rw [List.size_toArray]; have a1 := cells_length ((⟨2, X.extract 0 n, F, zeros⟩ : S)) zeros_len; have a2 := cells_length S.none none_dig; omega)) (by rw [List.size_toArray, cells_length _ zeros_len]; exact size35) (all_oneCell_toArray (oneS _)) ?_
                      simp only [List.toList_toArray]
                      simp only [Act.put, Act.eval, List.setIfInBounds_toArray, List.set_cons_zero, List.set_cons_succ, Nat.reduceAdd, Array.getD_eq_getD_getElem?, List.getElem?_toArray, List.getElem?_cons_succ, List.getElem?_cons_zero, Option.getD_some]
                      have HN := Lib.hid (HR7.out.setAll (((⟨2, X.extract 0 n, F, zeros⟩ : S)).cells) (by have a1 := cells_length ((⟨2, X.extract 0 n, F, zeros⟩ : S)) zeros_len; have a2 := cells_length S.none none_dig; omega))
                      have XN := Lib.hid (HX7.out.trans_but (But.setCells gr (((⟨2, X.extract 0 n, F, zeros⟩ : S)).cells) 0 w7) hgr)
                      generalize w7.setCells gr 0 (((⟨2, X.extract 0 n, F, zeros⟩ : S)).cells) = wn at *
                      go_wp2_with fail
                      exact bodyPost_ret (results_row2 rfl _ _ gr 26 (((⟨2, X.extract 0 n, F, zeros⟩ : S)).cells).toArray (0, 0) _ rfl HN.out undS rfl (by rw [List.size_toArray, cells_length _ zeros_len]; exact size35)) rfl ⟨by rw [HV.out]; rfl, XN.out⟩
                  | true =>
                    rw [hnp] at tp
                    have hrf : referP (X.extract 0 n) d F.data.toList = (match Stp.beh Stp.pA F.data.toList with
                      | some e => (⟨3, X.extract 0 n, noStr, e⟩, 0)
                      | none => (S.none, 3) : S × Int) := by
                      unfold referP
                      rw [if_neg (fun h => by rw [hnp] at h; cases h.2), hm, if_neg (by decide)]
                      cases Stp.beh Stp.pA F.data.toList <;> rfl
                    have HRF := Lib.hid (show rouV (parseP s.data.toList) = rouV (referP (X.extract 0 n) d F.data.toList) by rw [HP7.out, ← HO.out, ba_data])
                    rw [hrf] at HRF
                    clear hrf HP7
                    go_wp2_with fail
                    refine (Stp.behindR_any ⟨Stp.pA.toArray⟩ F w5 hFs (by decide)).mono ?_
                    rintro e w6 ⟨rfl, x6⟩
                    rw [lst, Stp.behV_two]
                    have HX6 := Lib.hid (HX5.out.trans x6)
                    have HR6 := Lib.hid (HR5.out.ext x6)
                    have B6 := Lib.hid (B5.out.ext x6)
                    have C6 := Lib.hid (C5.out.ext x6)
                    clear x6 HX5 HR5 B5 C5
                    have hl := Stp.behL_len Stp.pA F.data.toList
                    have hcs : (Stp.behB Stp.pA F.data.toList = true ∧ Stp.beh Stp.pA F.data.toList = some (Stp.behL Stp.pA F.data.toList)) ∨ (Stp.behB Stp.pA F.data.toList = false ∧ Stp.beh Stp.pA F.data.toList = none) := by
                      unfold Stp.behB Stp.behL
                      cases Stp.beh Stp.pA F.data.toList with
                      | none => exact .inr ⟨rfl, rfl⟩
                      | some d => exact .inl ⟨rfl, rfl⟩
                    generalize Stp.behL Stp.pA F.data.toList = L at *
                    have HCS := Lib.hid hcs
                    clear hcs
                    generalize Stp.behB Stp.pA F.data.toList = b at *
                    rename_i hK
                    refine hK _ _ ?_
                    iterate 12 go_step
                    rw [z32]
                    have hbf := Stp.box_blk w6 zeros
                    have hxf := Reg.Ext.alloc w6 (Obj.cells (zeros.map byteV).toArray 24)
                    have hxs := hxf.trans_but (But.setCells w6.heap.size (L.map byteV) 0 _) (Nat.le_refl _)
                    generalize w6.alloc (Obj.cells (zeros.map byteV).toArray 24) = wf at *
                    have HBF := Lib.hid hbf
                    clear hbf hxf
                    refine wpList_store_mid rfl 24 _ _ rfl w6.heap.size 0 (L.map byteV).toArray rfl rfl (HBF.out.there _ (by rw [List.size_toArray, List.length_map, hl]; simp [zeros_len])) (by rw [List.size_toArray, List.length_map, hl]; kernel_rfl) ?_ ?_
                    · refine all_oneCell_toArray fun v hv => ?_
                      obtain ⟨x, _, rfl⟩ := List.mem_map.1 hv
                      rfl
                    simp only [List.toList_toArray]
                    simp only [Act.put, Act.eval, List.setIfInBounds_toArray, List.set_cons_zero, List.set_cons_succ, Nat.reduceAdd, Array.getD_eq_getD_getElem?, List.getElem?_toArray, List.getElem?_cons_succ, List.getElem?_cons_zero, Option.getD_some]
                    have hbs := HBF.out.setAll (L.map byteV) (by rw [List.length_map, List.length_map, hl, zeros_len])
                    generalize wf.setCells w6.heap.size 0 (L.map byteV) = w7 at *
                    have E7 := Lib.hid hbs
                    have HX7 := Lib.hid (HX6.out.trans hxs)
                    have HR7 := Lib.hid (HR6.out.ext hxs)
                    have B7 := Lib.hid (B6.out.ext hxs)
                    have C7 := Lib.hid (C6.out.ext hxs)
                    have hne8 : w6.heap.size ≠ g9 := by have := C6.out.lt; omega
                    clear hbs hxs HBF HX6 HR6 B6 C6
                    generalize w6.heap.size = g8 at *
                    rcases HCS.out with ⟨rfl, hb⟩ | ⟨rfl, hb⟩
                    · have HV := Lib.hid (show rouV (parseP s.data.toList) = .tuple #[.agg (⟨3, X.extract 0 n, noStr, L⟩ : S).cells.toArray, .int .i64 0] by rw [HRF.out, hb]; rfl)
                      clear hb HCS HRF
                      have f0 := C7.out.frozen 0
                      have c0 : w7.cell? ⟨g9, 0, none⟩ = some (.int .i64 0) := C7.out.cell 0
                      have HBT := Lib.hid (But.set_ g9 w7 0 (.int .i64 3))
                      have hs9 := C7.out.set_ 0 (.int .i64 3)
                      rw [set0] at hs9
                      have HS := Lib.hid hs9
                      clear hs9
                      go_upto_region 30 with (fail)
                      clear c0 f0
                      generalize w7.setCell ⟨g9, 0, none⟩ (.int .i64 3) = w8 at *
                      have E8 := Lib.hid (E7.out.but HBT.out hne8)
                      have HR8 := Lib.hid (HR7.out.but HBT.out (Ne.symm hne9))
                      have HX8 := Lib.hid (HX7.out.trans_but HBT.out hg9)
                      have hs8 : Blk w8 g9 26 (⟨3, X.extract 0 n, noStr, zeros⟩ : S).cells := HS.out
                      refine wp_region_lit ?_
                      refine wpList_load_row rfl 24 _ rfl g8 rfl 24 (L.map byteV).toArray (0, 0) _ E8.out Tryd.underlying24 rfl (by rw [List.size_toArray, List.length_map, hl]; kernel_rfl) ?_
                      simp only [Act.put, Act.eval, List.setIfInBounds_toArray, List.set_cons_zero, List.set_cons_succ, Nat.reduceAdd, Array.getD_eq_getD_getElem?, List.getElem?_toArray, List.getElem?_cons_succ, List.getElem?_cons_zero, Option.getD_some]
                      iterate 3 go_step
                      refine wpList_store_mid rfl 24 _ _ rfl g9 3 (L.map byteV).toArray rfl rfl (by rw [List.size_toArray, List.length_map, hl]; exact there_dig hs8 zeros_len) (by rw [List.size_toArray, List.length_map, hl]; kernel_rfl) (all_oneCell_toArray fun v hv => by
                        obtain ⟨c, _, rfl⟩ := List.mem_map.1 hv
                        rfl) ?_
                      simp only [List.toList_toArray]
                      simp only [Act.put, Act.eval, List.setIfInBounds_toArray, List.set_cons_zero, List.set_cons_succ, Nat.reduceAdd, Array.getD_eq_getD_getElem?, List.getElem?_toArray, List.getElem?_cons_succ, List.getElem?_cons_zero, Option.getD_some]
                      have HS9 : Hid (Blk (w8.setCells g9 3 (L.map byteV)) g9 26 (⟨3, X.extract 0 n, noStr, L⟩ : S).cells) := put_dig hs8 L (hl.trans zeros_len.symm)
                      have HR9 := Lib.hid (HR8.out.but (But.setCells g9 (L.map byteV) 3 w8) (Ne.symm hne9))
                      have HX9 := Lib.hid (HX8.out.trans_but (But.setCells g9 (L.map byteV) 3 w8) hg9)
                      generalize w8.setCells g9 3 (L.map byteV) = w9 at *
                      clear hs8
                      go_upto_region 31 with (fail)
                      refine wp_region_lit ?_
                      refine wpList_rt rfl _ rfl g9 rfl _ (⟨3, X.extract 0 n, noStr, L⟩ : S) hl HS9 ?_
                      simp only [Act.put, Act.eval, List.setIfInBounds_toArray, List.set_cons_zero, List.set_cons_succ, Nat.reduceAdd, Array.getD_eq_getD_getElem?, List.getElem?_toArray, List.getElem?_cons_succ, List.getElem?_cons_zero, Option.getD_some]
                      refine wpList_store_mid rfl 26 _ _ rfl gr 0 (((⟨3, X.extract 0 n, noStr, L⟩ : S)).cells).toArray rfl rfl (HR9.out.there _ (by rw [List.size_toArray]; have a1 := cells_length ((⟨3, X.extract 0 n, noStr, L⟩ : S)) hl; have a2 := cells_length S.none none_dig; omega)) (by rw [List.size_toArray, cells_length _ hl]; exact size35) (all_oneCell_toArray (oneS _)) ?_
                      simp only [List.toList_toArray]
                      simp only [Act.put, Act.eval, List.setIfInBounds_toArray, List.set_cons_zero, List.set_cons_succ, Nat.reduceAdd, Array.getD_eq_getD_getElem?, List.getElem?_toArray, List.getElem?_cons_succ, List.getElem?_cons_zero, Option.getD_some]
                      have HN := Lib.hid (HR9.out.setAll (((⟨3, X.extract 0 n, noStr, L⟩ : S)).cells) (by have a1 := cells_length ((⟨3, X.extract 0 n, noStr, L⟩ : S)) hl; have a2 := cells_length S.none none_dig; omega))
                      have XN := Lib.hid (HX9.out.trans_but (But.setCells gr (((⟨3, X.extract 0 n, noStr, L⟩ : S)).cells) 0 w9) hgr)
                      generalize w9.setCells gr 0 (((⟨3, X.extract 0 n, noStr, L⟩ : S)).cells) = wn at *
                      go_wp2_with fail
                      exact bodyPost_ret (results_row2 rfl _ _ gr 26 (((⟨3, X.extract 0 n, noStr, L⟩ : S)).cells).toArray (0, 0) _ rfl HN.out undS rfl (by rw [List.size_toArray, cells_length _ hl]; exact size35)) rfl ⟨by rw [HV.out]; rfl, XN.out⟩
                    · have HV := Lib.hid (show rouV (parseP s.data.toList) = .tuple #[.agg S.none.cells.toArray, .int .i64 3] by rw [HRF.out, hb]; rfl)
                      clear hb HCS HRF
                      go_upto_region 26 with (fail)
                      refine wp_region_lit ?_
                      refine wpList_rt rfl _ rfl g4 rfl _ S.none none_dig B7 ?_
                      simp only [Act.put, Act.eval, List.setIfInBounds_toArray, List.set_cons_zero, List.set_cons_succ, Nat.reduceAdd, Array.getD_eq_getD_getElem?, List.getElem?_toArray, List.getElem?_cons_succ, List.getElem?_cons_zero, Option.getD_some]
                      refine wpList_store_mid rfl 26 _ _ rfl gr 0 ((S.none).cells).toArray rfl rfl (HR7.out.there _ (by rw [List.size_toArray]; have a1 := cells_length (S.none) none_dig; have a2 := cells_length S.none none_dig; omega)) (by rw [List.size_toArray, cells_length _ none_dig]; exact size35) (all_oneCell_toArray (oneS _)) ?_
                      simp only [List.toList_toArray]
                      simp only [Act.put, Act.eval, List.setIfInBounds_toArray, List.set_cons_zero, List.set_cons_succ, Nat.reduceAdd, Array.getD_eq_getD_getElem?, List.getElem?_toArray, List.getElem?_cons_succ, List.getElem?_cons_zero, Option.getD_some]
                      have HN := Lib.hid (HR7.out.setAll ((S.none).cells) (by have a1 := cells_length (S.none) none_dig; have a2 := cells_length S.none none_dig; omega))
                      have XN := Lib.hid (HX7.out.trans_but (But.setCells gr ((S.none).cells) 0 w7) hgr)
                      generalize w7.setCells gr 0 ((S.none).cells) = wn at *
                      go_wp2_with fail
                      exact bodyPost_ret (results_row2 rfl _ _ gr 26 ((S.none).cells).toArray (0, 0) _ rfl HN.out undS rfl (by rw [List.size_toArray, cells_length _ none_dig]; exact size35)) rfl ⟨by rw [HV.out]; rfl, XN.out⟩
            · have tm1 : ((X.extract (n + 1) X.size).toList == [109, 97, 110, 105, 102, 101, 115, 116, 115]) = false := by rw [tm]; exact decide_eq_false hm
              by_cases hbl : d = blobL
              · have tb1 : ((X.extract (n + 1) X.size).toList == [98, 108, 111, 98, 115]) = true := by rw [tb]; exact decide_eq_true hbl
                clear tm tb
                go_upto_region 15 with (fail)
                refine wp_region_lit ?_
                iterate 9 go_step
                refine wpList_val rfl (.agg (start (X.extract 0 n)).cells.toArray) (by as_aux_lemma => kernel_rfl) ?_
                simp only [Act.put, Act.eval, List.setIfInBounds_toArray, List.set_cons_zero, List.set_cons_succ, Nat.reduceAdd, Array.getD_eq_getD_getElem?, List.getElem?_toArray, List.getElem?_cons_succ, List.getElem?_cons_zero, Option.getD_some]
                iterate 3 go_step
                have hg9 : w.heap.size ≤ w2.heap.size := HX2.out.size
                have hne9 : w2.heap.size ≠ gr := by have := HR2.out.lt; omega
                rw [z35]
                have hbf := boxS w2 S.none
                have hxf := Reg.Ext.alloc w2 (Obj.cells S.none.cells.toArray 26)
                have hxs := hxf.trans_but (But.setCells w2.heap.size ((start (X.extract 0 n)).cells) 0 _) (Nat.le_refl _)
                generalize w2.alloc (Obj.cells S.none.cells.toArray 26) = wf at *
                have HBF := Lib.hid hbf
                clear hbf hxf
                refine wpList_store_mid rfl 26 _ _ rfl w2.heap.size 0 ((start (X.extract 0 n)).cells).toArray rfl rfl (HBF.out.there _ (by rw [List.size_toArray]; have a1 := cells_length (start (X.extract 0 n)) zeros_len; have a2 := cells_length S.none none_dig; omega)) (by rw [List.size_toArray, cells_length _ zeros_len]; exact size35) (all_oneCell_toArray (oneS _)) ?_
                simp only [List.toList_toArray]
                simp only [Act.put, Act.eval, List.setIfInBounds_toArray, List.set_cons_zero, List.set_cons_succ, Nat.reduceAdd, Array.getD_eq_getD_getElem?, List.getElem?_toArray, List.getElem?_cons_succ, List.getElem?_cons_zero, Option.getD_some]
                have hbs := HBF.out.setAll ((start (X.extract 0 n)).cells) (by have a1 := cells_length (start (X.extract 0 n)) zeros_len; have a2 := cells_length S.none none_dig; omega)
                generalize wf.setCells w2.heap.size 0 ((start (X.extract 0 n)).cells) = w4 at *
                have B9 := Lib.hid hbs
                have X9 := Lib.hid hxs
                clear hbs hxs HBF
                generalize w2.heap.size = g9 at *
                have HR4 := Lib.hid (HR2.out.ext X9.out)
                have B4 := Lib.hid (B2.out.ext X9.out)
                have HX4 := Lib.hid (HX2.out.trans X9.out)
                clear X9 HR2 B2 HX2
                have c1 : w4.cell? ⟨g9, 1, none⟩ = some (.string (X.extract 0 n)) := B9.out.cell 1
                go_wp2_with fail
                refine (repoR_any (X.extract 0 n) w4).mono ?_
                rintro e w5 ⟨rfl, x5⟩
                have HR5 := Lib.hid (HR4.out.ext x5)
                have B5 := Lib.hid (B4.out.ext x5)
                have C5 := Lib.hid (B9.out.ext x5)
                have HX5 := Lib.hid (HX4.out.trans x5)
                clear x5 c1 HR4 B4 B9 HX4
                have hv := HP6.out
                rw [if_neg (by simp [hbl])] at hv
                cases hrp : repoP (X.extract 0 n).data.toList with
                | false =>
                  have HV := Lib.hid (show rouV (parseP s.data.toList) = .tuple #[.agg S.none.cells.toArray, .int .i64 10] by rw [hv, if_pos (by rw [← HO.out]; exact hrp)]; rfl)
                  clear hv hrp HP6
                  go_upto_region 17 with (fail)
                  refine wp_region_lit ?_
                  refine wpList_rt rfl _ rfl g4 rfl _ S.none none_dig B5 ?_
                  simp only [Act.put, Act.eval, List.setIfInBounds_toArray, List.set_cons_zero, List.set_cons_succ, Nat.reduceAdd, Array.getD_eq_getD_getElem?, List.getElem?_toArray, List.getElem?_cons_succ, List.getElem?_cons_zero, Option.getD_some]
                  refine wpList_store_mid rfl 26 _ _ rfl gr 0 ((S.none).cells).toArray rfl rfl (HR5.out.there _ (by rw [List.size_toArray]; have a1 := cells_length (S.none) none_dig; have a2 := cells_length S.none none_dig; omega)) (by rw [List.size_toArray, cells_length _ none_dig]; exact size35) (all_oneCell_toArray (oneS _)) ?_
                  simp only [List.toList_toArray]
                  simp only [Act.put, Act.eval, List.setIfInBounds_toArray, List.set_cons_zero, List.set_cons_succ, Nat.reduceAdd, Array.getD_eq_getD_getElem?, List.getElem?_toArray, List.getElem?_cons_succ, List.getElem?_cons_zero, Option.getD_some]
                  have HN := Lib.hid (HR5.out.setAll ((S.none).cells) (by have a1 := cells_length (S.none) none_dig; have a2 := cells_length S.none none_dig; omega))
                  have XN := Lib.hid (HX5.out.trans_but (But.setCells gr ((S.none).cells) 0 w5) hgr)
                  generalize w5.setCells gr 0 ((S.none).cells) = wn at *
                  go_wp2_with fail
                  exact bodyPost_ret (results_row2 rfl _ _ gr 26 ((S.none).cells).toArray (0, 0) _ rfl HN.out undS rfl (by rw [List.size_toArray, cells_length _ none_dig]; exact size35)) rfl ⟨by rw [HV.out]; rfl, XN.out⟩
                | true =>
                  rw [if_neg (by rw [← HO.out, hrp]; decide)] at hv
                  have HP7 := Lib.hid hv
                  clear hv hrp HP6
                  have hrf : referP (X.extract 0 n) d F.data.toList = (match Stp.beh Stp.pA F.data.toList with
                    | some e => (⟨4, X.extract 0 n, noStr, e⟩, 0)
                    | none => (S.none, 3) : S × Int) := by
                    unfold referP
                    rw [if_neg (fun h => hm h.1), hbl, if_pos rfl]
                    cases Stp.beh Stp.pA F.data.toList <;> rfl
                  have HRF := Lib.hid (show rouV (parseP s.data.toList) = rouV (referP (X.extract 0 n) d F.data.toList) by rw [HP7.out, ← HO.out, ba_data])
                  rw [hrf] at HRF
                  clear hrf HP7
                  go_wp2_with fail
                  refine (Stp.behindR_any ⟨Stp.pA.toArray⟩ F w5 hFs (by decide)).mono ?_
                  rintro e w6 ⟨rfl, x6⟩
                  rw [lst, Stp.behV_two]
                  have HX6 := Lib.hid (HX5.out.trans x6)
                  have HR6 := Lib.hid (HR5.out.ext x6)
                  have B6 := Lib.hid (B5.out.ext x6)
                  have C6 := Lib.hid (C5.out.ext x6)
                  clear x6 HX5 HR5 B5 C5
                  have hl := Stp.behL_len Stp.pA F.data.toList
                  have hcs : (Stp.behB Stp.pA F.data.toList = true ∧ Stp.beh Stp.pA F.data.toList = some (Stp.behL Stp.pA F.data.toList)) ∨ (Stp.behB Stp.pA F.data.toList = false ∧ Stp.beh Stp.pA F.data.toList = none) := by
                    unfold Stp.behB Stp.behL
                    cases Stp.beh Stp.pA F.data.toList with
                    | none => exact .inr ⟨rfl, rfl⟩
                    | some d => exact .inl ⟨rfl, rfl⟩
                  generalize Stp.behL Stp.pA F.data.toList = L at *
                  have HCS := Lib.hid hcs
                  clear hcs
                  generalize Stp.behB Stp.pA F.data.toList = b at *
                  rename_i hK
                  refine hK _ _ ?_
                  iterate 12 go_step
                  rw [z32]
                  have hbf := Stp.box_blk w6 zeros
                  have hxf := Reg.Ext.alloc w6 (Obj.cells (zeros.map byteV).toArray 24)
                  have hxs := hxf.trans_but (But.setCells w6.heap.size (L.map byteV) 0 _) (Nat.le_refl _)
                  generalize w6.alloc (Obj.cells (zeros.map byteV).toArray 24) = wf at *
                  have HBF := Lib.hid hbf
                  clear hbf hxf
                  refine wpList_store_mid rfl 24 _ _ rfl w6.heap.size 0 (L.map byteV).toArray rfl rfl (HBF.out.there _ (by rw [List.size_toArray, List.length_map, hl]; simp [zeros_len])) (by rw [List.size_toArray, List.length_map, hl]; kernel_rfl) ?_ ?_
                  · refine all_oneCell_toArray fun v hv => ?_
                    obtain ⟨x, _, rfl⟩ := List.mem_map.1 hv
                    rfl
                  simp only [List.toList_toArray]
                  simp only [Act.put, Act.eval, List.setIfInBounds_toArray, List.set_cons_zero, List.set_cons_succ, Nat.reduceAdd, Array.getD_eq_getD_getElem?, List.getElem?_toArray, List.getElem?_cons_succ, List.getElem?_cons_zero, Option.getD_some]
                  have hbs := HBF.out.setAll (L.map byteV) (by rw [List.length_map, List.length_map, hl, zeros_len])
                  generalize wf.setCells w6.heap.size 0 (L.map byteV) = w7 at *
                  have E7 := Lib.hid hbs
                  have HX7 := Lib.hid (HX6.out.trans hxs)
                  have HR7 := Lib.hid (HR6.out.ext hxs)
                  have B7 := Lib.hid (B6.out.ext hxs)
                  have C7 := Lib.hid (C6.out.ext hxs)
                  have hne8 : w6.heap.size ≠ g9 := by have := C6.out.lt; omega
                  clear hbs hxs HBF HX6 HR6 B6 C6
                  generalize w6.heap.size = g8 at *
                  rcases HCS.out with ⟨rfl, hb⟩ | ⟨rfl, hb⟩
                  · have HV := Lib.hid (show rouV (parseP s.data.toList) = .tuple #[.agg (⟨4, X.extract 0 n, noStr, L⟩ : S).cells.toArray, .int .i64 0] by rw [HRF.out, hb]; rfl)
                    clear hb HCS HRF
                    have f0 := C7.out.frozen 0
                    have c0 : w7.cell? ⟨g9, 0, none⟩ = some (.int .i64 0) := C7.out.cell 0
                    have HBT := Lib.hid ((But.set_ g9 w7 0 (.int .i64 3)).trans (But.set_ g9 _ 0 (.int .i64 4)))
                    have hs9 := (C7.out.set_ 0 (.int .i64 3)).set_ 0 (.int .i64 4)
                    rw [set0, set0] at hs9
                    have HS := Lib.hid hs9
                    clear hs9
                    go_upto_region 30 with (fail)
                    clear c0 f0
                    generalize (w7.setCell ⟨g9, 0, none⟩ (.int .i64 3)).setCell ⟨g9, 0, none⟩ (.int .i64 4) = w8 at *
                    have E8 := Lib.hid (E7.out.but HBT.out hne8)
                    have HR8 := Lib.hid (HR7.out.but HBT.out (Ne.symm hne9))
                    have HX8 := Lib.hid (HX7.out.trans_but HBT.out hg9)
                    have hs8 : Blk w8 g9 26 (⟨4, X.extract 0 n, noStr, zeros⟩ : S).cells := HS.out
                    refine wp_region_lit ?_
                    refine wpList_load_row rfl 24 _ rfl g8 rfl 24 (L.map byteV).toArray (0, 0) _ E8.out Tryd.underlying24 rfl (by rw [List.size_toArray, List.length_map, hl]; kernel_rfl) ?_
                    simp only [Act.put, Act.eval, List.setIfInBounds_toArray, List.set_cons_zero, List.set_cons_succ, Nat.reduceAdd, Array.getD_eq_getD_getElem?, List.getElem?_toArray, List.getElem?_cons_succ, List.getElem?_cons_zero, Option.getD_some]
                    iterate 3 go_step
                    refine wpList_store_mid rfl 24 _ _ rfl g9 3 (L.map byteV).toArray rfl rfl (by rw [List.size_toArray, List.length_map, hl]; exact there_dig hs8 zeros_len) (by rw [List.size_toArray, List.length_map, hl]; kernel_rfl) (all_oneCell_toArray fun v hv => by
                      obtain ⟨c, _, rfl⟩ := List.mem_map.1 hv
                      rfl) ?_
                    simp only [List.toList_toArray]
                    simp only [Act.put, Act.eval, List.setIfInBounds_toArray, List.set_cons_zero, List.set_cons_succ, Nat.reduceAdd, Array.getD_eq_getD_getElem?, List.getElem?_toArray, List.getElem?_cons_succ, List.getElem?_cons_zero, Option.getD_some]
                    have HS9 : Hid (Blk (w8.setCells g9 3 (L.map byteV)) g9 26 (⟨4, X.extract 0 n, noStr, L⟩ : S).cells) := put_dig hs8 L (hl.trans zeros_len.symm)
                    have HR9 := Lib.hid (HR8.out.but (But.setCells g9 (L.map byteV) 3 w8) (Ne.symm hne9))
                    have HX9 := Lib.hid (HX8.out.trans_but (But.setCells g9 (L.map byteV) 3 w8) hg9)
                    generalize w8.setCells g9 3 (L.map byteV) = w9 at *
                    clear hs8
                    go_upto_region 31 with (fail)
                    refine wp_region_lit ?_
                    refine wpList_rt rfl _ rfl g9 rfl _ (⟨4, X.extract 0 n, noStr, L⟩ : S) hl HS9 ?_
                    simp only [Act.put, Act.eval, List.setIfInBounds_toArray, List.set_cons_zero, List.set_cons_succ, Nat.reduceAdd, Array.getD_eq_getD_getElem?, List.getElem?_toArray, List.getElem?_cons_succ, List.getElem?_cons_zero, Option.getD_some]
                    refine wpList_store_mid rfl 26 _ _ rfl gr 0 (((⟨4, X.extract 0 n, noStr, L⟩ : S)).cells).toArray rfl rfl (HR9.out.there _ (by rw [List.size_toArray]; have a1 := cells_length ((⟨4, X.extract 0 n, noStr, L⟩ : S)) hl; have a2 := cells_length S.none none_dig; omega)) (by rw [List.size_toArray, cells_length _ hl]; exact size35) (all_oneCell_toArray (oneS _)) ?_
                    simp only [List.toList_toArray]
                    simp only [Act.put, Act.eval, List.setIfInBounds_toArray, List.set_cons_zero, List.set_cons_succ, Nat.reduceAdd, Array.getD_eq_getD_getElem?, List.getElem?_toArray, List.getElem?_cons_succ, List.getElem?_cons_zero, Option.getD_some]
                    have HN := Lib.hid (HR9.out.setAll (((⟨4, X.extract 0 n, noStr, L⟩ : S)).cells) (by have a1 := cells_length ((⟨4, X.extract 0 n, noStr, L⟩ : S)) hl; have a2 := cells_length S.none none_dig; omega))
                    have XN := Lib.hid (HX9.out.trans_but (But.setCells gr (((⟨4, X.extract 0 n, noStr, L⟩ : S)).cells) 0 w9) hgr)
                    generalize w9.setCells gr 0 (((⟨4, X.extract 0 n, noStr, L⟩ : S)).cells) = wn at *
                    go_wp2_with fail
                    exact bodyPost_ret (results_row2 rfl _ _ gr 26 (((⟨4, X.extract 0 n, noStr, L⟩ : S)).cells).toArray (0, 0) _ rfl HN.out undS rfl (by rw [List.size_toArray, cells_length _ hl]; exact size35)) rfl ⟨by rw [HV.out]; rfl, XN.out⟩
                  · have HV := Lib.hid (show rouV (parseP s.data.toList) = .tuple #[.agg S.none.cells.toArray, .int .i64 3] by rw [HRF.out, hb]; rfl)
                    clear hb HCS HRF
                    go_upto_region 26 with (fail)
                    refine wp_region_lit ?_
                    refine wpList_rt rfl _ rfl g4 rfl _ S.none none_dig B7 ?_
                    simp only [Act.put, Act.eval, List.setIfInBounds_toArray, List.set_cons_zero, List.set_cons_succ, Nat.reduceAdd, Array.getD_eq_getD_getElem?, List.getElem?_toArray, List.getElem?_cons_succ, List.getElem?_cons_zero, Option.getD_some]
                    refine wpList_store_mid rfl 26 _ _ rfl gr 0 ((S.none).cells).toArray rfl rfl (HR7.out.there _ (by rw [List.size_toArray]; have a1 := cells_length (S.none) none_dig; have a2 := cells_length S.none none_dig; omega)) (by rw [List.size_toArray, cells_length _ none_dig]; exact size35) (all_oneCell_toArray (oneS _)) ?_
                    simp only [List.toList_toArray]
                    simp only [Act.put, Act.eval, List.setIfInBounds_toArray, List.set_cons_zero, List.set_cons_succ, Nat.reduceAdd, Array.getD_eq_getD_getElem?, List.getElem?_toArray, List.getElem?_cons_succ, List.getElem?_cons_zero, Option.getD_some]
                    have HN := Lib.hid (HR7.out.setAll ((S.none).cells) (by have a1 := cells_length (S.none) none_dig; have a2 := cells_length S.none none_dig; omega))
                    have XN := Lib.hid (HX7.out.trans_but (But.setCells gr ((S.none).cells) 0 w7) hgr)
                    generalize w7.setCells gr 0 ((S.none).cells) = wn at *
                    go_wp2_with fail
                    exact bodyPost_ret (results_row2 rfl _ _ gr 26 ((S.none).cells).toArray (0, 0) _ rfl HN.out undS rfl (by rw [List.size_toArray, cells_length _ none_dig]; exact size35)) rfl ⟨by rw [HV.out]; rfl, XN.out⟩
              · have tb1 : ((X.extract (n + 1) X.size).toList == [98, 108, 111, 98, 115]) = false := by rw [tb]; exact decide_eq_false hbl
                have HV := Lib.hid (show rouV (parseP s.data.toList) = .tuple #[.agg S.none.cells.toArray, .int .i64 7] by rw [HP6.out, if_pos ⟨hm, hbl⟩]; rfl)
                clear tm tb hm hbl HP6
                go_upto_region 13 with (fail)
                refine wp_region_lit ?_
                refine wpList_rt rfl _ rfl g4 rfl _ S.none none_dig B2 ?_
                simp only [Act.put, Act.eval, List.setIfInBounds_toArray, List.set_cons_zero, List.set_cons_succ, Nat.reduceAdd, Array.getD_eq_getD_getElem?, List.getElem?_toArray, List.getElem?_cons_succ, List.getElem?_cons_zero, Option.getD_some]
                refine wpList_store_mid rfl 26 _ _ rfl gr 0 ((S.none).cells).toArray rfl rfl (HR2.out.there _ (by rw [List.size_toArray]; have a1 := cells_length (S.none) none_dig; have a2 := cells_length S.none none_dig; omega)) (by rw [List.size_toArray, cells_length _ none_dig]; exact size35) (all_oneCell_toArray (oneS _)) ?_
                simp only [List.toList_toArray]
                simp only [Act.put, Act.eval, List.setIfInBounds_toArray, List.set_cons_zero, List.set_cons_succ, Nat.reduceAdd, Array.getD_eq_getD_getElem?, List.getElem?_toArray, List.getElem?_cons_succ, List.getElem?_cons_zero, Option.getD_some]
                have HN := Lib.hid (HR2.out.setAll ((S.none).cells) (by have a1 := cells_length (S.none) none_dig; have a2 := cells_length S.none none_dig; omega))
                have XN := Lib.hid (HX2.out.trans_but (But.setCells gr ((S.none).cells) 0 w2) hgr)
                generalize w2.setCells gr 0 ((S.none).cells) = wn at *
                go_wp2_with fail
                exact bodyPost_ret (results_row2 rfl _ _ gr 26 ((S.none).cells).toArray (0, 0) _ rfl HN.out undS rfl (by rw [List.size_toArray, cells_length _ none_dig]; exact size35)) rfl ⟨by rw [HV.out]; rfl, XN.out⟩
end Pl
end Go.Proofs.YtdoplndijlfabaaDoor
