/- Package place: Parse. -/
import Derived.Test.YtdoplndijlfabaaDoorPlaceRefer
set_option linter.unusedSimpArgs false
set_option linter.unusedVariables false
set_option linter.unusedSectionVars false
namespace Go.Proofs.YtdoplndijlfabaaDoor
open Go.RowKit
namespace Pl
open Rte
set_option maxRecDepth 100000 in
set_option maxHeartbeats 8000000 in
theorem parse_any (s : ByteArray) (w : World) (h3 : s.size ≤ 274877906944) :
    Calls Tryd.prog 9 #[.string s] w fun e w' => e = .returned (rouV (parseP s.data.toList)) ∧ Reg.Ext w w' := by
  go_enter Tryd.func9, Tryd.ntmps9
  go_upto_region 1 with (fail)
  rw [z35]
  have hb1 := boxS w S.none
  have hx1 := Reg.Ext.alloc w (Obj.cells S.none.cells.toArray 26)
  generalize w.alloc (Obj.cells S.none.cells.toArray 26) = w1 at *
  have HR := Lib.hid hb1
  have HX := Lib.hid hx1
  have hgr : w.heap.size ≤ w.heap.size := Nat.le_refl _
  clear hb1 hx1
  obtain ⟨gr, hgg⟩ : ∃ g, w.heap.size = g := ⟨_, rfl⟩
  rw [hgg] at HR ⊢
  have hgr : w.heap.size ≤ gr := by omega
  clear hgg
  have hpf : parseP s.data.toList = (if Pre.has rootL s.data.toList = false then (S.none, 7) else if s.data.toList.drop 4 = [] then (⟨1, noStr, noStr, zeros⟩, 0) else match cutL (s.data.toList.drop 4) with
    | none => (S.none, 7)
    | some (x, ref) => match cutL x with
      | none => (S.none, 7)
      | some (repo, word) => if word ≠ manL ∧ word ≠ blobL then (S.none, 7) else if repoP repo = false then (S.none, 10) else referP ⟨repo.toArray⟩ word ref : S × Int) := rfl
  have HPF := Lib.hid hpf
  clear hpf
  go_wp2_with fail
  refine (Pre.cut_any s ⟨rootL.toArray⟩ w1 (by omega) (by decide)).mono ?_
  rintro e w' ⟨rfl, rfl⟩
  cases hh : Pre.has rootL s.data.toList with
  | false =>
    have HV := Lib.hid (show rouV (parseP s.data.toList) = .tuple #[.agg S.none.cells.toArray, .int .i64 7] by rw [HPF.out, if_pos hh]; rfl)
    rw [show Pre.cutV ⟨rootL.toArray⟩ s = .tuple #[.string s, .bool false] by unfold Pre.cutV; rw [show Pre.has (⟨rootL.toArray⟩ : ByteArray).data.toList s.data.toList = false from hh]; rfl]
    clear hh HPF
    go_upto_region 3 with (fail)
    refine wp_region_lit ?_
    refine wpList_val rfl (.agg S.none.cells.toArray) (by as_aux_lemma => kernel_rfl) ?_
    simp only [Act.put, Act.eval, List.setIfInBounds_toArray, List.set_cons_zero, List.set_cons_succ, Nat.reduceAdd, Array.getD_eq_getD_getElem?, List.getElem?_toArray, List.getElem?_cons_succ, List.getElem?_cons_zero, Option.getD_some]
    refine wpList_store_mid rfl 26 _ _ rfl gr 0 ((S.none).cells).toArray rfl rfl (HR.out.there _ (by rw [List.size_toArray]; have a1 := cells_length (S.none) none_dig; have a2 := cells_length S.none none_dig; omega)) (by rw [List.size_toArray, cells_length _ none_dig]; exact size35) (all_oneCell_toArray (oneS _)) ?_
    simp only [List.toList_toArray]
    simp only [Act.put, Act.eval, List.setIfInBounds_toArray, List.set_cons_zero, List.set_cons_succ, Nat.reduceAdd, Array.getD_eq_getD_getElem?, List.getElem?_toArray, List.getElem?_cons_succ, List.getElem?_cons_zero, Option.getD_some]
    have HN := Lib.hid (HR.out.setAll ((S.none).cells) (by have a1 := cells_length (S.none) none_dig; have a2 := cells_length S.none none_dig; omega))
    have XN := Lib.hid (HX.out.trans_but (But.setCells gr ((S.none).cells) 0 w1) hgr)
    generalize w1.setCells gr 0 ((S.none).cells) = wn at *
    go_wp2_with fail
    exact bodyPost_ret (results_row2 rfl _ _ gr 26 ((S.none).cells).toArray (0, 0) _ rfl HN.out undS rfl (by rw [List.size_toArray, cells_length _ none_dig]; exact size35)) rfl ⟨by rw [HV.out]; rfl, XN.out⟩
  | true =>
    have hpf := HPF.out
    rw [if_neg (by rw [hh]; decide)] at hpf
    have hd : s.data.toList.drop 4 = (s.extract 4 s.size).data.toList := by rw [ext_from]
    have hxs : (s.extract 4 s.size).size ≤ 274877906944 := ext_le _ _ _ h3
    rw [hd] at hpf
    rw [show Pre.cutV ⟨rootL.toArray⟩ s = .tuple #[.string (s.extract 4 s.size), .bool true] by unfold Pre.cutV; rw [show Pre.has (⟨rootL.toArray⟩ : ByteArray).data.toList s.data.toList = true from hh]; rfl]
    have HP2 := Lib.hid hpf
    clear hh hd HPF hpf
    generalize s.extract 4 s.size = r at *
    by_cases h0 : r.size = 0
    · have e1 : r.data.toList = [] := (empty_of r h0).1
      have te : (r.toList == []) = true := by rw [ByteArray.toList_eq, e1]; rfl
      have HV := Lib.hid (show rouV (parseP s.data.toList) = .tuple #[.agg (⟨1, noStr, noStr, zeros⟩ : S).cells.toArray, .int .i64 0] by rw [HP2.out, if_pos e1]; rfl)
      clear HP2 e1 h0
      go_upto_region 5 with (fail)
      refine wp_region_lit ?_
      refine wpList_val rfl (.agg (⟨1, noStr, noStr, zeros⟩ : S).cells.toArray) (by as_aux_lemma => kernel_rfl) ?_
      simp only [Act.put, Act.eval, List.setIfInBounds_toArray, List.set_cons_zero, List.set_cons_succ, Nat.reduceAdd, Array.getD_eq_getD_getElem?, List.getElem?_toArray, List.getElem?_cons_succ, List.getElem?_cons_zero, Option.getD_some]
      refine wpList_store_mid rfl 26 _ _ rfl gr 0 (((⟨1, noStr, noStr, zeros⟩ : S)).cells).toArray rfl rfl (HR.out.there _ (by rw [List.size_toArray]; have a1 := cells_length ((⟨1, noStr, noStr, zeros⟩ : S)) zeros_len; have a2 := cells_length S.none none_dig; omega)) (by rw [List.size_toArray, cells_length _ zeros_len]; exact size35) (all_oneCell_toArray (oneS _)) ?_
      simp only [List.toList_toArray]
      simp only [Act.put, Act.eval, List.setIfInBounds_toArray, List.set_cons_zero, List.set_cons_succ, Nat.reduceAdd, Array.getD_eq_getD_getElem?, List.getElem?_toArray, List.getElem?_cons_succ, List.getElem?_cons_zero, Option.getD_some]
      have HN := Lib.hid (HR.out.setAll (((⟨1, noStr, noStr, zeros⟩ : S)).cells) (by have a1 := cells_length ((⟨1, noStr, noStr, zeros⟩ : S)) zeros_len; have a2 := cells_length S.none none_dig; omega))
      have XN := Lib.hid (HX.out.trans_but (But.setCells gr (((⟨1, noStr, noStr, zeros⟩ : S)).cells) 0 w1) hgr)
      generalize w1.setCells gr 0 (((⟨1, noStr, noStr, zeros⟩ : S)).cells) = wn at *
      go_wp2_with fail
      exact bodyPost_ret (results_row2 rfl _ _ gr 26 (((⟨1, noStr, noStr, zeros⟩ : S)).cells).toArray (0, 0) _ rfl HN.out undS rfl (by rw [List.size_toArray, cells_length _ zeros_len]; exact size35)) rfl ⟨by rw [HV.out]; rfl, XN.out⟩
    · have e1 : r.data.toList ≠ [] := fun h => h0 (by rw [← len_data, h]; rfl)
      have te : (r.toList == []) = false := by rw [ByteArray.toList_eq]; exact beq_eq_false_iff_ne.2 e1
      have hpf := HP2.out
      rw [if_neg e1] at hpf
      have HP3 := Lib.hid hpf
      clear HP2 hpf e1 h0
      go_wp2_with fail
      refine (cutLast_any r w1 hxs).mono ?_
      rintro e w2 ⟨rfl, x2⟩
      have HX2 := Lib.hid (HX.out.trans x2)
      have HR2 := Lib.hid (HR.out.ext x2)
      clear x2 HX HR
      cases hc : cutL r.data.toList with
      | none =>
        have hv := HP3.out
        rw [hc] at hv
        have HV := Lib.hid (show rouV (parseP s.data.toList) = .tuple #[.agg S.none.cells.toArray, .int .i64 7] by rw [hv]; rfl)
        rw [show cutV r.data.toList = .tuple #[.string ⟨#[]⟩, .string ⟨#[]⟩, .bool false] by unfold cutV; rw [hc]]
        clear hc hv HP3
        go_wp2_with fail
        refine (cutLast_any ⟨#[]⟩ w2 (by decide)).mono ?_
        rintro e w3 ⟨rfl, x3⟩
        have HX3 := Lib.hid (HX2.out.trans x3)
        have HR3 := Lib.hid (HR2.out.ext x3)
        clear x3 HX2 HR2
        rw [show cutV (⟨#[]⟩ : ByteArray).data.toList = .tuple #[.string ⟨#[]⟩, .string ⟨#[]⟩, .bool false] from rfl]
        go_upto_region 9 with (fail)
        refine wp_region_lit ?_
        refine wpList_val rfl (.agg S.none.cells.toArray) (by as_aux_lemma => kernel_rfl) ?_
        simp only [Act.put, Act.eval, List.setIfInBounds_toArray, List.set_cons_zero, List.set_cons_succ, Nat.reduceAdd, Array.getD_eq_getD_getElem?, List.getElem?_toArray, List.getElem?_cons_succ, List.getElem?_cons_zero, Option.getD_some]
        refine wpList_store_mid rfl 26 _ _ rfl gr 0 ((S.none).cells).toArray rfl rfl (HR3.out.there _ (by rw [List.size_toArray]; have a1 := cells_length (S.none) none_dig; have a2 := cells_length S.none none_dig; omega)) (by rw [List.size_toArray, cells_length _ none_dig]; exact size35) (all_oneCell_toArray (oneS _)) ?_
        simp only [List.toList_toArray]
        simp only [Act.put, Act.eval, List.setIfInBounds_toArray, List.set_cons_zero, List.set_cons_succ, Nat.reduceAdd, Array.getD_eq_getD_getElem?, List.getElem?_toArray, List.getElem?_cons_succ, List.getElem?_cons_zero, Option.getD_some]
        have HN := Lib.hid (HR3.out.setAll ((S.none).cells) (by have a1 := cells_length (S.none) none_dig; have a2 := cells_length S.none none_dig; omega))
        have XN := Lib.hid (HX3.out.trans_but (But.setCells gr ((S.none).cells) 0 w3) hgr)
        generalize w3.setCells gr 0 ((S.none).cells) = wn at *
        go_wp2_with fail
        exact bodyPost_ret (results_row2 rfl _ _ gr 26 ((S.none).cells).toArray (0, 0) _ rfl HN.out undS rfl (by rw [List.size_toArray, cells_length _ none_dig]; exact size35)) rfl ⟨by rw [HV.out]; rfl, XN.out⟩
      | some p =>
        obtain ⟨x, f⟩ := p
        have hv := HP3.out
        rw [hc] at hv
        simp only at hv
        have hl := congrArg List.length (cutL_some.1 hc).1
        rw [List.length_append, List.length_cons, len_data] at hl
        have hxl : x.length ≤ 274877906944 := by omega
        have hfl : f.length ≤ 274877906944 := by omega
        rw [show cutV r.data.toList = .tuple #[.string ⟨x.toArray⟩, .string ⟨f.toArray⟩, .bool true] by unfold cutV; rw [hc]]
        have HP4 := Lib.hid hv
        clear hc hv HP3 hl
        obtain ⟨X, hX⟩ : ∃ X : ByteArray, X = ⟨x.toArray⟩ := ⟨_, rfl⟩
        obtain ⟨F, hF⟩ : ∃ F : ByteArray, F = ⟨f.toArray⟩ := ⟨_, rfl⟩
        have ex : x = X.data.toList := by rw [hX]
        have ef : f = F.data.toList := by rw [hF]
        rw [← hX, ← hF]
        clear hX hF
        subst ex ef
        rw [len_data] at hxl hfl
        go_wp2_with fail
        refine (cutLast_any X w2 hxl).mono ?_
        rintro e w3 ⟨rfl, x3⟩
        have HX3 := Lib.hid (HX2.out.trans x3)
        have HR3 := Lib.hid (HR2.out.ext x3)
        clear x3 HX2 HR2
        cases hc : cutL X.data.toList with
        | none =>
          have hv := HP4.out
          rw [hc] at hv
          have HV := Lib.hid (show rouV (parseP s.data.toList) = .tuple #[.agg S.none.cells.toArray, .int .i64 7] by rw [hv]; rfl)
          rw [show cutV X.data.toList = .tuple #[.string ⟨#[]⟩, .string ⟨#[]⟩, .bool false] by unfold cutV; rw [hc]]
          clear hc hv HP4
          go_upto_region 9 with (fail)
          refine wp_region_lit ?_
          refine wpList_val rfl (.agg S.none.cells.toArray) (by as_aux_lemma => kernel_rfl) ?_
          simp only [Act.put, Act.eval, List.setIfInBounds_toArray, List.set_cons_zero, List.set_cons_succ, Nat.reduceAdd, Array.getD_eq_getD_getElem?, List.getElem?_toArray, List.getElem?_cons_succ, List.getElem?_cons_zero, Option.getD_some]
          refine wpList_store_mid rfl 26 _ _ rfl gr 0 ((S.none).cells).toArray rfl rfl (HR3.out.there _ (by rw [List.size_toArray]; have a1 := cells_length (S.none) none_dig; have a2 := cells_length S.none none_dig; omega)) (by rw [List.size_toArray, cells_length _ none_dig]; exact size35) (all_oneCell_toArray (oneS _)) ?_
          simp only [List.toList_toArray]
          simp only [Act.put, Act.eval, List.setIfInBounds_toArray, List.set_cons_zero, List.set_cons_succ, Nat.reduceAdd, Array.getD_eq_getD_getElem?, List.getElem?_toArray, List.getElem?_cons_succ, List.getElem?_cons_zero, Option.getD_some]
          have HN := Lib.hid (HR3.out.setAll ((S.none).cells) (by have a1 := cells_length (S.none) none_dig; have a2 := cells_length S.none none_dig; omega))
          have XN := Lib.hid (HX3.out.trans_but (But.setCells gr ((S.none).cells) 0 w3) hgr)
          generalize w3.setCells gr 0 ((S.none).cells) = wn at *
          go_wp2_with fail
          exact bodyPost_ret (results_row2 rfl _ _ gr 26 ((S.none).cells).toArray (0, 0) _ rfl HN.out undS rfl (by rw [List.size_toArray, cells_length _ none_dig]; exact size35)) rfl ⟨by rw [HV.out]; rfl, XN.out⟩
        | some p =>
          obtain ⟨o, d⟩ := p
          have hv := HP4.out
          rw [hc] at hv
          simp only at hv
          have hl := congrArg List.length (cutL_some.1 hc).1
          rw [List.length_append, List.length_cons, len_data] at hl
          have hol : o.length ≤ 274877906944 := by omega
          rw [show cutV X.data.toList = .tuple #[.string ⟨o.toArray⟩, .string ⟨d.toArray⟩, .bool true] by unfold cutV; rw [hc]]
          have HP5 := Lib.hid hv
          clear hc hv HP4 hl
          obtain ⟨O, hO⟩ : ∃ O : ByteArray, O = ⟨o.toArray⟩ := ⟨_, rfl⟩
          obtain ⟨D, hD⟩ : ∃ D : ByteArray, D = ⟨d.toArray⟩ := ⟨_, rfl⟩
          have eo : o = O.data.toList := by rw [hO]
          have ed : d = D.data.toList := by rw [hD]
          rw [← hO, ← hD]
          clear hO hD
          subst eo ed
          rw [len_data] at hol
          have tm := test_lit D manL
          have tb := test_lit D blobL
          unfold manL at tm
          unfold blobL at tb
          by_cases hm : D.data.toList = manL
          · have tm1 : (D.toList == [109, 97, 110, 105, 102, 101, 115, 116, 115]) = true := by rw [tm]; exact decide_eq_true hm
            have hv := HP5.out
            rw [if_neg (fun h => h.1 hm), ba_data] at hv
            have HP6 := Lib.hid hv
            clear tm tb hm hv HP5
            go_wp2_with fail
            refine (repo_any O w3).mono ?_
            rintro e w4 ⟨rfl, x4⟩
            have HX4 := Lib.hid (HX3.out.trans x4)
            have HR4 := Lib.hid (HR3.out.ext x4)
            clear x4 HX3 HR3
            cases hr : repoP O.data.toList with
            | false =>
              have HV := Lib.hid (show rouV (parseP s.data.toList) = .tuple #[.agg S.none.cells.toArray, .int .i64 10] by rw [HP6.out, if_pos hr]; rfl)
              clear hr HP6
              go_upto_region 11 with (fail)
              refine wp_region_lit ?_
              refine wpList_val rfl (.agg S.none.cells.toArray) (by as_aux_lemma => kernel_rfl) ?_
              simp only [Act.put, Act.eval, List.setIfInBounds_toArray, List.set_cons_zero, List.set_cons_succ, Nat.reduceAdd, Array.getD_eq_getD_getElem?, List.getElem?_toArray, List.getElem?_cons_succ, List.getElem?_cons_zero, Option.getD_some]
              refine wpList_store_mid rfl 26 _ _ rfl gr 0 ((S.none).cells).toArray rfl rfl (HR4.out.there _ (by rw [List.size_toArray]; have a1 := cells_length (S.none) none_dig; have a2 := cells_length S.none none_dig; omega)) (by rw [List.size_toArray, cells_length _ none_dig]; exact size35) (all_oneCell_toArray (oneS _)) ?_
              simp only [List.toList_toArray]
              simp only [Act.put, Act.eval, List.setIfInBounds_toArray, List.set_cons_zero, List.set_cons_succ, Nat.reduceAdd, Array.getD_eq_getD_getElem?, List.getElem?_toArray, List.getElem?_cons_succ, List.getElem?_cons_zero, Option.getD_some]
              have HN := Lib.hid (HR4.out.setAll ((S.none).cells) (by have a1 := cells_length (S.none) none_dig; have a2 := cells_length S.none none_dig; omega))
              have XN := Lib.hid (HX4.out.trans_but (But.setCells gr ((S.none).cells) 0 w4) hgr)
              generalize w4.setCells gr 0 ((S.none).cells) = wn at *
              go_wp2_with fail
              exact bodyPost_ret (results_row2 rfl _ _ gr 26 ((S.none).cells).toArray (0, 0) _ rfl HN.out undS rfl (by rw [List.size_toArray, cells_length _ none_dig]; exact size35)) rfl ⟨by rw [HV.out]; rfl, XN.out⟩
            | true =>
              have hv := HP6.out
              rw [if_neg (by rw [hr]; decide)] at hv
              have HV1 := Lib.hid hv
              clear hr hv HP6
              go_upto_region 12 with (fail)
              refine wp_region_lit ?_
              iterate 3 go_step
              refine wpList_val rfl (.agg (start O).cells.toArray) (by as_aux_lemma => kernel_rfl) ?_
              simp only [Act.put, Act.eval, List.setIfInBounds_toArray, List.set_cons_zero, List.set_cons_succ, Nat.reduceAdd, Array.getD_eq_getD_getElem?, List.getElem?_toArray, List.getElem?_cons_succ, List.getElem?_cons_zero, Option.getD_some]
              go_wp2_with fail
              refine (refer_any O D F w4 hfl).mono ?_
              rintro e w5 ⟨rfl, x5⟩
              have HX5 := Lib.hid (HX4.out.trans x5)
              have HR5 := Lib.hid (HR4.out.ext x5)
              clear x5 HX4 HR4
              have hd := referP_dig O D.data.toList F.data.toList
              have hv : rouV (parseP s.data.toList) = rouV (referP O D.data.toList F.data.toList) := by rw [HV1.out]
              clear HV1
              generalize referP O D.data.toList F.data.toList = p at *
              have HV : Hid (rouV (parseP s.data.toList) = .tuple #[.agg p.1.cells.toArray, .int .i64 p.2]) := hv
              rw [show rouV p = .tuple #[.agg p.1.cells.toArray, .int .i64 p.2] from rfl]
              clear hv
              rename_i hK
              refine hK _ _ ?_
              iterate 6 go_step
              refine wpList_store_mid rfl 26 _ _ rfl gr 0 ((p.1).cells).toArray rfl rfl (HR5.out.there _ (by rw [List.size_toArray]; have a1 := cells_length (p.1) hd; have a2 := cells_length S.none none_dig; omega)) (by rw [List.size_toArray, cells_length _ hd]; exact size35) (all_oneCell_toArray (oneS _)) ?_
              simp only [List.toList_toArray]
              simp only [Act.put, Act.eval, List.setIfInBounds_toArray, List.set_cons_zero, List.set_cons_succ, Nat.reduceAdd, Array.getD_eq_getD_getElem?, List.getElem?_toArray, List.getElem?_cons_succ, List.getElem?_cons_zero, Option.getD_some]
              have HN := Lib.hid (HR5.out.setAll ((p.1).cells) (by have a1 := cells_length (p.1) hd; have a2 := cells_length S.none none_dig; omega))
              have XN := Lib.hid (HX5.out.trans_but (But.setCells gr ((p.1).cells) 0 w5) hgr)
              generalize w5.setCells gr 0 ((p.1).cells) = wn at *
              go_wp2_with fail
              exact bodyPost_ret (results_row2 rfl _ _ gr 26 ((p.1).cells).toArray (0, 0) _ rfl HN.out undS rfl (by rw [List.size_toArray, cells_length _ hd]; exact size35)) rfl ⟨by rw [HV.out]; rfl, XN.out⟩
          · have tm1 : (D.toList == [109, 97, 110, 105, 102, 101, 115, 116, 115]) = false := by rw [tm]; exact decide_eq_false hm
            by_cases hbl : D.data.toList = blobL
            · have tb1 : (D.toList == [98, 108, 111, 98, 115]) = true := by rw [tb]; exact decide_eq_true hbl
              have hv := HP5.out
              rw [if_neg (fun h => h.2 hbl), ba_data] at hv
              have HP6 := Lib.hid hv
              clear tm tb hm hbl hv HP5
              go_wp2_with fail
              refine (repo_any O w3).mono ?_
              rintro e w4 ⟨rfl, x4⟩
              have HX4 := Lib.hid (HX3.out.trans x4)
              have HR4 := Lib.hid (HR3.out.ext x4)
              clear x4 HX3 HR3
              cases hr : repoP O.data.toList with
              | false =>
                have HV := Lib.hid (show rouV (parseP s.data.toList) = .tuple #[.agg S.none.cells.toArray, .int .i64 10] by rw [HP6.out, if_pos hr]; rfl)
                clear hr HP6
                go_upto_region 11 with (fail)
                refine wp_region_lit ?_
                refine wpList_val rfl (.agg S.none.cells.toArray) (by as_aux_lemma => kernel_rfl) ?_
                simp only [Act.put, Act.eval, List.setIfInBounds_toArray, List.set_cons_zero, List.set_cons_succ, Nat.reduceAdd, Array.getD_eq_getD_getElem?, List.getElem?_toArray, List.getElem?_cons_succ, List.getElem?_cons_zero, Option.getD_some]
                refine wpList_store_mid rfl 26 _ _ rfl gr 0 ((S.none).cells).toArray rfl rfl (HR4.out.there _ (by rw [List.size_toArray]; have a1 := cells_length (S.none) none_dig; have a2 := cells_length S.none none_dig; omega)) (by rw [List.size_toArray, cells_length _ none_dig]; exact size35) (all_oneCell_toArray (oneS _)) ?_
                simp only [List.toList_toArray]
                simp only [Act.put, Act.eval, List.setIfInBounds_toArray, List.set_cons_zero, List.set_cons_succ, Nat.reduceAdd, Array.getD_eq_getD_getElem?, List.getElem?_toArray, List.getElem?_cons_succ, List.getElem?_cons_zero, Option.getD_some]
                have HN := Lib.hid (HR4.out.setAll ((S.none).cells) (by have a1 := cells_length (S.none) none_dig; have a2 := cells_length S.none none_dig; omega))
                have XN := Lib.hid (HX4.out.trans_but (But.setCells gr ((S.none).cells) 0 w4) hgr)
                generalize w4.setCells gr 0 ((S.none).cells) = wn at *
                go_wp2_with fail
                exact bodyPost_ret (results_row2 rfl _ _ gr 26 ((S.none).cells).toArray (0, 0) _ rfl HN.out undS rfl (by rw [List.size_toArray, cells_length _ none_dig]; exact size35)) rfl ⟨by rw [HV.out]; rfl, XN.out⟩
              | true =>
                have hv := HP6.out
                rw [if_neg (by rw [hr]; decide)] at hv
                have HV1 := Lib.hid hv
                clear hr hv HP6
                go_upto_region 12 with (fail)
                refine wp_region_lit ?_
                iterate 3 go_step
                refine wpList_val rfl (.agg (start O).cells.toArray) (by as_aux_lemma => kernel_rfl) ?_
                simp only [Act.put, Act.eval, List.setIfInBounds_toArray, List.set_cons_zero, List.set_cons_succ, Nat.reduceAdd, Array.getD_eq_getD_getElem?, List.getElem?_toArray, List.getElem?_cons_succ, List.getElem?_cons_zero, Option.getD_some]
                go_wp2_with fail
                refine (refer_any O D F w4 hfl).mono ?_
                rintro e w5 ⟨rfl, x5⟩
                have HX5 := Lib.hid (HX4.out.trans x5)
                have HR5 := Lib.hid (HR4.out.ext x5)
                clear x5 HX4 HR4
                have hd := referP_dig O D.data.toList F.data.toList
                have hv : rouV (parseP s.data.toList) = rouV (referP O D.data.toList F.data.toList) := by rw [HV1.out]
                clear HV1
                generalize referP O D.data.toList F.data.toList = p at *
                have HV : Hid (rouV (parseP s.data.toList) = .tuple #[.agg p.1.cells.toArray, .int .i64 p.2]) := hv
                rw [show rouV p = .tuple #[.agg p.1.cells.toArray, .int .i64 p.2] from rfl]
                clear hv
                rename_i hK
                refine hK _ _ ?_
                iterate 6 go_step
                refine wpList_store_mid rfl 26 _ _ rfl gr 0 ((p.1).cells).toArray rfl rfl (HR5.out.there _ (by rw [List.size_toArray]; have a1 := cells_length (p.1) hd; have a2 := cells_length S.none none_dig; omega)) (by rw [List.size_toArray, cells_length _ hd]; exact size35) (all_oneCell_toArray (oneS _)) ?_
                simp only [List.toList_toArray]
                simp only [Act.put, Act.eval, List.setIfInBounds_toArray, List.set_cons_zero, List.set_cons_succ, Nat.reduceAdd, Array.getD_eq_getD_getElem?, List.getElem?_toArray, List.getElem?_cons_succ, List.getElem?_cons_zero, Option.getD_some]
                have HN := Lib.hid (HR5.out.setAll ((p.1).cells) (by have a1 := cells_length (p.1) hd; have a2 := cells_length S.none none_dig; omega))
                have XN := Lib.hid (HX5.out.trans_but (But.setCells gr ((p.1).cells) 0 w5) hgr)
                generalize w5.setCells gr 0 ((p.1).cells) = wn at *
                go_wp2_with fail
                exact bodyPost_ret (results_row2 rfl _ _ gr 26 ((p.1).cells).toArray (0, 0) _ rfl HN.out undS rfl (by rw [List.size_toArray, cells_length _ hd]; exact size35)) rfl ⟨by rw [HV.out]; rfl, XN.out⟩
            · have tb1 : (D.toList == [98, 108, 111, 98, 115]) = false := by rw [tb]; exact decide_eq_false hbl
              have hv := HP5.out
              rw [if_pos ⟨hm, hbl⟩] at hv
              have HV := Lib.hid (show rouV (parseP s.data.toList) = .tuple #[.agg S.none.cells.toArray, .int .i64 7] by rw [hv]; rfl)
              clear tm tb hm hbl hv HP5
              go_upto_region 9 with (fail)
              refine wp_region_lit ?_
              refine wpList_val rfl (.agg S.none.cells.toArray) (by as_aux_lemma => kernel_rfl) ?_
              simp only [Act.put, Act.eval, List.setIfInBounds_toArray, List.set_cons_zero, List.set_cons_succ, Nat.reduceAdd, Array.getD_eq_getD_getElem?, List.getElem?_toArray, List.getElem?_cons_succ, List.getElem?_cons_zero, Option.getD_some]
              refine wpList_store_mid rfl 26 _ _ rfl gr 0 ((S.none).cells).toArray rfl rfl (HR3.out.there _ (by rw [List.size_toArray]; have a1 := cells_length (S.none) none_dig; have a2 := cells_length S.none none_dig; omega)) (by rw [List.size_toArray, cells_length _ none_dig]; exact size35) (all_oneCell_toArray (oneS _)) ?_
              simp only [List.toList_toArray]
              simp only [Act.put, Act.eval, List.setIfInBounds_toArray, List.set_cons_zero, List.set_cons_succ, Nat.reduceAdd, Array.getD_eq_getD_getElem?, List.getElem?_toArray, List.getElem?_cons_succ, List.getElem?_cons_zero, Option.getD_some]
              have HN := Lib.hid (HR3.out.setAll ((S.none).cells) (by have a1 := cells_length (S.none) none_dig; have a2 := cells_length S.none none_dig; omega))
              have XN := Lib.hid (HX3.out.trans_but (But.setCells gr ((S.none).cells) 0 w3) hgr)
              generalize w3.setCells gr 0 ((S.none).cells) = wn at *
              go_wp2_with fail
              exact bodyPost_ret (results_row2 rfl _ _ gr 26 ((S.none).cells).toArray (0, 0) _ rfl HN.out undS rfl (by rw [List.size_toArray, cells_length _ none_dig]; exact size35)) rfl ⟨by rw [HV.out]; rfl, XN.out⟩
end Pl
end Go.Proofs.YtdoplndijlfabaaDoor
