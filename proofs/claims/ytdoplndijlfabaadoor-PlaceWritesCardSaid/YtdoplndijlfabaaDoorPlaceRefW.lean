/- Chapter 15, the reference: Print. -/
import Derived.Test.YtdoplndijlfabaaDoorPlaceBack
import Derived.Test.YtdoplndijlfabaaDoorPlaceRefQ
set_option linter.unusedSimpArgs false
set_option linter.unusedVariables false
set_option linter.unusedSectionVars false
namespace Go.Proofs.YtdoplndijlfabaaDoor
open Go.RowKit
namespace Pl
open Rte
/-- the text that the document tries -/
def txtL (r : S) : List UInt8 := if r.k = 1 ∨ r.k = 2 ∨ r.k = 3 ∨ r.k = 4 then printL r else []
theorem txt_or (r : S) (hr : r.dig.length = 32) : (goodP r = true ∧ txtL r = printL r ∧ parseP (txtL r) = (r, 0)) ∨ (goodP r = false ∧ ∃ (x : S) (n : Int), parseP (txtL r) = (x, n) ∧ x.dig.length = 32 ∧ ((n != 0) = true ∨ (n = 0 ∧ x.same r = false))) := by
  cases hg : goodP r with
  | true =>
    have ht : txtL r = printL r := by unfold txtL; rw [if_pos (good_kind hg)]
    exact .inl ⟨rfl, ht, by rw [ht]; exact parse_print hg hr⟩
  | false =>
    refine .inr ⟨rfl, (parseP (txtL r)).1, (parseP (txtL r)).2, rfl, parseP_dig _, ?_⟩
    by_cases hn : (parseP (txtL r)).2 = 0
    · refine .inr ⟨hn, ?_⟩
      cases hs : (parseP (txtL r)).1.same r with
      | false => rfl
      | true =>
        have e := (same_iff _ _).1 hs
        have := (print_parse (s := txtL r) (r := r) (Prod.ext e hn)).1
        rw [hg] at this; cases this
    · exact .inl (bne_iff_ne.2 hn)
set_option maxRecDepth 100000 in
set_option maxHeartbeats 8000000 in
theorem printRR_any (r : S) (hr : r.dig.length = 32) (h1 : r.repo.size ≤ 68719476736) (h2 : r.tag.size ≤ 68719476736) (w : World) :
    Calls Tryd.prog 16 #[.agg r.cells.toArray] w fun e w' => e = .returned (printV r) ∧ Reg.Ext w w' := by
  have hb := boxS w r
  have hx := Reg.Ext.alloc w (Obj.cells r.cells.toArray 26)
  go_enter Tryd.func16, Tryd.ntmps16
  go_upto_region 2 with (fail)
  generalize w.alloc (Obj.cells r.cells.toArray 26) = w0 at *
  generalize w.heap.size = g at hb ⊢
  have HB := Lib.hid hb
  have HX := Lib.hid hx
  clear hb hx
  have c0 : w0.cell? ⟨g, 0, none⟩ = some (.int .i64 r.k) := HB.out.cell 0
  by_cases k1 : r.k = 1
  · have htx : txtL r = rootL := by unfold txtL printL; rw [if_pos (.inl k1), if_pos k1]
    have HT : Hid ((⟨#[47, 118, 50, 47]⟩ : ByteArray).data.toList = txtL r) := by show _ = _; rw [htx]; rfl
    have HTS : Hid ((⟨#[47, 118, 50, 47]⟩ : ByteArray).size ≤ 274877906944) := by show _ ≤ _; decide
    have e1 : (r.k == 1) = true := by simpa using k1
    clear htx k1 h1 h2
    go_upto_region 11 with (fail)
    have HXn := HX
    have HBn := HB
    clear c0 HX HB
    generalize w0 = wn at *
    have hTl : ((⟨#[47, 118, 50, 47]⟩ : ByteArray)).data.toList = txtL r := HT.out
    have hTs : ((⟨#[47, 118, 50, 47]⟩ : ByteArray)).size ≤ 274877906944 := HTS.out
    rcases txt_or r hr with ⟨e1, e2, e3⟩ | ⟨e1, x, n, e3, e4, e5⟩
    · have HV := Lib.hid (show printV r = .tuple #[.string ((⟨#[47, 118, 50, 47]⟩ : ByteArray)), .int .i64 0] by rw [print_good e1, ← e2, ← hTl, ba_data])
      have CP := fun w => Lib.hid (parseR_any ((⟨#[47, 118, 50, 47]⟩ : ByteArray)) w hTs)
      rw [hTl, e3] at CP
      clear e1 e2 e3 hTl hTs HT HTS
      go_wp2_with fail
      refine (CP wn).out.mono ?_
      rintro e w6 ⟨rfl, x6⟩
      rw [show rouV (r, 0) = .tuple #[.agg r.cells.toArray, .int .i64 0] from rfl]
      rename_i hK
      refine hK _ _ ?_
      iterate 12 go_step
      rw [z35]
      have hbf := boxS w6 S.none
      have hxf := Reg.Ext.alloc w6 (Obj.cells S.none.cells.toArray 26)
      have hxs := hxf.trans_but (But.setCells w6.heap.size ((r).cells) 0 _) (Nat.le_refl _)
      generalize w6.alloc (Obj.cells S.none.cells.toArray 26) = wf at *
      have HBF := Lib.hid hbf
      clear hbf hxf
      refine wpList_store_mid rfl 26 _ _ rfl w6.heap.size 0 ((r).cells).toArray rfl rfl (HBF.out.there _ (by rw [List.size_toArray]; have a1 := cells_length (r) hr; have a2 := cells_length S.none none_dig; omega)) (by rw [List.size_toArray, cells_length _ hr]; exact size35) (all_oneCell_toArray (oneS _)) ?_
      simp only [List.toList_toArray]
      simp only [Act.put, Act.eval, List.setIfInBounds_toArray, List.set_cons_zero, List.set_cons_succ, Nat.reduceAdd, Array.getD_eq_getD_getElem?, List.getElem?_toArray, List.getElem?_cons_succ, List.getElem?_cons_zero, Option.getD_some]
      have hbs := HBF.out.setAll ((r).cells) (by have a1 := cells_length (r) hr; have a2 := cells_length S.none none_dig; omega)
      generalize wf.setCells w6.heap.size 0 ((r).cells) = v6 at *
      have B6 := Lib.hid hbs
      have X6 := Lib.hid hxs
      clear hbs hxs HBF
      generalize w6.heap.size = g6 at *
      have HX6 := Lib.hid ((HXn.out.trans x6).trans X6.out)
      have HB6 := Lib.hid ((HBn.out.ext x6).ext X6.out)
      clear x6 X6 HXn HBn
      go_upto_region 12 with (fail)
      refine wp_region_lit ?_
      iterate 9 go_step
      refine wpList_rt rfl _ rfl g6 rfl _ r hr B6 ?_
      simp only [Act.put, Act.eval, List.setIfInBounds_toArray, List.set_cons_zero, List.set_cons_succ, Nat.reduceAdd, Array.getD_eq_getD_getElem?, List.getElem?_toArray, List.getElem?_cons_succ, List.getElem?_cons_zero, Option.getD_some]
      refine wpList_rt rfl _ rfl g rfl _ r hr HB6 ?_
      simp only [Act.put, Act.eval, List.setIfInBounds_toArray, List.set_cons_zero, List.set_cons_succ, Nat.reduceAdd, Array.getD_eq_getD_getElem?, List.getElem?_toArray, List.getElem?_cons_succ, List.getElem?_cons_zero, Option.getD_some]
      refine wpList_valw rfl (.bool (!r.same r)) (exec_neq r r hr hr _ _ rfl rfl rfl) ?_
      rw [same_refl]
      simp only [Act.put, Act.eval, List.setIfInBounds_toArray, List.set_cons_zero, List.set_cons_succ, Nat.reduceAdd, Array.getD_eq_getD_getElem?, List.getElem?_toArray, List.getElem?_cons_succ, List.getElem?_cons_zero, Option.getD_some]
      go_wp2_with fail
      go_ret2
      exact ⟨by rw [HV.out]; rfl, HX6.out⟩
    · have HV := Lib.hid (show printV r = .tuple #[.string ⟨#[]⟩, .int .i64 1] from print_bad e1)
      have CP := fun w => Lib.hid (parseR_any ((⟨#[47, 118, 50, 47]⟩ : ByteArray)) w hTs)
      rw [hTl, e3] at CP
      clear e1 e3 hTl hTs HT HTS
      go_wp2_with fail
      refine (CP wn).out.mono ?_
      rintro e w6 ⟨rfl, x6⟩
      rw [show rouV (x, n) = .tuple #[.agg x.cells.toArray, .int .i64 n] from rfl]
      rename_i hK
      refine hK _ _ ?_
      iterate 12 go_step
      rw [z35]
      have hbf := boxS w6 S.none
      have hxf := Reg.Ext.alloc w6 (Obj.cells S.none.cells.toArray 26)
      have hxs := hxf.trans_but (But.setCells w6.heap.size ((x).cells) 0 _) (Nat.le_refl _)
      generalize w6.alloc (Obj.cells S.none.cells.toArray 26) = wf at *
      have HBF := Lib.hid hbf
      clear hbf hxf
      refine wpList_store_mid rfl 26 _ _ rfl w6.heap.size 0 ((x).cells).toArray rfl rfl (HBF.out.there _ (by rw [List.size_toArray]; have a1 := cells_length (x) e4; have a2 := cells_length S.none none_dig; omega)) (by rw [List.size_toArray, cells_length _ e4]; exact size35) (all_oneCell_toArray (oneS _)) ?_
      simp only [List.toList_toArray]
      simp only [Act.put, Act.eval, List.setIfInBounds_toArray, List.set_cons_zero, List.set_cons_succ, Nat.reduceAdd, Array.getD_eq_getD_getElem?, List.getElem?_toArray, List.getElem?_cons_succ, List.getElem?_cons_zero, Option.getD_some]
      have hbs := HBF.out.setAll ((x).cells) (by have a1 := cells_length (x) e4; have a2 := cells_length S.none none_dig; omega)
      generalize wf.setCells w6.heap.size 0 ((x).cells) = v6 at *
      have B6 := Lib.hid hbs
      have X6 := Lib.hid hxs
      clear hbs hxs HBF
      generalize w6.heap.size = g6 at *
      have HX6 := Lib.hid ((HXn.out.trans x6).trans X6.out)
      have HB6 := Lib.hid ((HBn.out.ext x6).ext X6.out)
      clear x6 X6 HXn HBn
      rcases e5 with e5 | ⟨rfl, e5⟩
      · go_wp2_with fail
        go_ret2
        exact ⟨by rw [HV.out]; rfl, HX6.out⟩
      · go_upto_region 12 with (fail)
        refine wp_region_lit ?_
        iterate 9 go_step
        refine wpList_rt rfl _ rfl g6 rfl _ x e4 B6 ?_
        simp only [Act.put, Act.eval, List.setIfInBounds_toArray, List.set_cons_zero, List.set_cons_succ, Nat.reduceAdd, Array.getD_eq_getD_getElem?, List.getElem?_toArray, List.getElem?_cons_succ, List.getElem?_cons_zero, Option.getD_some]
        refine wpList_rt rfl _ rfl g rfl _ r hr HB6 ?_
        simp only [Act.put, Act.eval, List.setIfInBounds_toArray, List.set_cons_zero, List.set_cons_succ, Nat.reduceAdd, Array.getD_eq_getD_getElem?, List.getElem?_toArray, List.getElem?_cons_succ, List.getElem?_cons_zero, Option.getD_some]
        refine wpList_valw rfl (.bool (!x.same r)) (exec_neq x r e4 hr _ _ rfl rfl rfl) ?_
        rw [e5]
        simp only [Act.put, Act.eval, List.setIfInBounds_toArray, List.set_cons_zero, List.set_cons_succ, Nat.reduceAdd, Array.getD_eq_getD_getElem?, List.getElem?_toArray, List.getElem?_cons_succ, List.getElem?_cons_zero, Option.getD_some]
        go_wp2_with fail
        go_ret2
        exact ⟨by rw [HV.out]; rfl, HX6.out⟩
  by_cases k2 : r.k = 2
  · have htx : txtL r = rootL ++ r.repo.data.toList ++ [47] ++ manL ++ [47] ++ r.tag.data.toList := by unfold txtL printL; rw [if_pos (by omega), if_neg k1, if_pos k2]
    obtain ⟨T, hT⟩ : ∃ T : ByteArray, (⟨#[47, 118, 50, 47]⟩ ++ r.repo ++ ⟨#[47, 109, 97, 110, 105, 102, 101, 115, 116, 115, 47]⟩ ++ r.tag : ByteArray) = T := ⟨_, rfl⟩
    have HT : Hid (T.data.toList = txtL r) := by show _ = _; rw [← hT, htx]; simp [rootL, manL]
    have HTS : Hid (T.size ≤ 274877906944) := by show _ ≤ _; rw [← hT]; have a : (⟨#[47, 118, 50, 47]⟩ : ByteArray).size ≤ 20 := (by decide); have b : ((⟨#[47, 109, 97, 110, 105, 102, 101, 115, 116, 115, 47]⟩) : ByteArray).size ≤ 20 := (by decide); simp only [ByteArray.size_append]; omega
    have e1 : (r.k == 1) = false := by rw [beq_eq_false_iff_ne]; omega
    have e2 : (r.k == 2) = true := by simpa using k2
    have c1 : w0.cell? ⟨g, 1, none⟩ = some (.string r.repo) := HB.out.cell 1
    have c2 : w0.cell? ⟨g, 2, none⟩ = some (.string r.tag) := HB.out.cell 2
    clear htx k1 k2
    go_upto_region 11 with (fail)
    first | rw [hT] | skip
    have HXn := HX
    have HBn := HB
    clear c0 c1 c2 hT HX HB
    generalize w0 = wn at *
    have hTl : (T).data.toList = txtL r := HT.out
    have hTs : (T).size ≤ 274877906944 := HTS.out
    rcases txt_or r hr with ⟨e1, e2, e3⟩ | ⟨e1, x, n, e3, e4, e5⟩
    · have HV := Lib.hid (show printV r = .tuple #[.string (T), .int .i64 0] by rw [print_good e1, ← e2, ← hTl, ba_data])
      have CP := fun w => Lib.hid (parseR_any (T) w hTs)
      rw [hTl, e3] at CP
      clear e1 e2 e3 hTl hTs HT HTS
      go_wp2_with fail
      refine (CP wn).out.mono ?_
      rintro e w6 ⟨rfl, x6⟩
      rw [show rouV (r, 0) = .tuple #[.agg r.cells.toArray, .int .i64 0] from rfl]
      rename_i hK
      refine hK _ _ ?_
      iterate 12 go_step
      rw [z35]
      have hbf := boxS w6 S.none
      have hxf := Reg.Ext.alloc w6 (Obj.cells S.none.cells.toArray 26)
      have hxs := hxf.trans_but (But.setCells w6.heap.size ((r).cells) 0 _) (Nat.le_refl _)
      generalize w6.alloc (Obj.cells S.none.cells.toArray 26) = wf at *
      have HBF := Lib.hid hbf
      clear hbf hxf
      refine wpList_store_mid rfl 26 _ _ rfl w6.heap.size 0 ((r).cells).toArray rfl rfl (HBF.out.there _ (by rw [List.size_toArray]; have a1 := cells_length (r) hr; have a2 := cells_length S.none none_dig; omega)) (by rw [List.size_toArray, cells_length _ hr]; exact size35) (all_oneCell_toArray (oneS _)) ?_
      simp only [List.toList_toArray]
      simp only [Act.put, Act.eval, List.setIfInBounds_toArray, List.set_cons_zero, List.set_cons_succ, Nat.reduceAdd, Array.getD_eq_getD_getElem?, List.getElem?_toArray, List.getElem?_cons_succ, List.getElem?_cons_zero, Option.getD_some]
      have hbs := HBF.out.setAll ((r).cells) (by have a1 := cells_length (r) hr; have a2 := cells_length S.none none_dig; omega)
      generalize wf.setCells w6.heap.size 0 ((r).cells) = v6 at *
      have B6 := Lib.hid hbs
      have X6 := Lib.hid hxs
      clear hbs hxs HBF
      generalize w6.heap.size = g6 at *
      have HX6 := Lib.hid ((HXn.out.trans x6).trans X6.out)
      have HB6 := Lib.hid ((HBn.out.ext x6).ext X6.out)
      clear x6 X6 HXn HBn
      go_upto_region 12 with (fail)
      refine wp_region_lit ?_
      iterate 9 go_step
      refine wpList_rt rfl _ rfl g6 rfl _ r hr B6 ?_
      simp only [Act.put, Act.eval, List.setIfInBounds_toArray, List.set_cons_zero, List.set_cons_succ, Nat.reduceAdd, Array.getD_eq_getD_getElem?, List.getElem?_toArray, List.getElem?_cons_succ, List.getElem?_cons_zero, Option.getD_some]
      refine wpList_rt rfl _ rfl g rfl _ r hr HB6 ?_
      simp only [Act.put, Act.eval, List.setIfInBounds_toArray, List.set_cons_zero, List.set_cons_succ, Nat.reduceAdd, Array.getD_eq_getD_getElem?, List.getElem?_toArray, List.getElem?_cons_succ, List.getElem?_cons_zero, Option.getD_some]
      refine wpList_valw rfl (.bool (!r.same r)) (exec_neq r r hr hr _ _ rfl rfl rfl) ?_
      rw [same_refl]
      simp only [Act.put, Act.eval, List.setIfInBounds_toArray, List.set_cons_zero, List.set_cons_succ, Nat.reduceAdd, Array.getD_eq_getD_getElem?, List.getElem?_toArray, List.getElem?_cons_succ, List.getElem?_cons_zero, Option.getD_some]
      go_wp2_with fail
      go_ret2
      exact ⟨by rw [HV.out]; rfl, HX6.out⟩
    · have HV := Lib.hid (show printV r = .tuple #[.string ⟨#[]⟩, .int .i64 1] from print_bad e1)
      have CP := fun w => Lib.hid (parseR_any (T) w hTs)
      rw [hTl, e3] at CP
      clear e1 e3 hTl hTs HT HTS
      go_wp2_with fail
      refine (CP wn).out.mono ?_
      rintro e w6 ⟨rfl, x6⟩
      rw [show rouV (x, n) = .tuple #[.agg x.cells.toArray, .int .i64 n] from rfl]
      rename_i hK
      refine hK _ _ ?_
      iterate 12 go_step
      rw [z35]
      have hbf := boxS w6 S.none
      have hxf := Reg.Ext.alloc w6 (Obj.cells S.none.cells.toArray 26)
      have hxs := hxf.trans_but (But.setCells w6.heap.size ((x).cells) 0 _) (Nat.le_refl _)
      generalize w6.alloc (Obj.cells S.none.cells.toArray 26) = wf at *
      have HBF := Lib.hid hbf
      clear hbf hxf
      refine wpList_store_mid rfl 26 _ _ rfl w6.heap.size 0 ((x).cells).toArray rfl rfl (HBF.out.there _ (by rw [List.size_toArray]; have a1 := cells_length (x) e4; have a2 := cells_length S.none none_dig; omega)) (by rw [List.size_toArray, cells_length _ e4]; exact size35) (all_oneCell_toArray (oneS _)) ?_
      simp only [List.toList_toArray]
      simp only [Act.put, Act.eval, List.setIfInBounds_toArray, List.set_cons_zero, List.set_cons_succ, Nat.reduceAdd, Array.getD_eq_getD_getElem?, List.getElem?_toArray, List.getElem?_cons_succ, List.getElem?_cons_zero, Option.getD_some]
      have hbs := HBF.out.setAll ((x).cells) (by have a1 := cells_length (x) e4; have a2 := cells_length S.none none_dig; omega)
      generalize wf.setCells w6.heap.size 0 ((x).cells) = v6 at *
      have B6 := Lib.hid hbs
      have X6 := Lib.hid hxs
      clear hbs hxs HBF
      generalize w6.heap.size = g6 at *
      have HX6 := Lib.hid ((HXn.out.trans x6).trans X6.out)
      have HB6 := Lib.hid ((HBn.out.ext x6).ext X6.out)
      clear x6 X6 HXn HBn
      rcases e5 with e5 | ⟨rfl, e5⟩
      · go_wp2_with fail
        go_ret2
        exact ⟨by rw [HV.out]; rfl, HX6.out⟩
      · go_upto_region 12 with (fail)
        refine wp_region_lit ?_
        iterate 9 go_step
        refine wpList_rt rfl _ rfl g6 rfl _ x e4 B6 ?_
        simp only [Act.put, Act.eval, List.setIfInBounds_toArray, List.set_cons_zero, List.set_cons_succ, Nat.reduceAdd, Array.getD_eq_getD_getElem?, List.getElem?_toArray, List.getElem?_cons_succ, List.getElem?_cons_zero, Option.getD_some]
        refine wpList_rt rfl _ rfl g rfl _ r hr HB6 ?_
        simp only [Act.put, Act.eval, List.setIfInBounds_toArray, List.set_cons_zero, List.set_cons_succ, Nat.reduceAdd, Array.getD_eq_getD_getElem?, List.getElem?_toArray, List.getElem?_cons_succ, List.getElem?_cons_zero, Option.getD_some]
        refine wpList_valw rfl (.bool (!x.same r)) (exec_neq x r e4 hr _ _ rfl rfl rfl) ?_
        rw [e5]
        simp only [Act.put, Act.eval, List.setIfInBounds_toArray, List.set_cons_zero, List.set_cons_succ, Nat.reduceAdd, Array.getD_eq_getD_getElem?, List.getElem?_toArray, List.getElem?_cons_succ, List.getElem?_cons_zero, Option.getD_some]
        go_wp2_with fail
        go_ret2
        exact ⟨by rw [HV.out]; rfl, HX6.out⟩
  have e1 : (r.k == 1) = false := by rw [beq_eq_false_iff_ne]; omega
  have e2 : (r.k == 2) = false := by rw [beq_eq_false_iff_ne]; omega
  by_cases k : r.k = 3
  · have htx : txtL r = rootL ++ r.repo.data.toList ++ [47] ++ manL ++ [47] ++ (Stp.pA ++ HexP.hex r.dig) := by unfold txtL printL; rw [if_pos (by omega), if_neg k1, if_neg k2, if_neg (by omega)]
    have e3 : (r.k == 3) = true := by simpa using k
    clear k1 k2
    obtain ⟨D, hD⟩ : ∃ D : ByteArray, D = ⟨(Stp.pA ++ HexP.hex r.dig).toArray⟩ := ⟨_, rfl⟩
    have hDl : D.data.toList = Stp.pA ++ HexP.hex r.dig := by rw [hD]
    have hDs : D.size ≤ 100 := by rw [hD, siz, List.length_append, HexP.hex_length, hr]; decide
    have HP := fun w => Lib.hid (Stp.printR_any r.dig hr w)
    rw [← hD] at HP
    rw [← hDl] at htx
    obtain ⟨T, hT⟩ : ∃ T : ByteArray, (⟨#[47, 118, 50, 47]⟩ ++ r.repo ++ ⟨#[47, 109, 97, 110, 105, 102, 101, 115, 116, 115, 47]⟩ ++ D : ByteArray) = T := ⟨_, rfl⟩
    have HT : Hid (T.data.toList = txtL r) := by show _ = _; rw [← hT, htx]; simp [rootL, manL, blobL]
    have HTS : Hid (T.size ≤ 274877906944) := by show _ ≤ _; rw [← hT]; have a : (⟨#[47, 118, 50, 47]⟩ : ByteArray).size ≤ 20 := (by decide); have b : ((⟨#[47, 109, 97, 110, 105, 102, 101, 115, 116, 115, 47]⟩) : ByteArray).size ≤ 20 := (by decide); simp only [ByteArray.size_append]; omega
    clear htx hD hDl k
    go_upto_region 8 with (fail)
    apply Reg.wp_tab Reg.Ext (by kernel_rfl) (by kernel_rfl) Reg.Ext.refl (fun _ _ _ => Reg.Ext.trans) (Reg.Ext.drew _)
    case' h =>
      intro O
      repeat (first
        | (apply Reg.TW.move_ Reg.Ext.refl _ rfl rfl
           · simp only [Act.put, Act.eval, List.setIfInBounds_toArray, List.set_cons_zero, List.set_cons_succ, Nat.reduceAdd, Array.getD_eq_getD_getElem?, List.getElem?_toArray, List.getElem?_cons_succ, List.getElem?_cons_zero, Option.getD_some]
             rfl)
        | (apply Reg.TW.assign_ Reg.Ext.refl _ rfl rfl
           · simp only [Act.put, Act.eval, List.setIfInBounds_toArray, List.set_cons_zero, List.set_cons_succ, Nat.reduceAdd, Array.getD_eq_getD_getElem?, List.getElem?_toArray, List.getElem?_cons_succ, List.getElem?_cons_zero, Option.getD_some]
             rfl)
        | (apply Reg.TW.skip_ rfl
           · simp only [Act.put, Act.eval, List.setIfInBounds_toArray, List.set_cons_zero, List.set_cons_succ, Nat.reduceAdd, Array.getD_eq_getD_getElem?, List.getElem?_toArray, List.getElem?_cons_succ, List.getElem?_cons_zero, Option.getD_some]
             rfl)
        | (apply Reg.TW.pure_ rfl
           · intro w1 hw1 hf K hK
             simp only [Act.put, List.setIfInBounds_toArray, List.set_cons_zero, List.set_cons_succ] at hK
             have HK := Lib.hid hK
             clear hf hK
             have c1 : w1.cell? ⟨g, 1, none⟩ = some (.string r.repo) := (HB.out.ext hw1).cell 1
             unfold Reg.One; dsimp only
             go_wp2_with fail
             exact HK.out _ (Reg.Ext.refl _)
           · simp only [Act.put, Act.eval, List.setIfInBounds_toArray, List.set_cons_zero, List.set_cons_succ, Nat.reduceAdd, Array.getD_eq_getD_getElem?, List.getElem?_toArray, List.getElem?_cons_succ, List.getElem?_cons_zero, Option.getD_some]
             rfl))
      apply Reg.TW.pure_ (c := .agg (r.dig.map byteV).toArray) rfl
      · intro w1 hw1 hf K hK
        simp only [Act.put, List.setIfInBounds_toArray, List.set_cons_zero, List.set_cons_succ] at hK
        have HK := Lib.hid hK
        clear hK
        unfold Reg.One; dsimp only
        refine wpList_rd rfl _ rfl g rfl _ r hr (Lib.hid (HB.out.ext hw1)) ?_
        simp only [Act.put, Act.eval, List.setIfInBounds_toArray, List.set_cons_zero, List.set_cons_succ, Nat.reduceAdd, Array.getD_eq_getD_getElem?, List.getElem?_toArray, List.getElem?_cons_succ, List.getElem?_cons_zero, Option.getD_some]
        go_wp2_with fail
        exact HK.out _ (Reg.Ext.refl _)
      · simp only [Act.put, Act.eval, List.setIfInBounds_toArray, List.set_cons_zero, List.set_cons_succ, Nat.reduceAdd, Array.getD_eq_getD_getElem?, List.getElem?_toArray, List.getElem?_cons_succ, List.getElem?_cons_zero, Option.getD_some]
        rfl
      apply Reg.TW.call_ (c := .string D) (fun _ => True) rfl (fun _ _ _ h => h)
      · intro w1 hw1 hf K hK
        simp only [Act.put, List.setIfInBounds_toArray, List.set_cons_zero, List.set_cons_succ] at hK
        have HK := Lib.hid hK
        clear hK
        unfold Reg.One; dsimp only
        skip
        go_wp2_with fail
        refine ((HP _).out).mono ?_
        rintro e w' ⟨rfl, hx⟩
        go_wp2_with fail
        exact HK.out _ hx trivial
      · simp only [Act.put, Act.eval, List.setIfInBounds_toArray, List.set_cons_zero, List.set_cons_succ, Nat.reduceAdd, Array.getD_eq_getD_getElem?, List.getElem?_toArray, List.getElem?_cons_succ, List.getElem?_cons_zero, Option.getD_some]
        rfl
      repeat (first
        | (apply Reg.TW.move_ Reg.Ext.refl _ rfl rfl
           · simp only [Act.put, Act.eval, List.setIfInBounds_toArray, List.set_cons_zero, List.set_cons_succ, Nat.reduceAdd, Array.getD_eq_getD_getElem?, List.getElem?_toArray, List.getElem?_cons_succ, List.getElem?_cons_zero, Option.getD_some]
             rfl)
        | (apply Reg.TW.assign_ Reg.Ext.refl _ rfl rfl
           · simp only [Act.put, Act.eval, List.setIfInBounds_toArray, List.set_cons_zero, List.set_cons_succ, Nat.reduceAdd, Array.getD_eq_getD_getElem?, List.getElem?_toArray, List.getElem?_cons_succ, List.getElem?_cons_zero, Option.getD_some]
             rfl)
        | (apply Reg.TW.skip_ rfl
           · simp only [Act.put, Act.eval, List.setIfInBounds_toArray, List.set_cons_zero, List.set_cons_succ, Nat.reduceAdd, Array.getD_eq_getD_getElem?, List.getElem?_toArray, List.getElem?_cons_succ, List.getElem?_cons_zero, Option.getD_some]
             rfl)
        | (apply Reg.TW.pure_ rfl
           · intro w1 hw1 hf K hK
             simp only [Act.put, List.setIfInBounds_toArray, List.set_cons_zero, List.set_cons_succ] at hK
             have HK := Lib.hid hK
             clear hf hK
             skip
             unfold Reg.One; dsimp only
             go_wp2_with fail
             exact HK.out _ (Reg.Ext.refl _)
           · simp only [Act.put, Act.eval, List.setIfInBounds_toArray, List.set_cons_zero, List.set_cons_succ, Nat.reduceAdd, Array.getD_eq_getD_getElem?, List.getElem?_toArray, List.getElem?_cons_succ, List.getElem?_cons_zero, Option.getD_some]
             rfl))
      refine Reg.TW.nil_ ?_
      intro wn hwn _
      have HXn := Lib.hid (HX.out.trans hwn)
      have HBn := Lib.hid (HB.out.ext hwn)
      clear HX HB hwn HP
      go_upto_region 11 with (fail)
      first | rw [hT] | skip
      clear hT
      have hTl : (T).data.toList = txtL r := HT.out
      have hTs : (T).size ≤ 274877906944 := HTS.out
      rcases txt_or r hr with ⟨e1, e2, e3⟩ | ⟨e1, x, n, e3, e4, e5⟩
      · have HV := Lib.hid (show printV r = .tuple #[.string (T), .int .i64 0] by rw [print_good e1, ← e2, ← hTl, ba_data])
        have CP := fun w => Lib.hid (parseR_any (T) w hTs)
        rw [hTl, e3] at CP
        clear e1 e2 e3 hTl hTs HT HTS
        go_wp2_with fail
        refine (CP wn).out.mono ?_
        rintro e w6 ⟨rfl, x6⟩
        rw [show rouV (r, 0) = .tuple #[.agg r.cells.toArray, .int .i64 0] from rfl]
        rename_i hK
        refine hK _ _ ?_
        iterate 12 go_step
        rw [z35]
        have hbf := boxS w6 S.none
        have hxf := Reg.Ext.alloc w6 (Obj.cells S.none.cells.toArray 26)
        have hxs := hxf.trans_but (But.setCells w6.heap.size ((r).cells) 0 _) (Nat.le_refl _)
        generalize w6.alloc (Obj.cells S.none.cells.toArray 26) = wf at *
        have HBF := Lib.hid hbf
        clear hbf hxf
        refine wpList_store_mid rfl 26 _ _ rfl w6.heap.size 0 ((r).cells).toArray rfl rfl (HBF.out.there _ (by rw [List.size_toArray]; have a1 := cells_length (r) hr; have a2 := cells_length S.none none_dig; omega)) (by rw [List.size_toArray, cells_length _ hr]; exact size35) (all_oneCell_toArray (oneS _)) ?_
        simp only [List.toList_toArray]
        simp only [Act.put, Act.eval, List.setIfInBounds_toArray, List.set_cons_zero, List.set_cons_succ, Nat.reduceAdd, Array.getD_eq_getD_getElem?, List.getElem?_toArray, List.getElem?_cons_succ, List.getElem?_cons_zero, Option.getD_some]
        have hbs := HBF.out.setAll ((r).cells) (by have a1 := cells_length (r) hr; have a2 := cells_length S.none none_dig; omega)
        generalize wf.setCells w6.heap.size 0 ((r).cells) = v6 at *
        have B6 := Lib.hid hbs
        have X6 := Lib.hid hxs
        clear hbs hxs HBF
        generalize w6.heap.size = g6 at *
        have HX6 := Lib.hid ((HXn.out.trans x6).trans X6.out)
        have HB6 := Lib.hid ((HBn.out.ext x6).ext X6.out)
        clear x6 X6 HXn HBn
        go_upto_region 12 with (fail)
        refine wp_region_lit ?_
        iterate 9 go_step
        refine wpList_rt rfl _ rfl g6 rfl _ r hr B6 ?_
        simp only [Act.put, Act.eval, List.setIfInBounds_toArray, List.set_cons_zero, List.set_cons_succ, Nat.reduceAdd, Array.getD_eq_getD_getElem?, List.getElem?_toArray, List.getElem?_cons_succ, List.getElem?_cons_zero, Option.getD_some]
        refine wpList_rt rfl _ rfl g rfl _ r hr HB6 ?_
        simp only [Act.put, Act.eval, List.setIfInBounds_toArray, List.set_cons_zero, List.set_cons_succ, Nat.reduceAdd, Array.getD_eq_getD_getElem?, List.getElem?_toArray, List.getElem?_cons_succ, List.getElem?_cons_zero, Option.getD_some]
        refine wpList_valw rfl (.bool (!r.same r)) (exec_neq r r hr hr _ _ rfl rfl rfl) ?_
        rw [same_refl]
        simp only [Act.put, Act.eval, List.setIfInBounds_toArray, List.set_cons_zero, List.set_cons_succ, Nat.reduceAdd, Array.getD_eq_getD_getElem?, List.getElem?_toArray, List.getElem?_cons_succ, List.getElem?_cons_zero, Option.getD_some]
        go_wp2_with fail
        go_ret2
        exact ⟨by rw [HV.out]; rfl, HX6.out⟩
      · have HV := Lib.hid (show printV r = .tuple #[.string ⟨#[]⟩, .int .i64 1] from print_bad e1)
        have CP := fun w => Lib.hid (parseR_any (T) w hTs)
        rw [hTl, e3] at CP
        clear e1 e3 hTl hTs HT HTS
        go_wp2_with fail
        refine (CP wn).out.mono ?_
        rintro e w6 ⟨rfl, x6⟩
        rw [show rouV (x, n) = .tuple #[.agg x.cells.toArray, .int .i64 n] from rfl]
        rename_i hK
        refine hK _ _ ?_
        iterate 12 go_step
        rw [z35]
        have hbf := boxS w6 S.none
        have hxf := Reg.Ext.alloc w6 (Obj.cells S.none.cells.toArray 26)
        have hxs := hxf.trans_but (But.setCells w6.heap.size ((x).cells) 0 _) (Nat.le_refl _)
        generalize w6.alloc (Obj.cells S.none.cells.toArray 26) = wf at *
        have HBF := Lib.hid hbf
        clear hbf hxf
        refine wpList_store_mid rfl 26 _ _ rfl w6.heap.size 0 ((x).cells).toArray rfl rfl (HBF.out.there _ (by rw [List.size_toArray]; have a1 := cells_length (x) e4; have a2 := cells_length S.none none_dig; omega)) (by rw [List.size_toArray, cells_length _ e4]; exact size35) (all_oneCell_toArray (oneS _)) ?_
        simp only [List.toList_toArray]
        simp only [Act.put, Act.eval, List.setIfInBounds_toArray, List.set_cons_zero, List.set_cons_succ, Nat.reduceAdd, Array.getD_eq_getD_getElem?, List.getElem?_toArray, List.getElem?_cons_succ, List.getElem?_cons_zero, Option.getD_some]
        have hbs := HBF.out.setAll ((x).cells) (by have a1 := cells_length (x) e4; have a2 := cells_length S.none none_dig; omega)
        generalize wf.setCells w6.heap.size 0 ((x).cells) = v6 at *
        have B6 := Lib.hid hbs
        have X6 := Lib.hid hxs
        clear hbs hxs HBF
        generalize w6.heap.size = g6 at *
        have HX6 := Lib.hid ((HXn.out.trans x6).trans X6.out)
        have HB6 := Lib.hid ((HBn.out.ext x6).ext X6.out)
        clear x6 X6 HXn HBn
        rcases e5 with e5 | ⟨rfl, e5⟩
        · go_wp2_with fail
          go_ret2
          exact ⟨by rw [HV.out]; rfl, HX6.out⟩
        · go_upto_region 12 with (fail)
          refine wp_region_lit ?_
          iterate 9 go_step
          refine wpList_rt rfl _ rfl g6 rfl _ x e4 B6 ?_
          simp only [Act.put, Act.eval, List.setIfInBounds_toArray, List.set_cons_zero, List.set_cons_succ, Nat.reduceAdd, Array.getD_eq_getD_getElem?, List.getElem?_toArray, List.getElem?_cons_succ, List.getElem?_cons_zero, Option.getD_some]
          refine wpList_rt rfl _ rfl g rfl _ r hr HB6 ?_
          simp only [Act.put, Act.eval, List.setIfInBounds_toArray, List.set_cons_zero, List.set_cons_succ, Nat.reduceAdd, Array.getD_eq_getD_getElem?, List.getElem?_toArray, List.getElem?_cons_succ, List.getElem?_cons_zero, Option.getD_some]
          refine wpList_valw rfl (.bool (!x.same r)) (exec_neq x r e4 hr _ _ rfl rfl rfl) ?_
          rw [e5]
          simp only [Act.put, Act.eval, List.setIfInBounds_toArray, List.set_cons_zero, List.set_cons_succ, Nat.reduceAdd, Array.getD_eq_getD_getElem?, List.getElem?_toArray, List.getElem?_cons_succ, List.getElem?_cons_zero, Option.getD_some]
          go_wp2_with fail
          go_ret2
          exact ⟨by rw [HV.out]; rfl, HX6.out⟩
    all_goals rfl
  have e3 : (r.k == 3) = false := by rw [beq_eq_false_iff_ne]; omega
  have k3 := k
  clear k
  by_cases k : r.k = 4
  · have htx : txtL r = rootL ++ r.repo.data.toList ++ [47] ++ blobL ++ [47] ++ (Stp.pA ++ HexP.hex r.dig) := by unfold txtL printL; rw [if_pos (by omega), if_neg k1, if_neg k2, if_pos (by omega)]
    have e4 : (r.k == 4) = true := by simpa using k
    clear k1 k2 k3
    obtain ⟨D, hD⟩ : ∃ D : ByteArray, D = ⟨(Stp.pA ++ HexP.hex r.dig).toArray⟩ := ⟨_, rfl⟩
    have hDl : D.data.toList = Stp.pA ++ HexP.hex r.dig := by rw [hD]
    have hDs : D.size ≤ 100 := by rw [hD, siz, List.length_append, HexP.hex_length, hr]; decide
    have HP := fun w => Lib.hid (Stp.printR_any r.dig hr w)
    rw [← hD] at HP
    rw [← hDl] at htx
    obtain ⟨T, hT⟩ : ∃ T : ByteArray, (⟨#[47, 118, 50, 47]⟩ ++ r.repo ++ ⟨#[47, 98, 108, 111, 98, 115, 47]⟩ ++ D : ByteArray) = T := ⟨_, rfl⟩
    have HT : Hid (T.data.toList = txtL r) := by show _ = _; rw [← hT, htx]; simp [rootL, manL, blobL]
    have HTS : Hid (T.size ≤ 274877906944) := by show _ ≤ _; rw [← hT]; have a : (⟨#[47, 118, 50, 47]⟩ : ByteArray).size ≤ 20 := (by decide); have b : ((⟨#[47, 98, 108, 111, 98, 115, 47]⟩) : ByteArray).size ≤ 20 := (by decide); simp only [ByteArray.size_append]; omega
    clear htx hD hDl k
    go_upto_region 10 with (fail)
    apply Reg.wp_tab Reg.Ext (by kernel_rfl) (by kernel_rfl) Reg.Ext.refl (fun _ _ _ => Reg.Ext.trans) (Reg.Ext.drew _)
    case' h =>
      intro O
      repeat (first
        | (apply Reg.TW.move_ Reg.Ext.refl _ rfl rfl
           · simp only [Act.put, Act.eval, List.setIfInBounds_toArray, List.set_cons_zero, List.set_cons_succ, Nat.reduceAdd, Array.getD_eq_getD_getElem?, List.getElem?_toArray, List.getElem?_cons_succ, List.getElem?_cons_zero, Option.getD_some]
             rfl)
        | (apply Reg.TW.assign_ Reg.Ext.refl _ rfl rfl
           · simp only [Act.put, Act.eval, List.setIfInBounds_toArray, List.set_cons_zero, List.set_cons_succ, Nat.reduceAdd, Array.getD_eq_getD_getElem?, List.getElem?_toArray, List.getElem?_cons_succ, List.getElem?_cons_zero, Option.getD_some]
             rfl)
        | (apply Reg.TW.skip_ rfl
           · simp only [Act.put, Act.eval, List.setIfInBounds_toArray, List.set_cons_zero, List.set_cons_succ, Nat.reduceAdd, Array.getD_eq_getD_getElem?, List.getElem?_toArray, List.getElem?_cons_succ, List.getElem?_cons_zero, Option.getD_some]
             rfl)
        | (apply Reg.TW.pure_ rfl
           · intro w1 hw1 hf K hK
             simp only [Act.put, List.setIfInBounds_toArray, List.set_cons_zero, List.set_cons_succ] at hK
             have HK := Lib.hid hK
             clear hf hK
             have c1 : w1.cell? ⟨g, 1, none⟩ = some (.string r.repo) := (HB.out.ext hw1).cell 1
             unfold Reg.One; dsimp only
             go_wp2_with fail
             exact HK.out _ (Reg.Ext.refl _)
           · simp only [Act.put, Act.eval, List.setIfInBounds_toArray, List.set_cons_zero, List.set_cons_succ, Nat.reduceAdd, Array.getD_eq_getD_getElem?, List.getElem?_toArray, List.getElem?_cons_succ, List.getElem?_cons_zero, Option.getD_some]
             rfl))
      apply Reg.TW.pure_ (c := .agg (r.dig.map byteV).toArray) rfl
      · intro w1 hw1 hf K hK
        simp only [Act.put, List.setIfInBounds_toArray, List.set_cons_zero, List.set_cons_succ] at hK
        have HK := Lib.hid hK
        clear hK
        unfold Reg.One; dsimp only
        refine wpList_rd rfl _ rfl g rfl _ r hr (Lib.hid (HB.out.ext hw1)) ?_
        simp only [Act.put, Act.eval, List.setIfInBounds_toArray, List.set_cons_zero, List.set_cons_succ, Nat.reduceAdd, Array.getD_eq_getD_getElem?, List.getElem?_toArray, List.getElem?_cons_succ, List.getElem?_cons_zero, Option.getD_some]
        go_wp2_with fail
        exact HK.out _ (Reg.Ext.refl _)
      · simp only [Act.put, Act.eval, List.setIfInBounds_toArray, List.set_cons_zero, List.set_cons_succ, Nat.reduceAdd, Array.getD_eq_getD_getElem?, List.getElem?_toArray, List.getElem?_cons_succ, List.getElem?_cons_zero, Option.getD_some]
        rfl
      apply Reg.TW.call_ (c := .string D) (fun _ => True) rfl (fun _ _ _ h => h)
      · intro w1 hw1 hf K hK
        simp only [Act.put, List.setIfInBounds_toArray, List.set_cons_zero, List.set_cons_succ] at hK
        have HK := Lib.hid hK
        clear hK
        unfold Reg.One; dsimp only
        skip
        go_wp2_with fail
        refine ((HP _).out).mono ?_
        rintro e w' ⟨rfl, hx⟩
        go_wp2_with fail
        exact HK.out _ hx trivial
      · simp only [Act.put, Act.eval, List.setIfInBounds_toArray, List.set_cons_zero, List.set_cons_succ, Nat.reduceAdd, Array.getD_eq_getD_getElem?, List.getElem?_toArray, List.getElem?_cons_succ, List.getElem?_cons_zero, Option.getD_some]
        rfl
      repeat (first
        | (apply Reg.TW.move_ Reg.Ext.refl _ rfl rfl
           · simp only [Act.put, Act.eval, List.setIfInBounds_toArray, List.set_cons_zero, List.set_cons_succ, Nat.reduceAdd, Array.getD_eq_getD_getElem?, List.getElem?_toArray, List.getElem?_cons_succ, List.getElem?_cons_zero, Option.getD_some]
             rfl)
        | (apply Reg.TW.assign_ Reg.Ext.refl _ rfl rfl
           · simp only [Act.put, Act.eval, List.setIfInBounds_toArray, List.set_cons_zero, List.set_cons_succ, Nat.reduceAdd, Array.getD_eq_getD_getElem?, List.getElem?_toArray, List.getElem?_cons_succ, List.getElem?_cons_zero, Option.getD_some]
             rfl)
        | (apply Reg.TW.skip_ rfl
           · simp only [Act.put, Act.eval, List.setIfInBounds_toArray, List.set_cons_zero, List.set_cons_succ, Nat.reduceAdd, Array.getD_eq_getD_getElem?, List.getElem?_toArray, List.getElem?_cons_succ, List.getElem?_cons_zero, Option.getD_some]
             rfl)
        | (apply Reg.TW.pure_ rfl
           · intro w1 hw1 hf K hK
             simp only [Act.put, List.setIfInBounds_toArray, List.set_cons_zero, List.set_cons_succ] at hK
             have HK := Lib.hid hK
             clear hf hK
             skip
             unfold Reg.One; dsimp only
             go_wp2_with fail
             exact HK.out _ (Reg.Ext.refl _)
           · simp only [Act.put, Act.eval, List.setIfInBounds_toArray, List.set_cons_zero, List.set_cons_succ, Nat.reduceAdd, Array.getD_eq_getD_getElem?, List.getElem?_toArray, List.getElem?_cons_succ, List.getElem?_cons_zero, Option.getD_some]
             rfl))
      refine Reg.TW.nil_ ?_
      intro wn hwn _
      have HXn := Lib.hid (HX.out.trans hwn)
      have HBn := Lib.hid (HB.out.ext hwn)
      clear HX HB hwn HP
      go_upto_region 11 with (fail)
      first | rw [hT] | skip
      clear hT
      have hTl : (T).data.toList = txtL r := HT.out
      have hTs : (T).size ≤ 274877906944 := HTS.out
      rcases txt_or r hr with ⟨e1, e2, e3⟩ | ⟨e1, x, n, e3, e4, e5⟩
      · have HV := Lib.hid (show printV r = .tuple #[.string (T), .int .i64 0] by rw [print_good e1, ← e2, ← hTl, ba_data])
        have CP := fun w => Lib.hid (parseR_any (T) w hTs)
        rw [hTl, e3] at CP
        clear e1 e2 e3 hTl hTs HT HTS
        go_wp2_with fail
        refine (CP wn).out.mono ?_
        rintro e w6 ⟨rfl, x6⟩
        rw [show rouV (r, 0) = .tuple #[.agg r.cells.toArray, .int .i64 0] from rfl]
        rename_i hK
        refine hK _ _ ?_
        iterate 12 go_step
        rw [z35]
        have hbf := boxS w6 S.none
        have hxf := Reg.Ext.alloc w6 (Obj.cells S.none.cells.toArray 26)
        have hxs := hxf.trans_but (But.setCells w6.heap.size ((r).cells) 0 _) (Nat.le_refl _)
        generalize w6.alloc (Obj.cells S.none.cells.toArray 26) = wf at *
        have HBF := Lib.hid hbf
        clear hbf hxf
        refine wpList_store_mid rfl 26 _ _ rfl w6.heap.size 0 ((r).cells).toArray rfl rfl (HBF.out.there _ (by rw [List.size_toArray]; have a1 := cells_length (r) hr; have a2 := cells_length S.none none_dig; omega)) (by rw [List.size_toArray, cells_length _ hr]; exact size35) (all_oneCell_toArray (oneS _)) ?_
        simp only [List.toList_toArray]
        simp only [Act.put, Act.eval, List.setIfInBounds_toArray, List.set_cons_zero, List.set_cons_succ, Nat.reduceAdd, Array.getD_eq_getD_getElem?, List.getElem?_toArray, List.getElem?_cons_succ, List.getElem?_cons_zero, Option.getD_some]
        have hbs := HBF.out.setAll ((r).cells) (by have a1 := cells_length (r) hr; have a2 := cells_length S.none none_dig; omega)
        generalize wf.setCells w6.heap.size 0 ((r).cells) = v6 at *
        have B6 := Lib.hid hbs
        have X6 := Lib.hid hxs
        clear hbs hxs HBF
        generalize w6.heap.size = g6 at *
        have HX6 := Lib.hid ((HXn.out.trans x6).trans X6.out)
        have HB6 := Lib.hid ((HBn.out.ext x6).ext X6.out)
        clear x6 X6 HXn HBn
        go_upto_region 12 with (fail)
        refine wp_region_lit ?_
        iterate 9 go_step
        refine wpList_rt rfl _ rfl g6 rfl _ r hr B6 ?_
        simp only [Act.put, Act.eval, List.setIfInBounds_toArray, List.set_cons_zero, List.set_cons_succ, Nat.reduceAdd, Array.getD_eq_getD_getElem?, List.getElem?_toArray, List.getElem?_cons_succ, List.getElem?_cons_zero, Option.getD_some]
        refine wpList_rt rfl _ rfl g rfl _ r hr HB6 ?_
        simp only [Act.put, Act.eval, List.setIfInBounds_toArray, List.set_cons_zero, List.set_cons_succ, Nat.reduceAdd, Array.getD_eq_getD_getElem?, List.getElem?_toArray, List.getElem?_cons_succ, List.getElem?_cons_zero, Option.getD_some]
        refine wpList_valw rfl (.bool (!r.same r)) (exec_neq r r hr hr _ _ rfl rfl rfl) ?_
        rw [same_refl]
        simp only [Act.put, Act.eval, List.setIfInBounds_toArray, List.set_cons_zero, List.set_cons_succ, Nat.reduceAdd, Array.getD_eq_getD_getElem?, List.getElem?_toArray, List.getElem?_cons_succ, List.getElem?_cons_zero, Option.getD_some]
        go_wp2_with fail
        go_ret2
        exact ⟨by rw [HV.out]; rfl, HX6.out⟩
      · have HV := Lib.hid (show printV r = .tuple #[.string ⟨#[]⟩, .int .i64 1] from print_bad e1)
        have CP := fun w => Lib.hid (parseR_any (T) w hTs)
        rw [hTl, e3] at CP
        clear e1 e3 hTl hTs HT HTS
        go_wp2_with fail
        refine (CP wn).out.mono ?_
        rintro e w6 ⟨rfl, x6⟩
        rw [show rouV (x, n) = .tuple #[.agg x.cells.toArray, .int .i64 n] from rfl]
        rename_i hK
        refine hK _ _ ?_
        iterate 12 go_step
        rw [z35]
        have hbf := boxS w6 S.none
        have hxf := Reg.Ext.alloc w6 (Obj.cells S.none.cells.toArray 26)
        have hxs := hxf.trans_but (But.setCells w6.heap.size ((x).cells) 0 _) (Nat.le_refl _)
        generalize w6.alloc (Obj.cells S.none.cells.toArray 26) = wf at *
        have HBF := Lib.hid hbf
        clear hbf hxf
        refine wpList_store_mid rfl 26 _ _ rfl w6.heap.size 0 ((x).cells).toArray rfl rfl (HBF.out.there _ (by rw [List.size_toArray]; have a1 := cells_length (x) e4; have a2 := cells_length S.none none_dig; omega)) (by rw [List.size_toArray, cells_length _ e4]; exact size35) (all_oneCell_toArray (oneS _)) ?_
        simp only [List.toList_toArray]
        simp only [Act.put, Act.eval, List.setIfInBounds_toArray, List.set_cons_zero, List.set_cons_succ, Nat.reduceAdd, Array.getD_eq_getD_getElem?, List.getElem?_toArray, List.getElem?_cons_succ, List.getElem?_cons_zero, Option.getD_some]
        have hbs := HBF.out.setAll ((x).cells) (by have a1 := cells_length (x) e4; have a2 := cells_length S.none none_dig; omega)
        generalize wf.setCells w6.heap.size 0 ((x).cells) = v6 at *
        have B6 := Lib.hid hbs
        have X6 := Lib.hid hxs
        clear hbs hxs HBF
        generalize w6.heap.size = g6 at *
        have HX6 := Lib.hid ((HXn.out.trans x6).trans X6.out)
        have HB6 := Lib.hid ((HBn.out.ext x6).ext X6.out)
        clear x6 X6 HXn HBn
        rcases e5 with e5 | ⟨rfl, e5⟩
        · go_wp2_with fail
          go_ret2
          exact ⟨by rw [HV.out]; rfl, HX6.out⟩
        · go_upto_region 12 with (fail)
          refine wp_region_lit ?_
          iterate 9 go_step
          refine wpList_rt rfl _ rfl g6 rfl _ x e4 B6 ?_
          simp only [Act.put, Act.eval, List.setIfInBounds_toArray, List.set_cons_zero, List.set_cons_succ, Nat.reduceAdd, Array.getD_eq_getD_getElem?, List.getElem?_toArray, List.getElem?_cons_succ, List.getElem?_cons_zero, Option.getD_some]
          refine wpList_rt rfl _ rfl g rfl _ r hr HB6 ?_
          simp only [Act.put, Act.eval, List.setIfInBounds_toArray, List.set_cons_zero, List.set_cons_succ, Nat.reduceAdd, Array.getD_eq_getD_getElem?, List.getElem?_toArray, List.getElem?_cons_succ, List.getElem?_cons_zero, Option.getD_some]
          refine wpList_valw rfl (.bool (!x.same r)) (exec_neq x r e4 hr _ _ rfl rfl rfl) ?_
          rw [e5]
          simp only [Act.put, Act.eval, List.setIfInBounds_toArray, List.set_cons_zero, List.set_cons_succ, Nat.reduceAdd, Array.getD_eq_getD_getElem?, List.getElem?_toArray, List.getElem?_cons_succ, List.getElem?_cons_zero, Option.getD_some]
          go_wp2_with fail
          go_ret2
          exact ⟨by rw [HV.out]; rfl, HX6.out⟩
    all_goals rfl
  have e4 : (r.k == 4) = false := by rw [beq_eq_false_iff_ne]; omega
  have htx : txtL r = [] := by unfold txtL; rw [if_neg (by omega)]
  have HT : Hid ((⟨#[]⟩ : ByteArray).data.toList = txtL r) := by show _ = _; rw [htx]
  have HTS : Hid ((⟨#[]⟩ : ByteArray).size ≤ 274877906944) := by show _ ≤ _; decide
  clear htx k1 k2 k3 k h1 h2
  go_upto_region 11 with (fail)
  have HXn := HX
  have HBn := HB
  clear c0 HX HB
  generalize w0 = wn at *
  have hTl : ((⟨#[]⟩ : ByteArray)).data.toList = txtL r := HT.out
  have hTs : ((⟨#[]⟩ : ByteArray)).size ≤ 274877906944 := HTS.out
  rcases txt_or r hr with ⟨e1, e2, e3⟩ | ⟨e1, x, n, e3, e4, e5⟩
  · have HV := Lib.hid (show printV r = .tuple #[.string ((⟨#[]⟩ : ByteArray)), .int .i64 0] by rw [print_good e1, ← e2, ← hTl, ba_data])
    have CP := fun w => Lib.hid (parseR_any ((⟨#[]⟩ : ByteArray)) w hTs)
    rw [hTl, e3] at CP
    clear e1 e2 e3 hTl hTs HT HTS
    go_wp2_with fail
    refine (CP wn).out.mono ?_
    rintro e w6 ⟨rfl, x6⟩
    rw [show rouV (r, 0) = .tuple #[.agg r.cells.toArray, .int .i64 0] from rfl]
    rename_i hK
    refine hK _ _ ?_
    iterate 12 go_step
    rw [z35]
    have hbf := boxS w6 S.none
    have hxf := Reg.Ext.alloc w6 (Obj.cells S.none.cells.toArray 26)
    have hxs := hxf.trans_but (But.setCells w6.heap.size ((r).cells) 0 _) (Nat.le_refl _)
    generalize w6.alloc (Obj.cells S.none.cells.toArray 26) = wf at *
    have HBF := Lib.hid hbf
    clear hbf hxf
    refine wpList_store_mid rfl 26 _ _ rfl w6.heap.size 0 ((r).cells).toArray rfl rfl (HBF.out.there _ (by rw [List.size_toArray]; have a1 := cells_length (r) hr; have a2 := cells_length S.none none_dig; omega)) (by rw [List.size_toArray, cells_length _ hr]; exact size35) (all_oneCell_toArray (oneS _)) ?_
    simp only [List.toList_toArray]
    simp only [Act.put, Act.eval, List.setIfInBounds_toArray, List.set_cons_zero, List.set_cons_succ, Nat.reduceAdd, Array.getD_eq_getD_getElem?, List.getElem?_toArray, List.getElem?_cons_succ, List.getElem?_cons_zero, Option.getD_some]
    have hbs := HBF.out.setAll ((r).cells) (by have a1 := cells_length (r) hr; have a2 := cells_length S.none none_dig; omega)
    generalize wf.setCells w6.heap.size 0 ((r).cells) = v6 at *
    have B6 := Lib.hid hbs
    have X6 := Lib.hid hxs
    clear hbs hxs HBF
    generalize w6.heap.size = g6 at *
    have HX6 := Lib.hid ((HXn.out.trans x6).trans X6.out)
    have HB6 := Lib.hid ((HBn.out.ext x6).ext X6.out)
    clear x6 X6 HXn HBn
    go_upto_region 12 with (fail)
    refine wp_region_lit ?_
    iterate 9 go_step
    refine wpList_rt rfl _ rfl g6 rfl _ r hr B6 ?_
    simp only [Act.put, Act.eval, List.setIfInBounds_toArray, List.set_cons_zero, List.set_cons_succ, Nat.reduceAdd, Array.getD_eq_getD_getElem?, List.getElem?_toArray, List.getElem?_cons_succ, List.getElem?_cons_zero, Option.getD_some]
    refine wpList_rt rfl _ rfl g rfl _ r hr HB6 ?_
    simp only [Act.put, Act.eval, List.setIfInBounds_toArray, List.set_cons_zero, List.set_cons_succ, Nat.reduceAdd, Array.getD_eq_getD_getElem?, List.getElem?_toArray, List.getElem?_cons_succ, List.getElem?_cons_zero, Option.getD_some]
    refine wpList_valw rfl (.bool (!r.same r)) (exec_neq r r hr hr _ _ rfl rfl rfl) ?_
    rw [same_refl]
    simp only [Act.put, Act.eval, List.setIfInBounds_toArray, List.set_cons_zero, List.set_cons_succ, Nat.reduceAdd, Array.getD_eq_getD_getElem?, List.getElem?_toArray, List.getElem?_cons_succ, List.getElem?_cons_zero, Option.getD_some]
    go_wp2_with fail
    go_ret2
    exact ⟨by rw [HV.out]; rfl, HX6.out⟩
  · have HV := Lib.hid (show printV r = .tuple #[.string ⟨#[]⟩, .int .i64 1] from print_bad e1)
    have CP := fun w => Lib.hid (parseR_any ((⟨#[]⟩ : ByteArray)) w hTs)
    rw [hTl, e3] at CP
    clear e1 e3 hTl hTs HT HTS
    go_wp2_with fail
    refine (CP wn).out.mono ?_
    rintro e w6 ⟨rfl, x6⟩
    rw [show rouV (x, n) = .tuple #[.agg x.cells.toArray, .int .i64 n] from rfl]
    rename_i hK
    refine hK _ _ ?_
    iterate 12 go_step
    rw [z35]
    have hbf := boxS w6 S.none
    have hxf := Reg.Ext.alloc w6 (Obj.cells S.none.cells.toArray 26)
    have hxs := hxf.trans_but (But.setCells w6.heap.size ((x).cells) 0 _) (Nat.le_refl _)
    generalize w6.alloc (Obj.cells S.none.cells.toArray 26) = wf at *
    have HBF := Lib.hid hbf
    clear hbf hxf
    refine wpList_store_mid rfl 26 _ _ rfl w6.heap.size 0 ((x).cells).toArray rfl rfl (HBF.out.there _ (by rw [List.size_toArray]; have a1 := cells_length (x) e4; have a2 := cells_length S.none none_dig; omega)) (by rw [List.size_toArray, cells_length _ e4]; exact size35) (all_oneCell_toArray (oneS _)) ?_
    simp only [List.toList_toArray]
    simp only [Act.put, Act.eval, List.setIfInBounds_toArray, List.set_cons_zero, List.set_cons_succ, Nat.reduceAdd, Array.getD_eq_getD_getElem?, List.getElem?_toArray, List.getElem?_cons_succ, List.getElem?_cons_zero, Option.getD_some]
    have hbs := HBF.out.setAll ((x).cells) (by have a1 := cells_length (x) e4; have a2 := cells_length S.none none_dig; omega)
    generalize wf.setCells w6.heap.size 0 ((x).cells) = v6 at *
    have B6 := Lib.hid hbs
    have X6 := Lib.hid hxs
    clear hbs hxs HBF
    generalize w6.heap.size = g6 at *
    have HX6 := Lib.hid ((HXn.out.trans x6).trans X6.out)
    have HB6 := Lib.hid ((HBn.out.ext x6).ext X6.out)
    clear x6 X6 HXn HBn
    rcases e5 with e5 | ⟨rfl, e5⟩
    · go_wp2_with fail
      go_ret2
      exact ⟨by rw [HV.out]; rfl, HX6.out⟩
    · go_upto_region 12 with (fail)
      refine wp_region_lit ?_
      iterate 9 go_step
      refine wpList_rt rfl _ rfl g6 rfl _ x e4 B6 ?_
      simp only [Act.put, Act.eval, List.setIfInBounds_toArray, List.set_cons_zero, List.set_cons_succ, Nat.reduceAdd, Array.getD_eq_getD_getElem?, List.getElem?_toArray, List.getElem?_cons_succ, List.getElem?_cons_zero, Option.getD_some]
      refine wpList_rt rfl _ rfl g rfl _ r hr HB6 ?_
      simp only [Act.put, Act.eval, List.setIfInBounds_toArray, List.set_cons_zero, List.set_cons_succ, Nat.reduceAdd, Array.getD_eq_getD_getElem?, List.getElem?_toArray, List.getElem?_cons_succ, List.getElem?_cons_zero, Option.getD_some]
      refine wpList_valw rfl (.bool (!x.same r)) (exec_neq x r e4 hr _ _ rfl rfl rfl) ?_
      rw [e5]
      simp only [Act.put, Act.eval, List.setIfInBounds_toArray, List.set_cons_zero, List.set_cons_succ, Nat.reduceAdd, Array.getD_eq_getD_getElem?, List.getElem?_toArray, List.getElem?_cons_succ, List.getElem?_cons_zero, Option.getD_some]
      go_wp2_with fail
      go_ret2
      exact ⟨by rw [HV.out]; rfl, HX6.out⟩
end Pl
end Go.Proofs.YtdoplndijlfabaaDoor
