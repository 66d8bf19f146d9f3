/- Chapter 15: PlaceBack. -/
import Derived.Test.YtdoplndijlfabaaDoorPlaceAwake
import Derived.Test.YtdoplndijlfabaaDoorPlaceLaws
set_option linter.unusedSimpArgs false
set_option linter.unusedVariables false
set_option linter.unusedSectionVars false
namespace Go.Proofs.YtdoplndijlfabaaDoor
open Go.RowKit
namespace Pl
open Rte
theorem print_good {r : S} (h : goodP r = true) : printV r = .tuple #[.string ⟨(printL r).toArray⟩, .int .i64 0] := by unfold printV printP; rw [h]; rfl
theorem print_bad {r : S} (h : goodP r = false) : printV r = .tuple #[.string ⟨#[]⟩, .int .i64 1] := by unfold printV printP; rw [h]; rfl
/-- the two answers of Parse -/
theorem parse_or (s : List UInt8) : (∃ r : S, parseP s = (r, 0) ∧ goodP r = true ∧ printL r = s ∧ r.dig.length = 32) ∨ (∃ n : Int, parseP s = (S.none, n) ∧ (n != 0) = true) := by
  cases h : parseP s with
  | mk r n =>
    by_cases hn : n = 0
    · subst hn
      have hd := parseP_dig s
      rw [h] at hd
      exact .inl ⟨r, rfl, (print_parse h).1, (print_parse h).2, hd⟩
    · exact .inr ⟨n, by rw [parse_none h hn], bne_iff_ne.2 hn⟩
theorem hex_len (l : List UInt8) : (HexP.hex l).length = 2 * l.length := HexP.hex_length l
theorem print_len {r : S} (h : goodP r = true) (hr : r.dig.length = 32) : (printL r).length ≤ 1000 := by
  obtain ⟨h1, h2⟩ := good_size h
  unfold printL
  split
  · decide
  split
  · simp only [List.length_append, len_data]
    have : rootL.length + manL.length ≤ 100 := by decide
    simp only [List.length_cons, List.length_nil]; omega
  · simp only [List.length_append, len_data, hex_len, hr]
    have : rootL.length + manL.length + blobL.length + Stp.pA.length ≤ 100 := by decide
    split <;> simp only [List.length_cons, List.length_nil] <;> omega
set_option maxRecDepth 100000 in
set_option maxHeartbeats 4000000 in
theorem back_law (a b : S) (s : ByteArray) (ha : a.dig.length = 32) (hb : b.dig.length = 32) (w : World) (hs : s.size ≤ maxLen) :
    Calls Tryd.prog 5 #[.agg a.cells.toArray, .agg b.cells.toArray, .string s] w fun e w' => e = .returned (.bool true) ∧ Reg.Ext w w' := by
  unfold maxLen at hs
  have hb1 := boxS w a
  have hx1 := Reg.Ext.alloc w (Obj.cells a.cells.toArray 26)
  have hs1 := (show (w.alloc (Obj.cells a.cells.toArray 26)).heap.size = w.heap.size + 1 from Array.size_push _)
  go_enter Tryd.func5, Tryd.ntmps5
  go_upto_region 1 with (fail)
  generalize w.alloc (Obj.cells a.cells.toArray 26) = w0 at *
  have hb2 := boxS w0 b
  have hx2 := Reg.Ext.alloc w0 (Obj.cells b.cells.toArray 26)
  rw [hs1] at hb2
  have h1 := hb1.ext hx2
  have hx3 := hx1.trans hx2
  generalize w0.alloc (Obj.cells b.cells.toArray 26) = w1 at *
  generalize w.heap.size + 1 = g4 at *
  generalize w.heap.size = g3 at *
  have HA := Lib.hid h1
  have HB := Lib.hid hb2
  have HX := Lib.hid hx3
  clear hb1 hx1 hs1 hb2 hx2 h1 hx3
  go_wp2_with fail
  refine (awake_any w1).mono ?_
  rintro e w2 ⟨rfl, x2⟩
  have HA2 := Lib.hid (HA.out.ext x2)
  have HB2 := Lib.hid (HB.out.ext x2)
  have HX2 := Lib.hid (HX.out.trans x2)
  clear x2 HA HB HX
  have p1 : w2.cell? ⟨g3, 1, none⟩ = some (.string a.repo) := HA2.out.cell 1
  have p2 : w2.cell? ⟨g3, 2, none⟩ = some (.string a.tag) := HA2.out.cell 2
  have p3 : w2.cell? ⟨g4, 1, none⟩ = some (.string b.repo) := HB2.out.cell 1
  have p4 : w2.cell? ⟨g4, 2, none⟩ = some (.string b.tag) := HB2.out.cell 2
  by_cases hsl : 2048 < s.size
  · have d1 : decide ((2048 : Int) < (s.size : Int)) = true := by rw [decide_eq_true_iff]; omega
    go_wp2_with fail
    go_ret
    exact ⟨rfl, HX2.out⟩
  have d1 : decide ((2048 : Int) < (s.size : Int)) = false := by rw [decide_eq_false_iff_not]; omega
  obtain ⟨q, hq⟩ : ∃ q, decide ((2048 : Int) < wrap64 (wrap64 (wrap64 ((a.repo.size : Int) + (a.tag.size : Int)) + (b.repo.size : Int)) + (b.tag.size : Int))) = q := ⟨_, rfl⟩
  cases q with
  | true =>
    go_wp2_with fail
    go_ret
    exact ⟨rfl, HX2.out⟩
  | false =>
  go_upto_region 5 with (fail)
  clear p1 p2 p3 p4
  refine wp_region_lit ?_
  refine wpList_rt rfl _ rfl g3 rfl _ a ha HA2 ?_
  simp only [Act.put, Act.eval, List.setIfInBounds_toArray, List.set_cons_zero, List.set_cons_succ, Nat.reduceAdd, Array.getD_eq_getD_getElem?, List.getElem?_toArray, List.getElem?_cons_succ, List.getElem?_cons_zero, Option.getD_some]
  cases ga : goodP a with
  | false =>
    have CA : ∀ w, Calls Tryd.prog 15 #[.agg a.cells.toArray] w fun e w' => e = .returned (.tuple #[.string ⟨#[]⟩, .int .i64 1]) ∧ Reg.Ext w w' := fun w => by
      have := print_any a ha w
      rw [print_bad ga] at this
      exact this
    have CGA : ∀ w, Calls Tryd.prog 17 #[.agg a.cells.toArray] w fun e w' => e = .returned (.bool false) ∧ Reg.Ext w w' := fun w => by
      have := good_any a ha w
      rw [ga] at this
      exact this
    have CB : ∃ (Y : ByteArray) (f : Int), ∀ w, Calls Tryd.prog 15 #[.agg b.cells.toArray] w fun e w' => e = .returned (.tuple #[.string Y, .int .i64 f]) ∧ Reg.Ext w w' := ⟨_, _, fun w => print_any b hb w⟩
    obtain ⟨Y, f, CB⟩ := CB
    clear ga
    go_wp2_with fail
    refine (CA w2).mono ?_
    rintro e w3 ⟨rfl, x3⟩
    have HA3 := Lib.hid (HA2.out.ext x3)
    have HB3 := Lib.hid (HB2.out.ext x3)
    have HX3 := Lib.hid (HX2.out.trans x3)
    clear x3 HA2 HB2 HX2
    go_upto_region 6 with (fail)
    refine wp_region_lit ?_
    refine wpList_rt rfl _ rfl g4 rfl _ b hb HB3 ?_
    simp only [Act.put, Act.eval, List.setIfInBounds_toArray, List.set_cons_zero, List.set_cons_succ, Nat.reduceAdd, Array.getD_eq_getD_getElem?, List.getElem?_toArray, List.getElem?_cons_succ, List.getElem?_cons_zero, Option.getD_some]
    go_wp2_with fail
    refine (CB w3).mono ?_
    rintro e w4 ⟨rfl, x4⟩
    have HA4 := Lib.hid (HA3.out.ext x4)
    have HX4 := Lib.hid (HX3.out.trans x4)
    clear x4 HA3 HB3 HX3
    go_upto_region 7 with (fail)
    refine wp_region_lit ?_
    repeat (first | refine wpList_rt rfl _ rfl g3 rfl _ a ha HA4 ?_ | go_step)
    refine (CGA w4).mono ?_
    rintro e w5 ⟨rfl, x5⟩
    have HX5 := Lib.hid (HX4.out.trans x5)
    clear x5 HA4 HX4
    go_wp2_with fail
    rcases parse_or s.data.toList with ⟨r, e1, e2, e3, e4⟩ | ⟨n, e1, e2⟩
    · have CP : ∀ w, Calls Tryd.prog 9 #[.string s] w fun e w' => e = .returned (.tuple #[.agg r.cells.toArray, .int .i64 0]) ∧ Reg.Ext w w' := fun w => by
        have := parse_any s w (by omega)
        rw [e1] at this
        exact this
      have CQ : ∀ w, Calls Tryd.prog 15 #[.agg r.cells.toArray] w fun e w' => e = .returned (.tuple #[.string s, .int .i64 0]) ∧ Reg.Ext w w' := fun w => by
        have := print_any r e4 w
        rw [print_good e2, e3, ba_data] at this
        exact this
      have CG : ∀ w, Calls Tryd.prog 17 #[.agg r.cells.toArray] w fun e w' => e = .returned (.bool true) ∧ Reg.Ext w w' := fun w => by
        have := good_any r e4 w
        rw [e2] at this
        exact this
      clear e1 e2 e3
      refine (CP w5).mono ?_
      rintro e w91 ⟨rfl, x91⟩
      rename_i hK
      refine hK _ _ ?_
      iterate 12 go_step
      rw [z35]
      have hbf := boxS w91 S.none
      have hxf := Reg.Ext.alloc w91 (Obj.cells S.none.cells.toArray 26)
      have hxs := hxf.trans_but (But.setCells w91.heap.size ((r).cells) 0 _) (Nat.le_refl _)
      generalize w91.alloc (Obj.cells S.none.cells.toArray 26) = wf at *
      have HBF := Lib.hid hbf
      clear hbf hxf
      refine wpList_store_mid rfl 26 _ _ rfl w91.heap.size 0 ((r).cells).toArray rfl rfl (HBF.out.there _ (by rw [List.size_toArray]; have a1 := cells_length (r) e4; have a2 := cells_length S.none none_dig; omega)) (by rw [List.size_toArray, cells_length _ e4]; exact size35) (all_oneCell_toArray (oneS _)) ?_
      simp only [List.toList_toArray]
      simp only [Act.put, Act.eval, List.setIfInBounds_toArray, List.set_cons_zero, List.set_cons_succ, Nat.reduceAdd, Array.getD_eq_getD_getElem?, List.getElem?_toArray, List.getElem?_cons_succ, List.getElem?_cons_zero, Option.getD_some]
      have hbs := HBF.out.setAll ((r).cells) (by have a1 := cells_length (r) e4; have a2 := cells_length S.none none_dig; omega)
      generalize wf.setCells w91.heap.size 0 ((r).cells) = v91 at *
      have B91 := Lib.hid hbs
      have X91 := Lib.hid hxs
      clear hbs hxs HBF
      generalize w91.heap.size = g91 at *
      have Y91 := Lib.hid ((HX5.out.trans x91).trans X91.out)
      clear x91 X91 HX5
      go_upto_region 16 with (fail)
      refine wp_region_lit ?_
      refine wpList_rt rfl _ rfl g91 rfl _ r e4 B91 ?_
      simp only [Act.put, Act.eval, List.setIfInBounds_toArray, List.set_cons_zero, List.set_cons_succ, Nat.reduceAdd, Array.getD_eq_getD_getElem?, List.getElem?_toArray, List.getElem?_cons_succ, List.getElem?_cons_zero, Option.getD_some]
      go_wp2_with fail
      refine (CQ v91).mono ?_
      rintro e w92 ⟨rfl, x92⟩
      have Y92 := Lib.hid (Y91.out.trans x92)
      have B92 := Lib.hid (B91.out.ext x92)
      clear x92 Y91 B91
      go_upto_region 17 with (fail)
      refine wp_region_lit ?_
      repeat (first | refine wpList_rt rfl _ rfl g91 rfl _ r e4 B92 ?_ | go_step)
      refine (CG w92).mono ?_
      rintro e w93 ⟨rfl, x93⟩
      have Y93 := Lib.hid (Y92.out.trans x93)
      clear x93 Y92
      go_wp2_with fail
      go_ret
      exact ⟨rfl, Y93.out⟩
    · have CP : ∀ w, Calls Tryd.prog 9 #[.string s] w fun e w' => e = .returned (.tuple #[.agg S.none.cells.toArray, .int .i64 n]) ∧ Reg.Ext w w' := fun w => by
        have := parse_any s w (by omega)
        rw [e1] at this
        exact this
      clear e1
      refine (CP w5).mono ?_
      rintro e w91 ⟨rfl, x91⟩
      rename_i hK
      refine hK _ _ ?_
      iterate 12 go_step
      rw [z35]
      have hbf := boxS w91 S.none
      have hxf := Reg.Ext.alloc w91 (Obj.cells S.none.cells.toArray 26)
      have hxs := hxf.trans_but (But.setCells w91.heap.size ((S.none).cells) 0 _) (Nat.le_refl _)
      generalize w91.alloc (Obj.cells S.none.cells.toArray 26) = wf at *
      have HBF := Lib.hid hbf
      clear hbf hxf
      refine wpList_store_mid rfl 26 _ _ rfl w91.heap.size 0 ((S.none).cells).toArray rfl rfl (HBF.out.there _ (by rw [List.size_toArray]; have a1 := cells_length (S.none) none_dig; have a2 := cells_length S.none none_dig; omega)) (by rw [List.size_toArray, cells_length _ none_dig]; exact size35) (all_oneCell_toArray (oneS _)) ?_
      simp only [List.toList_toArray]
      simp only [Act.put, Act.eval, List.setIfInBounds_toArray, List.set_cons_zero, List.set_cons_succ, Nat.reduceAdd, Array.getD_eq_getD_getElem?, List.getElem?_toArray, List.getElem?_cons_succ, List.getElem?_cons_zero, Option.getD_some]
      have hbs := HBF.out.setAll ((S.none).cells) (by have a1 := cells_length (S.none) none_dig; have a2 := cells_length S.none none_dig; omega)
      generalize wf.setCells w91.heap.size 0 ((S.none).cells) = v91 at *
      have B91 := Lib.hid hbs
      have X91 := Lib.hid hxs
      clear hbs hxs HBF
      generalize w91.heap.size = g91 at *
      have Y91 := Lib.hid ((HX5.out.trans x91).trans X91.out)
      clear x91 X91 HX5
      go_upto_region 15 with (fail)
      refine wp_region_lit ?_
      refine wpList_rt rfl _ rfl g91 rfl _ S.none none_dig B91 ?_
      simp only [Act.put, Act.eval, List.setIfInBounds_toArray, List.set_cons_zero, List.set_cons_succ, Nat.reduceAdd, Array.getD_eq_getD_getElem?, List.getElem?_toArray, List.getElem?_cons_succ, List.getElem?_cons_zero, Option.getD_some]
      refine wpList_val rfl (.agg S.none.cells.toArray) (by as_aux_lemma => kernel_rfl) ?_
      simp only [Act.put, Act.eval, List.setIfInBounds_toArray, List.set_cons_zero, List.set_cons_succ, Nat.reduceAdd, Array.getD_eq_getD_getElem?, List.getElem?_toArray, List.getElem?_cons_succ, List.getElem?_cons_zero, Option.getD_some]
      refine wpList_val rfl (.bool (S.none.same S.none)) (exec_eql S.none S.none none_dig none_dig _ _ rfl rfl rfl) ?_
      rw [same_refl]
      simp only [Act.put, Act.eval, List.setIfInBounds_toArray, List.set_cons_zero, List.set_cons_succ, Nat.reduceAdd, Array.getD_eq_getD_getElem?, List.getElem?_toArray, List.getElem?_cons_succ, List.getElem?_cons_zero, Option.getD_some]
      go_wp2_with fail
      go_ret
      exact ⟨rfl, Y91.out⟩
  | true =>
    obtain ⟨X, hX⟩ : ∃ X : ByteArray, X = ⟨(printL a).toArray⟩ := ⟨_, rfl⟩
    have hXl : X.data.toList = printL a := by rw [hX]
    have CA : ∀ w, Calls Tryd.prog 15 #[.agg a.cells.toArray] w fun e w' => e = .returned (.tuple #[.string X, .int .i64 0]) ∧ Reg.Ext w w' := fun w => by
      have := print_any a ha w
      rw [print_good ga, ← hX] at this
      exact this
    have CGA : ∀ w, Calls Tryd.prog 17 #[.agg a.cells.toArray] w fun e w' => e = .returned (.bool true) ∧ Reg.Ext w w' := fun w => by
      have := good_any a ha w
      rw [ga] at this
      exact this
    have hXs : X.size ≤ 1000 := by
      rw [← len_data, hXl]
      exact print_len ga ha
    have CPX : ∀ w, Calls Tryd.prog 9 #[.string X] w fun e w' => e = .returned (.tuple #[.agg a.cells.toArray, .int .i64 0]) ∧ Reg.Ext w w' := fun w => by
      have := parse_any X w (by omega)
      rw [hXl, parse_print ga ha] at this
      exact this
    clear hX
    go_wp2_with fail
    refine (CA w2).mono ?_
    rintro e w3 ⟨rfl, x3⟩
    have HA3 := Lib.hid (HA2.out.ext x3)
    have HB3 := Lib.hid (HB2.out.ext x3)
    have HX3 := Lib.hid (HX2.out.trans x3)
    clear x3 HA2 HB2 HX2
    cases gb : goodP b with
    | false =>
      have CB : ∀ w, Calls Tryd.prog 15 #[.agg b.cells.toArray] w fun e w' => e = .returned (.tuple #[.string ⟨#[]⟩, .int .i64 1]) ∧ Reg.Ext w w' := fun w => by
        have := print_any b hb w
        rw [print_bad gb] at this
        exact this
      clear ga gb hXl
      go_upto_region 6 with (fail)
      refine wp_region_lit ?_
      refine wpList_rt rfl _ rfl g4 rfl _ b hb HB3 ?_
      simp only [Act.put, Act.eval, List.setIfInBounds_toArray, List.set_cons_zero, List.set_cons_succ, Nat.reduceAdd, Array.getD_eq_getD_getElem?, List.getElem?_toArray, List.getElem?_cons_succ, List.getElem?_cons_zero, Option.getD_some]
      go_wp2_with fail
      refine (CB w3).mono ?_
      rintro e w4 ⟨rfl, x4⟩
      have HA4 := Lib.hid (HA3.out.ext x4)
      have HB4 := Lib.hid (HB3.out.ext x4)
      have HX4 := Lib.hid (HX3.out.trans x4)
      clear x4 HA3 HB3 HX3
      go_upto_region 7 with (fail)
      refine wp_region_lit ?_
      repeat (first | refine wpList_rt rfl _ rfl g3 rfl _ a ha HA4 ?_ | go_step)
      refine (CGA w4).mono ?_
      rintro e w5 ⟨rfl, x5⟩
      have HA5 := Lib.hid (HA4.out.ext x5)
      have HB5 := Lib.hid (HB4.out.ext x5)
      have HX5 := Lib.hid (HX4.out.trans x5)
      clear x5 HA4 HB4 HX4
      go_wp2_with fail
      refine (CPX w5).mono ?_
      rintro e w6 ⟨rfl, x6⟩
      rename_i hK
      refine hK _ _ ?_
      iterate 12 go_step
      rw [z35]
      have hbf := boxS w6 S.none
      have hxf := Reg.Ext.alloc w6 (Obj.cells S.none.cells.toArray 26)
      have hxs := hxf.trans_but (But.setCells w6.heap.size ((a).cells) 0 _) (Nat.le_refl _)
      generalize w6.alloc (Obj.cells S.none.cells.toArray 26) = wf at *
      have HBF := Lib.hid hbf
      clear hbf hxf
      refine wpList_store_mid rfl 26 _ _ rfl w6.heap.size 0 ((a).cells).toArray rfl rfl (HBF.out.there _ (by rw [List.size_toArray]; have a1 := cells_length (a) ha; have a2 := cells_length S.none none_dig; omega)) (by rw [List.size_toArray, cells_length _ ha]; exact size35) (all_oneCell_toArray (oneS _)) ?_
      simp only [List.toList_toArray]
      simp only [Act.put, Act.eval, List.setIfInBounds_toArray, List.set_cons_zero, List.set_cons_succ, Nat.reduceAdd, Array.getD_eq_getD_getElem?, List.getElem?_toArray, List.getElem?_cons_succ, List.getElem?_cons_zero, Option.getD_some]
      have hbs := HBF.out.setAll ((a).cells) (by have a1 := cells_length (a) ha; have a2 := cells_length S.none none_dig; omega)
      generalize wf.setCells w6.heap.size 0 ((a).cells) = v6 at *
      have B6 := Lib.hid hbs
      have X6 := Lib.hid hxs
      clear hbs hxs HBF
      generalize w6.heap.size = g6 at *
      have Y6 := Lib.hid ((HX5.out.trans x6).trans X6.out)
      have HA6 := Lib.hid ((HA5.out.ext x6).ext X6.out)
      clear x6 X6 HX5 HA5
      go_upto_region 11 with (fail)
      refine wp_region_lit ?_
      iterate 9 go_step
      refine wpList_rt rfl _ rfl g6 rfl _ a ha B6 ?_
      simp only [Act.put, Act.eval, List.setIfInBounds_toArray, List.set_cons_zero, List.set_cons_succ, Nat.reduceAdd, Array.getD_eq_getD_getElem?, List.getElem?_toArray, List.getElem?_cons_succ, List.getElem?_cons_zero, Option.getD_some]
      refine wpList_rt rfl _ rfl g3 rfl _ a ha HA6 ?_
      simp only [Act.put, Act.eval, List.setIfInBounds_toArray, List.set_cons_zero, List.set_cons_succ, Nat.reduceAdd, Array.getD_eq_getD_getElem?, List.getElem?_toArray, List.getElem?_cons_succ, List.getElem?_cons_zero, Option.getD_some]
      refine wpList_valw rfl (.bool (!a.same a)) (exec_neq a a ha ha _ _ rfl rfl rfl) ?_
      rw [same_refl]
      simp only [Act.put, Act.eval, List.setIfInBounds_toArray, List.set_cons_zero, List.set_cons_succ, Nat.reduceAdd, Array.getD_eq_getD_getElem?, List.getElem?_toArray, List.getElem?_cons_succ, List.getElem?_cons_zero, Option.getD_some]
      go_wp2_with fail
      rcases parse_or s.data.toList with ⟨r, e1, e2, e3, e4⟩ | ⟨n, e1, e2⟩
      · have CP : ∀ w, Calls Tryd.prog 9 #[.string s] w fun e w' => e = .returned (.tuple #[.agg r.cells.toArray, .int .i64 0]) ∧ Reg.Ext w w' := fun w => by
          have := parse_any s w (by omega)
          rw [e1] at this
          exact this
        have CQ : ∀ w, Calls Tryd.prog 15 #[.agg r.cells.toArray] w fun e w' => e = .returned (.tuple #[.string s, .int .i64 0]) ∧ Reg.Ext w w' := fun w => by
          have := print_any r e4 w
          rw [print_good e2, e3, ba_data] at this
          exact this
        have CG : ∀ w, Calls Tryd.prog 17 #[.agg r.cells.toArray] w fun e w' => e = .returned (.bool true) ∧ Reg.Ext w w' := fun w => by
          have := good_any r e4 w
          rw [e2] at this
          exact this
        clear e1 e2 e3
        refine (CP v6).mono ?_
        rintro e w91 ⟨rfl, x91⟩
        rename_i hK
        refine hK _ _ ?_
        iterate 12 go_step
        rw [z35]
        have hbf := boxS w91 S.none
        have hxf := Reg.Ext.alloc w91 (Obj.cells S.none.cells.toArray 26)
        have hxs := hxf.trans_but (But.setCells w91.heap.size ((r).cells) 0 _) (Nat.le_refl _)
        generalize w91.alloc (Obj.cells S.none.cells.toArray 26) = wf at *
        have HBF := Lib.hid hbf
        clear hbf hxf
        refine wpList_store_mid rfl 26 _ _ rfl w91.heap.size 0 ((r).cells).toArray rfl rfl (HBF.out.there _ (by rw [List.size_toArray]; have a1 := cells_length (r) e4; have a2 := cells_length S.none none_dig; omega)) (by rw [List.size_toArray, cells_length _ e4]; exact size35) (all_oneCell_toArray (oneS _)) ?_
        simp only [List.toList_toArray]
        simp only [Act.put, Act.eval, List.setIfInBounds_toArray, List.set_cons_zero, List.set_cons_succ, Nat.reduceAdd, Array.getD_eq_getD_getElem?, List.getElem?_toArray, List.getElem?_cons_succ, List.getElem?_cons_zero, Option.getD_some]
        have hbs := HBF.out.setAll ((r).cells) (by have a1 := cells_length (r) e4; have a2 := cells_length S.none none_dig; omega)
        generalize wf.setCells w91.heap.size 0 ((r).cells) = v91 at *
        have B91 := Lib.hid hbs
        have X91 := Lib.hid hxs
        clear hbs hxs HBF
        generalize w91.heap.size = g91 at *
        have Y91 := Lib.hid ((Y6.out.trans x91).trans X91.out)
        clear x91 X91 Y6
        go_upto_region 16 with (fail)
        refine wp_region_lit ?_
        refine wpList_rt rfl _ rfl g91 rfl _ r e4 B91 ?_
        simp only [Act.put, Act.eval, List.setIfInBounds_toArray, List.set_cons_zero, List.set_cons_succ, Nat.reduceAdd, Array.getD_eq_getD_getElem?, List.getElem?_toArray, List.getElem?_cons_succ, List.getElem?_cons_zero, Option.getD_some]
        go_wp2_with fail
        refine (CQ v91).mono ?_
        rintro e w92 ⟨rfl, x92⟩
        have Y92 := Lib.hid (Y91.out.trans x92)
        have B92 := Lib.hid (B91.out.ext x92)
        clear x92 Y91 B91
        go_upto_region 17 with (fail)
        refine wp_region_lit ?_
        repeat (first | refine wpList_rt rfl _ rfl g91 rfl _ r e4 B92 ?_ | go_step)
        refine (CG w92).mono ?_
        rintro e w93 ⟨rfl, x93⟩
        have Y93 := Lib.hid (Y92.out.trans x93)
        clear x93 Y92
        go_wp2_with fail
        go_ret
        exact ⟨rfl, Y93.out⟩
      · have CP : ∀ w, Calls Tryd.prog 9 #[.string s] w fun e w' => e = .returned (.tuple #[.agg S.none.cells.toArray, .int .i64 n]) ∧ Reg.Ext w w' := fun w => by
          have := parse_any s w (by omega)
          rw [e1] at this
          exact this
        clear e1
        refine (CP v6).mono ?_
        rintro e w91 ⟨rfl, x91⟩
        rename_i hK
        refine hK _ _ ?_
        iterate 12 go_step
        rw [z35]
        have hbf := boxS w91 S.none
        have hxf := Reg.Ext.alloc w91 (Obj.cells S.none.cells.toArray 26)
        have hxs := hxf.trans_but (But.setCells w91.heap.size ((S.none).cells) 0 _) (Nat.le_refl _)
        generalize w91.alloc (Obj.cells S.none.cells.toArray 26) = wf at *
        have HBF := Lib.hid hbf
        clear hbf hxf
        refine wpList_store_mid rfl 26 _ _ rfl w91.heap.size 0 ((S.none).cells).toArray rfl rfl (HBF.out.there _ (by rw [List.size_toArray]; have a1 := cells_length (S.none) none_dig; have a2 := cells_length S.none none_dig; omega)) (by rw [List.size_toArray, cells_length _ none_dig]; exact size35) (all_oneCell_toArray (oneS _)) ?_
        simp only [List.toList_toArray]
        simp only [Act.put, Act.eval, List.setIfInBounds_toArray, List.set_cons_zero, List.set_cons_succ, Nat.reduceAdd, Array.getD_eq_getD_getElem?, List.getElem?_toArray, List.getElem?_cons_succ, List.getElem?_cons_zero, Option.getD_some]
        have hbs := HBF.out.setAll ((S.none).cells) (by have a1 := cells_length (S.none) none_dig; have a2 := cells_length S.none none_dig; omega)
        generalize wf.setCells w91.heap.size 0 ((S.none).cells) = v91 at *
        have B91 := Lib.hid hbs
        have X91 := Lib.hid hxs
        clear hbs hxs HBF
        generalize w91.heap.size = g91 at *
        have Y91 := Lib.hid ((Y6.out.trans x91).trans X91.out)
        clear x91 X91 Y6
        go_upto_region 15 with (fail)
        refine wp_region_lit ?_
        refine wpList_rt rfl _ rfl g91 rfl _ S.none none_dig B91 ?_
        simp only [Act.put, Act.eval, List.setIfInBounds_toArray, List.set_cons_zero, List.set_cons_succ, Nat.reduceAdd, Array.getD_eq_getD_getElem?, List.getElem?_toArray, List.getElem?_cons_succ, List.getElem?_cons_zero, Option.getD_some]
        refine wpList_val rfl (.agg S.none.cells.toArray) (by as_aux_lemma => kernel_rfl) ?_
        simp only [Act.put, Act.eval, List.setIfInBounds_toArray, List.set_cons_zero, List.set_cons_succ, Nat.reduceAdd, Array.getD_eq_getD_getElem?, List.getElem?_toArray, List.getElem?_cons_succ, List.getElem?_cons_zero, Option.getD_some]
        refine wpList_val rfl (.bool (S.none.same S.none)) (exec_eql S.none S.none none_dig none_dig _ _ rfl rfl rfl) ?_
        rw [same_refl]
        simp only [Act.put, Act.eval, List.setIfInBounds_toArray, List.set_cons_zero, List.set_cons_succ, Nat.reduceAdd, Array.getD_eq_getD_getElem?, List.getElem?_toArray, List.getElem?_cons_succ, List.getElem?_cons_zero, Option.getD_some]
        go_wp2_with fail
        go_ret
        exact ⟨rfl, Y91.out⟩
    | true =>
      obtain ⟨Y, hY⟩ : ∃ Y : ByteArray, Y = ⟨(printL b).toArray⟩ := ⟨_, rfl⟩
      have hYl : Y.data.toList = printL b := by rw [hY]
      have CB : ∀ w, Calls Tryd.prog 15 #[.agg b.cells.toArray] w fun e w' => e = .returned (.tuple #[.string Y, .int .i64 0]) ∧ Reg.Ext w w' := fun w => by
        have := print_any b hb w
        rw [print_good gb, ← hY] at this
        exact this
      have hxy : (X.toList == Y.toList) = a.same b := by
        rw [Bool.eq_iff_iff, beq_iff_eq, ByteArray.toList_eq, ByteArray.toList_eq, hXl, hYl, same_iff]
        exact print_inj ga gb ha hb
      clear ga gb hXl hYl hY
      cases hq2 : a.same b with
      | false =>
        rw [hq2] at hxy
        go_upto_region 6 with (fail)
        refine wp_region_lit ?_
        refine wpList_rt rfl _ rfl g4 rfl _ b hb HB3 ?_
        simp only [Act.put, Act.eval, List.setIfInBounds_toArray, List.set_cons_zero, List.set_cons_succ, Nat.reduceAdd, Array.getD_eq_getD_getElem?, List.getElem?_toArray, List.getElem?_cons_succ, List.getElem?_cons_zero, Option.getD_some]
        go_wp2_with fail
        refine (CB w3).mono ?_
        rintro e w4 ⟨rfl, x4⟩
        have HA4 := Lib.hid (HA3.out.ext x4)
        have HB4 := Lib.hid (HB3.out.ext x4)
        have HX4 := Lib.hid (HX3.out.trans x4)
        clear x4 HA3 HB3 HX3
        go_upto_region 7 with (fail)
        refine wp_region_lit ?_
        repeat (first | refine wpList_rt rfl _ rfl g3 rfl _ a ha HA4 ?_ | go_step)
        refine (CGA w4).mono ?_
        rintro e w5 ⟨rfl, x5⟩
        have HA5 := Lib.hid (HA4.out.ext x5)
        have HB5 := Lib.hid (HB4.out.ext x5)
        have HX5 := Lib.hid (HX4.out.trans x5)
        clear x5 HA4 HB4 HX4
        rename_i hK
        refine hK _ _ ?_
        iterate 26 go_step
        refine wpList_rt rfl _ rfl g3 rfl _ a ha HA5 ?_
        simp only [Act.put, Act.eval, List.setIfInBounds_toArray, List.set_cons_zero, List.set_cons_succ, Nat.reduceAdd, Array.getD_eq_getD_getElem?, List.getElem?_toArray, List.getElem?_cons_succ, List.getElem?_cons_zero, Option.getD_some]
        refine wpList_rt rfl _ rfl g4 rfl _ b hb HB5 ?_
        simp only [Act.put, Act.eval, List.setIfInBounds_toArray, List.set_cons_zero, List.set_cons_succ, Nat.reduceAdd, Array.getD_eq_getD_getElem?, List.getElem?_toArray, List.getElem?_cons_succ, List.getElem?_cons_zero, Option.getD_some]
        refine wpList_valw rfl (.bool (a.same b)) (exec_eql a b ha hb _ _ rfl rfl rfl) ?_
        rw [hq2]
        simp only [Act.put, Act.eval, List.setIfInBounds_toArray, List.set_cons_zero, List.set_cons_succ, Nat.reduceAdd, Array.getD_eq_getD_getElem?, List.getElem?_toArray, List.getElem?_cons_succ, List.getElem?_cons_zero, Option.getD_some]
        go_wp2_with fail
        refine (CPX w5).mono ?_
        rintro e w6 ⟨rfl, x6⟩
        rename_i hK
        refine hK _ _ ?_
        iterate 12 go_step
        rw [z35]
        have hbf := boxS w6 S.none
        have hxf := Reg.Ext.alloc w6 (Obj.cells S.none.cells.toArray 26)
        have hxs := hxf.trans_but (But.setCells w6.heap.size ((a).cells) 0 _) (Nat.le_refl _)
        generalize w6.alloc (Obj.cells S.none.cells.toArray 26) = wf at *
        have HBF := Lib.hid hbf
        clear hbf hxf
        refine wpList_store_mid rfl 26 _ _ rfl w6.heap.size 0 ((a).cells).toArray rfl rfl (HBF.out.there _ (by rw [List.size_toArray]; have a1 := cells_length (a) ha; have a2 := cells_length S.none none_dig; omega)) (by rw [List.size_toArray, cells_length _ ha]; exact size35) (all_oneCell_toArray (oneS _)) ?_
        simp only [List.toList_toArray]
        simp only [Act.put, Act.eval, List.setIfInBounds_toArray, List.set_cons_zero, List.set_cons_succ, Nat.reduceAdd, Array.getD_eq_getD_getElem?, List.getElem?_toArray, List.getElem?_cons_succ, List.getElem?_cons_zero, Option.getD_some]
        have hbs := HBF.out.setAll ((a).cells) (by have a1 := cells_length (a) ha; have a2 := cells_length S.none none_dig; omega)
        generalize wf.setCells w6.heap.size 0 ((a).cells) = v6 at *
        have B6 := Lib.hid hbs
        have X6 := Lib.hid hxs
        clear hbs hxs HBF
        generalize w6.heap.size = g6 at *
        have Y6 := Lib.hid ((HX5.out.trans x6).trans X6.out)
        have HA6 := Lib.hid ((HA5.out.ext x6).ext X6.out)
        clear x6 X6 HX5 HA5
        go_upto_region 11 with (fail)
        refine wp_region_lit ?_
        iterate 9 go_step
        refine wpList_rt rfl _ rfl g6 rfl _ a ha B6 ?_
        simp only [Act.put, Act.eval, List.setIfInBounds_toArray, List.set_cons_zero, List.set_cons_succ, Nat.reduceAdd, Array.getD_eq_getD_getElem?, List.getElem?_toArray, List.getElem?_cons_succ, List.getElem?_cons_zero, Option.getD_some]
        refine wpList_rt rfl _ rfl g3 rfl _ a ha HA6 ?_
        simp only [Act.put, Act.eval, List.setIfInBounds_toArray, List.set_cons_zero, List.set_cons_succ, Nat.reduceAdd, Array.getD_eq_getD_getElem?, List.getElem?_toArray, List.getElem?_cons_succ, List.getElem?_cons_zero, Option.getD_some]
        refine wpList_valw rfl (.bool (!a.same a)) (exec_neq a a ha ha _ _ rfl rfl rfl) ?_
        rw [same_refl]
        simp only [Act.put, Act.eval, List.setIfInBounds_toArray, List.set_cons_zero, List.set_cons_succ, Nat.reduceAdd, Array.getD_eq_getD_getElem?, List.getElem?_toArray, List.getElem?_cons_succ, List.getElem?_cons_zero, Option.getD_some]
        go_wp2_with fail
        rcases parse_or s.data.toList with ⟨r, e1, e2, e3, e4⟩ | ⟨n, e1, e2⟩
        · have CP : ∀ w, Calls Tryd.prog 9 #[.string s] w fun e w' => e = .returned (.tuple #[.agg r.cells.toArray, .int .i64 0]) ∧ Reg.Ext w w' := fun w => by
            have := parse_any s w (by omega)
            rw [e1] at this
            exact this
          have CQ : ∀ w, Calls Tryd.prog 15 #[.agg r.cells.toArray] w fun e w' => e = .returned (.tuple #[.string s, .int .i64 0]) ∧ Reg.Ext w w' := fun w => by
            have := print_any r e4 w
            rw [print_good e2, e3, ba_data] at this
            exact this
          have CG : ∀ w, Calls Tryd.prog 17 #[.agg r.cells.toArray] w fun e w' => e = .returned (.bool true) ∧ Reg.Ext w w' := fun w => by
            have := good_any r e4 w
            rw [e2] at this
            exact this
          clear e1 e2 e3
          refine (CP v6).mono ?_
          rintro e w91 ⟨rfl, x91⟩
          rename_i hK
          refine hK _ _ ?_
          iterate 12 go_step
          rw [z35]
          have hbf := boxS w91 S.none
          have hxf := Reg.Ext.alloc w91 (Obj.cells S.none.cells.toArray 26)
          have hxs := hxf.trans_but (But.setCells w91.heap.size ((r).cells) 0 _) (Nat.le_refl _)
          generalize w91.alloc (Obj.cells S.none.cells.toArray 26) = wf at *
          have HBF := Lib.hid hbf
          clear hbf hxf
          refine wpList_store_mid rfl 26 _ _ rfl w91.heap.size 0 ((r).cells).toArray rfl rfl (HBF.out.there _ (by rw [List.size_toArray]; have a1 := cells_length (r) e4; have a2 := cells_length S.none none_dig; omega)) (by rw [List.size_toArray, cells_length _ e4]; exact size35) (all_oneCell_toArray (oneS _)) ?_
          simp only [List.toList_toArray]
          simp only [Act.put, Act.eval, List.setIfInBounds_toArray, List.set_cons_zero, List.set_cons_succ, Nat.reduceAdd, Array.getD_eq_getD_getElem?, List.getElem?_toArray, List.getElem?_cons_succ, List.getElem?_cons_zero, Option.getD_some]
          have hbs := HBF.out.setAll ((r).cells) (by have a1 := cells_length (r) e4; have a2 := cells_length S.none none_dig; omega)
          generalize wf.setCells w91.heap.size 0 ((r).cells) = v91 at *
          have B91 := Lib.hid hbs
          have X91 := Lib.hid hxs
          clear hbs hxs HBF
          generalize w91.heap.size = g91 at *
          have Y91 := Lib.hid ((Y6.out.trans x91).trans X91.out)
          clear x91 X91 Y6
          go_upto_region 16 with (fail)
          refine wp_region_lit ?_
          refine wpList_rt rfl _ rfl g91 rfl _ r e4 B91 ?_
          simp only [Act.put, Act.eval, List.setIfInBounds_toArray, List.set_cons_zero, List.set_cons_succ, Nat.reduceAdd, Array.getD_eq_getD_getElem?, List.getElem?_toArray, List.getElem?_cons_succ, List.getElem?_cons_zero, Option.getD_some]
          go_wp2_with fail
          refine (CQ v91).mono ?_
          rintro e w92 ⟨rfl, x92⟩
          have Y92 := Lib.hid (Y91.out.trans x92)
          have B92 := Lib.hid (B91.out.ext x92)
          clear x92 Y91 B91
          go_upto_region 17 with (fail)
          refine wp_region_lit ?_
          repeat (first | refine wpList_rt rfl _ rfl g91 rfl _ r e4 B92 ?_ | go_step)
          refine (CG w92).mono ?_
          rintro e w93 ⟨rfl, x93⟩
          have Y93 := Lib.hid (Y92.out.trans x93)
          clear x93 Y92
          go_wp2_with fail
          go_ret
          exact ⟨rfl, Y93.out⟩
        · have CP : ∀ w, Calls Tryd.prog 9 #[.string s] w fun e w' => e = .returned (.tuple #[.agg S.none.cells.toArray, .int .i64 n]) ∧ Reg.Ext w w' := fun w => by
            have := parse_any s w (by omega)
            rw [e1] at this
            exact this
          clear e1
          refine (CP v6).mono ?_
          rintro e w91 ⟨rfl, x91⟩
          rename_i hK
          refine hK _ _ ?_
          iterate 12 go_step
          rw [z35]
          have hbf := boxS w91 S.none
          have hxf := Reg.Ext.alloc w91 (Obj.cells S.none.cells.toArray 26)
          have hxs := hxf.trans_but (But.setCells w91.heap.size ((S.none).cells) 0 _) (Nat.le_refl _)
          generalize w91.alloc (Obj.cells S.none.cells.toArray 26) = wf at *
          have HBF := Lib.hid hbf
          clear hbf hxf
          refine wpList_store_mid rfl 26 _ _ rfl w91.heap.size 0 ((S.none).cells).toArray rfl rfl (HBF.out.there _ (by rw [List.size_toArray]; have a1 := cells_length (S.none) none_dig; have a2 := cells_length S.none none_dig; omega)) (by rw [List.size_toArray, cells_length _ none_dig]; exact size35) (all_oneCell_toArray (oneS _)) ?_
          simp only [List.toList_toArray]
          simp only [Act.put, Act.eval, List.setIfInBounds_toArray, List.set_cons_zero, List.set_cons_succ, Nat.reduceAdd, Array.getD_eq_getD_getElem?, List.getElem?_toArray, List.getElem?_cons_succ, List.getElem?_cons_zero, Option.getD_some]
          have hbs := HBF.out.setAll ((S.none).cells) (by have a1 := cells_length (S.none) none_dig; have a2 := cells_length S.none none_dig; omega)
          generalize wf.setCells w91.heap.size 0 ((S.none).cells) = v91 at *
          have B91 := Lib.hid hbs
          have X91 := Lib.hid hxs
          clear hbs hxs HBF
          generalize w91.heap.size = g91 at *
          have Y91 := Lib.hid ((Y6.out.trans x91).trans X91.out)
          clear x91 X91 Y6
          go_upto_region 15 with (fail)
          refine wp_region_lit ?_
          refine wpList_rt rfl _ rfl g91 rfl _ S.none none_dig B91 ?_
          simp only [Act.put, Act.eval, List.setIfInBounds_toArray, List.set_cons_zero, List.set_cons_succ, Nat.reduceAdd, Array.getD_eq_getD_getElem?, List.getElem?_toArray, List.getElem?_cons_succ, List.getElem?_cons_zero, Option.getD_some]
          refine wpList_val rfl (.agg S.none.cells.toArray) (by as_aux_lemma => kernel_rfl) ?_
          simp only [Act.put, Act.eval, List.setIfInBounds_toArray, List.set_cons_zero, List.set_cons_succ, Nat.reduceAdd, Array.getD_eq_getD_getElem?, List.getElem?_toArray, List.getElem?_cons_succ, List.getElem?_cons_zero, Option.getD_some]
          refine wpList_val rfl (.bool (S.none.same S.none)) (exec_eql S.none S.none none_dig none_dig _ _ rfl rfl rfl) ?_
          rw [same_refl]
          simp only [Act.put, Act.eval, List.setIfInBounds_toArray, List.set_cons_zero, List.set_cons_succ, Nat.reduceAdd, Array.getD_eq_getD_getElem?, List.getElem?_toArray, List.getElem?_cons_succ, List.getElem?_cons_zero, Option.getD_some]
          go_wp2_with fail
          go_ret
          exact ⟨rfl, Y91.out⟩
      | true =>
        rw [hq2] at hxy
        go_upto_region 6 with (fail)
        refine wp_region_lit ?_
        refine wpList_rt rfl _ rfl g4 rfl _ b hb HB3 ?_
        simp only [Act.put, Act.eval, List.setIfInBounds_toArray, List.set_cons_zero, List.set_cons_succ, Nat.reduceAdd, Array.getD_eq_getD_getElem?, List.getElem?_toArray, List.getElem?_cons_succ, List.getElem?_cons_zero, Option.getD_some]
        go_wp2_with fail
        refine (CB w3).mono ?_
        rintro e w4 ⟨rfl, x4⟩
        have HA4 := Lib.hid (HA3.out.ext x4)
        have HB4 := Lib.hid (HB3.out.ext x4)
        have HX4 := Lib.hid (HX3.out.trans x4)
        clear x4 HA3 HB3 HX3
        go_upto_region 7 with (fail)
        refine wp_region_lit ?_
        repeat (first | refine wpList_rt rfl _ rfl g3 rfl _ a ha HA4 ?_ | go_step)
        refine (CGA w4).mono ?_
        rintro e w5 ⟨rfl, x5⟩
        have HA5 := Lib.hid (HA4.out.ext x5)
        have HB5 := Lib.hid (HB4.out.ext x5)
        have HX5 := Lib.hid (HX4.out.trans x5)
        clear x5 HA4 HB4 HX4
        rename_i hK
        refine hK _ _ ?_
        iterate 26 go_step
        refine wpList_rt rfl _ rfl g3 rfl _ a ha HA5 ?_
        simp only [Act.put, Act.eval, List.setIfInBounds_toArray, List.set_cons_zero, List.set_cons_succ, Nat.reduceAdd, Array.getD_eq_getD_getElem?, List.getElem?_toArray, List.getElem?_cons_succ, List.getElem?_cons_zero, Option.getD_some]
        refine wpList_rt rfl _ rfl g4 rfl _ b hb HB5 ?_
        simp only [Act.put, Act.eval, List.setIfInBounds_toArray, List.set_cons_zero, List.set_cons_succ, Nat.reduceAdd, Array.getD_eq_getD_getElem?, List.getElem?_toArray, List.getElem?_cons_succ, List.getElem?_cons_zero, Option.getD_some]
        refine wpList_valw rfl (.bool (a.same b)) (exec_eql a b ha hb _ _ rfl rfl rfl) ?_
        rw [hq2]
        simp only [Act.put, Act.eval, List.setIfInBounds_toArray, List.set_cons_zero, List.set_cons_succ, Nat.reduceAdd, Array.getD_eq_getD_getElem?, List.getElem?_toArray, List.getElem?_cons_succ, List.getElem?_cons_zero, Option.getD_some]
        go_wp2_with fail
        refine (CPX w5).mono ?_
        rintro e w6 ⟨rfl, x6⟩
        rename_i hK
        refine hK _ _ ?_
        iterate 12 go_step
        rw [z35]
        have hbf := boxS w6 S.none
        have hxf := Reg.Ext.alloc w6 (Obj.cells S.none.cells.toArray 26)
        have hxs := hxf.trans_but (But.setCells w6.heap.size ((a).cells) 0 _) (Nat.le_refl _)
        generalize w6.alloc (Obj.cells S.none.cells.toArray 26) = wf at *
        have HBF := Lib.hid hbf
        clear hbf hxf
        refine wpList_store_mid rfl 26 _ _ rfl w6.heap.size 0 ((a).cells).toArray rfl rfl (HBF.out.there _ (by rw [List.size_toArray]; have a1 := cells_length (a) ha; have a2 := cells_length S.none none_dig; omega)) (by rw [List.size_toArray, cells_length _ ha]; exact size35) (all_oneCell_toArray (oneS _)) ?_
        simp only [List.toList_toArray]
        simp only [Act.put, Act.eval, List.setIfInBounds_toArray, List.set_cons_zero, List.set_cons_succ, Nat.reduceAdd, Array.getD_eq_getD_getElem?, List.getElem?_toArray, List.getElem?_cons_succ, List.getElem?_cons_zero, Option.getD_some]
        have hbs := HBF.out.setAll ((a).cells) (by have a1 := cells_length (a) ha; have a2 := cells_length S.none none_dig; omega)
        generalize wf.setCells w6.heap.size 0 ((a).cells) = v6 at *
        have B6 := Lib.hid hbs
        have X6 := Lib.hid hxs
        clear hbs hxs HBF
        generalize w6.heap.size = g6 at *
        have Y6 := Lib.hid ((HX5.out.trans x6).trans X6.out)
        have HA6 := Lib.hid ((HA5.out.ext x6).ext X6.out)
        clear x6 X6 HX5 HA5
        go_upto_region 11 with (fail)
        refine wp_region_lit ?_
        iterate 9 go_step
        refine wpList_rt rfl _ rfl g6 rfl _ a ha B6 ?_
        simp only [Act.put, Act.eval, List.setIfInBounds_toArray, List.set_cons_zero, List.set_cons_succ, Nat.reduceAdd, Array.getD_eq_getD_getElem?, List.getElem?_toArray, List.getElem?_cons_succ, List.getElem?_cons_zero, Option.getD_some]
        refine wpList_rt rfl _ rfl g3 rfl _ a ha HA6 ?_
        simp only [Act.put, Act.eval, List.setIfInBounds_toArray, List.set_cons_zero, List.set_cons_succ, Nat.reduceAdd, Array.getD_eq_getD_getElem?, List.getElem?_toArray, List.getElem?_cons_succ, List.getElem?_cons_zero, Option.getD_some]
        refine wpList_valw rfl (.bool (!a.same a)) (exec_neq a a ha ha _ _ rfl rfl rfl) ?_
        rw [same_refl]
        simp only [Act.put, Act.eval, List.setIfInBounds_toArray, List.set_cons_zero, List.set_cons_succ, Nat.reduceAdd, Array.getD_eq_getD_getElem?, List.getElem?_toArray, List.getElem?_cons_succ, List.getElem?_cons_zero, Option.getD_some]
        go_wp2_with fail
        rcases parse_or s.data.toList with ⟨r, e1, e2, e3, e4⟩ | ⟨n, e1, e2⟩
        · have CP : ∀ w, Calls Tryd.prog 9 #[.string s] w fun e w' => e = .returned (.tuple #[.agg r.cells.toArray, .int .i64 0]) ∧ Reg.Ext w w' := fun w => by
            have := parse_any s w (by omega)
            rw [e1] at this
            exact this
          have CQ : ∀ w, Calls Tryd.prog 15 #[.agg r.cells.toArray] w fun e w' => e = .returned (.tuple #[.string s, .int .i64 0]) ∧ Reg.Ext w w' := fun w => by
            have := print_any r e4 w
            rw [print_good e2, e3, ba_data] at this
            exact this
          have CG : ∀ w, Calls Tryd.prog 17 #[.agg r.cells.toArray] w fun e w' => e = .returned (.bool true) ∧ Reg.Ext w w' := fun w => by
            have := good_any r e4 w
            rw [e2] at this
            exact this
          clear e1 e2 e3
          refine (CP v6).mono ?_
          rintro e w91 ⟨rfl, x91⟩
          rename_i hK
          refine hK _ _ ?_
          iterate 12 go_step
          rw [z35]
          have hbf := boxS w91 S.none
          have hxf := Reg.Ext.alloc w91 (Obj.cells S.none.cells.toArray 26)
          have hxs := hxf.trans_but (But.setCells w91.heap.size ((r).cells) 0 _) (Nat.le_refl _)
          generalize w91.alloc (Obj.cells S.none.cells.toArray 26) = wf at *
          have HBF := Lib.hid hbf
          clear hbf hxf
          refine wpList_store_mid rfl 26 _ _ rfl w91.heap.size 0 ((r).cells).toArray rfl rfl (HBF.out.there _ (by rw [List.size_toArray]; have a1 := cells_length (r) e4; have a2 := cells_length S.none none_dig; omega)) (by rw [List.size_toArray, cells_length _ e4]; exact size35) (all_oneCell_toArray (oneS _)) ?_
          simp only [List.toList_toArray]
          simp only [Act.put, Act.eval, List.setIfInBounds_toArray, List.set_cons_zero, List.set_cons_succ, Nat.reduceAdd, Array.getD_eq_getD_getElem?, List.getElem?_toArray, List.getElem?_cons_succ, List.getElem?_cons_zero, Option.getD_some]
          have hbs := HBF.out.setAll ((r).cells) (by have a1 := cells_length (r) e4; have a2 := cells_length S.none none_dig; omega)
          generalize wf.setCells w91.heap.size 0 ((r).cells) = v91 at *
          have B91 := Lib.hid hbs
          have X91 := Lib.hid hxs
          clear hbs hxs HBF
          generalize w91.heap.size = g91 at *
          have Y91 := Lib.hid ((Y6.out.trans x91).trans X91.out)
          clear x91 X91 Y6
          go_upto_region 16 with (fail)
          refine wp_region_lit ?_
          refine wpList_rt rfl _ rfl g91 rfl _ r e4 B91 ?_
          simp only [Act.put, Act.eval, List.setIfInBounds_toArray, List.set_cons_zero, List.set_cons_succ, Nat.reduceAdd, Array.getD_eq_getD_getElem?, List.getElem?_toArray, List.getElem?_cons_succ, List.getElem?_cons_zero, Option.getD_some]
          go_wp2_with fail
          refine (CQ v91).mono ?_
          rintro e w92 ⟨rfl, x92⟩
          have Y92 := Lib.hid (Y91.out.trans x92)
          have B92 := Lib.hid (B91.out.ext x92)
          clear x92 Y91 B91
          go_upto_region 17 with (fail)
          refine wp_region_lit ?_
          repeat (first | refine wpList_rt rfl _ rfl g91 rfl _ r e4 B92 ?_ | go_step)
          refine (CG w92).mono ?_
          rintro e w93 ⟨rfl, x93⟩
          have Y93 := Lib.hid (Y92.out.trans x93)
          clear x93 Y92
          go_wp2_with fail
          go_ret
          exact ⟨rfl, Y93.out⟩
        · have CP : ∀ w, Calls Tryd.prog 9 #[.string s] w fun e w' => e = .returned (.tuple #[.agg S.none.cells.toArray, .int .i64 n]) ∧ Reg.Ext w w' := fun w => by
            have := parse_any s w (by omega)
            rw [e1] at this
            exact this
          clear e1
          refine (CP v6).mono ?_
          rintro e w91 ⟨rfl, x91⟩
          rename_i hK
          refine hK _ _ ?_
          iterate 12 go_step
          rw [z35]
          have hbf := boxS w91 S.none
          have hxf := Reg.Ext.alloc w91 (Obj.cells S.none.cells.toArray 26)
          have hxs := hxf.trans_but (But.setCells w91.heap.size ((S.none).cells) 0 _) (Nat.le_refl _)
          generalize w91.alloc (Obj.cells S.none.cells.toArray 26) = wf at *
          have HBF := Lib.hid hbf
          clear hbf hxf
          refine wpList_store_mid rfl 26 _ _ rfl w91.heap.size 0 ((S.none).cells).toArray rfl rfl (HBF.out.there _ (by rw [List.size_toArray]; have a1 := cells_length (S.none) none_dig; have a2 := cells_length S.none none_dig; omega)) (by rw [List.size_toArray, cells_length _ none_dig]; exact size35) (all_oneCell_toArray (oneS _)) ?_
          simp only [List.toList_toArray]
          simp only [Act.put, Act.eval, List.setIfInBounds_toArray, List.set_cons_zero, List.set_cons_succ, Nat.reduceAdd, Array.getD_eq_getD_getElem?, List.getElem?_toArray, List.getElem?_cons_succ, List.getElem?_cons_zero, Option.getD_some]
          have hbs := HBF.out.setAll ((S.none).cells) (by have a1 := cells_length (S.none) none_dig; have a2 := cells_length S.none none_dig; omega)
          generalize wf.setCells w91.heap.size 0 ((S.none).cells) = v91 at *
          have B91 := Lib.hid hbs
          have X91 := Lib.hid hxs
          clear hbs hxs HBF
          generalize w91.heap.size = g91 at *
          have Y91 := Lib.hid ((Y6.out.trans x91).trans X91.out)
          clear x91 X91 Y6
          go_upto_region 15 with (fail)
          refine wp_region_lit ?_
          refine wpList_rt rfl _ rfl g91 rfl _ S.none none_dig B91 ?_
          simp only [Act.put, Act.eval, List.setIfInBounds_toArray, List.set_cons_zero, List.set_cons_succ, Nat.reduceAdd, Array.getD_eq_getD_getElem?, List.getElem?_toArray, List.getElem?_cons_succ, List.getElem?_cons_zero, Option.getD_some]
          refine wpList_val rfl (.agg S.none.cells.toArray) (by as_aux_lemma => kernel_rfl) ?_
          simp only [Act.put, Act.eval, List.setIfInBounds_toArray, List.set_cons_zero, List.set_cons_succ, Nat.reduceAdd, Array.getD_eq_getD_getElem?, List.getElem?_toArray, List.getElem?_cons_succ, List.getElem?_cons_zero, Option.getD_some]
          refine wpList_val rfl (.bool (S.none.same S.none)) (exec_eql S.none S.none none_dig none_dig _ _ rfl rfl rfl) ?_
          rw [same_refl]
          simp only [Act.put, Act.eval, List.setIfInBounds_toArray, List.set_cons_zero, List.set_cons_succ, Nat.reduceAdd, Array.getD_eq_getD_getElem?, List.getElem?_toArray, List.getElem?_cons_succ, List.getElem?_cons_zero, Option.getD_some]
          go_wp2_with fail
          go_ret
          exact ⟨rfl, Y91.out⟩
end Pl
end Go.Proofs.YtdoplndijlfabaaDoor
