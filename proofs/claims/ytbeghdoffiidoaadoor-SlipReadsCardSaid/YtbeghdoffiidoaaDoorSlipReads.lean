/- The walk of SlipReads. -/
import Derived.Test.YtbeghdoffiidoaaDoorSlipAllR
import Derived.Test.YtbeghdoffiidoaaDoorSlipAwake
import Derived.Test.YtbeghdoffiidoaaDoorSlipRef3
set_option linter.unusedSimpArgs false
set_option linter.unusedVariables false
set_option linter.unusedSectionVars false
namespace Go.Proofs.YtbeghdoffiidoaaDoor
open Go.RowKit
namespace Slp
set_option maxRecDepth 100000 in
set_option maxHeartbeats 4000000 in
theorem reads_any (s : ByteArray) (w wi : World) (hs : s.size ≤ 1048576) (hT : Crc.Tab w) (hX : Reg.Ext w wi) :
    Calls Tryd.prog 14 #[.string s] wi fun e w' => e = .returned (.bool true) ∧ Reg.Ext w w' := by
  have HT := Lib.hid hT
  have X := Lib.hid hX
  clear hT hX
  have hx := readP_dig s.data.toList
  have C1 := Lib.hid (fun w hT => read_any s w hs hT)
  have C2 := Lib.hid (fun w => readR_any s w hs)
  have C3 := Lib.hid (fun w hT => all_any s w hs hT)
  have C4 := Lib.hid (fun w => allR_any s w hs)
  have hrv : readV s.data.toList = .tuple #[.agg (readP s.data.toList).1.cells.toArray, .int .i64 ((readP s.data.toList).2.1 : Int), .int .i64 ((readP s.data.toList).2.2 : Int)] := rfl
  rw [hrv] at C1 C2
  clear hrv
  generalize (readP s.data.toList).1 = x at *
  generalize (readP s.data.toList).2.1 = n at *
  generalize (readP s.data.toList).2.2 = er at *
  generalize (allP s.data.toList).1 = zs at *
  generalize (allP s.data.toList).2 = kk at *
  go_enter Tryd.func14, Tryd.ntmps14
  go_upto_region 1 with (fail)
  refine wp_region_lit ?_
  repeat go_step
  refine (C1.out wi (HT.out.below X.out)).mono ?_
  rintro e wj ⟨rfl, xj⟩
  rename_i hK
  refine hK _ _ ?_
  have Xn := Lib.hid (X.out.trans xj)
  clear X
  have X := Xn
  clear Xn
  clear xj wi C1
  generalize wj = wi at *
  iterate 15 go_step
  rw [z38]
  have hb8 := boxS wi S.none
  have hx8 := Reg.Ext.alloc wi (Obj.cells S.none.cells.toArray 25)
  have hsx := X.out.size
  generalize wi.alloc (Obj.cells S.none.cells.toArray 25) = w8 at *
  obtain ⟨g3, hg8⟩ : ∃ g, wi.heap.size = g := ⟨_, rfl⟩
  rw [hg8] at hb8 ⊢
  refine wpList_store_mid rfl 25 _ _ rfl g3 0 ((x).cells).toArray rfl ?_ (hb8.there _ (by have e1 := cells_length _ hx; have e2 := cells_length _ none_dig; rw [List.size_toArray]; omega)) (by rw [List.size_toArray, cells_length _ hx]; exact size38) (all_oneCell_toArray (oneS _)) ?_
  · rfl
  simp only [List.toList_toArray]
  simp only [Act.put, Act.eval, List.setIfInBounds_toArray, List.set_cons_zero, List.set_cons_succ, Nat.reduceAdd, Array.getD_eq_getD_getElem?, List.getElem?_toArray, List.getElem?_cons_succ, List.getElem?_cons_zero, Option.getD_some]
  have hbx := But.setCells g3 (x).cells 0 w8
  have hnew := Lib.hid (hb8.setAll (x).cells ((cells_length _ hx).trans (cells_length _ none_dig).symm))
  have Xn := Lib.hid ((X.out.trans hx8).trans_but hbx (by omega))
  have H3 := hnew
  clear hnew
  clear X hb8 hx8 hbx hg8 hsx
  have X := Xn
  clear Xn
  generalize w8.setCells g3 0 (x).cells = wj at *
  clear wi w8
  generalize wj = wi at *
  go_upto_region 2 with (fail)
  refine wp_region_lit ?_
  repeat go_step
  refine (C2.out wi).mono ?_
  rintro e wj ⟨rfl, xj⟩
  have H3n := Lib.hid (H3.out.ext xj)
  clear H3
  have H3 := H3n
  clear H3n
  rename_i hK
  refine hK _ _ ?_
  have Xn := Lib.hid (X.out.trans xj)
  clear X
  have X := Xn
  clear Xn
  clear xj wi C2
  generalize wj = wi at *
  iterate 15 go_step
  rw [z38]
  have hb8 := boxS wi S.none
  have hx8 := Reg.Ext.alloc wi (Obj.cells S.none.cells.toArray 25)
  have hsx := X.out.size
  generalize wi.alloc (Obj.cells S.none.cells.toArray 25) = w8 at *
  obtain ⟨g6, hg8⟩ : ∃ g, wi.heap.size = g := ⟨_, rfl⟩
  rw [hg8] at hb8 ⊢
  refine wpList_store_mid rfl 25 _ _ rfl g6 0 ((x).cells).toArray rfl ?_ (hb8.there _ (by have e1 := cells_length _ hx; have e2 := cells_length _ none_dig; rw [List.size_toArray]; omega)) (by rw [List.size_toArray, cells_length _ hx]; exact size38) (all_oneCell_toArray (oneS _)) ?_
  · rfl
  simp only [List.toList_toArray]
  simp only [Act.put, Act.eval, List.setIfInBounds_toArray, List.set_cons_zero, List.set_cons_succ, Nat.reduceAdd, Array.getD_eq_getD_getElem?, List.getElem?_toArray, List.getElem?_cons_succ, List.getElem?_cons_zero, Option.getD_some]
  have hbx := But.setCells g6 (x).cells 0 w8
  have hnew := Lib.hid (hb8.setAll (x).cells ((cells_length _ hx).trans (cells_length _ none_dig).symm))
  have Xn := Lib.hid ((X.out.trans hx8).trans_but hbx (by omega))
  have H6 := hnew
  have h36 := H3.out.lt
  have H3n := Lib.hid ((H3.out.ext hx8).but hbx (by omega))
  clear hnew H3 h36
  have H3 := H3n
  clear H3n
  clear X hb8 hx8 hbx hg8 hsx
  have X := Xn
  clear Xn
  generalize w8.setCells g6 0 (x).cells = wj at *
  clear wi w8
  generalize wj = wi at *
  have C3 := Lib.hid (C3.out wi (HT.out.below X.out))
  go_wp2_with fail
  refine (C3.out).mono ?_
  rintro e wj ⟨v1, rfl, row1, xj⟩
  have H3n := Lib.hid (H3.out.ext xj)
  have H6n := Lib.hid (H6.out.ext xj)
  have Xn := Lib.hid (X.out.trans xj)
  have R1 := Lib.hid row1.rd
  clear H3 H6 X C3 row1 xj
  have C4 := Lib.hid (C4.out wj)
  go_wp2_with fail
  refine (C4.out).mono ?_
  rintro e wk ⟨v2, rfl, row2, xk⟩
  have H3 := Lib.hid (H3n.out.ext xk)
  have H6 := Lib.hid (H6n.out.ext xk)
  have X := Lib.hid (Xn.out.trans xk)
  have CS := Lib.hid (same_any v1 v2 zs zs wk (R1.out.ext xk) row2.rd)
  rw [(sameL_iff _ _).2 rfl] at CS
  clear H3n H6n Xn C4 row2 xk R1
  have he : ∀ W, (Op.equalIn 10000 25 (.agg x.cells.toArray) (.agg x.cells.toArray)).run Tryd.prog W = .ok true W := fun W => by rw [equal_slip x x hx hx, same_refl]
  go_upto_region 5 with (fail)
  refine wp_region_lit ?_
  repeat (first | refine wpList_ldr rfl _ _ rfl g3 rfl _ _ _ H3 undS (by rw [cells_length x hx]; exact size38) ?_ | refine wpList_ldr rfl _ _ rfl g6 rfl _ _ _ H6 undS (by rw [cells_length x hx]; exact size38) ?_ | go_step)
  refine (CS.out).mono ?_
  rintro e wj2 ⟨rfl, xj⟩
  rename_i hK
  refine hK _ _ ?_
  have Xn := Lib.hid (X.out.trans xj)
  clear X
  have X := Xn
  clear Xn
  go_wp2_with fail
  go_ret
  exact ⟨rfl, X.out⟩
theorem reads_at (s : ByteArray) (w : World) (hs : s.size ≤ 1048576) (hT : Crc.Tab w) :
    Calls Tryd.prog 14 #[.string s] w fun e w' => e = .returned (.bool true) ∧ Reg.Ext w w' := reads_any s w w hs hT (Reg.Ext.refl w)
set_option maxHeartbeats 2000000 in
theorem reads_law (s : ByteArray) (w : World) (hs : s.size ≤ maxLen) (hT : Crc.Tab w) :
    Calls Tryd.prog 4 #[.string s] w fun e w' => e = .returned (.bool true) ∧ Reg.Ext w w' := by
  have HT := Lib.hid hT
  have CA := Lib.hid (awake_any w hT)
  clear hT
  unfold maxLen at hs
  go_enter Tryd.func4, Tryd.ntmps4
  go_wp2_with fail
  refine (CA.out).mono ?_
  rintro e w1 ⟨rfl, x1⟩
  have X := Lib.hid x1
  clear x1 CA
  by_cases hb : 8192 < s.size
  · have db : decide ((8192 : Int) < (s.size : Int)) = true := by rw [decide_eq_true_iff]; omega
    go_wp2_with fail
    go_ret
    exact ⟨rfl, X.out⟩
  have db : decide ((8192 : Int) < (s.size : Int)) = false := by rw [decide_eq_false_iff_not]; omega
  by_cases h0 : 0 < s.size
  · have d0 : decide ((0 : Int) < (s.size : Int)) = true := by rw [decide_eq_true_iff]; omega
    by_cases h1 : s.size ≤ 1024
    · have d1 : decide ((s.size : Int) ≤ 1024) = true := by rw [decide_eq_true_iff]; omega
      have CF := Lib.hid (framedR_any s w1 (by omega))
      obtain ⟨F, hF⟩ : ∃ F : ByteArray, F = ⟨(frame s.data.toList).toArray⟩ := ⟨_, rfl⟩
      have hFs : F.size ≤ 1030 := by rw [hF, siz, frame_len, len_data]; omega
      rw [← hF] at CF
      clear hF
      go_wp2_with fail
      refine (CF.out).mono ?_
      rintro e w2 ⟨rfl, x2⟩
      have X2 := Lib.hid (X.out.trans x2)
      clear x2 CF X
      have C1 := Lib.hid (reads_at (F ++ s) w2 (by rw [ByteArray.size_append]; omega) (HT.out.below X2.out))
      go_wp2_with fail
      refine (C1.out).mono ?_
      rintro e w3 ⟨rfl, x3⟩
      have X3 := Lib.hid (X2.out.trans x3)
      clear x3 C1 X2
      have C2 := Lib.hid (reads_at s w3 (by omega) (HT.out.below X3.out))
      go_wp2_with fail
      refine (C2.out).mono ?_
      rintro e w4 ⟨rfl, x4⟩
      have X4 := Lib.hid (X3.out.trans x4)
      clear x4 C2 X3
      go_wp2_with fail
      go_ret
      exact ⟨rfl, X4.out⟩
    · have d1 : decide ((s.size : Int) ≤ 1024) = false := by rw [decide_eq_false_iff_not]; omega
      have C2 := Lib.hid (reads_at s w1 (by omega) (HT.out.below X.out))
      go_wp2_with fail
      refine (C2.out).mono ?_
      rintro e w4 ⟨rfl, x4⟩
      have X4 := Lib.hid (X.out.trans x4)
      clear x4 C2 X
      go_wp2_with fail
      go_ret
      exact ⟨rfl, X4.out⟩
  · have d0 : decide ((0 : Int) < (s.size : Int)) = false := by rw [decide_eq_false_iff_not]; omega
    have C2 := Lib.hid (reads_at s w1 (by omega) (HT.out.below X.out))
    go_wp2_with fail
    refine (C2.out).mono ?_
    rintro e w4 ⟨rfl, x4⟩
    have X4 := Lib.hid (X.out.trans x4)
    clear x4 C2 X
    go_wp2_with fail
    go_ret
    exact ⟨rfl, X4.out⟩
end Slp
end Go.Proofs.YtbeghdoffiidoaaDoor
