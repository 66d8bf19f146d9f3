/- The walk of the reference's Read. -/
import Derived.Test.YtbeghdoffiidoaaDoorSlipParseR
import Derived.Test.YtbeghdoffiidoaaDoorSlipRef3
import Derived.Test.YtbeghdoffiidoaaDoorSlipRead
set_option linter.unusedSimpArgs false
set_option linter.unusedVariables false
set_option linter.unusedSectionVars false
namespace Go.Proofs.YtbeghdoffiidoaaDoor
open Go.RowKit
namespace Slp
set_option maxRecDepth 100000 in
set_option maxHeartbeats 4000000 in
theorem readR_any (s : ByteArray) (w : World) (hs : s.size ≤ 1048576) :
    Calls Tryd.prog 32 #[.string s] w fun e w' => e = .returned (readV s.data.toList) ∧ Reg.Ext w w' := by
  have hlen := len_data s
  go_enter Tryd.func32, Tryd.ntmps32
  go_upto_region 1 with (fail)
  rw [z38]
  have hb2 := boxS w S.none
  have hx2 := Reg.Ext.alloc w (Obj.cells S.none.cells.toArray 25)
  generalize w.alloc (Obj.cells S.none.cells.toArray 25) = wi at *
  generalize hg2 : w.heap.size = g2 at *
  have H2 := Lib.hid hb2
  have X := Lib.hid hx2
  have l2 : w.heap.size ≤ g2 := by omega
  clear hb2 hx2
  by_cases h6 : s.size < 6
  · have d6 : decide ((s.size : Int) < 6) = true := by rw [decide_eq_true_iff]; omega
    have HV : Hid (readV s.data.toList = .tuple #[.agg S.none.cells.toArray, .int .i64 0, .int .i64 17]) := by
      show readV _ = _
      unfold readV readP
      rw [if_pos (by omega)]
      rfl
    clear hlen h6
    -- {A
    go_upto_region 2 with (fail)
    refine wp_region_lit ?_
    refine wpList_val rfl (.agg S.none.cells.toArray) (by as_aux_lemma => kernel_rfl) ?_
    simp only [Act.put, Act.eval, List.setIfInBounds_toArray, List.set_cons_zero, List.set_cons_succ, Nat.reduceAdd, Array.getD_eq_getD_getElem?, List.getElem?_toArray, List.getElem?_cons_succ, List.getElem?_cons_zero, Option.getD_some]
    have h2 := H2.out
    refine wpList_store_mid rfl 25 _ _ rfl g2 0 ((S.none).cells).toArray rfl ?_ (h2.there _ (by have e1 := cells_length _ none_dig; have e2 := cells_length _ none_dig; rw [List.size_toArray]; omega)) (by rw [List.size_toArray, cells_length _ none_dig]; exact size38) (all_oneCell_toArray (oneS _)) ?_
    · rfl
    simp only [List.toList_toArray]
    simp only [Act.put, Act.eval, List.setIfInBounds_toArray, List.set_cons_zero, List.set_cons_succ, Nat.reduceAdd, Array.getD_eq_getD_getElem?, List.getElem?_toArray, List.getElem?_cons_succ, List.getElem?_cons_zero, Option.getD_some]
    have HN := Lib.hid (h2.setAll S.none.cells rfl)
    have XN := Lib.hid (X.out.trans_but (But.setCells g2 S.none.cells 0 wi) l2)
    generalize wi.setCells g2 0 S.none.cells = wn at *
    clear h2 H2 X
    go_wp2_with fail
    exact bodyPost_ret (results_row3 rfl _ _ g2 25 (S.none.cells).toArray (0, 0) _ rfl HN.out undS rfl (by rw [List.size_toArray, cells_length _ none_dig]; exact size38)) rfl ⟨by rw [HV.out]; rfl, XN.out⟩
    -- A}
  have d6 : decide ((s.size : Int) < 6) = false := by rw [decide_eq_false_iff_not]; omega
  have hh := hd_two s (by omega)
  have h0 : 0 < s.size := by omega
  have h1 : 1 < s.size := by omega
  have ha := (s[0]'(by omega)).toNat_lt
  have hb := (s[1]'(by omega)).toNat_lt
  obtain ⟨a, hav⟩ : ∃ a : Nat, a = (s[0]'(by omega)).toNat := ⟨_, rfl⟩
  obtain ⟨b, hbv⟩ : ∃ b : Nat, b = (s[1]'(by omega)).toNat := ⟨_, rfl⟩
  have i0 : ∀ W, (Instr.index 9 (.string s) (.int .i64 0)).run Tryd.prog W = .ok (.int .u8 (a : Int)) W := by
    intro W
    rw [run_index_string (P := Tryd.prog) W _ _ _ _ Tryd.underlying9, dif_pos ⟨by decide, by omega⟩, hav]
    rfl
  have i1 : ∀ W, (Instr.index 9 (.string s) (.int .i64 1)).run Tryd.prog W = .ok (.int .u8 (b : Int)) W := by
    intro W
    rw [run_index_string (P := Tryd.prog) W _ _ _ _ Tryd.underlying9, dif_pos ⟨by decide, by omega⟩, hbv]
    rfl
  rw [← hav] at ha hh
  rw [← hbv] at hb hh
  have hor := or_low16 a b ha hb
  obtain ⟨n, hn⟩ : ∃ n : Nat, n = a * 256 + b := ⟨_, rfl⟩
  have hn2 : n ≤ 65535 := by omega
  rw [← hn] at hh hor
  clear hav hbv h0 h1
  have HH := Lib.hid hh
  clear hh hn
  go_upto_region 3 with (fail)
  go_quiet (fail)
  clear hor i0 i1 ha hb d6
  have H2n := Lib.hid (H2.out.drewN nq)
  have Xn := Lib.hid (X.out.trans (Reg.Ext.drewN wi nq))
  generalize wi.drewN nq = wj at *
  clear H2 X
  have H2 := H2n
  have X := Xn
  clear H2n Xn
  clear wi
  generalize wj = wi at *
  by_cases hz : n = 0
  · have HV : Hid (readV s.data.toList = .tuple #[.agg S.none.cells.toArray, .int .i64 0, .int .i64 3]) := by
      show readV _ = _
      unfold readV readP
      rw [if_neg (by omega), if_pos (.inl (HH.out.trans hz))]
      rfl
    have dz : ((n : Int) == 0) = true := by rw [beq_iff_eq]; omega
    clear HH hlen hz
    -- {B
    go_upto_region 5 with (fail)
    refine wp_region_lit ?_
    refine wpList_val rfl (.agg S.none.cells.toArray) (by as_aux_lemma => kernel_rfl) ?_
    simp only [Act.put, Act.eval, List.setIfInBounds_toArray, List.set_cons_zero, List.set_cons_succ, Nat.reduceAdd, Array.getD_eq_getD_getElem?, List.getElem?_toArray, List.getElem?_cons_succ, List.getElem?_cons_zero, Option.getD_some]
    have h2 := H2.out
    refine wpList_store_mid rfl 25 _ _ rfl g2 0 ((S.none).cells).toArray rfl ?_ (h2.there _ (by have e1 := cells_length _ none_dig; have e2 := cells_length _ none_dig; rw [List.size_toArray]; omega)) (by rw [List.size_toArray, cells_length _ none_dig]; exact size38) (all_oneCell_toArray (oneS _)) ?_
    · rfl
    simp only [List.toList_toArray]
    simp only [Act.put, Act.eval, List.setIfInBounds_toArray, List.set_cons_zero, List.set_cons_succ, Nat.reduceAdd, Array.getD_eq_getD_getElem?, List.getElem?_toArray, List.getElem?_cons_succ, List.getElem?_cons_zero, Option.getD_some]
    have HN := Lib.hid (h2.setAll S.none.cells rfl)
    have XN := Lib.hid (X.out.trans_but (But.setCells g2 S.none.cells 0 wi) l2)
    generalize wi.setCells g2 0 S.none.cells = wn at *
    clear h2 H2 X
    go_wp2_with fail
    exact bodyPost_ret (results_row3 rfl _ _ g2 25 (S.none.cells).toArray (0, 0) _ rfl HN.out undS rfl (by rw [List.size_toArray, cells_length _ none_dig]; exact size38)) rfl ⟨by rw [HV.out]; rfl, XN.out⟩
    -- B}
  have dz : ((n : Int) == 0) = false := by rw [Bool.eq_false_iff, ne_eq, beq_iff_eq]; omega
  by_cases hg : 1024 < n
  · have HV : Hid (readV s.data.toList = .tuple #[.agg S.none.cells.toArray, .int .i64 0, .int .i64 3]) := by
      show readV _ = _
      unfold readV readP
      rw [if_neg (by omega), if_pos (.inr (by rw [HH.out]; exact hg))]
      rfl
    have dg : decide ((1024 : Int) < (n : Int)) = true := by rw [decide_eq_true_iff]; omega
    clear HH hlen hz hg
    -- {C
    go_upto_region 5 with (fail)
    refine wp_region_lit ?_
    refine wpList_val rfl (.agg S.none.cells.toArray) (by as_aux_lemma => kernel_rfl) ?_
    simp only [Act.put, Act.eval, List.setIfInBounds_toArray, List.set_cons_zero, List.set_cons_succ, Nat.reduceAdd, Array.getD_eq_getD_getElem?, List.getElem?_toArray, List.getElem?_cons_succ, List.getElem?_cons_zero, Option.getD_some]
    have h2 := H2.out
    refine wpList_store_mid rfl 25 _ _ rfl g2 0 ((S.none).cells).toArray rfl ?_ (h2.there _ (by have e1 := cells_length _ none_dig; have e2 := cells_length _ none_dig; rw [List.size_toArray]; omega)) (by rw [List.size_toArray, cells_length _ none_dig]; exact size38) (all_oneCell_toArray (oneS _)) ?_
    · rfl
    simp only [List.toList_toArray]
    simp only [Act.put, Act.eval, List.setIfInBounds_toArray, List.set_cons_zero, List.set_cons_succ, Nat.reduceAdd, Array.getD_eq_getD_getElem?, List.getElem?_toArray, List.getElem?_cons_succ, List.getElem?_cons_zero, Option.getD_some]
    have HN := Lib.hid (h2.setAll S.none.cells rfl)
    have XN := Lib.hid (X.out.trans_but (But.setCells g2 S.none.cells 0 wi) l2)
    generalize wi.setCells g2 0 S.none.cells = wn at *
    clear h2 H2 X
    go_wp2_with fail
    exact bodyPost_ret (results_row3 rfl _ _ g2 25 (S.none.cells).toArray (0, 0) _ rfl HN.out undS rfl (by rw [List.size_toArray, cells_length _ none_dig]; exact size38)) rfl ⟨by rw [HV.out]; rfl, XN.out⟩
    -- C}
  have dg : decide ((1024 : Int) < (n : Int)) = false := by rw [decide_eq_false_iff_not]; omega
  by_cases hsh : s.size < 6 + n
  · have HV : Hid (readV s.data.toList = .tuple #[.agg S.none.cells.toArray, .int .i64 0, .int .i64 17]) := by
      show readV _ = _
      unfold readV readP
      rw [if_neg (by omega), HH.out, if_neg (by omega), if_pos (by omega)]
      rfl
    have ds : decide ((s.size : Int) - 6 < (n : Int)) = true := by rw [decide_eq_true_iff]; omega
    clear HH hlen hz hg hsh
    -- {D
    go_upto_region 7 with (fail)
    refine wp_region_lit ?_
    refine wpList_val rfl (.agg S.none.cells.toArray) (by as_aux_lemma => kernel_rfl) ?_
    simp only [Act.put, Act.eval, List.setIfInBounds_toArray, List.set_cons_zero, List.set_cons_succ, Nat.reduceAdd, Array.getD_eq_getD_getElem?, List.getElem?_toArray, List.getElem?_cons_succ, List.getElem?_cons_zero, Option.getD_some]
    have h2 := H2.out
    refine wpList_store_mid rfl 25 _ _ rfl g2 0 ((S.none).cells).toArray rfl ?_ (h2.there _ (by have e1 := cells_length _ none_dig; have e2 := cells_length _ none_dig; rw [List.size_toArray]; omega)) (by rw [List.size_toArray, cells_length _ none_dig]; exact size38) (all_oneCell_toArray (oneS _)) ?_
    · rfl
    simp only [List.toList_toArray]
    simp only [Act.put, Act.eval, List.setIfInBounds_toArray, List.set_cons_zero, List.set_cons_succ, Nat.reduceAdd, Array.getD_eq_getD_getElem?, List.getElem?_toArray, List.getElem?_cons_succ, List.getElem?_cons_zero, Option.getD_some]
    have HN := Lib.hid (h2.setAll S.none.cells rfl)
    have XN := Lib.hid (X.out.trans_but (But.setCells g2 S.none.cells 0 wi) l2)
    generalize wi.setCells g2 0 S.none.cells = wn at *
    clear h2 H2 X
    go_wp2_with fail
    exact bodyPost_ret (results_row3 rfl _ _ g2 25 (S.none.cells).toArray (0, 0) _ rfl HN.out undS rfl (by rw [List.size_toArray, cells_length _ none_dig]; exact size38)) rfl ⟨by rw [HV.out]; rfl, XN.out⟩
    -- D}
  have ds : decide ((s.size : Int) - 6 < (n : Int)) = false := by rw [decide_eq_false_iff_not]; omega
  have hle : 6 + n ≤ s.size := by omega
  have hnb : n ≤ 1024 := by omega
  obtain ⟨R, hR⟩ : ∃ R, R = s.extract 0 (6 + n) := ⟨_, rfl⟩
  have hRl : R.data.toList = s.data.toList.take (6 + n) := by rw [hR, ext_to]
  obtain ⟨B, hB⟩ : ∃ B, B = s.extract 6 (6 + n) := ⟨_, rfl⟩
  have hBl : B.data.toList = (s.data.toList.drop 6).take n := by
    rw [hB, ext_data]
    congr 1
    omega
  have hBs : B.size = n := by rw [hB, ByteArray.size_extract]; omega
  have HV : Hid (readV s.data.toList = if frame B.data.toList ≠ R.data.toList then .tuple #[.agg S.none.cells.toArray, .int .i64 0, .int .i64 5] else match parse B.data.toList with | none => .tuple #[.agg S.none.cells.toArray, .int .i64 0, .int .i64 3] | some x => .tuple #[.agg x.cells.toArray, .int .i64 ((6 + n : Nat) : Int), .int .i64 0]) := by
    show readV _ = _
    unfold readV readP
    rw [if_neg (by omega), HH.out, if_neg (by omega), if_neg (by omega), hRl, hBl]
    by_cases hq : frame ((s.data.toList.drop 6).take n) ≠ s.data.toList.take (6 + n)
    · rw [if_pos hq, if_pos hq]; rfl
    · rw [if_neg hq, if_neg hq]
      cases parse ((s.data.toList.drop 6).take n) <;> rfl
  have hFl : (⟨(frame B.data.toList).toArray⟩ : ByteArray).data.toList = frame B.data.toList := lst _
  have CF := Lib.hid (fun w => framedR_any B w (by omega))
  have CP := Lib.hid (fun w => parseR_any B w (by omega))
  have hR2 := hR
  have hB2 := hB
  clear HH hlen hsh hz hg hBl hBs hRl hR hB
  go_upto_region 9 with (fail)
  rw [← hB2]
  clear hB2
  obtain ⟨F, hF⟩ : ∃ F : ByteArray, F = ⟨(frame B.data.toList).toArray⟩ := ⟨_, rfl⟩
  rw [← hF] at hFl CF
  have HFL := Lib.hid hFl
  clear hFl hF dz dg ds
  have hsl : ∀ W, (Instr.sliceAt 9 (.string s) none (some (.int .i64 (6 + (n : Int)))) none).run Tryd.prog W = .ok (.string R) W := fun W => by
    have h := run_slice_string_h (P := Tryd.prog) W 9 s Tryd.underlying9 .i64 (6 + (n : Int)) (by omega) (by omega)
    rw [hR2, show 6 + n = (6 + (n : Int)).toNat by omega]
    exact h
  clear hR2
  by_cases hq : frame B.data.toList = R.data.toList
  · have dq : (F.toList == R.toList) = true := by
      rw [ByteArray.toList_eq, ByteArray.toList_eq, HFL.out, beq_iff_eq]
      exact hq
    rw [if_neg (by simp [hq])] at HV
    clear hq HFL
    apply Reg.wp_tab Reg.Ext (by kernel_rfl) (by kernel_rfl) Reg.Ext.refl (fun _ _ _ => Reg.Ext.trans) (Reg.Ext.drew _)
    case' h => intro O
    repeat (first
      | (apply Reg.TW.move_ Reg.Ext.refl _ rfl rfl
         · simp only [Act.put, Act.eval, List.setIfInBounds_toArray, List.set_cons_zero, List.set_cons_succ, Nat.reduceAdd, Array.getD_eq_getD_getElem?, List.getElem?_toArray, List.getElem?_cons_succ, List.getElem?_cons_zero, Option.getD_some]
           rfl)
      | (apply Reg.TW.assign_ Reg.Ext.refl _ rfl rfl
         · simp only [Act.put, Act.eval, List.setIfInBounds_toArray, List.set_cons_zero, List.set_cons_succ, Nat.reduceAdd, Array.getD_eq_getD_getElem?, List.getElem?_toArray, List.getElem?_cons_succ, List.getElem?_cons_zero, Option.getD_some]
           rfl)
      | (apply Reg.TW.skip_ rfl
         · simp only [Act.put, Act.eval, List.setIfInBounds_toArray, List.set_cons_zero, List.set_cons_succ, Nat.reduceAdd, Array.getD_eq_getD_getElem?, List.getElem?_toArray, List.getElem?_cons_succ, List.getElem?_cons_zero, Option.getD_some]
           rfl)
      | (apply Reg.TW.pure_ rfl
         · intro w1 hw1 hf K hK
           simp only [Act.put, List.setIfInBounds_toArray, List.set_cons_zero, List.set_cons_succ] at hK
           have HK := Lib.hid hK
           clear hf hK
           unfold Reg.One; dsimp only
           go_wp2_with fail
           exact HK.out _ (Reg.Ext.refl _)
         · simp only [Act.put, Act.eval, List.setIfInBounds_toArray, List.set_cons_zero, List.set_cons_succ, Nat.reduceAdd, Array.getD_eq_getD_getElem?, List.getElem?_toArray, List.getElem?_cons_succ, List.getElem?_cons_zero, Option.getD_some]
           rfl))
    apply Reg.TW.call_ (c := .string F) (fun _ => True) rfl (fun _ _ _ h => h)
    · intro w1 hw1 hf K hK
      simp only [Act.put, List.setIfInBounds_toArray, List.set_cons_zero, List.set_cons_succ] at hK
      have HK := Lib.hid hK
      clear hK
      unfold Reg.One; dsimp only
      go_wp2_with fail
      refine (CF.out _).mono ?_
      rintro e w' ⟨rfl, hx⟩
      go_wp2_with fail
      exact HK.out _ hx trivial
    · simp only [Act.put, Act.eval, List.setIfInBounds_toArray, List.set_cons_zero, List.set_cons_succ, Nat.reduceAdd, Array.getD_eq_getD_getElem?, List.getElem?_toArray, List.getElem?_cons_succ, List.getElem?_cons_zero, Option.getD_some]
      rfl
    repeat (first
      | (apply Reg.TW.move_ Reg.Ext.refl _ rfl rfl
         · simp only [Act.put, Act.eval, List.setIfInBounds_toArray, List.set_cons_zero, List.set_cons_succ, Nat.reduceAdd, Array.getD_eq_getD_getElem?, List.getElem?_toArray, List.getElem?_cons_succ, List.getElem?_cons_zero, Option.getD_some]
           rfl)
      | (apply Reg.TW.assign_ Reg.Ext.refl _ rfl rfl
         · simp only [Act.put, Act.eval, List.setIfInBounds_toArray, List.set_cons_zero, List.set_cons_succ, Nat.reduceAdd, Array.getD_eq_getD_getElem?, List.getElem?_toArray, List.getElem?_cons_succ, List.getElem?_cons_zero, Option.getD_some]
           rfl)
      | (apply Reg.TW.skip_ rfl
         · simp only [Act.put, Act.eval, List.setIfInBounds_toArray, List.set_cons_zero, List.set_cons_succ, Nat.reduceAdd, Array.getD_eq_getD_getElem?, List.getElem?_toArray, List.getElem?_cons_succ, List.getElem?_cons_zero, Option.getD_some]
           rfl)
      | (apply Reg.TW.pure_ rfl
         · intro w1 hw1 hf K hK
           simp only [Act.put, List.setIfInBounds_toArray, List.set_cons_zero, List.set_cons_succ] at hK
           have HK := Lib.hid hK
           clear hf hK
           unfold Reg.One; dsimp only
           go_wp2_with fail
           exact HK.out _ (Reg.Ext.refl _)
         · simp only [Act.put, Act.eval, List.setIfInBounds_toArray, List.set_cons_zero, List.set_cons_succ, Nat.reduceAdd, Array.getD_eq_getD_getElem?, List.getElem?_toArray, List.getElem?_cons_succ, List.getElem?_cons_zero, Option.getD_some]
           rfl))
    refine Reg.TW.nil_ ?_
    intro wj xj _
    have H2n := Lib.hid (H2.out.ext xj)
    have Xn := Lib.hid (X.out.trans xj)
    clear H2 X CF xj hsl
    have H2 := H2n
    have X := Xn
    clear H2n Xn
    try clear wi
    generalize wj = wi at *
    cases hp : parse B.data.toList with
    | none =>
      have hpv : parseV B.data.toList = .tuple #[.agg S.none.cells.toArray, .bool false] := by unfold parseV; rw [hp]
      rw [hp] at HV
      rw [hpv] at CP
      clear hp hpv
      have hx : S.none.dig.length = 32 := none_dig
      go_upto_region 11 with (fail)
      go_wp2_with fail
      refine (CP.out _).mono ?_
      rintro e wj ⟨rfl, xj⟩
      rename_i hK
      refine hK _ _ ?_
      have H2n := Lib.hid (H2.out.ext xj)
      have Xn := Lib.hid (X.out.trans xj)
      clear H2 X CP xj
      have H2 := H2n
      have X := Xn
      clear H2n Xn
      try clear wi
      iterate 12 go_step
      rw [z38]
      have hb8 := boxS wj S.none
      have hx8 := Reg.Ext.alloc wj (Obj.cells S.none.cells.toArray 25)
      have hs8 := H2.out.lt
      have hsx := X.out.size
      generalize wj.alloc (Obj.cells S.none.cells.toArray 25) = w8 at *
      generalize wj.heap.size = g8 at *
      refine wpList_store_mid rfl 25 _ _ rfl g8 0 ((S.none).cells).toArray rfl ?_ (hb8.there _ (by have e1 := cells_length _ hx; have e2 := cells_length _ none_dig; rw [List.size_toArray]; omega)) (by rw [List.size_toArray, cells_length _ hx]; exact size38) (all_oneCell_toArray (oneS _)) ?_
      · rfl
      simp only [List.toList_toArray]
      simp only [Act.put, Act.eval, List.setIfInBounds_toArray, List.set_cons_zero, List.set_cons_succ, Nat.reduceAdd, Array.getD_eq_getD_getElem?, List.getElem?_toArray, List.getElem?_cons_succ, List.getElem?_cons_zero, Option.getD_some]
      have hbx := But.setCells g8 (S.none).cells 0 w8
      have H8 := Lib.hid (hb8.setAll (S.none).cells ((cells_length _ hx).trans (cells_length _ none_dig).symm))
      have H2n := Lib.hid ((H2.out.ext hx8).but hbx (by omega))
      have Xn := Lib.hid ((X.out.trans hx8).trans_but hbx hsx)
      clear H2 X hb8 hx8 hbx
      have H2 := H2n
      have X := Xn
      clear H2n Xn
      generalize w8.setCells g8 0 (S.none).cells = wi at *
      clear wj
      go_upto_region 13 with (fail)
      refine wp_region_lit ?_
      have h8 := H8.out
      have h2 := H2.out
      refine wpList_load_row rfl 25 _ rfl g8 rfl 25 (S.none.cells).toArray (0, 0) _ h8 undS rfl (by rw [List.size_toArray, cells_length _ none_dig]; exact size38) ?_
      simp only [Act.put, Act.eval, List.setIfInBounds_toArray, List.set_cons_zero, List.set_cons_succ, Nat.reduceAdd, Array.getD_eq_getD_getElem?, List.getElem?_toArray, List.getElem?_cons_succ, List.getElem?_cons_zero, Option.getD_some]
      refine wpList_store_mid rfl 25 _ _ rfl g2 0 ((S.none).cells).toArray rfl ?_ (h2.there _ (by have e1 := cells_length _ none_dig; have e2 := cells_length _ none_dig; rw [List.size_toArray]; omega)) (by rw [List.size_toArray, cells_length _ none_dig]; exact size38) (all_oneCell_toArray (oneS _)) ?_
      · rfl
      simp only [List.toList_toArray]
      simp only [Act.put, Act.eval, List.setIfInBounds_toArray, List.set_cons_zero, List.set_cons_succ, Nat.reduceAdd, Array.getD_eq_getD_getElem?, List.getElem?_toArray, List.getElem?_cons_succ, List.getElem?_cons_zero, Option.getD_some]
      have HN := Lib.hid (h2.setAll S.none.cells rfl)
      have XN := Lib.hid (X.out.trans_but (But.setCells g2 S.none.cells 0 wi) l2)
      generalize wi.setCells g2 0 S.none.cells = wn at *
      clear h2 h8 H2 X H8
      go_wp2_with fail
      exact bodyPost_ret (results_row3 rfl _ _ g2 25 (S.none.cells).toArray (0, 0) _ rfl HN.out undS rfl (by rw [List.size_toArray, cells_length _ none_dig]; exact size38)) rfl ⟨by rw [HV.out]; rfl, XN.out⟩
    | some x =>
      have hpv : parseV B.data.toList = .tuple #[.agg x.cells.toArray, .bool true] := by unfold parseV; rw [hp]
      have hx := (parse_dig hp).1
      rw [hp] at HV
      rw [hpv] at CP
      clear hp hpv
      go_upto_region 11 with (fail)
      go_wp2_with fail
      refine (CP.out _).mono ?_
      rintro e wj ⟨rfl, xj⟩
      rename_i hK
      refine hK _ _ ?_
      have H2n := Lib.hid (H2.out.ext xj)
      have Xn := Lib.hid (X.out.trans xj)
      clear H2 X CP xj
      have H2 := H2n
      have X := Xn
      clear H2n Xn
      try clear wi
      iterate 12 go_step
      rw [z38]
      have hb8 := boxS wj S.none
      have hx8 := Reg.Ext.alloc wj (Obj.cells S.none.cells.toArray 25)
      have hs8 := H2.out.lt
      have hsx := X.out.size
      generalize wj.alloc (Obj.cells S.none.cells.toArray 25) = w8 at *
      generalize wj.heap.size = g8 at *
      refine wpList_store_mid rfl 25 _ _ rfl g8 0 ((x).cells).toArray rfl ?_ (hb8.there _ (by have e1 := cells_length _ hx; have e2 := cells_length _ none_dig; rw [List.size_toArray]; omega)) (by rw [List.size_toArray, cells_length _ hx]; exact size38) (all_oneCell_toArray (oneS _)) ?_
      · rfl
      simp only [List.toList_toArray]
      simp only [Act.put, Act.eval, List.setIfInBounds_toArray, List.set_cons_zero, List.set_cons_succ, Nat.reduceAdd, Array.getD_eq_getD_getElem?, List.getElem?_toArray, List.getElem?_cons_succ, List.getElem?_cons_zero, Option.getD_some]
      have hbx := But.setCells g8 (x).cells 0 w8
      have H8 := Lib.hid (hb8.setAll (x).cells ((cells_length _ hx).trans (cells_length _ none_dig).symm))
      have H2n := Lib.hid ((H2.out.ext hx8).but hbx (by omega))
      have Xn := Lib.hid ((X.out.trans hx8).trans_but hbx hsx)
      clear H2 X hb8 hx8 hbx
      have H2 := H2n
      have X := Xn
      clear H2n Xn
      generalize w8.setCells g8 0 (x).cells = wi at *
      clear wj
      go_upto_region 14 with (fail)
      refine wp_region_lit ?_
      have h8 := H8.out
      have h2 := H2.out
      refine wpList_load_row rfl 25 _ rfl g8 rfl 25 (x.cells).toArray (0, 0) _ h8 undS rfl (by rw [List.size_toArray, cells_length x hx]; exact size38) ?_
      simp only [Act.put, Act.eval, List.setIfInBounds_toArray, List.set_cons_zero, List.set_cons_succ, Nat.reduceAdd, Array.getD_eq_getD_getElem?, List.getElem?_toArray, List.getElem?_cons_succ, List.getElem?_cons_zero, Option.getD_some]
      iterate 6 go_step
      refine wpList_store_mid rfl 25 _ _ rfl g2 0 ((x).cells).toArray rfl ?_ (h2.there _ (by have e1 := cells_length _ hx; have e2 := cells_length _ none_dig; rw [List.size_toArray]; omega)) (by rw [List.size_toArray, cells_length _ hx]; exact size38) (all_oneCell_toArray (oneS _)) ?_
      · rfl
      simp only [List.toList_toArray]
      simp only [Act.put, Act.eval, List.setIfInBounds_toArray, List.set_cons_zero, List.set_cons_succ, Nat.reduceAdd, Array.getD_eq_getD_getElem?, List.getElem?_toArray, List.getElem?_cons_succ, List.getElem?_cons_zero, Option.getD_some]
      have HN := Lib.hid (h2.setAll x.cells ((cells_length _ hx).trans (cells_length _ none_dig).symm))
      have XN := Lib.hid (X.out.trans_but (But.setCells g2 x.cells 0 wi) l2)
      generalize wi.setCells g2 0 x.cells = wn at *
      clear h2 h8 H2 X H8
      go_wp2_with fail
      exact bodyPost_ret (results_row3 rfl _ _ g2 25 (x.cells).toArray (0, 0) _ rfl HN.out undS rfl (by rw [List.size_toArray, cells_length _ hx]; exact size38)) rfl ⟨by rw [HV.out]; (first | rfl | simp), XN.out⟩
    all_goals rfl
  · have dq : (F.toList == R.toList) = false := by
      rw [ByteArray.toList_eq, ByteArray.toList_eq, HFL.out, Bool.eq_false_iff, ne_eq, beq_iff_eq]
      exact hq
    rw [if_pos hq] at HV
    clear hq HFL CP
    apply Reg.wp_tab Reg.Ext (by kernel_rfl) (by kernel_rfl) Reg.Ext.refl (fun _ _ _ => Reg.Ext.trans) (Reg.Ext.drew _)
    case' h => intro O
    repeat (first
      | (apply Reg.TW.move_ Reg.Ext.refl _ rfl rfl
         · simp only [Act.put, Act.eval, List.setIfInBounds_toArray, List.set_cons_zero, List.set_cons_succ, Nat.reduceAdd, Array.getD_eq_getD_getElem?, List.getElem?_toArray, List.getElem?_cons_succ, List.getElem?_cons_zero, Option.getD_some]
           rfl)
      | (apply Reg.TW.assign_ Reg.Ext.refl _ rfl rfl
         · simp only [Act.put, Act.eval, List.setIfInBounds_toArray, List.set_cons_zero, List.set_cons_succ, Nat.reduceAdd, Array.getD_eq_getD_getElem?, List.getElem?_toArray, List.getElem?_cons_succ, List.getElem?_cons_zero, Option.getD_some]
           rfl)
      | (apply Reg.TW.skip_ rfl
         · simp only [Act.put, Act.eval, List.setIfInBounds_toArray, List.set_cons_zero, List.set_cons_succ, Nat.reduceAdd, Array.getD_eq_getD_getElem?, List.getElem?_toArray, List.getElem?_cons_succ, List.getElem?_cons_zero, Option.getD_some]
           rfl)
      | (apply Reg.TW.pure_ rfl
         · intro w1 hw1 hf K hK
           simp only [Act.put, List.setIfInBounds_toArray, List.set_cons_zero, List.set_cons_succ] at hK
           have HK := Lib.hid hK
           clear hf hK
           unfold Reg.One; dsimp only
           go_wp2_with fail
           exact HK.out _ (Reg.Ext.refl _)
         · simp only [Act.put, Act.eval, List.setIfInBounds_toArray, List.set_cons_zero, List.set_cons_succ, Nat.reduceAdd, Array.getD_eq_getD_getElem?, List.getElem?_toArray, List.getElem?_cons_succ, List.getElem?_cons_zero, Option.getD_some]
           rfl))
    apply Reg.TW.call_ (c := .string F) (fun _ => True) rfl (fun _ _ _ h => h)
    · intro w1 hw1 hf K hK
      simp only [Act.put, List.setIfInBounds_toArray, List.set_cons_zero, List.set_cons_succ] at hK
      have HK := Lib.hid hK
      clear hK
      unfold Reg.One; dsimp only
      go_wp2_with fail
      refine (CF.out _).mono ?_
      rintro e w' ⟨rfl, hx⟩
      go_wp2_with fail
      exact HK.out _ hx trivial
    · simp only [Act.put, Act.eval, List.setIfInBounds_toArray, List.set_cons_zero, List.set_cons_succ, Nat.reduceAdd, Array.getD_eq_getD_getElem?, List.getElem?_toArray, List.getElem?_cons_succ, List.getElem?_cons_zero, Option.getD_some]
      rfl
    repeat (first
      | (apply Reg.TW.move_ Reg.Ext.refl _ rfl rfl
         · simp only [Act.put, Act.eval, List.setIfInBounds_toArray, List.set_cons_zero, List.set_cons_succ, Nat.reduceAdd, Array.getD_eq_getD_getElem?, List.getElem?_toArray, List.getElem?_cons_succ, List.getElem?_cons_zero, Option.getD_some]
           rfl)
      | (apply Reg.TW.assign_ Reg.Ext.refl _ rfl rfl
         · simp only [Act.put, Act.eval, List.setIfInBounds_toArray, List.set_cons_zero, List.set_cons_succ, Nat.reduceAdd, Array.getD_eq_getD_getElem?, List.getElem?_toArray, List.getElem?_cons_succ, List.getElem?_cons_zero, Option.getD_some]
           rfl)
      | (apply Reg.TW.skip_ rfl
         · simp only [Act.put, Act.eval, List.setIfInBounds_toArray, List.set_cons_zero, List.set_cons_succ, Nat.reduceAdd, Array.getD_eq_getD_getElem?, List.getElem?_toArray, List.getElem?_cons_succ, List.getElem?_cons_zero, Option.getD_some]
           rfl)
      | (apply Reg.TW.pure_ rfl
         · intro w1 hw1 hf K hK
           simp only [Act.put, List.setIfInBounds_toArray, List.set_cons_zero, List.set_cons_succ] at hK
           have HK := Lib.hid hK
           clear hf hK
           unfold Reg.One; dsimp only
           go_wp2_with fail
           exact HK.out _ (Reg.Ext.refl _)
         · simp only [Act.put, Act.eval, List.setIfInBounds_toArray, List.set_cons_zero, List.set_cons_succ, Nat.reduceAdd, Array.getD_eq_getD_getElem?, List.getElem?_toArray, List.getElem?_cons_succ, List.getElem?_cons_zero, Option.getD_some]
           rfl))
    refine Reg.TW.nil_ ?_
    intro wj xj _
    have H2n := Lib.hid (H2.out.ext xj)
    have Xn := Lib.hid (X.out.trans xj)
    clear H2 X CF xj hsl
    have H2 := H2n
    have X := Xn
    clear H2n Xn
    try clear wi
    generalize wj = wi at *
    go_upto_region 10 with (fail)
    refine wp_region_lit ?_
    refine wpList_val rfl (.agg S.none.cells.toArray) (by as_aux_lemma => kernel_rfl) ?_
    simp only [Act.put, Act.eval, List.setIfInBounds_toArray, List.set_cons_zero, List.set_cons_succ, Nat.reduceAdd, Array.getD_eq_getD_getElem?, List.getElem?_toArray, List.getElem?_cons_succ, List.getElem?_cons_zero, Option.getD_some]
    have h2 := H2.out
    refine wpList_store_mid rfl 25 _ _ rfl g2 0 ((S.none).cells).toArray rfl ?_ (h2.there _ (by have e1 := cells_length _ none_dig; have e2 := cells_length _ none_dig; rw [List.size_toArray]; omega)) (by rw [List.size_toArray, cells_length _ none_dig]; exact size38) (all_oneCell_toArray (oneS _)) ?_
    · rfl
    simp only [List.toList_toArray]
    simp only [Act.put, Act.eval, List.setIfInBounds_toArray, List.set_cons_zero, List.set_cons_succ, Nat.reduceAdd, Array.getD_eq_getD_getElem?, List.getElem?_toArray, List.getElem?_cons_succ, List.getElem?_cons_zero, Option.getD_some]
    have HN := Lib.hid (h2.setAll S.none.cells rfl)
    have XN := Lib.hid (X.out.trans_but (But.setCells g2 S.none.cells 0 wi) l2)
    generalize wi.setCells g2 0 S.none.cells = wn at *
    clear h2 H2 X
    go_wp2_with fail
    exact bodyPost_ret (results_row3 rfl _ _ g2 25 (S.none.cells).toArray (0, 0) _ rfl HN.out undS rfl (by rw [List.size_toArray, cells_length _ none_dig]; exact size38)) rfl ⟨by rw [HV.out]; rfl, XN.out⟩
    all_goals rfl
end Slp
end Go.Proofs.YtbeghdoffiidoaaDoor
