/- The walk of SlipWrites. -/
import Derived.Test.YtbeghdoffiidoaaDoorSlipBack
import Derived.Test.YtbeghdoffiidoaaDoorSlipGoodR
import Derived.Test.YtbeghdoffiidoaaDoorSlipRef3
set_option linter.unusedSimpArgs false
set_option linter.unusedVariables false
set_option linter.unusedSectionVars false
namespace Go.Proofs.YtbeghdoffiidoaaDoor
open Go.RowKit
namespace Slp
set_option maxRecDepth 100000 in
set_option maxHeartbeats 4000000 in
theorem writes_law (x : S) (hx : x.dig.length = 32) (w : World) (hT : Crc.Tab w) :
    Calls Tryd.prog 3 #[.agg x.cells.toArray] w fun e w' => e = .returned (.bool true) ∧ Reg.Ext w w' := by
  have HT := Lib.hid hT
  clear hT
  have hb1 := boxS w x
  have hx1 := Reg.Ext.alloc w (Obj.cells x.cells.toArray 25)
  go_enter Tryd.func3, Tryd.ntmps3
  go_upto_region 1 with (fail)
  generalize w.alloc (Obj.cells x.cells.toArray 25) = w1 at *
  generalize hg1 : w.heap.size = g1 at *
  have H1 := Lib.hid hb1
  have X := Lib.hid hx1
  clear hb1 hx1 hg1
  have CA := Lib.hid (awake_any w1 (HT.out.below X.out))
  go_wp2_with fail
  refine (CA.out).mono ?_
  rintro e wi ⟨rfl, xj⟩
  have Xn := Lib.hid (X.out.trans xj)
  have H1n := Lib.hid (H1.out.ext xj)
  clear X H1 xj CA
  have X := Xn
  have H1 := H1n
  clear Xn H1n
  have CG := Lib.hid (fun w => great_any x hx w)
  go_upto_region 3 with (fail)
  refine wp_region_lit ?_
  repeat (first | refine wpList_ldr rfl _ _ rfl g1 rfl _ _ _ H1 undS (by rw [cells_length x hx]; exact size38) ?_ | go_step)
  refine (CG.out wi).mono ?_
  rintro e wj ⟨rfl, xj⟩
  rename_i hK
  refine hK _ _ ?_
  have Xn := Lib.hid (X.out.trans xj)
  have H1n := Lib.hid (H1.out.ext xj)
  clear X H1 xj
  have X := Xn
  have H1 := H1n
  clear Xn H1n
  try clear wi
  generalize wj = wi at *
  clear CG
  cases hgr : great x with
  | true =>
    go_wp2_with fail
    go_ret
    exact ⟨rfl, X.out⟩
  | false =>
    clear hgr
    have CW := Lib.hid (write_any x hx wi (HT.out.below X.out))
    go_upto_region 5 with (fail)
    refine wp_region_lit ?_
    repeat (first | refine wpList_ldr rfl _ _ rfl g1 rfl _ _ _ H1 undS (by rw [cells_length x hx]; exact size38) ?_ | go_step)
    refine (CW.out).mono ?_
    rintro e wj ⟨rfl, xj⟩
    rename_i hK
    refine hK _ _ ?_
    have Xn := Lib.hid (X.out.trans xj)
    have H1n := Lib.hid (H1.out.ext xj)
    clear X H1 xj
    have X := Xn
    have H1 := H1n
    clear Xn H1n
    try clear wi
    generalize wj = wi at *
    clear CW
    have C1 := Lib.hid (fun w => good_any x hx w)
    have C2 := Lib.hid (fun w => goodR_any x hx w)
    cases hg : good x with
    | false =>
      rw [hg] at C1 C2
      have e1 : wS x = ⟨#[]⟩ := by unfold wS; rw [hg]; rfl
      have e2 : wE x = 1 := by unfold wE; rw [hg]; rfl
      rw [e1, e2]
      clear e1 e2 hg
      go_upto_region 6 with (fail)
      apply Reg.wp_tab Reg.Ext (by kernel_rfl) (by kernel_rfl) Reg.Ext.refl (fun _ _ _ => Reg.Ext.trans) (Reg.Ext.drew _)
      case h =>
        intro O
        repeat (first
          | (apply Reg.TW.move_ Reg.Ext.refl _ rfl rfl
             · simp only [Act.put, Act.eval, List.setIfInBounds_toArray, List.set_cons_zero, List.set_cons_succ, Nat.reduceAdd, Array.getD_eq_getD_getElem?, List.getElem?_toArray, List.getElem?_cons_succ, List.getElem?_cons_zero, Option.getD_some]
               rfl)
          | (apply Reg.TW.assign_ Reg.Ext.refl _ rfl rfl
             · simp only [Act.put, Act.eval, List.setIfInBounds_toArray, List.set_cons_zero, List.set_cons_succ, Nat.reduceAdd, Array.getD_eq_getD_getElem?, List.getElem?_toArray, List.getElem?_cons_succ, List.getElem?_cons_zero, Option.getD_some]
               rfl)
          | (apply Reg.TW.skip_ rfl
             · simp only [Act.put, Act.eval, List.setIfInBounds_toArray, List.set_cons_zero, List.set_cons_succ, Nat.reduceAdd, Array.getD_eq_getD_getElem?, List.getElem?_toArray, List.getElem?_cons_succ, List.getElem?_cons_zero, Option.getD_some]
               rfl)
          | (apply Reg.TW.pure_ rfl
             · intro w1 hw1 hf K hK
               simp only [Act.put, List.setIfInBounds_toArray, List.set_cons_zero, List.set_cons_succ] at hK
               have HK := Lib.hid hK
               clear hf hK
               unfold Reg.One; dsimp only
               go_wp2_with fail
               exact HK.out _ (Reg.Ext.refl _)
             · simp only [Act.put, Act.eval, List.setIfInBounds_toArray, List.set_cons_zero, List.set_cons_succ, Nat.reduceAdd, Array.getD_eq_getD_getElem?, List.getElem?_toArray, List.getElem?_cons_succ, List.getElem?_cons_zero, Option.getD_some]
               rfl))
        apply Reg.TW.pure_ (c := .agg x.cells.toArray) rfl
        · intro w1 hw1 hf K hK
          simp only [Act.put, List.setIfInBounds_toArray, List.set_cons_zero, List.set_cons_succ] at hK
          have HK := Lib.hid hK
          clear hK
          unfold Reg.One; dsimp only
          refine wpList_ldr rfl _ _ rfl g1 rfl _ _ _ (Lib.hid (H1.out.ext hw1)) undS (by rw [cells_length x hx]; exact size38) ?_
          simp only [Act.put, Act.eval, List.setIfInBounds_toArray, List.set_cons_zero, List.set_cons_succ, Nat.reduceAdd, Array.getD_eq_getD_getElem?, List.getElem?_toArray, List.getElem?_cons_succ, List.getElem?_cons_zero, Option.getD_some]
          go_wp2_with fail
          exact HK.out _ (Reg.Ext.refl _)
        · simp only [Act.put, Act.eval, List.setIfInBounds_toArray, List.set_cons_zero, List.set_cons_succ, Nat.reduceAdd, Array.getD_eq_getD_getElem?, List.getElem?_toArray, List.getElem?_cons_succ, List.getElem?_cons_zero, Option.getD_some]
          rfl
        apply Reg.TW.call_ (c := .bool false) (fun _ => True) rfl (fun _ _ _ h => h)
        · intro w1 hw1 hf K hK
          simp only [Act.put, List.setIfInBounds_toArray, List.set_cons_zero, List.set_cons_succ] at hK
          have HK := Lib.hid hK
          clear hK
          unfold Reg.One; dsimp only
          go_wp2_with fail
          refine (C1.out _).mono ?_
          rintro e w' ⟨rfl, hx⟩
          go_wp2_with fail
          exact HK.out _ hx trivial
        · simp only [Act.put, Act.eval, List.setIfInBounds_toArray, List.set_cons_zero, List.set_cons_succ, Nat.reduceAdd, Array.getD_eq_getD_getElem?, List.getElem?_toArray, List.getElem?_cons_succ, List.getElem?_cons_zero, Option.getD_some]
          rfl
        apply Reg.TW.pure_ (c := .agg x.cells.toArray) rfl
        · intro w1 hw1 hf K hK
          simp only [Act.put, List.setIfInBounds_toArray, List.set_cons_zero, List.set_cons_succ] at hK
          have HK := Lib.hid hK
          clear hK
          unfold Reg.One; dsimp only
          refine wpList_ldr rfl _ _ rfl g1 rfl _ _ _ (Lib.hid (H1.out.ext hw1)) undS (by rw [cells_length x hx]; exact size38) ?_
          simp only [Act.put, Act.eval, List.setIfInBounds_toArray, List.set_cons_zero, List.set_cons_succ, Nat.reduceAdd, Array.getD_eq_getD_getElem?, List.getElem?_toArray, List.getElem?_cons_succ, List.getElem?_cons_zero, Option.getD_some]
          go_wp2_with fail
          exact HK.out _ (Reg.Ext.refl _)
        · simp only [Act.put, Act.eval, List.setIfInBounds_toArray, List.set_cons_zero, List.set_cons_succ, Nat.reduceAdd, Array.getD_eq_getD_getElem?, List.getElem?_toArray, List.getElem?_cons_succ, List.getElem?_cons_zero, Option.getD_some]
          rfl
        apply Reg.TW.call_ (c := .bool false) (fun _ => True) rfl (fun _ _ _ h => h)
        · intro w1 hw1 hf K hK
          simp only [Act.put, List.setIfInBounds_toArray, List.set_cons_zero, List.set_cons_succ] at hK
          have HK := Lib.hid hK
          clear hK
          unfold Reg.One; dsimp only
          go_wp2_with fail
          refine (C2.out _).mono ?_
          rintro e w' ⟨rfl, hx⟩
          go_wp2_with fail
          exact HK.out _ hx trivial
        · simp only [Act.put, Act.eval, List.setIfInBounds_toArray, List.set_cons_zero, List.set_cons_succ, Nat.reduceAdd, Array.getD_eq_getD_getElem?, List.getElem?_toArray, List.getElem?_cons_succ, List.getElem?_cons_zero, Option.getD_some]
          rfl
        repeat (first
          | (apply Reg.TW.move_ Reg.Ext.refl _ rfl rfl
             · simp only [Act.put, Act.eval, List.setIfInBounds_toArray, List.set_cons_zero, List.set_cons_succ, Nat.reduceAdd, Array.getD_eq_getD_getElem?, List.getElem?_toArray, List.getElem?_cons_succ, List.getElem?_cons_zero, Option.getD_some]
               rfl)
          | (apply Reg.TW.assign_ Reg.Ext.refl _ rfl rfl
             · simp only [Act.put, Act.eval, List.setIfInBounds_toArray, List.set_cons_zero, List.set_cons_succ, Nat.reduceAdd, Array.getD_eq_getD_getElem?, List.getElem?_toArray, List.getElem?_cons_succ, List.getElem?_cons_zero, Option.getD_some]
               rfl)
          | (apply Reg.TW.skip_ rfl
             · simp only [Act.put, Act.eval, List.setIfInBounds_toArray, List.set_cons_zero, List.set_cons_succ, Nat.reduceAdd, Array.getD_eq_getD_getElem?, List.getElem?_toArray, List.getElem?_cons_succ, List.getElem?_cons_zero, Option.getD_some]
               rfl)
          | (apply Reg.TW.pure_ rfl
             · intro w1 hw1 hf K hK
               simp only [Act.put, List.setIfInBounds_toArray, List.set_cons_zero, List.set_cons_succ] at hK
               have HK := Lib.hid hK
               clear hf hK
               unfold Reg.One; dsimp only
               go_wp2_with fail
               exact HK.out _ (Reg.Ext.refl _)
             · simp only [Act.put, Act.eval, List.setIfInBounds_toArray, List.set_cons_zero, List.set_cons_succ, Nat.reduceAdd, Array.getD_eq_getD_getElem?, List.getElem?_toArray, List.getElem?_cons_succ, List.getElem?_cons_zero, Option.getD_some]
               rfl))
        refine Reg.TW.nil_ ?_
        intro wj xj _
        have Xn := Lib.hid (X.out.trans xj)
        have H1n := Lib.hid (H1.out.ext xj)
        clear X H1 xj C1
        have X := Xn
        have H1 := H1n
        clear Xn H1n
        try clear wi
        generalize wj = wi at *
        go_upto_region 8 with (fail)
        refine wp_region_lit ?_
        repeat (first | refine wpList_ldr rfl _ _ rfl g1 rfl _ _ _ H1 undS (by rw [cells_length x hx]; exact size38) ?_ | go_step)
        refine (C2.out wi).mono ?_
        rintro e wj ⟨rfl, xj⟩
        rename_i hK
        refine hK _ _ ?_
        have Xn := Lib.hid (X.out.trans xj)
        have H1n := Lib.hid (H1.out.ext xj)
        clear X H1 xj
        have X := Xn
        have H1 := H1n
        clear Xn H1n
        try clear wi
        generalize wj = wi at *
        go_wp2_with fail
        go_ret
        exact ⟨rfl, X.out⟩
      case hlen => rfl
    | true =>
      rw [hg] at C1 C2
      have e1 : wS x = ⟨(frame (body x)).toArray⟩ := by unfold wS; rw [hg]; rfl
      have e2 : wE x = 0 := by unfold wE; rw [hg]; rfl
      rw [e1, e2]
      have C3 := Lib.hid (fun w => bodyR_any x hx hg w)
      obtain ⟨B, hB⟩ : ∃ B : ByteArray, B = ⟨(body x).toArray⟩ := ⟨_, rfl⟩
      have hBl : B.data.toList = body x := by rw [hB]
      have hBs : B.size ≤ 1048576 := by have := (body_len x hx hg).2; rw [← len_data, hBl]; omega
      have C4 := Lib.hid (fun w => framedR_any B w hBs)
      rw [← hB] at C3
      rw [hBl] at C4
      obtain ⟨F, hF⟩ : ∃ F : ByteArray, F = ⟨(frame (body x)).toArray⟩ := ⟨_, rfl⟩
      rw [← hF] at C4 ⊢
      clear e1 e2 hg hB hBl hBs hF
      go_upto_region 6 with (fail)
      apply Reg.wp_tab Reg.Ext (by kernel_rfl) (by kernel_rfl) Reg.Ext.refl (fun _ _ _ => Reg.Ext.trans) (Reg.Ext.drew _)
      case h =>
        intro O
        repeat (first
          | (apply Reg.TW.move_ Reg.Ext.refl _ rfl rfl
             · simp only [Act.put, Act.eval, List.setIfInBounds_toArray, List.set_cons_zero, List.set_cons_succ, Nat.reduceAdd, Array.getD_eq_getD_getElem?, List.getElem?_toArray, List.getElem?_cons_succ, List.getElem?_cons_zero, Option.getD_some]
               rfl)
          | (apply Reg.TW.assign_ Reg.Ext.refl _ rfl rfl
             · simp only [Act.put, Act.eval, List.setIfInBounds_toArray, List.set_cons_zero, List.set_cons_succ, Nat.reduceAdd, Array.getD_eq_getD_getElem?, List.getElem?_toArray, List.getElem?_cons_succ, List.getElem?_cons_zero, Option.getD_some]
               rfl)
          | (apply Reg.TW.skip_ rfl
             · simp only [Act.put, Act.eval, List.setIfInBounds_toArray, List.set_cons_zero, List.set_cons_succ, Nat.reduceAdd, Array.getD_eq_getD_getElem?, List.getElem?_toArray, List.getElem?_cons_succ, List.getElem?_cons_zero, Option.getD_some]
               rfl)
          | (apply Reg.TW.pure_ rfl
             · intro w1 hw1 hf K hK
               simp only [Act.put, List.setIfInBounds_toArray, List.set_cons_zero, List.set_cons_succ] at hK
               have HK := Lib.hid hK
               clear hf hK
               unfold Reg.One; dsimp only
               go_wp2_with fail
               exact HK.out _ (Reg.Ext.refl _)
             · simp only [Act.put, Act.eval, List.setIfInBounds_toArray, List.set_cons_zero, List.set_cons_succ, Nat.reduceAdd, Array.getD_eq_getD_getElem?, List.getElem?_toArray, List.getElem?_cons_succ, List.getElem?_cons_zero, Option.getD_some]
               rfl))
        apply Reg.TW.pure_ (c := .agg x.cells.toArray) rfl
        · intro w1 hw1 hf K hK
          simp only [Act.put, List.setIfInBounds_toArray, List.set_cons_zero, List.set_cons_succ] at hK
          have HK := Lib.hid hK
          clear hK
          unfold Reg.One; dsimp only
          refine wpList_ldr rfl _ _ rfl g1 rfl _ _ _ (Lib.hid (H1.out.ext hw1)) undS (by rw [cells_length x hx]; exact size38) ?_
          simp only [Act.put, Act.eval, List.setIfInBounds_toArray, List.set_cons_zero, List.set_cons_succ, Nat.reduceAdd, Array.getD_eq_getD_getElem?, List.getElem?_toArray, List.getElem?_cons_succ, List.getElem?_cons_zero, Option.getD_some]
          go_wp2_with fail
          exact HK.out _ (Reg.Ext.refl _)
        · simp only [Act.put, Act.eval, List.setIfInBounds_toArray, List.set_cons_zero, List.set_cons_succ, Nat.reduceAdd, Array.getD_eq_getD_getElem?, List.getElem?_toArray, List.getElem?_cons_succ, List.getElem?_cons_zero, Option.getD_some]
          rfl
        apply Reg.TW.call_ (c := .bool true) (fun _ => True) rfl (fun _ _ _ h => h)
        · intro w1 hw1 hf K hK
          simp only [Act.put, List.setIfInBounds_toArray, List.set_cons_zero, List.set_cons_succ] at hK
          have HK := Lib.hid hK
          clear hK
          unfold Reg.One; dsimp only
          go_wp2_with fail
          refine (C1.out _).mono ?_
          rintro e w' ⟨rfl, hx⟩
          go_wp2_with fail
          exact HK.out _ hx trivial
        · simp only [Act.put, Act.eval, List.setIfInBounds_toArray, List.set_cons_zero, List.set_cons_succ, Nat.reduceAdd, Array.getD_eq_getD_getElem?, List.getElem?_toArray, List.getElem?_cons_succ, List.getElem?_cons_zero, Option.getD_some]
          rfl
        apply Reg.TW.pure_ (c := .agg x.cells.toArray) rfl
        · intro w1 hw1 hf K hK
          simp only [Act.put, List.setIfInBounds_toArray, List.set_cons_zero, List.set_cons_succ] at hK
          have HK := Lib.hid hK
          clear hK
          unfold Reg.One; dsimp only
          refine wpList_ldr rfl _ _ rfl g1 rfl _ _ _ (Lib.hid (H1.out.ext hw1)) undS (by rw [cells_length x hx]; exact size38) ?_
          simp only [Act.put, Act.eval, List.setIfInBounds_toArray, List.set_cons_zero, List.set_cons_succ, Nat.reduceAdd, Array.getD_eq_getD_getElem?, List.getElem?_toArray, List.getElem?_cons_succ, List.getElem?_cons_zero, Option.getD_some]
          go_wp2_with fail
          exact HK.out _ (Reg.Ext.refl _)
        · simp only [Act.put, Act.eval, List.setIfInBounds_toArray, List.set_cons_zero, List.set_cons_succ, Nat.reduceAdd, Array.getD_eq_getD_getElem?, List.getElem?_toArray, List.getElem?_cons_succ, List.getElem?_cons_zero, Option.getD_some]
          rfl
        apply Reg.TW.call_ (c := .bool true) (fun _ => True) rfl (fun _ _ _ h => h)
        · intro w1 hw1 hf K hK
          simp only [Act.put, List.setIfInBounds_toArray, List.set_cons_zero, List.set_cons_succ] at hK
          have HK := Lib.hid hK
          clear hK
          unfold Reg.One; dsimp only
          go_wp2_with fail
          refine (C2.out _).mono ?_
          rintro e w' ⟨rfl, hx⟩
          go_wp2_with fail
          exact HK.out _ hx trivial
        · simp only [Act.put, Act.eval, List.setIfInBounds_toArray, List.set_cons_zero, List.set_cons_succ, Nat.reduceAdd, Array.getD_eq_getD_getElem?, List.getElem?_toArray, List.getElem?_cons_succ, List.getElem?_cons_zero, Option.getD_some]
          rfl
        repeat (first
          | (apply Reg.TW.move_ Reg.Ext.refl _ rfl rfl
             · simp only [Act.put, Act.eval, List.setIfInBounds_toArray, List.set_cons_zero, List.set_cons_succ, Nat.reduceAdd, Array.getD_eq_getD_getElem?, List.getElem?_toArray, List.getElem?_cons_succ, List.getElem?_cons_zero, Option.getD_some]
               rfl)
          | (apply Reg.TW.assign_ Reg.Ext.refl _ rfl rfl
             · simp only [Act.put, Act.eval, List.setIfInBounds_toArray, List.set_cons_zero, List.set_cons_succ, Nat.reduceAdd, Array.getD_eq_getD_getElem?, List.getElem?_toArray, List.getElem?_cons_succ, List.getElem?_cons_zero, Option.getD_some]
               rfl)
          | (apply Reg.TW.skip_ rfl
             · simp only [Act.put, Act.eval, List.setIfInBounds_toArray, List.set_cons_zero, List.set_cons_succ, Nat.reduceAdd, Array.getD_eq_getD_getElem?, List.getElem?_toArray, List.getElem?_cons_succ, List.getElem?_cons_zero, Option.getD_some]
               rfl)
          | (apply Reg.TW.pure_ rfl
             · intro w1 hw1 hf K hK
               simp only [Act.put, List.setIfInBounds_toArray, List.set_cons_zero, List.set_cons_succ] at hK
               have HK := Lib.hid hK
               clear hf hK
               unfold Reg.One; dsimp only
               go_wp2_with fail
               exact HK.out _ (Reg.Ext.refl _)
             · simp only [Act.put, Act.eval, List.setIfInBounds_toArray, List.set_cons_zero, List.set_cons_succ, Nat.reduceAdd, Array.getD_eq_getD_getElem?, List.getElem?_toArray, List.getElem?_cons_succ, List.getElem?_cons_zero, Option.getD_some]
               rfl))
        refine Reg.TW.nil_ ?_
        intro wj xj _
        have Xn := Lib.hid (X.out.trans xj)
        have H1n := Lib.hid (H1.out.ext xj)
        clear X H1 xj C1
        have X := Xn
        have H1 := H1n
        clear Xn H1n
        try clear wi
        generalize wj = wi at *
        go_upto_region 8 with (fail)
        refine wp_region_lit ?_
        repeat (first | refine wpList_ldr rfl _ _ rfl g1 rfl _ _ _ H1 undS (by rw [cells_length x hx]; exact size38) ?_ | go_step)
        refine (C2.out wi).mono ?_
        rintro e wj ⟨rfl, xj⟩
        rename_i hK
        refine hK _ _ ?_
        have Xn := Lib.hid (X.out.trans xj)
        have H1n := Lib.hid (H1.out.ext xj)
        clear X H1 xj
        have X := Xn
        have H1 := H1n
        clear Xn H1n
        try clear wi
        generalize wj = wi at *
        clear C2
        go_upto_region 10 with (fail)
        refine wp_region_lit ?_
        repeat (first | refine wpList_ldr rfl _ _ rfl g1 rfl _ _ _ H1 undS (by rw [cells_length x hx]; exact size38) ?_ | go_step)
        refine (C3.out wi).mono ?_
        rintro e wj ⟨rfl, xj⟩
        rename_i hK
        refine hK _ _ ?_
        have Xn := Lib.hid (X.out.trans xj)
        have H1n := Lib.hid (H1.out.ext xj)
        clear X H1 xj
        have X := Xn
        have H1 := H1n
        clear Xn H1n
        try clear wi
        generalize wj = wi at *
        clear C3
        repeat go_step
        refine (C4.out wi).mono ?_
        rintro e wj ⟨rfl, xj⟩
        rename_i hK
        refine hK _ _ ?_
        have Xn := Lib.hid (X.out.trans xj)
        have H1n := Lib.hid (H1.out.ext xj)
        clear X H1 xj
        have X := Xn
        have H1 := H1n
        clear Xn H1n
        try clear wi
        generalize wj = wi at *
        go_wp2_with fail
        go_ret
        exact ⟨rfl, X.out⟩
      case hlen => rfl
end Slp
end Go.Proofs.YtbeghdoffiidoaaDoor
