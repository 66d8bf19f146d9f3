/- What is known only grows older: the law's walk. -/
import Derived.Test.YtcfdlfedmbmidaaDoorCloseTk
import Derived.Test.YtcfdlfedmbmidaaDoorTkZ
import Derived.Test.YtcfdlfedmbmidaaDoorWords
set_option linter.unusedSimpArgs false
set_option linter.unusedVariables false
set_option linter.unusedSectionVars false
namespace Go.Proofs.YtcfdlfedmbmidaaDoor
open Go Go.RowKit
namespace Tk


theorem judge_off (x : T) (now : Int) (c : Cfg) (off : Bool) (h : x.at_ ≤ now) (h0 : now - x.at_ ≤ 4611686018427387904) :
    judgeP x true now c off = if FloatP.withinP (now - x.at_) (spanP x.found c) = true then 2 else if off = true ∧ x.found = true ∧ FloatP.withinP (now - x.at_) c.stale = true then 4 else 3 := by
  unfold judgeP
  rw [if_neg (by rintro (h1 | h1); cases h1; omega), show ageP x.at_ now = now - x.at_ by unfold ageP; omega]
theorem older_cases (x : T) (a b : Int) (c : Cfg) (hc : c.fits) (h0 : 0 ≤ x.at_) (ha : x.at_ ≤ a) (hab : a ≤ b) (hb : b ≤ 1099511627776) :
    (judgeP x true a c false = 2 ∧ judgeP x true b c false = 2 ∧ judgeP x true b c true = 2) ∨
    ((judgeP x true a c false = 2 ∨ judgeP x true a c false = 3) ∧ judgeP x true b c false = 3 ∧ judgeP x true b c true = 3) ∨
    ((judgeP x true a c false = 2 ∨ judgeP x true a c false = 3) ∧ judgeP x true b c false = 3 ∧ judgeP x true b c true = 4 ∧ x.found = true ∧ FloatP.withinP (b - x.at_) c.stale = true) := by
  have hs : spanP x.found c < 18446744073709551616 := by unfold spanP; split; exact hc.1; exact hc.2.1
  rw [judge_off x a c false ha (by omega), judge_off x b c false (by omega) (by omega), judge_off x b c true (by omega) (by omega)]
  have hm := FloatP.within_mono (a := a - x.at_) (c := b - x.at_) (b := spanP x.found c) hs (by omega) (by omega) (by omega)
  have h3 : ∀ q : Bool, (if false = true then (2 : Int) else if false = true ∧ x.found = true ∧ q = true then 4 else 3) = 3 := fun q => by
    rw [if_neg (by decide), if_neg (fun h => by cases h.1)]
  have hA : ∀ p q : Bool, (if p = true then (2 : Int) else if false = true ∧ x.found = true ∧ q = true then 4 else 3) = 2 ∨ (if p = true then (2 : Int) else if false = true ∧ x.found = true ∧ q = true then 4 else 3) = 3 := fun p q => by
    cases p with
    | true => exact .inl rfl
    | false => exact .inr (h3 q)
  have hA := hA (FloatP.withinP (a - x.at_) (spanP x.found c)) (FloatP.withinP (a - x.at_) c.stale)
  cases hq : FloatP.withinP (b - x.at_) (spanP x.found c) with
  | true =>
    rw [hm hq]
    exact .inl ⟨rfl, rfl, rfl⟩
  | false =>
    refine .inr ?_
    by_cases hz : true = true ∧ x.found = true ∧ FloatP.withinP (b - x.at_) c.stale = true
    · refine .inr ⟨hA, h3 _, ?_, hz.2.1, hz.2.2⟩
      rw [if_neg (by decide : ¬ false = true), if_pos hz]
    · refine .inl ⟨hA, h3 _, ?_⟩
      rw [if_neg (by decide : ¬ false = true), if_neg hz]
theorem judge_early (x : T) (now : Int) (c : Cfg) (off : Bool) (h : now < x.at_) : judgeP x true now c off = 1 := by
  unfold judgeP
  rw [if_pos (.inr h)]
set_option maxRecDepth 100000 in
set_option maxHeartbeats 4000000 in
theorem older_law (x : T) (hx : x.fine) (a b : Int) (c : Cfg) (hc : c.fits) (w : World) :
    Calls Tryd.prog 4 #[.agg x.cells.toArray, .int .i64 a, .int .i64 b, .agg c.cells.toArray] w fun e w' => e = .returned (.bool true) ∧ Reg.Ext w w' := by
  have hb1 := boxT w x
  have hb2 := boxC (w.alloc (Obj.cells x.cells.toArray 25)) c
  have hx1 := Reg.Ext.alloc w (Obj.cells x.cells.toArray 25)
  have hx2 := Reg.Ext.alloc (w.alloc (Obj.cells x.cells.toArray 25)) (Obj.cells c.cells.toArray 28)
  have HX := Lib.hid (hx1.trans hx2)
  rw [size_up] at hb2
  replace hb1 := hb1.ext hx2
  have HB := Lib.hid hb1
  have HC := Lib.hid hb2
  have HXD := Lib.hid hx.dig
  have HCF := Lib.hid hc
  clear hb1 hb2 hx1 hx2 hx hc
  obtain ⟨ka, hka, e1⟩ := umod a 1099511627776 (by decide)
  obtain ⟨kb, hkb, e2⟩ := umod b 1099511627776 (by decide)
  have e1 : wrap64 ((IntKind.u64.wrap a).tmod 1099511627777) = (ka : Int) := e1
  have e2 : wrap64 ((IntKind.u64.wrap b).tmod 1099511627777) = (kb : Int) := e2
  have E1 := Lib.hid e1
  have E2 := Lib.hid e2
  clear e1 e2
  go_enter Tryd.func4, Tryd.ntmps4
  go_upto_region 1 with (fail)
  generalize (w.alloc (Obj.cells x.cells.toArray 25)).alloc (Obj.cells c.cells.toArray 28) = W at *
  generalize w.heap.size + 1 = g2 at *
  generalize w.heap.size = g1 at *
  go_upto_region 5 with (go_at_call 7; refine (awake_any _).mono ?_; rintro e w1 ⟨rfl, hx1⟩; have HX := Lib.hid (HX.out.trans hx1); have HB := Lib.hid (HB.out.ext hx1); have HC := Lib.hid (HC.out.ext hx1); clear hx1)
  rw [E1.out, E2.out]
  have c37 : w1.cell? ⟨g1, 37, none⟩ = some (.int .i64 x.at_) := (HB.out.cell 37).trans (at37 x HXD.out)
  by_cases h0 : x.at_ < 0
  · have q0 : decide (x.at_ < 0) = true := decide_eq_true h0
    clear h0
    generalize x.at_ = z at *
    go_wp2_with fail
    go_ret
    exact ⟨rfl, HX.out⟩
  have q0 : decide (x.at_ < 0) = false := decide_eq_false h0
  by_cases h1 : 1099511627776 < x.at_
  · have q1 : decide (1099511627776 < x.at_) = true := decide_eq_true h1
    clear h0 h1
    generalize x.at_ = z at *
    go_wp2_with fail
    go_ret
    exact ⟨rfl, HX.out⟩
  have q1 : decide (1099511627776 < x.at_) = false := decide_eq_false h1
  have h1' : x.at_ ≤ 1099511627776 := by omega
  have HA0 := Lib.hid (And.intro (Int.not_lt.1 h0) h1')
  clear h0 h1 h1' E1 E2
  go_upto_region 9 with (fail)
  obtain ⟨A, hA⟩ : ∃ A : Int, min (ka : Int) (kb : Int) = A := ⟨_, rfl⟩
  obtain ⟨B, hB⟩ : ∃ B : Int, max (ka : Int) (kb : Int) = B := ⟨_, rfl⟩
  rw [hA, hB]
  have hAB : A ≤ B := by omega
  have hB2 : B ≤ 1099511627776 := by omega
  have hA0 : 0 ≤ A := by omega
  clear hA hB hka hkb
  have hlo : -9223372036854775808 ≤ x.at_ := by have := HA0.out; omega
  by_cases he : A < x.at_
  · have qe : decide (A < x.at_) = true := decide_eq_true he
    have HJ1 := Lib.hid (fun w => judge_any x HXD.out true A c false hlo (by omega) HCF.out w)
    have HJ2 := Lib.hid (fun w => judge_any x HXD.out true A c true hlo (by omega) HCF.out w)
    rw [judge_early x A c false he] at HJ1
    rw [judge_early x A c true he] at HJ2
    clear he hAB hB2 hA0 hlo q0 q1
    go_upto_region 10 with (fail)
    clear qe c37
    refine wp_region_lit ?_
    refine wpList_ldm rfl 25 (.tmp 4) rfl g1 0 rfl (x).cells _ (Lib.hid (blk_rng HB.out)) undT (by rw [(x).len HXD.out]; exact sizeT) ?_
    simp only [Act.put, Act.eval, List.setIfInBounds_toArray, List.set_cons_zero, List.set_cons_succ, Nat.reduceAdd, Array.getD_eq_getD_getElem?, List.getElem?_toArray, List.getElem?_cons_succ, List.getElem?_cons_zero, Option.getD_some]
    iterate 3 go_step
    refine wpList_ldm rfl 28 (.tmp 7) rfl g2 0 rfl c.cells _ (Lib.hid (blk_rng HC.out)) undC sizeC ?_
    simp only [Act.put, Act.eval, List.setIfInBounds_toArray, List.set_cons_zero, List.set_cons_succ, Nat.reduceAdd, Array.getD_eq_getD_getElem?, List.getElem?_toArray, List.getElem?_cons_succ, List.getElem?_cons_zero, Option.getD_some]
    repeat go_step
    refine (HJ1.out _).mono ?_
    rintro e w3 ⟨rfl, hxj⟩
    have HX := Lib.hid (HX.out.trans hxj)
    have HB := Lib.hid (HB.out.ext hxj)
    have HC := Lib.hid (HC.out.ext hxj)
    clear hxj HJ1
    rename_i hK
    refine hK _ _ ?_
    clear hK
    iterate 6 go_step
    refine wpList_ldm rfl 25 (.tmp 4) rfl g1 0 rfl (x).cells _ (Lib.hid (blk_rng HB.out)) undT (by rw [(x).len HXD.out]; exact sizeT) ?_
    simp only [Act.put, Act.eval, List.setIfInBounds_toArray, List.set_cons_zero, List.set_cons_succ, Nat.reduceAdd, Array.getD_eq_getD_getElem?, List.getElem?_toArray, List.getElem?_cons_succ, List.getElem?_cons_zero, Option.getD_some]
    iterate 2 go_step
    refine wpList_ldm rfl 28 (.tmp 7) rfl g2 0 rfl c.cells _ (Lib.hid (blk_rng HC.out)) undC sizeC ?_
    simp only [Act.put, Act.eval, List.setIfInBounds_toArray, List.set_cons_zero, List.set_cons_succ, Nat.reduceAdd, Array.getD_eq_getD_getElem?, List.getElem?_toArray, List.getElem?_cons_succ, List.getElem?_cons_zero, Option.getD_some]
    repeat go_step
    refine (HJ2.out _).mono ?_
    rintro e w4 ⟨rfl, hxj⟩
    have HX := Lib.hid (HX.out.trans hxj)
    clear hxj
    rename_i hK
    refine hK _ _ ?_
    clear hK
    go_wp2_with fail
    go_ret
    exact ⟨rfl, HX.out⟩
  · have qe : decide (A < x.at_) = false := decide_eq_false he
    have HJ1 := Lib.hid (fun w => judge_any x HXD.out true A c false hlo (by omega) HCF.out w)
    have HJ2 := Lib.hid (fun w => judge_any x HXD.out true B c false hlo (by omega) HCF.out w)
    have HJ3 := Lib.hid (fun w => judge_any x HXD.out true B c true hlo (by omega) HCF.out w)
    have HCS := Lib.hid (older_cases x A B c HCF.out HA0.out.1 (by omega) hAB hB2)
    have hwr : wrap64 (B - x.at_) = B - x.at_ := by have := HA0.out.1; unfold wrap64; omega
    have HWR := Lib.hid hwr
    generalize judgeP x true A c false = X at *
    generalize judgeP x true B c false = Y at *
    generalize judgeP x true B c true = Z at *
    clear he hAB hB2 hA0 hlo q0 q1 hwr
    go_upto_region 11 with (fail)
    clear qe c37
    refine wp_region_lit ?_
    refine wpList_ldm rfl 25 (.tmp 4) rfl g1 0 rfl (x).cells _ (Lib.hid (blk_rng HB.out)) undT (by rw [(x).len HXD.out]; exact sizeT) ?_
    simp only [Act.put, Act.eval, List.setIfInBounds_toArray, List.set_cons_zero, List.set_cons_succ, Nat.reduceAdd, Array.getD_eq_getD_getElem?, List.getElem?_toArray, List.getElem?_cons_succ, List.getElem?_cons_zero, Option.getD_some]
    iterate 3 go_step
    refine wpList_ldm rfl 28 (.tmp 7) rfl g2 0 rfl c.cells _ (Lib.hid (blk_rng HC.out)) undC sizeC ?_
    simp only [Act.put, Act.eval, List.setIfInBounds_toArray, List.set_cons_zero, List.set_cons_succ, Nat.reduceAdd, Array.getD_eq_getD_getElem?, List.getElem?_toArray, List.getElem?_cons_succ, List.getElem?_cons_zero, Option.getD_some]
    repeat go_step
    refine (HJ1.out _).mono ?_
    rintro e w3 ⟨rfl, hxj⟩
    have HX := Lib.hid (HX.out.trans hxj)
    have HB := Lib.hid (HB.out.ext hxj)
    have HC := Lib.hid (HC.out.ext hxj)
    clear hxj HJ1
    rename_i hK
    refine hK _ _ ?_
    clear hK
    go_upto_region 12 with (fail)
    refine wp_region_lit ?_
    refine wpList_ldm rfl 25 (.tmp 4) rfl g1 0 rfl (x).cells _ (Lib.hid (blk_rng HB.out)) undT (by rw [(x).len HXD.out]; exact sizeT) ?_
    simp only [Act.put, Act.eval, List.setIfInBounds_toArray, List.set_cons_zero, List.set_cons_succ, Nat.reduceAdd, Array.getD_eq_getD_getElem?, List.getElem?_toArray, List.getElem?_cons_succ, List.getElem?_cons_zero, Option.getD_some]
    iterate 3 go_step
    refine wpList_ldm rfl 28 (.tmp 7) rfl g2 0 rfl c.cells _ (Lib.hid (blk_rng HC.out)) undC sizeC ?_
    simp only [Act.put, Act.eval, List.setIfInBounds_toArray, List.set_cons_zero, List.set_cons_succ, Nat.reduceAdd, Array.getD_eq_getD_getElem?, List.getElem?_toArray, List.getElem?_cons_succ, List.getElem?_cons_zero, Option.getD_some]
    repeat go_step
    refine (HJ2.out _).mono ?_
    rintro e w4 ⟨rfl, hxj⟩
    have HX := Lib.hid (HX.out.trans hxj)
    have HB := Lib.hid (HB.out.ext hxj)
    have HC := Lib.hid (HC.out.ext hxj)
    clear hxj HJ2
    rename_i hK
    refine hK _ _ ?_
    clear hK
    go_upto_region 13 with (fail)
    refine wp_region_lit ?_
    refine wpList_ldm rfl 25 (.tmp 4) rfl g1 0 rfl (x).cells _ (Lib.hid (blk_rng HB.out)) undT (by rw [(x).len HXD.out]; exact sizeT) ?_
    simp only [Act.put, Act.eval, List.setIfInBounds_toArray, List.set_cons_zero, List.set_cons_succ, Nat.reduceAdd, Array.getD_eq_getD_getElem?, List.getElem?_toArray, List.getElem?_cons_succ, List.getElem?_cons_zero, Option.getD_some]
    iterate 3 go_step
    refine wpList_ldm rfl 28 (.tmp 7) rfl g2 0 rfl c.cells _ (Lib.hid (blk_rng HC.out)) undC sizeC ?_
    simp only [Act.put, Act.eval, List.setIfInBounds_toArray, List.set_cons_zero, List.set_cons_succ, Nat.reduceAdd, Array.getD_eq_getD_getElem?, List.getElem?_toArray, List.getElem?_cons_succ, List.getElem?_cons_zero, Option.getD_some]
    repeat go_step
    refine (HJ3.out _).mono ?_
    rintro e w5 ⟨rfl, hxj⟩
    have HX := Lib.hid (HX.out.trans hxj)
    have HB := Lib.hid (HB.out.ext hxj)
    have HC := Lib.hid (HC.out.ext hxj)
    clear hxj HJ3
    rename_i hK
    refine hK _ _ ?_
    clear hK
    rcases HCS.out with ⟨rfl, rfl, rfl⟩ | ⟨h2, rfl, rfl⟩ | ⟨h2, rfl, rfl, hf, hw⟩
    · go_wp2_with fail
      go_ret
      exact ⟨rfl, HX.out⟩
    · rcases h2 with rfl | rfl
      · go_wp2_with fail
        go_ret
        exact ⟨rfl, HX.out⟩
      · go_wp2_with fail
        go_ret
        exact ⟨rfl, HX.out⟩
    · have c37 : w5.cell? ⟨g1, 37, none⟩ = some (.int .i64 x.at_) := (HB.out.cell 37).trans (at37 x HXD.out)
      have c2 : w5.cell? ⟨g1, 2, none⟩ = some (.bool x.found) := HB.out.cell 2
      have d9 : w5.cell? ⟨g2, 9, none⟩ = some (.float .f64 c.stale) := HC.out.cell 9
      rw [hf] at c2
      have HW := Lib.hid hw
      clear hf hw HCS
      rcases h2 with rfl | rfl
      · go_wp2_with (go_at_call 13; refine (Flt.within_any _ c.stale _ HCF.out.2.2).mono ?_; rintro e wk ⟨rfl, rfl⟩; rw [HWR.out, HW.out])
        go_ret
        exact ⟨rfl, HX.out⟩
      · go_wp2_with (go_at_call 13; refine (Flt.within_any _ c.stale _ HCF.out.2.2).mono ?_; rintro e wk ⟨rfl, rfl⟩; rw [HWR.out, HW.out])
        go_ret
        exact ⟨rfl, HX.out⟩
end Tk
end Go.Proofs.YtcfdlfedmbmidaaDoor
