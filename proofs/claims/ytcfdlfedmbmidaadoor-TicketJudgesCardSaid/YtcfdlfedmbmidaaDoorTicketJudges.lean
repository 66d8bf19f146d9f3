/- Whether a ticket can be, and what is to be done: the law's walk. -/
import Derived.Test.YtcfdlfedmbmidaaDoorTkZ
import Derived.Test.YtcfdlfedmbmidaaDoorTkQ
set_option linter.unusedSimpArgs false
set_option linter.unusedVariables false
set_option linter.unusedSectionVars false
namespace Go.Proofs.YtcfdlfedmbmidaaDoor
open Go Go.RowKit
namespace Tk

set_option maxRecDepth 100000 in
set_option maxHeartbeats 2000000 in
theorem judges_law (x : T) (hx : x.dig.length = 32) (h1 : -9223372036854775808 ≤ x.at_) (ht : x.tag.length ≤ 9223372036854775807) (k : Bool) (now : Int) (h2 : now ≤ 9223372036854775807) (c : Cfg) (hc : c.fits) (off : Bool) (w : World) :
    Calls Tryd.prog 3 #[.agg x.cells.toArray, .bool k, .int .i64 now, .agg c.cells.toArray, .bool off] w fun e w' => e = .returned (.bool true) ∧ Reg.Ext w w' := by
  have hb1 := boxT w x
  have hb2 := boxC (w.alloc (Obj.cells x.cells.toArray 25)) c
  have hx1 := Reg.Ext.alloc w (Obj.cells x.cells.toArray 25)
  have hx2 := Reg.Ext.alloc (w.alloc (Obj.cells x.cells.toArray 25)) (Obj.cells c.cells.toArray 28)
  have HX := Lib.hid (hx1.trans hx2)
  rw [size_up] at hb2
  replace hb1 := hb1.ext hx2
  have HB := Lib.hid hb1
  have HC := Lib.hid hb2
  have HXD := Lib.hid hx
  have HGA := Lib.hid (fun w => good_any x hx w)
  have HGR := Lib.hid (fun w => goodR_any x hx ht w)
  have HJA := Lib.hid (fun w => judge_any x hx k now c off h1 (by omega) hc w)
  have HJR := Lib.hid (fun w => judgeR_any x hx k now c off h1 (by omega) hc w)
  have HGT := Lib.hid (fun w => great_any x hx w)
  clear hb1 hb2 hx1 hx2 hx h1 ht h2 hc
  generalize hq : goodT x = q at *
  generalize hj : judgeP x k now c off = j at *
  clear hq hj
  go_enter Tryd.func3, Tryd.ntmps3
  go_upto_region 1 with (fail)
  generalize (w.alloc (Obj.cells x.cells.toArray 25)).alloc (Obj.cells c.cells.toArray 28) = W at *
  generalize w.heap.size + 1 = g2 at *
  generalize w.heap.size = g1 at *
  go_upto_region 3 with (go_at_call 7; refine (awake_any _).mono ?_; rintro e w1 ⟨rfl, hx1⟩; have HX := Lib.hid (HX.out.trans hx1); have HB := Lib.hid (HB.out.ext hx1); have HC := Lib.hid (HC.out.ext hx1); clear hx1)
  refine wp_region_lit ?_
  refine wpList_ldm rfl 25 (.tmp 5) rfl g1 0 rfl (x).cells _ (Lib.hid (blk_rng HB.out)) undT (by rw [(x).len HXD.out]; exact sizeT) ?_
  simp only [Act.put, Act.eval, List.setIfInBounds_toArray, List.set_cons_zero, List.set_cons_succ, Nat.reduceAdd, Array.getD_eq_getD_getElem?, List.getElem?_toArray, List.getElem?_cons_succ, List.getElem?_cons_zero, Option.getD_some]
  repeat go_step
  refine (HGT.out _).mono ?_
  rintro e w2 ⟨⟨q3, rfl⟩, hx2⟩
  have HX := Lib.hid (HX.out.trans hx2)
  have HB := Lib.hid (HB.out.ext hx2)
  have HC := Lib.hid (HC.out.ext hx2)
  clear hx2
  rename_i hK
  refine hK _ _ ?_
  clear hK
  cases q3 with
  | true =>
    go_wp2_with fail
    go_ret
    exact ⟨rfl, HX.out⟩
  | false =>
    go_upto_region 5 with (fail)
    have hxd := Reg.Ext.drew w2
    have HX := Lib.hid (HX.out.trans hxd)
    have HB := Lib.hid (HB.out.ext hxd)
    have HC := Lib.hid (HC.out.ext hxd)
    clear hxd
    refine Ordl.begins (S := fun w' => Reg.Ext (w2).drew w') (z := 99) (by kernel_rfl) ?_
    refine Ordl.Bx.out (?_ : Ordl.Bx (Ordl.Any _ _ _ _ _ _ _ _ _ _))
    have X0 : Reg.Ext (w2).drew (w2).drew := Reg.Ext.refl _
    generalize w2.drew = w3 at *
    refine Ordl.take (i := 0) (v := .agg (x).cells.toArray) rfl (by kernel_rfl) (by kernel_rfl) (by kernel_rfl) (by kernel_rfl) (fun _ _ _ h => h) (yieldsIf_load_mid (by kernel_rfl) 25 (.tmp 5) rfl g1 (0) (by kernel_rfl) (x).cells _ (fun w h => rng_ext (blk_rng HB.out) h) undT rfl (by rw [(x).len HXD.out]; exact sizeT)) X0 ?_
    simp only [List.getElem_toArray, List.getElem_cons_succ, List.getElem_cons_zero, Act.put, Act.eval, List.setIfInBounds_toArray, List.set_cons_zero, List.set_cons_succ, Nat.reduceAdd, Array.getD_eq_getD_getElem?, List.getElem?_toArray, List.getElem?_cons_succ, List.getElem?_cons_zero, Option.getD_some]
    refine Ordl.take (i := 2) (v := .agg (x).cells.toArray) rfl (by kernel_rfl) (by kernel_rfl) (by kernel_rfl) (by kernel_rfl) (fun _ _ _ h => h) (yieldsIf_load_mid (by kernel_rfl) 25 (.tmp 5) rfl g1 (0) (by kernel_rfl) (x).cells _ (fun w h => rng_ext (blk_rng HB.out) h) undT rfl (by rw [(x).len HXD.out]; exact sizeT)) X0 ?_
    simp only [List.getElem_toArray, List.getElem_cons_succ, List.getElem_cons_zero, Act.put, Act.eval, List.setIfInBounds_toArray, List.set_cons_zero, List.set_cons_succ, Nat.reduceAdd, Array.getD_eq_getD_getElem?, List.getElem?_toArray, List.getElem?_cons_succ, List.getElem?_cons_zero, Option.getD_some]
    refine Ordl.one (i := 1) (by kernel_rfl) rfl ?_
    refine ⟨?_⟩
    repeat go_step
    refine (HGA.out _).mono ?_
    rintro e w4 ⟨rfl, hx4⟩
    have X1 := X0.trans hx4
    clear X0 hx4
    rename_i hK
    refine hK _ _ ?_
    clear hK
    refine Ordl.Bx.out (?_ : Ordl.Bx _)
    refine Ordl.fin X1 ?_
    refine Ordl.one (i := 3) (by kernel_rfl) rfl ?_
    refine ⟨?_⟩
    repeat go_step
    refine (HGR.out _).mono ?_
    rintro e w5 ⟨rfl, hx5⟩
    have X0 := X1.trans hx5
    clear X1 hx5
    rename_i hK
    refine hK _ _ ?_
    clear hK
    refine Ordl.Bx.out (?_ : Ordl.Bx _)
    refine Ordl.fin X0 ?_
    refine Ordl.take (i := 4) (v := .bool (q == q)) rfl (by kernel_rfl) (by kernel_rfl) (by kernel_rfl) (by kernel_rfl) (fun _ _ _ h => h) (.inl ⟨by kernel_rfl, fun w _ => by as_aux_lemma => kernel_rfl⟩) X0 ?_
    simp only [List.getElem_toArray, List.getElem_cons_succ, List.getElem_cons_zero, Act.put, Act.eval, List.setIfInBounds_toArray, List.set_cons_zero, List.set_cons_succ, Nat.reduceAdd, Array.getD_eq_getD_getElem?, List.getElem?_toArray, List.getElem?_cons_succ, List.getElem?_cons_zero, Option.getD_some]
    first | rw [show (q == q) = true from beq_self_eq_true q] | skip
    refine Ordl.take (i := 5) (v := .bool true) rfl (by kernel_rfl) (by kernel_rfl) (by kernel_rfl) (by kernel_rfl) (fun _ _ _ h => h) (.inl ⟨by kernel_rfl, fun w _ => by as_aux_lemma => kernel_rfl⟩) X0 ?_
    simp only [List.getElem_toArray, List.getElem_cons_succ, List.getElem_cons_zero, Act.put, Act.eval, List.setIfInBounds_toArray, List.set_cons_zero, List.set_cons_succ, Nat.reduceAdd, Array.getD_eq_getD_getElem?, List.getElem?_toArray, List.getElem?_cons_succ, List.getElem?_cons_zero, Option.getD_some]
    refine Ordl.take (i := 6) (v := .agg (x).cells.toArray) rfl (by kernel_rfl) (by kernel_rfl) (by kernel_rfl) (by kernel_rfl) (fun _ _ _ h => h) (yieldsIf_load_mid (by kernel_rfl) 25 (.tmp 5) rfl g1 (0) (by kernel_rfl) (x).cells _ (fun w h => rng_ext (blk_rng HB.out) h) undT rfl (by rw [(x).len HXD.out]; exact sizeT)) X0 ?_
    simp only [List.getElem_toArray, List.getElem_cons_succ, List.getElem_cons_zero, Act.put, Act.eval, List.setIfInBounds_toArray, List.set_cons_zero, List.set_cons_succ, Nat.reduceAdd, Array.getD_eq_getD_getElem?, List.getElem?_toArray, List.getElem?_cons_succ, List.getElem?_cons_zero, Option.getD_some]
    refine Ordl.take (i := 7) (v := .bool k) rfl (by kernel_rfl) (by kernel_rfl) (by kernel_rfl) (by kernel_rfl) (fun _ _ _ h => h) (.inl ⟨by kernel_rfl, fun w _ => by as_aux_lemma => kernel_rfl⟩) X0 ?_
    simp only [List.getElem_toArray, List.getElem_cons_succ, List.getElem_cons_zero, Act.put, Act.eval, List.setIfInBounds_toArray, List.set_cons_zero, List.set_cons_succ, Nat.reduceAdd, Array.getD_eq_getD_getElem?, List.getElem?_toArray, List.getElem?_cons_succ, List.getElem?_cons_zero, Option.getD_some]
    refine Ordl.take (i := 8) (v := .int .i64 now) rfl (by kernel_rfl) (by kernel_rfl) (by kernel_rfl) (by kernel_rfl) (fun _ _ _ h => h) (.inl ⟨by kernel_rfl, fun w _ => by as_aux_lemma => kernel_rfl⟩) X0 ?_
    simp only [List.getElem_toArray, List.getElem_cons_succ, List.getElem_cons_zero, Act.put, Act.eval, List.setIfInBounds_toArray, List.set_cons_zero, List.set_cons_succ, Nat.reduceAdd, Array.getD_eq_getD_getElem?, List.getElem?_toArray, List.getElem?_cons_succ, List.getElem?_cons_zero, Option.getD_some]
    refine Ordl.take (i := 9) (v := .agg (c).cells.toArray) rfl (by kernel_rfl) (by kernel_rfl) (by kernel_rfl) (by kernel_rfl) (fun _ _ _ h => h) (yieldsIf_load_mid (by kernel_rfl) 28 (.tmp 8) rfl g2 (0) (by kernel_rfl) (c).cells _ (fun w h => rng_ext (blk_rng HC.out) h) undC rfl sizeC) X0 ?_
    simp only [List.getElem_toArray, List.getElem_cons_succ, List.getElem_cons_zero, Act.put, Act.eval, List.setIfInBounds_toArray, List.set_cons_zero, List.set_cons_succ, Nat.reduceAdd, Array.getD_eq_getD_getElem?, List.getElem?_toArray, List.getElem?_cons_succ, List.getElem?_cons_zero, Option.getD_some]
    refine Ordl.take (i := 10) (v := .bool off) rfl (by kernel_rfl) (by kernel_rfl) (by kernel_rfl) (by kernel_rfl) (fun _ _ _ h => h) (.inl ⟨by kernel_rfl, fun w _ => by as_aux_lemma => kernel_rfl⟩) X0 ?_
    simp only [List.getElem_toArray, List.getElem_cons_succ, List.getElem_cons_zero, Act.put, Act.eval, List.setIfInBounds_toArray, List.set_cons_zero, List.set_cons_succ, Nat.reduceAdd, Array.getD_eq_getD_getElem?, List.getElem?_toArray, List.getElem?_cons_succ, List.getElem?_cons_zero, Option.getD_some]
    refine Ordl.take (i := 12) (v := .agg (x).cells.toArray) rfl (by kernel_rfl) (by kernel_rfl) (by kernel_rfl) (by kernel_rfl) (fun _ _ _ h => h) (yieldsIf_load_mid (by kernel_rfl) 25 (.tmp 5) rfl g1 (0) (by kernel_rfl) (x).cells _ (fun w h => rng_ext (blk_rng HB.out) h) undT rfl (by rw [(x).len HXD.out]; exact sizeT)) X0 ?_
    simp only [List.getElem_toArray, List.getElem_cons_succ, List.getElem_cons_zero, Act.put, Act.eval, List.setIfInBounds_toArray, List.set_cons_zero, List.set_cons_succ, Nat.reduceAdd, Array.getD_eq_getD_getElem?, List.getElem?_toArray, List.getElem?_cons_succ, List.getElem?_cons_zero, Option.getD_some]
    refine Ordl.take (i := 13) (v := .bool k) rfl (by kernel_rfl) (by kernel_rfl) (by kernel_rfl) (by kernel_rfl) (fun _ _ _ h => h) (.inl ⟨by kernel_rfl, fun w _ => by as_aux_lemma => kernel_rfl⟩) X0 ?_
    simp only [List.getElem_toArray, List.getElem_cons_succ, List.getElem_cons_zero, Act.put, Act.eval, List.setIfInBounds_toArray, List.set_cons_zero, List.set_cons_succ, Nat.reduceAdd, Array.getD_eq_getD_getElem?, List.getElem?_toArray, List.getElem?_cons_succ, List.getElem?_cons_zero, Option.getD_some]
    refine Ordl.take (i := 14) (v := .int .i64 now) rfl (by kernel_rfl) (by kernel_rfl) (by kernel_rfl) (by kernel_rfl) (fun _ _ _ h => h) (.inl ⟨by kernel_rfl, fun w _ => by as_aux_lemma => kernel_rfl⟩) X0 ?_
    simp only [List.getElem_toArray, List.getElem_cons_succ, List.getElem_cons_zero, Act.put, Act.eval, List.setIfInBounds_toArray, List.set_cons_zero, List.set_cons_succ, Nat.reduceAdd, Array.getD_eq_getD_getElem?, List.getElem?_toArray, List.getElem?_cons_succ, List.getElem?_cons_zero, Option.getD_some]
    refine Ordl.take (i := 15) (v := .agg (c).cells.toArray) rfl (by kernel_rfl) (by kernel_rfl) (by kernel_rfl) (by kernel_rfl) (fun _ _ _ h => h) (yieldsIf_load_mid (by kernel_rfl) 28 (.tmp 8) rfl g2 (0) (by kernel_rfl) (c).cells _ (fun w h => rng_ext (blk_rng HC.out) h) undC rfl sizeC) X0 ?_
    simp only [List.getElem_toArray, List.getElem_cons_succ, List.getElem_cons_zero, Act.put, Act.eval, List.setIfInBounds_toArray, List.set_cons_zero, List.set_cons_succ, Nat.reduceAdd, Array.getD_eq_getD_getElem?, List.getElem?_toArray, List.getElem?_cons_succ, List.getElem?_cons_zero, Option.getD_some]
    refine Ordl.take (i := 16) (v := .bool off) rfl (by kernel_rfl) (by kernel_rfl) (by kernel_rfl) (by kernel_rfl) (fun _ _ _ h => h) (.inl ⟨by kernel_rfl, fun w _ => by as_aux_lemma => kernel_rfl⟩) X0 ?_
    simp only [List.getElem_toArray, List.getElem_cons_succ, List.getElem_cons_zero, Act.put, Act.eval, List.setIfInBounds_toArray, List.set_cons_zero, List.set_cons_succ, Nat.reduceAdd, Array.getD_eq_getD_getElem?, List.getElem?_toArray, List.getElem?_cons_succ, List.getElem?_cons_zero, Option.getD_some]
    refine Ordl.one (i := 11) (by kernel_rfl) rfl ?_
    refine ⟨?_⟩
    repeat go_step
    refine (HJA.out _).mono ?_
    rintro e w6 ⟨rfl, hx6⟩
    have X1 := X0.trans hx6
    clear X0 hx6
    rename_i hK
    refine hK _ _ ?_
    clear hK
    refine Ordl.Bx.out (?_ : Ordl.Bx _)
    refine Ordl.fin X1 ?_
    refine Ordl.one (i := 17) (by kernel_rfl) rfl ?_
    refine ⟨?_⟩
    repeat go_step
    refine (HJR.out _).mono ?_
    rintro e w7 ⟨rfl, hx7⟩
    have X0 := X1.trans hx7
    clear X1 hx7
    rename_i hK
    refine hK _ _ ?_
    clear hK
    refine Ordl.Bx.out (?_ : Ordl.Bx _)
    refine Ordl.fin X0 ?_
    refine Ordl.take (i := 18) (v := .bool (j == j)) rfl (by kernel_rfl) (by kernel_rfl) (by kernel_rfl) (by kernel_rfl) (fun _ _ _ h => h) (.inl ⟨by kernel_rfl, fun w _ => by as_aux_lemma => kernel_rfl⟩) X0 ?_
    simp only [List.getElem_toArray, List.getElem_cons_succ, List.getElem_cons_zero, Act.put, Act.eval, List.setIfInBounds_toArray, List.set_cons_zero, List.set_cons_succ, Nat.reduceAdd, Array.getD_eq_getD_getElem?, List.getElem?_toArray, List.getElem?_cons_succ, List.getElem?_cons_zero, Option.getD_some]
    first | rw [show (j == j) = true from beq_self_eq_true j] | skip
    refine Ordl.take (i := 19) (v := .bool true) rfl (by kernel_rfl) (by kernel_rfl) (by kernel_rfl) (by kernel_rfl) (fun _ _ _ h => h) (.inl ⟨by kernel_rfl, fun w _ => by as_aux_lemma => kernel_rfl⟩) X0 ?_
    simp only [List.getElem_toArray, List.getElem_cons_succ, List.getElem_cons_zero, Act.put, Act.eval, List.setIfInBounds_toArray, List.set_cons_zero, List.set_cons_succ, Nat.reduceAdd, Array.getD_eq_getD_getElem?, List.getElem?_toArray, List.getElem?_cons_succ, List.getElem?_cons_zero, Option.getD_some]
    refine Ordl.take (i := 20) (v := .bool true) rfl (by kernel_rfl) (by kernel_rfl) (by kernel_rfl) (by kernel_rfl) (fun _ _ _ h => h) (.inl ⟨by kernel_rfl, fun w _ => by as_aux_lemma => kernel_rfl⟩) X0 ?_
    simp only [List.getElem_toArray, List.getElem_cons_succ, List.getElem_cons_zero, Act.put, Act.eval, List.setIfInBounds_toArray, List.set_cons_zero, List.set_cons_succ, Nat.reduceAdd, Array.getD_eq_getD_getElem?, List.getElem?_toArray, List.getElem?_cons_succ, List.getElem?_cons_zero, Option.getD_some]
    refine Ordl.done (by kernel_rfl) ?_ _
    have HX9 := Lib.hid (HX.out.trans X0)
    clear X0
    go_wp2_with fail
    go_ret
    exact ⟨rfl, HX9.out⟩
end Tk
end Go.Proofs.YtcfdlfedmbmidaaDoor
