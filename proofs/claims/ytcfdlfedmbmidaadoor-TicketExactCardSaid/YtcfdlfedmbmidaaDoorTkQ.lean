/- The document's: whether a ticket can be. -/
import Derived.Test.YtcfdlfedmbmidaaDoorTkP
import Derived.Test.YtcfdlfedmbmidaaDoorPlaceRefN
set_option linter.unusedSimpArgs false
set_option linter.unusedVariables false
set_option linter.unusedSectionVars false
namespace Go.Proofs.YtcfdlfedmbmidaaDoor
open Go Go.RowKit
namespace Tk
theorem bare_dec (x : T) (hf : x.found = false) : decide (x = bare x) = (x.dig == List.replicate 32 0 && (x.typ.isEmpty && x.size == 0)) := by
  obtain ⟨r, t, f, d, y, s, a⟩ := x
  dsimp only at hf
  subst hf
  rw [Bool.eq_iff_iff, decide_eq_true_iff]
  unfold bare zT
  simp [List.isEmpty_iff, and_assoc]
theorem range_tk {w : World} {g : Nat} {t : TypeId} {x : T} (hx : x.dig.length = 32) (h : Blk w g t x.cells) : w.rangeAt g 3 (x.dig.map byteV) := fun j v hv => by
  rw [h.cell]
  unfold T.cells
  rw [show 3 + j = j + 1 + 1 + 1 by omega, List.getElem?_cons_succ, List.getElem?_cons_succ, List.getElem?_cons_succ, List.getElem?_append_left (List.getElem?_eq_some_iff.1 hv).1]
  exact hv
theorem exec_eqlG {w : World} {ρ : Operand → Value} {o : Oper} {l m : List UInt8} (hl : l.length = 32) (hm : m.length = 32) (p q : Operand) (ho : o.op = .binOp .eql 23 p q 23) (hp : ρ p = .agg (l.map byteV).toArray) (hq : ρ q = .agg (m.map byteV).toArray) :
    (execOp ρ o).run Tryd.prog w = .ok (.value (.bool (l == m))) w := by
  have hg : Tryd.prog.eqGuardType Tryd.prog.depth 23 = false := by kernel_rfl
  unfold execOp
  simp only [ho, hp, hq, Sem.run_bind, run_eqGuard_agg _ _ _ _ _ _ _ hg, Result.andThen_ok, run_eql_struct, equal_dig hl hm 9998 w, Sem.run_pure]
theorem repoR_t (l : List UInt8) (w : World) : Calls Tryd.prog 27 #[.string ⟨l.toArray⟩] w fun e w' => e = .returned (.bool (Pl.repoP l)) ∧ Reg.Ext w w' := by
  have := Pl.repoR_any ⟨l.toArray⟩ w
  rw [show (⟨l.toArray⟩ : ByteArray).data.toList = l from rfl] at this
  exact this
theorem tagR_t (l : List UInt8) (w : World) (h : l.length ≤ 9223372036854775807) : Calls Tryd.prog 28 #[.string ⟨l.toArray⟩] w fun e w' => e = .returned (.bool (Pl.tagP l)) ∧ w = w' := by
  have := Pl.tagR_any ⟨l.toArray⟩ w (by rw [show (⟨l.toArray⟩ : ByteArray).size = l.length from by simp [ByteArray.size]]; exact h)
  rw [show (⟨l.toArray⟩ : ByteArray).data.toList = l from rfl] at this
  exact this
set_option maxRecDepth 100000 in
set_option maxHeartbeats 1000000 in
theorem goodR_any (x : T) (hx : x.dig.length = 32) (hl : x.tag.length ≤ 9223372036854775807) (w : World) : Calls Tryd.prog 10 #[.agg x.cells.toArray] w fun e w' => e = .returned (.bool (goodT x)) ∧ Reg.Ext w w' := by
  have hb1 := boxT w x
  have hx1 := Reg.Ext.alloc w (Obj.cells x.cells.toArray 25)
  have HB := Lib.hid hb1
  have c0 : (w.alloc (Obj.cells x.cells.toArray 25)).cell? ⟨w.heap.size, 0, none⟩ = some (.string ⟨x.repo.toArray⟩) := hb1.cell 0
  have c1 : (w.alloc (Obj.cells x.cells.toArray 25)).cell? ⟨w.heap.size, 1, none⟩ = some (.string ⟨x.tag.toArray⟩) := hb1.cell 1
  have c2 : (w.alloc (Obj.cells x.cells.toArray 25)).cell? ⟨w.heap.size, 2, none⟩ = some (.bool x.found) := hb1.cell 2
  have c35 : (w.alloc (Obj.cells x.cells.toArray 25)).cell? ⟨w.heap.size, 35, none⟩ = some (.string ⟨x.typ.toArray⟩) := (hb1.cell 35).trans (x.tail hx 0)
  have c36 : (w.alloc (Obj.cells x.cells.toArray 25)).cell? ⟨w.heap.size, 36, none⟩ = some (.int .i64 x.size) := (hb1.cell 36).trans (x.tail hx 1)
  have c37 : (w.alloc (Obj.cells x.cells.toArray 25)).cell? ⟨w.heap.size, 37, none⟩ = some (.int .i64 x.at_) := (hb1.cell 37).trans (x.tail hx 2)
  have HX := Lib.hid hx1
  have HXD := Lib.hid hx
  obtain ⟨q1, hq1⟩ : ∃ q, Pl.repoP x.repo = q := ⟨_, rfl⟩
  obtain ⟨q2, hq2⟩ : ∃ q, Pl.tagP x.tag = q := ⟨_, rfl⟩
  have h1 := fun w => repoR_t x.repo w
  rw [hq1] at h1
  have h2 := fun w => tagR_t x.tag w hl
  rw [hq2] at h2
  have HRP := Lib.hid h1
  have HTG := Lib.hid h2
  have hgd : goodT x = (q1 && (q2 && (inside x.at_ 0 1099511627776 && (if x.found = true then decide ((x.typ.length : Int) ≤ 100) && inside x.size 0 1048576 else decide (x = bare x))))) := by
    unfold goodT
    rw [hq1, hq2]
  rw [hgd]
  clear hgd h1 h2 hq1 hq2 hb1 hx1 hx hl
  cases q1 with
  | false =>
    rw [Bool.false_and]
    go_enter Tryd.func10, Tryd.ntmps10
    go_wp2_with (first
      | (go_at_call 27; refine (HRP.out _).mono ?_; rintro e wk ⟨rfl, hk⟩; have HX := Lib.hid (HX.out.trans hk); have HB := Lib.hid (HB.out.ext hk); have c1 := hk.at_ c1; have c2 := hk.at_ c2; have c35 := hk.at_ c35; have c36 := hk.at_ c36; have c37 := hk.at_ c37; clear hk)
      | (go_at_call 28; refine (HTG.out _).mono ?_; rintro e wk ⟨rfl, rfl⟩))
    go_ret
    exact ⟨rfl, HX.out⟩
  | true =>
    cases q2 with
    | false =>
      rw [Bool.false_and, Bool.true_and]
      go_enter Tryd.func10, Tryd.ntmps10
      go_wp2_with (first
        | (go_at_call 27; refine (HRP.out _).mono ?_; rintro e wk ⟨rfl, hk⟩; have HX := Lib.hid (HX.out.trans hk); have HB := Lib.hid (HB.out.ext hk); have c1 := hk.at_ c1; have c2 := hk.at_ c2; have c35 := hk.at_ c35; have c36 := hk.at_ c36; have c37 := hk.at_ c37; clear hk)
        | (go_at_call 28; refine (HTG.out _).mono ?_; rintro e wk ⟨rfl, rfl⟩))
      go_ret
      exact ⟨rfl, HX.out⟩
    | true =>
      rw [Bool.true_and, Bool.true_and]
      by_cases a0 : x.at_ < 0
      · have qa : decide (x.at_ < 0) = true := decide_eq_true a0
        have qi : inside x.at_ 0 1099511627776 = false := by unfold inside; rw [decide_eq_false (by omega)]; rfl
        rw [qi, Bool.false_and]
        clear qi a0
        go_enter Tryd.func10, Tryd.ntmps10
        go_wp2_with (first
          | (go_at_call 27; refine (HRP.out _).mono ?_; rintro e wk ⟨rfl, hk⟩; have HX := Lib.hid (HX.out.trans hk); have HB := Lib.hid (HB.out.ext hk); have c1 := hk.at_ c1; have c2 := hk.at_ c2; have c35 := hk.at_ c35; have c36 := hk.at_ c36; have c37 := hk.at_ c37; clear hk)
          | (go_at_call 28; refine (HTG.out _).mono ?_; rintro e wk ⟨rfl, rfl⟩))
        go_ret
        exact ⟨rfl, HX.out⟩
      · by_cases a1 : 1099511627776 < x.at_
        · have qa : decide (x.at_ < 0) = false := decide_eq_false a0
          have qb : decide (1099511627776 < x.at_) = true := decide_eq_true a1
          have qi : inside x.at_ 0 1099511627776 = false := by unfold inside; rw [decide_eq_false (show ¬ x.at_ ≤ 1099511627776 by omega), Bool.and_false]
          rw [qi, Bool.false_and]
          clear qi a0 a1
          go_enter Tryd.func10, Tryd.ntmps10
          go_wp2_with (first
            | (go_at_call 27; refine (HRP.out _).mono ?_; rintro e wk ⟨rfl, hk⟩; have HX := Lib.hid (HX.out.trans hk); have HB := Lib.hid (HB.out.ext hk); have c1 := hk.at_ c1; have c2 := hk.at_ c2; have c35 := hk.at_ c35; have c36 := hk.at_ c36; have c37 := hk.at_ c37; clear hk)
            | (go_at_call 28; refine (HTG.out _).mono ?_; rintro e wk ⟨rfl, rfl⟩))
          go_ret
          exact ⟨rfl, HX.out⟩
        · have qa : decide (x.at_ < 0) = false := decide_eq_false a0
          have qb : decide (1099511627776 < x.at_) = false := decide_eq_false a1
          have qi : inside x.at_ 0 1099511627776 = true := by unfold inside; rw [decide_eq_true (show x.at_ ≤ 1099511627776 by omega), decide_eq_true (show 0 ≤ x.at_ by omega)]; rfl
          rw [qi, Bool.true_and]
          clear qi a0 a1
          obtain ⟨f, hf⟩ : ∃ f, x.found = f := ⟨_, rfl⟩
          have HFO := Lib.hid hf
          rw [hf] at c2 ⊢
          clear hf
          cases f with
          | true =>
            rw [if_pos rfl]
            unfold inside
            obtain ⟨t1, ht1⟩ : ∃ q, decide ((x.typ.length : Int) ≤ 100) = q := ⟨_, rfl⟩
            obtain ⟨t2, ht2⟩ : ∃ q, decide (0 ≤ x.size) = q := ⟨_, rfl⟩
            obtain ⟨t3, ht3⟩ : ∃ q, decide (x.size ≤ 1048576) = q := ⟨_, rfl⟩
            rw [ht1, ht2, ht3]
            cases t1 with
            | false =>
              rw [Bool.false_and]
              go_enter Tryd.func10, Tryd.ntmps10
              go_wp2_with (first
                | (go_at_call 27; refine (HRP.out _).mono ?_; rintro e wk ⟨rfl, hk⟩; have HX := Lib.hid (HX.out.trans hk); have HB := Lib.hid (HB.out.ext hk); have c1 := hk.at_ c1; have c2 := hk.at_ c2; have c35 := hk.at_ c35; have c36 := hk.at_ c36; have c37 := hk.at_ c37; clear hk)
                | (go_at_call 28; refine (HTG.out _).mono ?_; rintro e wk ⟨rfl, rfl⟩))
              go_ret
              exact ⟨rfl, HX.out⟩
            | true =>
              rw [Bool.true_and]
              cases t2 with
              | false =>
                rw [Bool.false_and]
                go_enter Tryd.func10, Tryd.ntmps10
                go_wp2_with (first
                  | (go_at_call 27; refine (HRP.out _).mono ?_; rintro e wk ⟨rfl, hk⟩; have HX := Lib.hid (HX.out.trans hk); have HB := Lib.hid (HB.out.ext hk); have c1 := hk.at_ c1; have c2 := hk.at_ c2; have c35 := hk.at_ c35; have c36 := hk.at_ c36; have c37 := hk.at_ c37; clear hk)
                  | (go_at_call 28; refine (HTG.out _).mono ?_; rintro e wk ⟨rfl, rfl⟩))
                go_ret
                exact ⟨rfl, HX.out⟩
              | true =>
                rw [Bool.true_and]
                go_enter Tryd.func10, Tryd.ntmps10
                go_wp2_with (first
                  | (go_at_call 27; refine (HRP.out _).mono ?_; rintro e wk ⟨rfl, hk⟩; have HX := Lib.hid (HX.out.trans hk); have HB := Lib.hid (HB.out.ext hk); have c1 := hk.at_ c1; have c2 := hk.at_ c2; have c35 := hk.at_ c35; have c36 := hk.at_ c36; have c37 := hk.at_ c37; clear hk)
                  | (go_at_call 28; refine (HTG.out _).mono ?_; rintro e wk ⟨rfl, rfl⟩))
                go_ret
                exact ⟨rfl, HX.out⟩
          | false =>
            rw [if_neg Bool.false_ne_true, bare_dec x HFO.out]
            obtain ⟨d, hd⟩ : ∃ d, (x.dig == List.replicate 32 0) = d := ⟨_, rfl⟩
            obtain ⟨e, he⟩ : ∃ e, x.typ.isEmpty = e := ⟨_, rfl⟩
            obtain ⟨f, hf⟩ : ∃ f, (x.size == 0) = f := ⟨_, rfl⟩
            have he2 : ((⟨x.typ.toArray⟩ : ByteArray).toList == []) = e := by rw [baL, ← he]; cases x.typ <;> rfl
            have he3 : (⟨x.typ.toArray⟩ : ByteArray).toList.isEmpty = e := by rw [baL]; exact he
            rw [he, hf, hd]
            have HD := Lib.hid hd
            clear hd he
            cases d with
            | false =>
              rw [Bool.false_and]
              go_enter Tryd.func10, Tryd.ntmps10
              go_upto_region 4 with (first
                | (go_at_call 27; refine (HRP.out _).mono ?_; rintro e wk ⟨rfl, hk⟩; have HX := Lib.hid (HX.out.trans hk); have HB := Lib.hid (HB.out.ext hk); have c1 := hk.at_ c1; have c2 := hk.at_ c2; have c35 := hk.at_ c35; have c36 := hk.at_ c36; have c37 := hk.at_ c37; clear hk)
                | (go_at_call 28; refine (HTG.out _).mono ?_; rintro e wk ⟨rfl, rfl⟩))
              refine wp_region_lit ?_
              iterate 3 go_step
              refine wpList_load_mid rfl 23 (.tmp 26) rfl w.heap.size 3 rfl (x.dig.map byteV) _ (range_tk HXD.out HB.out) undDg rfl (by rw [List.length_map, HXD.out]; kernel_rfl) ?_
              simp only [Act.put, Act.eval, List.setIfInBounds_toArray, List.set_cons_zero, List.set_cons_succ, Nat.reduceAdd, Array.getD_eq_getD_getElem?, List.getElem?_toArray, List.getElem?_cons_succ, List.getElem?_cons_zero, Option.getD_some]
              refine wpList_val rfl (.agg ((List.replicate 32 0).map byteV).toArray) (by as_aux_lemma => kernel_rfl) ?_
              simp only [Act.put, Act.eval, List.setIfInBounds_toArray, List.set_cons_zero, List.set_cons_succ, Nat.reduceAdd, Array.getD_eq_getD_getElem?, List.getElem?_toArray, List.getElem?_cons_succ, List.getElem?_cons_zero, Option.getD_some]
              refine wpList_val rfl (.bool (x.dig == List.replicate 32 0)) (exec_eqlG HXD.out rfl (.tmp 27) (.tmp 28) rfl rfl rfl) ?_
              simp only [Act.put, Act.eval, List.setIfInBounds_toArray, List.set_cons_zero, List.set_cons_succ, Nat.reduceAdd, Array.getD_eq_getD_getElem?, List.getElem?_toArray, List.getElem?_cons_succ, List.getElem?_cons_zero, Option.getD_some]
              rw [HD.out]
              go_wp2_with fail
              go_ret
              exact ⟨rfl, HX.out⟩
            | true =>
              rw [Bool.true_and]
              cases e with
              | false =>
                rw [Bool.false_and]
                have hte : ¬ x.typ = [] := fun h => by rw [baL, h] at he3; exact absurd he3 (by decide)
                have hte2 : decide (x.typ = []) = false := decide_eq_false hte
                clear he2 he3
                go_enter Tryd.func10, Tryd.ntmps10
                go_upto_region 4 with (first
                  | (go_at_call 27; refine (HRP.out _).mono ?_; rintro e wk ⟨rfl, hk⟩; have HX := Lib.hid (HX.out.trans hk); have HB := Lib.hid (HB.out.ext hk); have c1 := hk.at_ c1; have c2 := hk.at_ c2; have c35 := hk.at_ c35; have c36 := hk.at_ c36; have c37 := hk.at_ c37; clear hk)
                  | (go_at_call 28; refine (HTG.out _).mono ?_; rintro e wk ⟨rfl, rfl⟩))
                refine wp_region_lit ?_
                iterate 3 go_step
                refine wpList_load_mid rfl 23 (.tmp 26) rfl w.heap.size 3 rfl (x.dig.map byteV) _ (range_tk HXD.out HB.out) undDg rfl (by rw [List.length_map, HXD.out]; kernel_rfl) ?_
                simp only [Act.put, Act.eval, List.setIfInBounds_toArray, List.set_cons_zero, List.set_cons_succ, Nat.reduceAdd, Array.getD_eq_getD_getElem?, List.getElem?_toArray, List.getElem?_cons_succ, List.getElem?_cons_zero, Option.getD_some]
                refine wpList_val rfl (.agg ((List.replicate 32 0).map byteV).toArray) (by as_aux_lemma => kernel_rfl) ?_
                simp only [Act.put, Act.eval, List.setIfInBounds_toArray, List.set_cons_zero, List.set_cons_succ, Nat.reduceAdd, Array.getD_eq_getD_getElem?, List.getElem?_toArray, List.getElem?_cons_succ, List.getElem?_cons_zero, Option.getD_some]
                refine wpList_val rfl (.bool (x.dig == List.replicate 32 0)) (exec_eqlG HXD.out rfl (.tmp 27) (.tmp 28) rfl rfl rfl) ?_
                simp only [Act.put, Act.eval, List.setIfInBounds_toArray, List.set_cons_zero, List.set_cons_succ, Nat.reduceAdd, Array.getD_eq_getD_getElem?, List.getElem?_toArray, List.getElem?_cons_succ, List.getElem?_cons_zero, Option.getD_some]
                rw [HD.out]
                go_wp2_with fail
                go_ret
                exact ⟨rfl, HX.out⟩
              | true =>
                rw [Bool.true_and]
                have hte : x.typ = [] := by rw [baL] at he3; exact List.isEmpty_iff.1 he3
                rw [hte] at c35
                change _ = some (Value.string ⟨#[]⟩) at c35
                clear he2 he3 hte
                go_enter Tryd.func10, Tryd.ntmps10
                go_upto_region 4 with (first
                  | (go_at_call 27; refine (HRP.out _).mono ?_; rintro e wk ⟨rfl, hk⟩; have HX := Lib.hid (HX.out.trans hk); have HB := Lib.hid (HB.out.ext hk); have c1 := hk.at_ c1; have c2 := hk.at_ c2; have c35 := hk.at_ c35; have c36 := hk.at_ c36; have c37 := hk.at_ c37; clear hk)
                  | (go_at_call 28; refine (HTG.out _).mono ?_; rintro e wk ⟨rfl, rfl⟩))
                refine wp_region_lit ?_
                iterate 3 go_step
                refine wpList_load_mid rfl 23 (.tmp 26) rfl w.heap.size 3 rfl (x.dig.map byteV) _ (range_tk HXD.out HB.out) undDg rfl (by rw [List.length_map, HXD.out]; kernel_rfl) ?_
                simp only [Act.put, Act.eval, List.setIfInBounds_toArray, List.set_cons_zero, List.set_cons_succ, Nat.reduceAdd, Array.getD_eq_getD_getElem?, List.getElem?_toArray, List.getElem?_cons_succ, List.getElem?_cons_zero, Option.getD_some]
                refine wpList_val rfl (.agg ((List.replicate 32 0).map byteV).toArray) (by as_aux_lemma => kernel_rfl) ?_
                simp only [Act.put, Act.eval, List.setIfInBounds_toArray, List.set_cons_zero, List.set_cons_succ, Nat.reduceAdd, Array.getD_eq_getD_getElem?, List.getElem?_toArray, List.getElem?_cons_succ, List.getElem?_cons_zero, Option.getD_some]
                refine wpList_val rfl (.bool (x.dig == List.replicate 32 0)) (exec_eqlG HXD.out rfl (.tmp 27) (.tmp 28) rfl rfl rfl) ?_
                simp only [Act.put, Act.eval, List.setIfInBounds_toArray, List.set_cons_zero, List.set_cons_succ, Nat.reduceAdd, Array.getD_eq_getD_getElem?, List.getElem?_toArray, List.getElem?_cons_succ, List.getElem?_cons_zero, Option.getD_some]
                rw [HD.out]
                go_wp2_with fail
                go_ret
                exact ⟨rfl, HX.out⟩
end Tk
end Go.Proofs.YtcfdlfedmbmidaaDoor
