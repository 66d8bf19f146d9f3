/- Whether a ticket can be. -/
import Derived.Test.YtcfdlfedmbmidaaDoorTkK
import Derived.Test.YtcfdlfedmbmidaaDoorPlaceRepo2
set_option linter.unusedSimpArgs false
set_option linter.unusedVariables false
set_option linter.unusedSectionVars false
namespace Go.Proofs.YtcfdlfedmbmidaaDoor
open Go Go.RowKit
namespace Tk
def inside (a lo hi : Int) : Bool := decide (lo ≤ a) && decide (a ≤ hi)
def bare (x : T) : T := { zT with repo := x.repo, tag := x.tag, at_ := x.at_ }
def goodT (x : T) : Bool := Pl.repoP x.repo && (Pl.tagP x.tag && (inside x.at_ 0 1099511627776 && (if x.found = true then decide ((x.typ.length : Int) ≤ 100) && inside x.size 0 1048576 else decide (x = bare x))))
theorem within_any (a lo hi : Int) (w : World) : Calls Tryd.prog 26 #[.int .i64 a, .int .i64 lo, .int .i64 hi] w fun e w' => e = .returned (.bool (inside a lo hi)) ∧ w' = w := by
  unfold inside
  by_cases h1 : lo ≤ a
  · have q1 : decide (lo ≤ a) = true := decide_eq_true h1
    rw [q1, Bool.true_and]
    clear h1
    go_enter Tryd.func26, Tryd.ntmps26
    go_wp2_with fail
    go_ret
    exact ⟨rfl, rfl⟩
  · have q1 : decide (lo ≤ a) = false := decide_eq_false h1
    rw [q1, Bool.false_and]
    clear h1
    go_enter Tryd.func26, Tryd.ntmps26
    go_wp2_with fail
    go_ret
    exact ⟨rfl, rfl⟩
theorem repo_t (l : List UInt8) (w : World) : Calls Tryd.prog 24 #[.string ⟨l.toArray⟩] w fun e w' => e = .returned (.bool (Pl.repoP l)) ∧ Reg.Ext w w' := by
  have := Pl.repo_any ⟨l.toArray⟩ w
  rw [show (⟨l.toArray⟩ : ByteArray).data.toList = l from rfl] at this
  exact this
theorem tag_t (l : List UInt8) (w : World) : Calls Tryd.prog 25 #[.string ⟨l.toArray⟩] w fun e w' => e = .returned (.bool (Pl.tagP l)) ∧ Reg.Ext w w' := by
  have := Pl.tag_any ⟨l.toArray⟩ w
  rw [show (⟨l.toArray⟩ : ByteArray).data.toList = l from rfl] at this
  exact this
set_option maxRecDepth 100000 in
set_option maxHeartbeats 1000000 in
theorem good_any (x : T) (hx : x.dig.length = 32) (w : World) : Calls Tryd.prog 9 #[.agg x.cells.toArray] w fun e w' => e = .returned (.bool (goodT x)) ∧ Reg.Ext w w' := by
  have hb1 := boxT w x
  have hx1 := Reg.Ext.alloc w (Obj.cells x.cells.toArray 25)
  have HB := Lib.hid hb1
  have c0 : (w.alloc (Obj.cells x.cells.toArray 25)).cell? ⟨w.heap.size, 0, none⟩ = some (.string ⟨x.repo.toArray⟩) := hb1.cell 0
  have c1 : (w.alloc (Obj.cells x.cells.toArray 25)).cell? ⟨w.heap.size, 1, none⟩ = some (.string ⟨x.tag.toArray⟩) := hb1.cell 1
  have c2 : (w.alloc (Obj.cells x.cells.toArray 25)).cell? ⟨w.heap.size, 2, none⟩ = some (.bool x.found) := hb1.cell 2
  have c35 : (w.alloc (Obj.cells x.cells.toArray 25)).cell? ⟨w.heap.size, 35, none⟩ = some (.string ⟨x.typ.toArray⟩) := (hb1.cell 35).trans (x.tail hx 0)
  have c36 : (w.alloc (Obj.cells x.cells.toArray 25)).cell? ⟨w.heap.size, 36, none⟩ = some (.int .i64 x.size) := (hb1.cell 36).trans (x.tail hx 1)
  have c37 : (w.alloc (Obj.cells x.cells.toArray 25)).cell? ⟨w.heap.size, 37, none⟩ = some (.int .i64 x.at_) := (hb1.cell 37).trans (x.tail hx 2)
  have HX := Lib.hid hx1
  have HXD := Lib.hid hx
  have HX0 := Lib.hid hx1
  obtain ⟨q1, hq1⟩ : ∃ q, Pl.repoP x.repo = q := ⟨_, rfl⟩
  obtain ⟨q2, hq2⟩ : ∃ q, Pl.tagP x.tag = q := ⟨_, rfl⟩
  obtain ⟨q3, hq3⟩ : ∃ q, inside x.at_ 0 1099511627776 = q := ⟨_, rfl⟩
  obtain ⟨q4, hq4⟩ : ∃ q, inside x.size 0 1048576 = q := ⟨_, rfl⟩
  have h1 := fun w => repo_t x.repo w
  rw [hq1] at h1
  have h2 := fun w => tag_t x.tag w
  rw [hq2] at h2
  have h3 := fun w => within_any x.at_ 0 1099511627776 w
  rw [hq3] at h3
  have h4 := fun w => within_any x.size 0 1048576 w
  rw [hq4] at h4
  have HRP := Lib.hid h1
  have HTG := Lib.hid h2
  have HWA := Lib.hid h3
  have HWS := Lib.hid h4
  have hgd : goodT x = (q1 && (q2 && (q3 && (if x.found = true then decide ((x.typ.length : Int) ≤ 100) && q4 else decide (x = bare x))))) := by
    unfold goodT
    rw [hq1, hq2, hq3, hq4]
  rw [hgd]
  clear hgd h1 h2 h3 h4 hq1 hq2 hq3 hq4 hb1 hx1 hx
  cases q1 with
  | false =>
    rw [Bool.false_and]
    go_enter Tryd.func9, Tryd.ntmps9
    go_wp2_with (first
      | (go_at_call 24; refine (HRP.out _).mono ?_; rintro e wk ⟨rfl, hk⟩; have HX := Lib.hid (HX.out.trans hk); have c1 := hk.at_ c1; have c2 := hk.at_ c2; have c35 := hk.at_ c35; have c36 := hk.at_ c36; have c37 := hk.at_ c37; clear hk)
      | (go_at_call 25; refine (HTG.out _).mono ?_; rintro e wk ⟨rfl, hk⟩; have HX := Lib.hid (HX.out.trans hk); have c1 := hk.at_ c1; have c2 := hk.at_ c2; have c35 := hk.at_ c35; have c36 := hk.at_ c36; have c37 := hk.at_ c37; clear hk)
      | (go_at_call 26; refine (HWA.out _).mono ?_; rintro e wk ⟨rfl, rfl⟩))
    go_ret
    exact ⟨rfl, HX.out⟩
  | true =>
    cases q2 with
    | false =>
      rw [Bool.false_and, Bool.true_and]
      go_enter Tryd.func9, Tryd.ntmps9
      go_wp2_with (first
        | (go_at_call 24; refine (HRP.out _).mono ?_; rintro e wk ⟨rfl, hk⟩; have HX := Lib.hid (HX.out.trans hk); have c1 := hk.at_ c1; have c2 := hk.at_ c2; have c35 := hk.at_ c35; have c36 := hk.at_ c36; have c37 := hk.at_ c37; clear hk)
        | (go_at_call 25; refine (HTG.out _).mono ?_; rintro e wk ⟨rfl, hk⟩; have HX := Lib.hid (HX.out.trans hk); have c1 := hk.at_ c1; have c2 := hk.at_ c2; have c35 := hk.at_ c35; have c36 := hk.at_ c36; have c37 := hk.at_ c37; clear hk)
        | (go_at_call 26; refine (HWA.out _).mono ?_; rintro e wk ⟨rfl, rfl⟩))
      go_ret
      exact ⟨rfl, HX.out⟩
    | true =>
      cases q3 with
      | false =>
        rw [Bool.false_and, Bool.true_and, Bool.true_and]
        go_enter Tryd.func9, Tryd.ntmps9
        go_wp2_with (first
          | (go_at_call 24; refine (HRP.out _).mono ?_; rintro e wk ⟨rfl, hk⟩; have HX := Lib.hid (HX.out.trans hk); have c1 := hk.at_ c1; have c2 := hk.at_ c2; have c35 := hk.at_ c35; have c36 := hk.at_ c36; have c37 := hk.at_ c37; clear hk)
          | (go_at_call 25; refine (HTG.out _).mono ?_; rintro e wk ⟨rfl, hk⟩; have HX := Lib.hid (HX.out.trans hk); have c1 := hk.at_ c1; have c2 := hk.at_ c2; have c35 := hk.at_ c35; have c36 := hk.at_ c36; have c37 := hk.at_ c37; clear hk)
          | (go_at_call 26; refine (HWA.out _).mono ?_; rintro e wk ⟨rfl, rfl⟩))
        go_ret
        exact ⟨rfl, HX.out⟩
      | true =>
        rw [Bool.true_and, Bool.true_and, Bool.true_and]
        obtain ⟨f, hf⟩ : ∃ f, x.found = f := ⟨_, rfl⟩
        rw [hf] at c2 ⊢
        have HFO := Lib.hid hf
        clear hf
        cases f with
        | true =>
          rw [if_pos rfl]
          by_cases ht : (x.typ.length : Int) ≤ 100
          · have qt : decide ((x.typ.length : Int) ≤ 100) = true := decide_eq_true ht
            rw [qt, Bool.true_and]
            clear ht
            go_enter Tryd.func9, Tryd.ntmps9
            go_upto_region 3 with (first
              | (go_at_call 24; refine (HRP.out _).mono ?_; rintro e wk ⟨rfl, hk⟩; have HX := Lib.hid (HX.out.trans hk); have c1 := hk.at_ c1; have c2 := hk.at_ c2; have c35 := hk.at_ c35; have c36 := hk.at_ c36; have c37 := hk.at_ c37; clear hk)
              | (go_at_call 25; refine (HTG.out _).mono ?_; rintro e wk ⟨rfl, hk⟩; have HX := Lib.hid (HX.out.trans hk); have c1 := hk.at_ c1; have c2 := hk.at_ c2; have c35 := hk.at_ c35; have c36 := hk.at_ c36; have c37 := hk.at_ c37; clear hk)
              | (go_at_call 26; refine (HWA.out _).mono ?_; rintro e wk ⟨rfl, rfl⟩))
            go_wp2_with (go_at_call 26; refine (HWS.out _).mono ?_; rintro e wk ⟨rfl, rfl⟩)
            go_ret
            exact ⟨rfl, HX.out⟩
          · have qt : decide ((x.typ.length : Int) ≤ 100) = false := decide_eq_false ht
            rw [qt, Bool.false_and]
            clear ht
            go_enter Tryd.func9, Tryd.ntmps9
            go_upto_region 3 with (first
              | (go_at_call 24; refine (HRP.out _).mono ?_; rintro e wk ⟨rfl, hk⟩; have HX := Lib.hid (HX.out.trans hk); have c1 := hk.at_ c1; have c2 := hk.at_ c2; have c35 := hk.at_ c35; have c36 := hk.at_ c36; have c37 := hk.at_ c37; clear hk)
              | (go_at_call 25; refine (HTG.out _).mono ?_; rintro e wk ⟨rfl, hk⟩; have HX := Lib.hid (HX.out.trans hk); have c1 := hk.at_ c1; have c2 := hk.at_ c2; have c35 := hk.at_ c35; have c36 := hk.at_ c36; have c37 := hk.at_ c37; clear hk)
              | (go_at_call 26; refine (HWA.out _).mono ?_; rintro e wk ⟨rfl, rfl⟩))
            go_wp2_with (go_at_call 26; refine (HWS.out _).mono ?_; rintro e wk ⟨rfl, rfl⟩)
            go_ret
            exact ⟨rfl, HX.out⟩
        | false =>
          rw [if_neg Bool.false_ne_true]
          go_enter Tryd.func9, Tryd.ntmps9
          go_upto_region 4 with (first
            | (go_at_call 24; refine (HRP.out _).mono ?_; rintro e wk ⟨rfl, hk⟩; have HX := Lib.hid (HX.out.trans hk); have HB := Lib.hid (HB.out.ext hk); have c0 := hk.at_ c0; have c1 := hk.at_ c1; have c2 := hk.at_ c2; have c35 := hk.at_ c35; have c36 := hk.at_ c36; have c37 := hk.at_ c37; clear hk)
            | (go_at_call 25; refine (HTG.out _).mono ?_; rintro e wk ⟨rfl, hk⟩; have HX := Lib.hid (HX.out.trans hk); have HB := Lib.hid (HB.out.ext hk); have c0 := hk.at_ c0; have c1 := hk.at_ c1; have c2 := hk.at_ c2; have c35 := hk.at_ c35; have c36 := hk.at_ c36; have c37 := hk.at_ c37; clear hk)
            | (go_at_call 26; refine (HWA.out _).mono ?_; rintro e wk ⟨rfl, rfl⟩))
          refine wp_region_lit ?_
          refine wpList_ldm rfl 25 (.tmp 1) rfl w.heap.size 0 rfl x.cells _ (Lib.hid (blk_rng HB.out)) undT (by rw [x.len HXD.out]; exact sizeT) ?_
          simp only [Act.put, Act.eval, List.setIfInBounds_toArray, List.set_cons_zero, List.set_cons_succ, Nat.reduceAdd, Array.getD_eq_getD_getElem?, List.getElem?_toArray, List.getElem?_cons_succ, List.getElem?_cons_zero, Option.getD_some]
          iterate 18 go_step
          refine wpList_val rfl (.agg (bare x).cells.toArray) (by as_aux_lemma => kernel_rfl) ?_
          simp only [Act.put, Act.eval, List.setIfInBounds_toArray, List.set_cons_zero, List.set_cons_succ, Nat.reduceAdd, Array.getD_eq_getD_getElem?, List.getElem?_toArray, List.getElem?_cons_succ, List.getElem?_cons_zero, Option.getD_some]
          refine wpList_val rfl (.bool (decide (x = bare x))) (exec_eqlT x (bare x) HXD.out rfl (.tmp 22) (.tmp 29) rfl rfl rfl) ?_
          simp only [Act.put, Act.eval, List.setIfInBounds_toArray, List.set_cons_zero, List.set_cons_succ, Nat.reduceAdd, Array.getD_eq_getD_getElem?, List.getElem?_toArray, List.getElem?_cons_succ, List.getElem?_cons_zero, Option.getD_some]
          go_wp2_with fail
          go_ret
          exact ⟨rfl, HX.out⟩
end Tk
end Go.Proofs.YtcfdlfedmbmidaaDoor
