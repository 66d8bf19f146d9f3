/- An act on a disk with its blocks in sight. -/
import Derived.Test.YtbiikihapfpkfaaPlkDg
set_option linter.unusedSimpArgs false
set_option linter.unusedVariables false
set_option linter.unusedSectionVars false
namespace Go.Proofs.Ytbiikihapfpkfaa
open Go Go.RowKit
namespace Plk
set_option maxRecDepth 100000 in
set_option maxHeartbeats 2000000 in
theorem Dg.done {w : World} {d mp : Nat} {es : List E} {p : P} (h : Dg w d mp es p) (a : A) (h1 : p.h.ops < big) (ht : a.s.length ≤ 4294967296) :
    Calls Try.prog 23 #[.pointer (some ⟨d, 0, none⟩), a.v] w (ResG d mp w es (.int .i64 (p.done a).1) (p.done a).2) := by
  have hx := Reg.Ext.alloc w (.cells a.cells.toArray 41)
  have H := Lib.hid (h.ext hx)
  have HX := Lib.hid hx
  generalize hr : p.done a = r
  unfold P.done at hr
  obtain ⟨k, nm, to, s, x, n, b, ka, kc, ks⟩ := a
  unfold A.v A.cells at *
  dsimp only at *
  clear h hx
  have hrk := Lib.hid hr
  clear hr
  go_enter Try.func23, Try.ntmps23
  by_cases k2 : k = 2
  · have hr := hrk.out
    rw [if_pos k2] at hr
    subst hr k2
    have hc := H.out.append nm s h1 ht
    unfold str at hc
    go_wp2_with (go_at_call 11; refine hc.mono ?_; rintro e w' ⟨rfl, es2, h2, h3⟩)
    go_ret
    exact ⟨rfl, es2, h2, (Turn.ext HX.out).trans h3⟩
  · by_cases k3 : k = 3
    · have hr := hrk.out
      rw [if_neg k2, if_pos k3] at hr
      subst hr k3
      have hc := H.out.read nm x n h1
      unfold str at hc
      generalize p.read nm x n = q at hc ⊢
      clear k2
      go_wp2_with (go_at_call 18; refine hc.mono ?_; rintro e w' ⟨rfl, es2, h2, h3⟩)
      go_ret
      exact ⟨rfl, es2, h2, (Turn.ext HX.out).trans h3⟩
    · by_cases k4 : k = 4
      · have hr := hrk.out
        rw [if_neg k2, if_neg k3, if_pos k4] at hr
        subst hr k4
        have hc := H.out.sync nm h1
        unfold str at hc
        clear k2 k3
        go_wp2_with (go_at_call 12; refine hc.mono ?_; rintro e w' ⟨rfl, es2, h2, h3⟩)
        go_ret
        exact ⟨rfl, es2, h2, (Turn.ext HX.out).trans h3⟩
      · by_cases k5 : k = 5
        · have hr := hrk.out
          rw [if_neg k2, if_neg k3, if_neg k4, if_pos k5] at hr
          subst hr k5
          have hc := H.out.rename nm to h1
          unfold str at hc
          clear k2 k3 k4
          go_wp2_with (go_at_call 32; refine hc.mono ?_; rintro e w' ⟨rfl, es2, h2, h3⟩)
          go_ret
          exact ⟨rfl, es2, h2, (Turn.ext HX.out).trans h3⟩
        · by_cases k6 : k = 6
          · have hr := hrk.out
            rw [if_neg k2, if_neg k3, if_neg k4, if_neg k5, if_pos k6] at hr
            subst hr k6
            have hc := H.out.delete nm h1
            unfold str at hc
            clear k2 k3 k4 k5
            go_wp2_with (go_at_call 34; refine hc.mono ?_; rintro e w' ⟨rfl, es2, h2, h3⟩)
            go_ret
            exact ⟨rfl, es2, h2, (Turn.ext HX.out).trans h3⟩
          · have hr := hrk.out
            rw [if_neg k2, if_neg k3, if_neg k4, if_neg k5, if_neg k6] at hr
            subst hr
            have hc := H.out.create nm h1
            unfold str at hc
            have q2 : (k == 2) = false := beq_eq_false_iff_ne.2 k2
            have q3 : (k == 3) = false := beq_eq_false_iff_ne.2 k3
            have q4 : (k == 4) = false := beq_eq_false_iff_ne.2 k4
            have q5 : (k == 5) = false := beq_eq_false_iff_ne.2 k5
            have q6 : (k == 6) = false := beq_eq_false_iff_ne.2 k6
            clear k2 k3 k4 k5 k6
            go_wp2_with (go_at_call 9; refine hc.mono ?_; rintro e w' ⟨rfl, es2, h2, h3⟩)
            go_ret
            exact ⟨rfl, es2, h2, (Turn.ext HX.out).trans h3⟩
end Plk
end Go.Proofs.Ytbiikihapfpkfaa
