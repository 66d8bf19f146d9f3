/- The walk of the law TermEnds. -/
import Derived.Test.YtbppjbheennphaaTermAwake
set_option linter.unusedSimpArgs false
set_option linter.unusedVariables false
set_option linter.unusedSectionVars false
namespace Go.Proofs.Ytbppjbheennphaa
open Go.RowKit
namespace FloatP
theorem within_ceil {m : Nat} {b : Nat} (hm : m < 9007199254740992) (hg : good b = true) (hb : b < 18446744073709551616) : withinP (m : Int) b = decide (m < ceilN (mag b)) := by
  unfold withinP
  rw [hg, Bool.true_and, decide_eq_true (by omega), Bool.true_and]
  have h := tick_lt (n := m) (by omega) hg hb
  unfold tick at h
  rw [h]
  have h2 := @lt_cdiv (V (mag b)) U m U_pos
  unfold ceilN
  rw [Bool.eq_iff_iff, decide_eq_true_iff, decide_eq_true_iff, h2]
theorem within_bad {a : Int} {b : Nat} (hg : good b = false) : withinP a b = false := by unfold withinP; rw [hg]; rfl
theorem ceilN_gt {m : Nat} (h : T40 < m) : 1099511627776 < ceilN m := by
  unfold ceilN
  rw [lt_cdiv U_pos, ← V_T40]
  exact V_lt h
end FloatP
namespace Trm
open FloatP Flt
set_option maxHeartbeats 4000000 in
theorem ends_law (at_ : Int) (b : Nat) (more : Int) (w : World) (hb : b < 18446744073709551616) :
    Calls Try.prog 3 #[.int .i64 at_, .float .f64 b, .int .i64 more] w fun e w' => e = .returned (.bool true) ∧ Reg.Ext w w' := by
  obtain ⟨k, hk, ek⟩ := umod at_ 549755813887 (by omega)
  obtain ⟨j, hj, ej⟩ := umod more 549755813887 (by omega)
  rw [show (((549755813887 : Nat) : Int) + 1) = 549755813888 from rfl] at ek ej
  cases hg : good b
  · have HG := Lib.hid hg
    have HE := Lib.hid (show endsV k b = .tuple #[.int .i64 0, .bool false] by unfold endsV endsP; rw [if_neg (by intro h; rw [hg] at h; exact absurd h.1 (by decide))])
    have HW := Lib.hid (@within_bad j b hg)
    clear hg
    go_enter Try.func3, Try.ntmps3
    go_wp2_with fail
    refine (awake_any w).mono ?_
    rintro e w1 ⟨rfl, x1⟩
    have X1 := Lib.hid x1
    clear x1
    go_wp2_with fail
    refine (ends_any k b w1 hb).mono ?_
    rintro e w2 ⟨rfl, rfl⟩
    rw [HE.out]
    go_wp2_with fail
    refine (good_any b w1 hb).mono ?_
    rintro e w2 ⟨rfl, rfl⟩
    rw [HG.out]
    go_wp2_with fail
    refine (within_any j b w1 hb).mono ?_
    rintro e w2 ⟨rfl, rfl⟩
    rw [HW.out]
    go_wp2_with fail
    go_ret
    exact ⟨by first | rfl | simp, X1.out⟩
  · have HG := Lib.hid hg
    by_cases he : mag b ≤ T40 ∧ (k : Int) + (ceilN (mag b) : Int) ≤ 1099511627776
    · have HE := Lib.hid (show endsV k b = .tuple #[.int .i64 ((k : Int) + (ceilN (mag b) : Int)), .bool true] by unfold endsV endsP; rw [if_pos ⟨hg, by omega, by omega, he.1, he.2⟩])
      have HW := Lib.hid (@within_ceil j b (by omega) hg hb)
      have HF := Lib.hid (fun n (hn : n < 9007199254740992) => @within_ceil n b hn hg hb)
      have he2 := he.2
      clear hg he
      generalize ceilN (mag b) = c at *
      have d1 : decide ((k : Int) ≤ (k : Int) + (c : Int)) = true := by rw [decide_eq_true_iff]; omega
      have d2 : decide ((k : Int) + (j : Int) < (k : Int) + (c : Int)) = decide (j < c) := by rw [Bool.eq_iff_iff, decide_eq_true_iff, decide_eq_true_iff]; omega
      have d3 : (decide (j < c) == decide (j < c)) = true := by simp
      have wr : IntKind.i64.wrap ((k : Int) + (j : Int)) = (k : Int) + (j : Int) := by rw [IntKind.wrap_i64]; omega
      cases c with
      | zero =>
        have d4 : (((k : Int) + ((0 : Nat) : Int)) == (k : Int)) = true := by simp
        generalize (k : Int) + ((0 : Nat) : Int) = end_ at *
        generalize decide (j < 0) = q at *
        go_enter Try.func3, Try.ntmps3
        go_wp2_with fail
        refine (awake_any w).mono ?_
        rintro e w1 ⟨rfl, x1⟩
        have X1 := Lib.hid x1
        clear x1
        go_wp2_with fail
        refine (ends_any k b w1 hb).mono ?_
        rintro e w2 ⟨rfl, rfl⟩
        rw [HE.out]
        go_wp2_with fail
        refine (good_any b w1 hb).mono ?_
        rintro e w2 ⟨rfl, rfl⟩
        rw [HG.out]
        go_wp2_with fail
        refine (within_any j b w1 hb).mono ?_
        rintro e w2 ⟨rfl, rfl⟩
        rw [HW.out]
        go_wp2_with fail
        go_ret
        exact ⟨by first | rfl | simp, X1.out⟩
      | succ c =>
        have d4 : (((k : Int) + ((c + 1 : Nat) : Int)) == (k : Int)) = false := by rw [beq_eq_false_iff_ne]; omega
        have wr2 : IntKind.i64.wrap ((k : Int) + ((c + 1 : Nat) : Int) - 1) = (k : Int) + (c : Int) := by rw [IntKind.wrap_i64]; omega
        have wr3 : IntKind.i64.wrap ((k : Int) + (c : Int) - (k : Int)) = (c : Int) := by rw [IntKind.wrap_i64]; omega
        have HL := Lib.hid ((HF.out c (by omega)).trans (decide_eq_true (by omega)))
        generalize (k : Int) + ((c + 1 : Nat) : Int) = end_ at *
        generalize (k : Int) + (c : Int) = last_ at *
        generalize decide (j < c + 1) = q at *
        go_enter Try.func3, Try.ntmps3
        go_wp2_with fail
        refine (awake_any w).mono ?_
        rintro e w1 ⟨rfl, x1⟩
        have X1 := Lib.hid x1
        clear x1
        go_wp2_with fail
        refine (ends_any k b w1 hb).mono ?_
        rintro e w2 ⟨rfl, rfl⟩
        rw [HE.out]
        go_wp2_with fail
        refine (good_any b w1 hb).mono ?_
        rintro e w2 ⟨rfl, rfl⟩
        rw [HG.out]
        go_wp2_with fail
        refine (within_any j b w1 hb).mono ?_
        rintro e w2 ⟨rfl, rfl⟩
        rw [HW.out]
        go_wp2_with fail
        refine (within_any c b w1 hb).mono ?_
        rintro e w2 ⟨rfl, rfl⟩
        rw [HL.out]
        go_wp2_with fail
        go_ret
        exact ⟨by first | rfl | simp, X1.out⟩
    · have HE := Lib.hid (show endsV k b = .tuple #[.int .i64 0, .bool false] by unfold endsV endsP; rw [if_neg (fun h => he h.2.2.2)])
      have hc : j < ceilN (mag b) := by
        rcases Nat.lt_or_ge T40 (mag b) with h | h
        · have := ceilN_gt h; omega
        · have : ¬ ((k : Int) + (ceilN (mag b) : Int) ≤ 1099511627776) := fun h2 => he ⟨h, h2⟩
          omega
      have HW := Lib.hid ((@within_ceil j b (by omega) hg hb).trans (decide_eq_true hc))
      clear hg hc he
      go_enter Try.func3, Try.ntmps3
      go_wp2_with fail
      refine (awake_any w).mono ?_
      rintro e w1 ⟨rfl, x1⟩
      have X1 := Lib.hid x1
      clear x1
      go_wp2_with fail
      refine (ends_any k b w1 hb).mono ?_
      rintro e w2 ⟨rfl, rfl⟩
      rw [HE.out]
      go_wp2_with fail
      refine (good_any b w1 hb).mono ?_
      rintro e w2 ⟨rfl, rfl⟩
      rw [HG.out]
      go_wp2_with fail
      refine (within_any j b w1 hb).mono ?_
      rintro e w2 ⟨rfl, rfl⟩
      rw [HW.out]
      go_wp2_with fail
      go_ret
      exact ⟨by first | rfl | simp, X1.out⟩
end Trm
end Go.Proofs.Ytbppjbheennphaa
