/- The walk of the law TermWaits. -/
import Derived.Test.YtbppjbheennphaaTermEnds
set_option linter.unusedSimpArgs false
set_option linter.unusedVariables false
set_option linter.unusedSectionVars false
namespace Go.Proofs.Ytbppjbheennphaa
open Go.RowKit
namespace FloatP
open Ieee
theorem V_mono {a b : Nat} (h : a ≤ b) : V a ≤ V b := by
  rcases Nat.lt_or_ge a b with h1 | h1
  · exact Nat.le_of_lt (V_lt h1)
  · rw [show a = b by omega]; exact Nat.le_refl _
theorem ceilN_mono {a b : Nat} (h : a ≤ b) : ceilN a ≤ ceilN b := cdiv_mono U_pos (V_mono h)
theorem ceil_T20 : ceilN T20 = 1048576 := by unfold ceilN; rw [V_T20, cdiv_mul _ _ U_pos]
/-- one try more -/
theorem wait_more {b : Nat} {n : Int} (h1 : 1 ≤ n) (h0 : mag b ≠ 0) : 0 < ceilN (waitC b n) ∧ ceilN (waitC b n) ≤ ceilN (waitC b (n + 1)) ∧ (ceilN (waitC b (n + 1)) = 1048576 ∨ ceilN (waitC b (n + 1)) ≤ 2 * ceilN (waitC b n)) := by
  have k1 : waitK n ≤ waitK (n + 1) ∧ waitK (n + 1) ≤ waitK n + 1 := by unfold waitK; omega
  unfold waitC
  obtain ⟨r, r1, r2⟩ := ldB_spec (mag b) (waitK n)
  obtain ⟨s, s1, s2⟩ := ldB_spec (mag b) (waitK (n + 1))
  rw [r2, s2]
  generalize waitK n = k at *
  generalize waitK (n + 1) = l at *
  have v0 := V_pos (Nat.pos_of_ne_zero h0)
  have hrs : V r ≤ V s := by rw [r1, s1]; exact Nat.mul_le_mul_left _ (Nat.pow_le_pow_right (by omega) k1.1)
  have hrs' : r ≤ s := by
    rw [← Nat.not_lt, ← V_lt_iff]; omega
  have hsr : V s ≤ 2 * V r := by
    rw [r1, s1]
    calc V (mag b) * 2 ^ l ≤ V (mag b) * 2 ^ (k + 1) := Nat.mul_le_mul_left _ (Nat.pow_le_pow_right (by omega) k1.2)
      _ = 2 * (V (mag b) * 2 ^ k) := by rw [Nat.pow_succ, Nat.mul_comm (2 ^ k) 2, Nat.mul_left_comm]
  have hr0 : 0 < r := by
    rw [← V_lt_iff, V_zero, r1]; exact Nat.mul_pos v0 (two_pos k)
  have hT : T20 < INF := by decide
  have hT0 : 0 < T20 := by decide
  refine ⟨?_, ceilN_mono (by omega), ?_⟩
  · unfold ceilN
    rw [lt_cdiv U_pos, Nat.zero_mul]
    exact V_pos (by omega)
  · rcases Nat.lt_or_ge s T20 with h | h
    · right
      rw [show min (min s INF) T20 = s by omega, show min (min r INF) T20 = r by omega]
      unfold ceilN
      rw [cdiv_le U_pos]
      have h2 := (cdiv_le (n := V r) U_pos).1 (Nat.le_refl _)
      rw [Nat.mul_assoc]
      omega
    · left
      rw [show min (min s INF) T20 = T20 by omega, ceil_T20]
theorem wait_inf {n : Int} (h1 : 1 ≤ n) : waitP 9218868437227405312 n = 1048576 := by
  unfold waitP
  rw [if_pos ⟨by decide, h1, by decide⟩]
  unfold waitC
  rw [show mag 9218868437227405312 = INF by decide, ldB_inf, show min INF T20 = T20 by decide, ceil_T20]
  rfl
theorem wait_zero {b : Nat} : waitP b 0 = 0 := by
  unfold waitP; rw [if_neg (by omega)]
theorem wait_none {b : Nat} {n : Int} (h : good b = false ∨ mag b = 0) : waitP b n = 0 := by
  unfold waitP
  rw [if_neg]
  rintro ⟨g, _, h0⟩
  rcases h with h | h
  · rw [h] at g; exact absurd g (by decide)
  · exact h0 h
theorem wait_some {b : Nat} {n : Int} (hg : good b = true) (h1 : 1 ≤ n) (h0 : mag b ≠ 0) : waitP b n = (ceilN (waitC b n) : Int) := by
  unfold waitP; rw [if_pos ⟨hg, h1, h0⟩]
end FloatP
namespace Trm
open FloatP Flt
set_option maxHeartbeats 4000000 in
theorem waits_law (b : Nat) (try_ : Int) (w : World) (hb : b < 18446744073709551616) :
    Calls Try.prog 4 #[.float .f64 b, .int .i64 try_] w fun e w' => e = .returned (.bool true) ∧ Reg.Ext w w' := by
  obtain ⟨k, hk, ek⟩ := umod try_ 99 (by omega)
  rw [show (((99 : Nat) : Int) + 1) = 100 from rfl] at ek
  obtain ⟨n, hn⟩ : ∃ n : Int, IntKind.i64.wrap (1 + (k : Int)) = n := ⟨_, rfl⟩
  obtain ⟨m, hm⟩ : ∃ m : Int, IntKind.i64.wrap (n + 1) = m := ⟨_, rfl⟩
  have hn1 : n = 1 + (k : Int) := by rw [← hn, IntKind.wrap_i64]; omega
  have hm1 : m = n + 1 := by rw [← hm, IntKind.wrap_i64]; omega
  have hlow : 1 ≤ n ∧ n ≤ 100 ∧ m ≤ 101 := by omega
  have HZ := Lib.hid (@wait_none 0 n (.inr (by decide)))
  cases hg : good b
  · have HG := Lib.hid hg
    have HA := Lib.hid (@wait_none b n (.inl hg))
    have HB := Lib.hid (@wait_none b m (.inl hg))
    clear hg hn1 hm1
    go_enter Try.func4, Try.ntmps4
    go_wp2_with fail
    refine (awake_any w).mono ?_
    rintro e w1 ⟨rfl, x1⟩
    have X1 := Lib.hid x1
    clear x1
    go_wp2_with fail
    refine (wait_any b n w1 (by first | assumption | decide) (by omega)).mono ?_
    rintro e w2 ⟨rfl, x2⟩
    rw [HA.out]
    have X2 := Lib.hid (X1.out.trans x2)
    clear x2
    go_wp2_with fail
    refine (wait_any b m w2 (by first | assumption | decide) (by omega)).mono ?_
    rintro e w3 ⟨rfl, x3⟩
    rw [HB.out]
    have X3 := Lib.hid (X2.out.trans x3)
    clear x3
    go_wp2_with fail
    refine (wait_any b 0 w3 (by first | assumption | decide) (by omega)).mono ?_
    rintro e w4 ⟨rfl, x4⟩
    rw [wait_zero]
    have X4 := Lib.hid (X3.out.trans x4)
    clear x4
    go_wp2_with fail
    refine (wait_any 0 n w4 (by first | assumption | decide) (by omega)).mono ?_
    rintro e w5 ⟨rfl, x5⟩
    rw [HZ.out]
    have X5 := Lib.hid (X4.out.trans x5)
    clear x5
    go_wp2_with fail
    refine (good_any b w5 hb).mono ?_
    rintro e w6 ⟨rfl, rfl⟩
    rw [HG.out]
    go_wp2_with fail
    go_ret
    exact ⟨by first | rfl | simp, X5.out⟩
  · have HG := Lib.hid hg
    have z1 : (FloatKind.f64.format.order b 0 == some .eq) = decide (mag b = 0) := zero_test hg hb
    by_cases h0 : mag b = 0
    · have HA := Lib.hid (@wait_none b n (.inr h0))
      have HB := Lib.hid (@wait_none b m (.inr h0))
      rw [decide_eq_true h0] at z1
      clear hg hn1 hm1 h0
      go_enter Try.func4, Try.ntmps4
      go_wp2_with fail
      refine (awake_any w).mono ?_
      rintro e w1 ⟨rfl, x1⟩
      have X1 := Lib.hid x1
      clear x1
      go_wp2_with fail
      refine (wait_any b n w1 (by first | assumption | decide) (by omega)).mono ?_
      rintro e w2 ⟨rfl, x2⟩
      rw [HA.out]
      have X2 := Lib.hid (X1.out.trans x2)
      clear x2
      go_wp2_with fail
      refine (wait_any b m w2 (by first | assumption | decide) (by omega)).mono ?_
      rintro e w3 ⟨rfl, x3⟩
      rw [HB.out]
      have X3 := Lib.hid (X2.out.trans x3)
      clear x3
      go_wp2_with fail
      refine (wait_any b 0 w3 (by first | assumption | decide) (by omega)).mono ?_
      rintro e w4 ⟨rfl, x4⟩
      rw [wait_zero]
      have X4 := Lib.hid (X3.out.trans x4)
      clear x4
      go_wp2_with fail
      refine (wait_any 0 n w4 (by first | assumption | decide) (by omega)).mono ?_
      rintro e w5 ⟨rfl, x5⟩
      rw [HZ.out]
      have X5 := Lib.hid (X4.out.trans x5)
      clear x5
      go_wp2_with fail
      refine (good_any b w5 hb).mono ?_
      rintro e w6 ⟨rfl, rfl⟩
      rw [HG.out]
      go_wp2_with fail
      go_ret
      exact ⟨by first | rfl | simp, X5.out⟩
    · rw [decide_eq_false h0] at z1
      obtain ⟨p1, p2, p3⟩ := @wait_more b n hlow.1 h0
      have q1 := (@waitC_spec b n).2
      have q2 := (@waitC_spec b (n + 1)).2
      have hA := wait_some hg hlow.1 h0
      have hB := @wait_some b m hg (by omega) h0
      rw [hm1] at hB
      have HI := Lib.hid (wait_inf hlow.1)
      generalize ceilN (waitC b n) = A at *
      generalize ceilN (waitC b (n + 1)) = B at *
      obtain ⟨x, hx⟩ : ∃ x : Int, (A : Int) = x := ⟨_, rfl⟩
      obtain ⟨y, hy⟩ : ∃ y : Int, (B : Int) = y := ⟨_, rfl⟩
      rw [hx] at hA
      rw [hy] at hB
      have HA := Lib.hid hA
      have HB := Lib.hid (show waitP b m = y by rw [hm1]; exact hB)
      have d1 : decide (x < 0) = false := by rw [decide_eq_false_iff_not]; omega
      have d2 : decide (y < x) = false := by rw [decide_eq_false_iff_not]; omega
      have d3 : decide ((1048576 : Int) < y) = false := by rw [decide_eq_false_iff_not]; omega
      have d4 : decide (0 < x) = true := by rw [decide_eq_true_iff]; omega
      have wr : IntKind.i64.wrap (2 * x) = 2 * x := by rw [IntKind.wrap_i64]; omega
      by_cases hB2 : y = 1048576
      · have d5 : (y == 1048576) = true := by rw [beq_iff_eq]; omega
        clear hg hn1 hm1 h0 p1 p2 p3 q1 q2 hA hB hB2 hx hy
        go_enter Try.func4, Try.ntmps4
        go_wp2_with fail
        refine (awake_any w).mono ?_
        rintro e w1 ⟨rfl, x1⟩
        have X1 := Lib.hid x1
        clear x1
        go_wp2_with fail
        refine (wait_any b n w1 (by first | assumption | decide) (by omega)).mono ?_
        rintro e w2 ⟨rfl, x2⟩
        rw [HA.out]
        have X2 := Lib.hid (X1.out.trans x2)
        clear x2
        go_wp2_with fail
        refine (wait_any b m w2 (by first | assumption | decide) (by omega)).mono ?_
        rintro e w3 ⟨rfl, x3⟩
        rw [HB.out]
        have X3 := Lib.hid (X2.out.trans x3)
        clear x3
        go_wp2_with fail
        refine (wait_any b 0 w3 (by first | assumption | decide) (by omega)).mono ?_
        rintro e w4 ⟨rfl, x4⟩
        rw [wait_zero]
        have X4 := Lib.hid (X3.out.trans x4)
        clear x4
        go_wp2_with fail
        refine (wait_any 0 n w4 (by first | assumption | decide) (by omega)).mono ?_
        rintro e w5 ⟨rfl, x5⟩
        rw [HZ.out]
        have X5 := Lib.hid (X4.out.trans x5)
        clear x5
        go_wp2_with fail
        refine (good_any b w5 hb).mono ?_
        rintro e w6 ⟨rfl, rfl⟩
        rw [HG.out]
        go_wp2_with fail
        refine (ratio_top w5).mono ?_
        rintro e w6 ⟨rfl, rfl⟩
        go_wp2_with fail
        refine (wait_any 9218868437227405312 n w5 (by first | assumption | decide) (by omega)).mono ?_
        rintro e w6 ⟨rfl, x6⟩
        rw [HI.out]
        have X6 := Lib.hid (X5.out.trans x6)
        clear x6
        go_wp2_with fail
        go_ret
        exact ⟨by first | rfl | simp, X6.out⟩
      · have d5 : (y == 1048576) = false := by rw [beq_eq_false_iff_ne]; omega
        have d6 : decide (y ≤ 2 * x) = true := by rw [decide_eq_true_iff]; omega
        clear hg hn1 hm1 h0 p1 p2 p3 q1 q2 hA hB hB2 hx hy
        go_enter Try.func4, Try.ntmps4
        go_wp2_with fail
        refine (awake_any w).mono ?_
        rintro e w1 ⟨rfl, x1⟩
        have X1 := Lib.hid x1
        clear x1
        go_wp2_with fail
        refine (wait_any b n w1 (by first | assumption | decide) (by omega)).mono ?_
        rintro e w2 ⟨rfl, x2⟩
        rw [HA.out]
        have X2 := Lib.hid (X1.out.trans x2)
        clear x2
        go_wp2_with fail
        refine (wait_any b m w2 (by first | assumption | decide) (by omega)).mono ?_
        rintro e w3 ⟨rfl, x3⟩
        rw [HB.out]
        have X3 := Lib.hid (X2.out.trans x3)
        clear x3
        go_wp2_with fail
        refine (wait_any b 0 w3 (by first | assumption | decide) (by omega)).mono ?_
        rintro e w4 ⟨rfl, x4⟩
        rw [wait_zero]
        have X4 := Lib.hid (X3.out.trans x4)
        clear x4
        go_wp2_with fail
        refine (wait_any 0 n w4 (by first | assumption | decide) (by omega)).mono ?_
        rintro e w5 ⟨rfl, x5⟩
        rw [HZ.out]
        have X5 := Lib.hid (X4.out.trans x5)
        clear x5
        go_wp2_with fail
        refine (good_any b w5 hb).mono ?_
        rintro e w6 ⟨rfl, rfl⟩
        rw [HG.out]
        go_wp2_with fail
        refine (ratio_top w5).mono ?_
        rintro e w6 ⟨rfl, rfl⟩
        go_wp2_with fail
        refine (wait_any 9218868437227405312 n w5 (by first | assumption | decide) (by omega)).mono ?_
        rintro e w6 ⟨rfl, x6⟩
        rw [HI.out]
        have X6 := Lib.hid (X5.out.trans x6)
        clear x6
        go_wp2_with fail
        go_ret
        exact ⟨by first | rfl | simp, X6.out⟩
end Trm
end Go.Proofs.Ytbppjbheennphaa
