/- The walk of the law TermOlder. -/
import Derived.Test.YtbppjbheennphaaTermGrade
set_option linter.unusedSimpArgs false
set_option linter.unusedVariables false
set_option linter.unusedSectionVars false
namespace Go.Proofs.Ytbppjbheennphaa
open Go.RowKit
namespace FloatP
open Ieee
theorem V_succ {t : Nat} (h : B52 ≤ t) : V (t + 1) = V t + 2 ^ (t / B52 - 1) := by
  rw [V_B52 t h, V_B52 (t + 1) (by omega)]
  have hm : t % B52 < B52 := Nat.mod_lt _ (by unfold B52; omega)
  by_cases hc : t % B52 = B52 - 1
  · have e1 : (t + 1) % B52 = 0 := by unfold B52 at *; omega
    have e2 : (t + 1) / B52 - 1 = t / B52 - 1 + 1 := by unfold B52 at *; omega
    rw [e1, e2, hc, Nat.pow_succ, show B52 + (B52 - 1) = 2 * B52 - 1 by omega, Nat.add_zero]
    generalize 2 ^ (t / B52 - 1) = x
    unfold B52; omega
  · have e1 : (t + 1) % B52 = t % B52 + 1 := by unfold B52 at *; omega
    have e2 : (t + 1) / B52 - 1 = t / B52 - 1 := by unfold B52 at *; omega
    rw [e1, e2, ← Nat.add_assoc, Nat.add_mul (B52 + t % B52), Nat.one_mul]
/-- a rounded difference keeps half of it -/
theorem half_kept {d s : Nat} (h0 : 0 < d) (h : Rounds d 1 s) : d < 2 * V s := by
  have l1 : 2 ^ d.log2 ≤ d := Nat.log2_self_le (by omega)
  have l2 : d < 2 ^ (d.log2 + 1) := Nat.lt_log2_self
  obtain ⟨r, hr⟩ := @exists_V 1 d.log2 (by decide)
  rw [Nat.one_mul] at hr
  have h1 : r ≤ s := le_rounds (by omega) h (by rw [hr]; omega)
  have h2 := V_mono h1
  rw [hr] at h2
  rw [Nat.pow_succ] at l2
  omega
theorem V_max {b : Nat} (h : b < INF) : V b < 2 ^ K98 := by rw [← V_INF]; exact V_lt h
theorem tick_zero : tick 0 = 0 := by decide +kernel
/-- what is within a span isn't all over -/
theorem grade_pos {a : Int} {b : Nat} (hb : b < 18446744073709551616) (hw : withinP a b = true) (ha : a ≤ 1099511627776) : 0 < gradeP a b := by
  unfold gradeP
  rw [if_pos hw]
  by_cases h7 : cls b = 7
  · rw [if_pos h7]; decide
  · rw [if_neg h7]
    obtain ⟨n, s, g, rfl, hm, hb0, hbi, hlt, hs, hs0, hsb, e1, hg, hg1, e2⟩ := grade_spec hb hw h7
    rw [e1]
    show 0 < (floatBits .quo .f64 s b).getD 0
    rw [e2]
    show 0 < g
    have hvb := V_pos hb0
    have hn : n ≤ 1099511627776 := by omega
    obtain ⟨t1, t2⟩ := tick_spec (n := n) (by omega)
    have k1 := K74_eq
    have k2 := K98_eq
    have hv := V_lt hlt
    rw [t2] at hs hv
    refine le_rounds (s := 1) hvb hg ?_
    rw [show V 1 = 1 by decide, Nat.one_mul]
    have hk := half_kept (by omega) hs
    have hU4 : 4 ≤ U := by rw [U_eq]; calc 4 = 2 ^ 2 := rfl
      _ ≤ 2 ^ K74 := Nat.pow_le_pow_right (by omega) (by omega)
    by_cases hd : 2 * (n * U) ≤ V b
    · have h1 : V b ≤ 4 * V s := by omega
      calc V b ≤ 4 * V s := h1
        _ ≤ U * V s := Nat.mul_le_mul_right _ hU4
        _ = V s * U := Nat.mul_comm _ _
    · -- near the end: what is left is a multiple of 2 ^ 1022
      have hn1 : 1 ≤ n := by
        apply Nat.pos_of_ne_zero
        intro h; rw [h, Nat.zero_mul] at hd; omega
      have hone : tick 1 ≤ tick n := by
        rw [← Nat.not_lt, ← V_lt_iff, t2, (tick_spec (n := 1) (by decide)).2]
        have := Nat.mul_le_mul_right U hn1
        omega
      have ht1 : tick 1 = 4607182418800017408 := by decide +kernel
      rw [ht1] at hone
      have hB : B52 ≤ tick n := by unfold B52; omega
      have hsucc := V_succ hB
      have hge := V_mono (show tick n + 1 ≤ b by omega)
      rw [hsucc, t2] at hge
      have hq : K74 - 52 ≤ tick n / B52 - 1 := by
        rw [k1]
        have : 4607182418800017408 / B52 ≤ tick n / B52 := Nat.div_le_div_right hone
        rw [show 4607182418800017408 / B52 = 1023 by decide] at this
        omega
      have hp : 2 ^ (K74 - 52) ≤ 2 ^ (tick n / B52 - 1) := Nat.pow_le_pow_right (by omega) hq
      have hs2 : 2 ^ (K74 - 52) ≤ 2 * V s := by omega
      have hs3 : 2 ^ (K74 - 53) ≤ V s := by
        rw [show K74 - 52 = K74 - 53 + 1 by omega, Nat.pow_succ] at hs2
        omega
      have hb2 : V b ≤ 2 ^ 41 * U := by
        have h1 : n * U ≤ 2 ^ 40 * U := Nat.mul_le_mul_right _ (by omega)
        have h2 : 2 ^ 41 * U = 2 * (2 ^ 40 * U) := by rw [← Nat.mul_assoc]
        omega
      calc V b ≤ 2 ^ 41 * U := hb2
        _ ≤ 2 ^ (K74 - 53) * U := Nat.mul_le_mul_right _ (Nat.pow_le_pow_right (by omega) (by omega))
        _ ≤ V s * U := Nat.mul_le_mul_right _ hs3
theorem grade_le {a : Int} {b : Nat} (hb : b < 18446744073709551616) : gradeP a b ≤ 4607182418800017408 := by
  unfold gradeP
  split
  · rename_i hw
    split
    · exact Nat.le_refl _
    · rename_i h7
      obtain ⟨n, s, g, rfl, hm, hb0, hbi, hlt, hs, hs0, hsb, e1, hg, hg1, e2⟩ := grade_spec hb hw h7
      rw [e1]
      show (floatBits .quo .f64 s b).getD 0 ≤ _
      rw [e2]
      exact hg1
  · exact Nat.zero_le _
theorem grade_mono {n m : Nat} {b : Nat} (hb : b < 18446744073709551616) (hm : m < 9007199254740992) (h : n ≤ m) : gradeP (m : Int) b ≤ gradeP (n : Int) b := by
  cases hw : withinP (m : Int) b
  · have h0 : gradeP (m : Int) b = 0 := by unfold gradeP; rw [if_neg (by rw [hw]; simp)]
    rw [h0]
    exact Nat.zero_le _
  · have hgd : good b = true := by
      unfold withinP at hw
      cases hg : good b
      · rw [hg] at hw; simp at hw
      · rfl
    have hw2 : withinP (n : Int) b = true := by
      rw [within_ceil (by omega) hgd hb, decide_eq_true_iff] at hw ⊢
      omega
    unfold gradeP
    rw [if_pos hw, if_pos hw2]
    by_cases h7 : cls b = 7
    · rw [if_pos h7, if_pos h7]
      exact Nat.le_refl _
    · rw [if_neg h7, if_neg h7]
      obtain ⟨n', s, g, hn, _, hb0, hbi, hlt, hs, hs0, hsb, e1, hg, hg1, e2⟩ := grade_spec hb hw2 h7
      obtain ⟨m', s', g', hm', _, _, _, hlt', hs', hs0', hsb', e1', hg', hg1', e2'⟩ := grade_spec hb hw h7
      have hn2 : n' = n := by omega
      have hm2 : m' = m := by omega
      subst hn2 hm2
      rw [e1, e1']
      show (floatBits .quo .f64 s' b).getD 0 ≤ (floatBits .quo .f64 s b).getD 0
      rw [e2, e2']
      show g' ≤ g
      have hvb := V_pos hb0
      have hss : s' ≤ s := by
        refine rounds_mono (by omega) (by omega) hs' hs ?_
        rw [(tick_spec (n := n') (by omega)).2, (tick_spec (n := m') (by omega)).2]
        have := Nat.mul_le_mul_right U h
        omega
      exact rounds_mono hvb hvb hg' hg (Nat.mul_le_mul_right _ (Nat.mul_le_mul_right _ (V_mono hss)))
theorem pos_order {x y : Nat} (hx : x ≤ INF) (hy : y ≤ INF) : double.order x y = some (compare (x : Int) (y : Int)) := by
  rw [order_key (pos_key hx).2 (pos_key hy).2, (pos_key hx).1, (pos_key hy).1]
theorem order_le {x y : Nat} (hy : y ≤ INF) (h : x ≤ y) : (double.order x y == some .lt || double.order x y == some .eq) = true := by
  rw [pos_order (by omega) hy]
  rcases Nat.lt_or_ge x y with h1 | h1
  · rw [Int.compare_eq_lt.2 (by omega)]; rfl
  · rw [Int.compare_eq_eq.2 (by omega)]; rfl
theorem order_ge {x y : Nat} (hx : x ≤ INF) (h : y ≤ x) : (double.order x y == some .gt || double.order x y == some .eq) = true := by
  rw [pos_order hx (by omega)]
  rcases Nat.lt_or_ge y x with h1 | h1
  · rw [Int.compare_eq_gt.2 (by omega)]; rfl
  · rw [Int.compare_eq_eq.2 (by omega)]; rfl
theorem order_gt {x y : Nat} (hx : x ≤ INF) (h : y < x) : (double.order x y == some .gt) = true := by
  rw [pos_order hx (by omega), Int.compare_eq_gt.2 (by omega)]; rfl
theorem within_neg {a : Int} {b : Nat} (h : a < 0) : withinP a b = false := by
  unfold withinP
  rw [decide_eq_false (by omega), Bool.false_and, Bool.and_false]
theorem good_order {s t : Nat} (hs : good s = true) (ht : good t = true) (hsb : s < 18446744073709551616) (htb : t < 18446744073709551616) : double.order s t = some (compare (mag s : Int) (mag t : Int)) := by
  obtain ⟨a1, a2, _, _⟩ := good_spec hs hsb
  obtain ⟨b1, b2, _, _⟩ := good_spec ht htb
  rw [order_key a1 b1, a2, b2]
end FloatP
namespace Trm
open FloatP Flt
set_option maxHeartbeats 8000000 in
theorem older_law (a b : Int) (s t : Nat) (w : World) (hs : s < 18446744073709551616) (ht : t < 18446744073709551616) :
    Calls Try.prog 7 #[.int .i64 a, .int .i64 b, .float .f64 s, .float .f64 t] w fun e w' => e = .returned (.bool true) ∧ Reg.Ext w w' := by
  obtain ⟨k, hk, ek⟩ := umod a 1099511627776 (by omega)
  obtain ⟨j, hj, ej⟩ := umod b 1099511627776 (by omega)
  rw [show (((1099511627776 : Nat) : Int) + 1) = 1099511627777 from rfl] at ek ej
  obtain ⟨y, hy⟩ : ∃ y : Nat, min (k : Int) (j : Int) = (y : Int) := ⟨min k j, by omega⟩
  obtain ⟨o, ho⟩ : ∃ o : Nat, max (k : Int) (j : Int) = (o : Int) := ⟨max k j, by omega⟩
  have hyo : y ≤ o ∧ o ≤ 1099511627776 := by omega
  have HN := Lib.hid (@within_neg (-1 - (k : Int)) s (by omega))
  obtain ⟨g, hg⟩ : ∃ g, gradeP y s = g := ⟨_, rfl⟩
  obtain ⟨h, hh⟩ : ∃ h, gradeP o s = h := ⟨_, rfl⟩
  have g1 : g ≤ 4607182418800017408 := by rw [← hg]; exact grade_le hs
  have h1 : h ≤ g := by rw [← hg, ← hh]; exact grade_mono hs (by omega) hyo.1
  have c1 : (FloatKind.f64.format.order g 4607182418800017408 == some .lt || FloatKind.f64.format.order g 4607182418800017408 == some .eq) = true := order_le (by decide) g1
  have c2 : (FloatKind.f64.format.order h g == some .lt || FloatKind.f64.format.order h g == some .eq) = true := order_le (by unfold INF; omega) h1
  have c3 : (FloatKind.f64.format.order h 0 == some .gt || FloatKind.f64.format.order h 0 == some .eq) = true := order_ge (by unfold INF; omega) (Nat.zero_le _)
  have HG := Lib.hid hg
  have HH := Lib.hid hh
  cases hwy : withinP y s with
  | false =>
    have HY := Lib.hid hwy
    have hwo : withinP o s = false := by
      cases hgs : good s
      · exact within_bad hgs
      · rw [within_ceil (by omega) hgs hs, decide_eq_false_iff_not] at hwy ⊢
        omega
    have HO := Lib.hid hwo
    have g0 : g = 0 := by rw [← hg]; unfold gradeP; rw [if_neg (by rw [hwy]; simp)]
    have c4 : (FloatKind.f64.format.order g 0 == some .gt) = false := by rw [g0]; decide
    have c5 : (FloatKind.f64.format.order g 0 == some .eq) = true := by rw [g0]; decide
    clear hg hh g1 h1 hwy hwo hyo g0
    cases hgs : good s with
    | false =>
      have HS := Lib.hid hgs
      clear hgs
      go_enter Try.func7, Try.ntmps7
      go_wp2_with fail
      refine (awake_any w).mono ?_
      rintro e w1 ⟨rfl, x1⟩
      have X1 := Lib.hid x1
      clear x1
      go_wp2_with fail
      refine (within_any o s w1 (by assumption)).mono ?_
      rintro e w2 ⟨rfl, rfl⟩
      rw [HO.out]
      go_wp2_with fail
      refine (good_any s w1 (by assumption)).mono ?_
      rintro e w2 ⟨rfl, rfl⟩
      rw [HS.out]
      go_wp2_with fail
      refine (grade_any y s w1 hs).mono ?_
      rintro e w2 ⟨rfl, rfl⟩
      rw [HG.out]
      go_wp2_with fail
      refine (grade_any o s w1 hs).mono ?_
      rintro e w2 ⟨rfl, rfl⟩
      rw [HH.out]
      go_wp2_with fail
      refine (within_any y s w1 (by assumption)).mono ?_
      rintro e w2 ⟨rfl, rfl⟩
      rw [HY.out]
      go_wp2_with fail
      refine (within_any _ s w1 hs).mono ?_
      rintro e w2 ⟨rfl, rfl⟩
      rw [HN.out]
      go_wp2_with fail
      go_ret
      exact ⟨by first | rfl | simp, X1.out⟩
    | true =>
      have HS := Lib.hid hgs
      clear hgs
      cases hgt : good t with
      | false =>
        have HT := Lib.hid hgt
        clear hgt
        go_enter Try.func7, Try.ntmps7
        go_wp2_with fail
        refine (awake_any w).mono ?_
        rintro e w1 ⟨rfl, x1⟩
        have X1 := Lib.hid x1
        clear x1
        go_wp2_with fail
        refine (within_any o s w1 (by assumption)).mono ?_
        rintro e w2 ⟨rfl, rfl⟩
        rw [HO.out]
        go_wp2_with fail
        refine (good_any s w1 (by assumption)).mono ?_
        rintro e w2 ⟨rfl, rfl⟩
        rw [HS.out]
        go_wp2_with fail
        refine (good_any t w1 (by assumption)).mono ?_
        rintro e w2 ⟨rfl, rfl⟩
        rw [HT.out]
        go_wp2_with fail
        refine (grade_any y s w1 hs).mono ?_
        rintro e w2 ⟨rfl, rfl⟩
        rw [HG.out]
        go_wp2_with fail
        refine (grade_any o s w1 hs).mono ?_
        rintro e w2 ⟨rfl, rfl⟩
        rw [HH.out]
        go_wp2_with fail
        refine (within_any y s w1 (by assumption)).mono ?_
        rintro e w2 ⟨rfl, rfl⟩
        rw [HY.out]
        go_wp2_with fail
        refine (within_any _ s w1 hs).mono ?_
        rintro e w2 ⟨rfl, rfl⟩
        rw [HN.out]
        go_wp2_with fail
        go_ret
        exact ⟨by first | rfl | simp, X1.out⟩
      | true =>
        have HT := Lib.hid hgt
        have hord := good_order HS.out hgt hs ht
        have hws := @within_ceil k s (by omega) HS.out hs
        have hwt := @within_ceil k t (by omega) hgt ht
        by_cases hst : mag s ≤ mag t
        · have d1 : (FloatKind.f64.format.order s t == some .lt || FloatKind.f64.format.order s t == some .eq) = true := by
            rw [show FloatKind.f64.format.order s t = some (compare (mag s : Int) (mag t : Int)) from hord]
            rcases Nat.lt_or_ge (mag s) (mag t) with h1 | h1
            · rw [Int.compare_eq_lt.2 (by omega)]; rfl
            · rw [Int.compare_eq_eq.2 (by omega)]; rfl
          by_cases hk2 : k < ceilN (mag s)
          · have HWS := Lib.hid (hws.trans (decide_eq_true hk2))
            have HWT := Lib.hid (hwt.trans (decide_eq_true (by have := ceilN_mono hst; omega)))
            clear hgt hord hws hwt hst hk2
            go_enter Try.func7, Try.ntmps7
            go_wp2_with fail
            refine (awake_any w).mono ?_
            rintro e w1 ⟨rfl, x1⟩
            have X1 := Lib.hid x1
            clear x1
            go_wp2_with fail
            refine (within_any o s w1 (by assumption)).mono ?_
            rintro e w2 ⟨rfl, rfl⟩
            rw [HO.out]
            go_wp2_with fail
            refine (good_any s w1 (by assumption)).mono ?_
            rintro e w2 ⟨rfl, rfl⟩
            rw [HS.out]
            go_wp2_with fail
            refine (good_any t w1 (by assumption)).mono ?_
            rintro e w2 ⟨rfl, rfl⟩
            rw [HT.out]
            go_wp2_with fail
            refine (within_any k s w1 (by assumption)).mono ?_
            rintro e w2 ⟨rfl, rfl⟩
            rw [HWS.out]
            go_wp2_with fail
            refine (within_any k t w1 (by assumption)).mono ?_
            rintro e w2 ⟨rfl, rfl⟩
            rw [HWT.out]
            go_wp2_with fail
            refine (grade_any y s w1 hs).mono ?_
            rintro e w2 ⟨rfl, rfl⟩
            rw [HG.out]
            go_wp2_with fail
            refine (grade_any o s w1 hs).mono ?_
            rintro e w2 ⟨rfl, rfl⟩
            rw [HH.out]
            go_wp2_with fail
            refine (within_any y s w1 (by assumption)).mono ?_
            rintro e w2 ⟨rfl, rfl⟩
            rw [HY.out]
            go_wp2_with fail
            refine (within_any _ s w1 hs).mono ?_
            rintro e w2 ⟨rfl, rfl⟩
            rw [HN.out]
            go_wp2_with fail
            go_ret
            exact ⟨by first | rfl | simp, X1.out⟩
          · have HWS := Lib.hid (hws.trans (decide_eq_false hk2))
            clear hgt hord hws hwt hst hk2
            go_enter Try.func7, Try.ntmps7
            go_wp2_with fail
            refine (awake_any w).mono ?_
            rintro e w1 ⟨rfl, x1⟩
            have X1 := Lib.hid x1
            clear x1
            go_wp2_with fail
            refine (within_any o s w1 (by assumption)).mono ?_
            rintro e w2 ⟨rfl, rfl⟩
            rw [HO.out]
            go_wp2_with fail
            refine (good_any s w1 (by assumption)).mono ?_
            rintro e w2 ⟨rfl, rfl⟩
            rw [HS.out]
            go_wp2_with fail
            refine (good_any t w1 (by assumption)).mono ?_
            rintro e w2 ⟨rfl, rfl⟩
            rw [HT.out]
            go_wp2_with fail
            refine (within_any k s w1 (by assumption)).mono ?_
            rintro e w2 ⟨rfl, rfl⟩
            rw [HWS.out]
            go_wp2_with fail
            refine (grade_any y s w1 hs).mono ?_
            rintro e w2 ⟨rfl, rfl⟩
            rw [HG.out]
            go_wp2_with fail
            refine (grade_any o s w1 hs).mono ?_
            rintro e w2 ⟨rfl, rfl⟩
            rw [HH.out]
            go_wp2_with fail
            refine (within_any y s w1 (by assumption)).mono ?_
            rintro e w2 ⟨rfl, rfl⟩
            rw [HY.out]
            go_wp2_with fail
            refine (within_any _ s w1 hs).mono ?_
            rintro e w2 ⟨rfl, rfl⟩
            rw [HN.out]
            go_wp2_with fail
            go_ret
            exact ⟨by first | rfl | simp, X1.out⟩
        · have d1 : (FloatKind.f64.format.order s t == some .lt || FloatKind.f64.format.order s t == some .eq) = false := by
            rw [show FloatKind.f64.format.order s t = some (compare (mag s : Int) (mag t : Int)) from hord, Int.compare_eq_gt.2 (by omega)]; rfl
          clear hgt hord hws hwt hst
          go_enter Try.func7, Try.ntmps7
          go_wp2_with fail
          refine (awake_any w).mono ?_
          rintro e w1 ⟨rfl, x1⟩
          have X1 := Lib.hid x1
          clear x1
          go_wp2_with fail
          refine (within_any o s w1 (by assumption)).mono ?_
          rintro e w2 ⟨rfl, rfl⟩
          rw [HO.out]
          go_wp2_with fail
          refine (good_any s w1 (by assumption)).mono ?_
          rintro e w2 ⟨rfl, rfl⟩
          rw [HS.out]
          go_wp2_with fail
          refine (good_any t w1 (by assumption)).mono ?_
          rintro e w2 ⟨rfl, rfl⟩
          rw [HT.out]
          go_wp2_with fail
          refine (grade_any y s w1 hs).mono ?_
          rintro e w2 ⟨rfl, rfl⟩
          rw [HG.out]
          go_wp2_with fail
          refine (grade_any o s w1 hs).mono ?_
          rintro e w2 ⟨rfl, rfl⟩
          rw [HH.out]
          go_wp2_with fail
          refine (within_any y s w1 (by assumption)).mono ?_
          rintro e w2 ⟨rfl, rfl⟩
          rw [HY.out]
          go_wp2_with fail
          refine (within_any _ s w1 hs).mono ?_
          rintro e w2 ⟨rfl, rfl⟩
          rw [HN.out]
          go_wp2_with fail
          go_ret
          exact ⟨by first | rfl | simp, X1.out⟩
  | true =>
    have g0 : 0 < g := by rw [← hg]; exact grade_pos hs hwy (by omega)
    have c4 : (FloatKind.f64.format.order g 0 == some .gt) = true := order_gt (by unfold INF; omega) g0
    have HY := Lib.hid hwy
    have HS : Hid (good s = true) := by
      cases hgs : good s
      · rw [within_bad hgs] at hwy; exact absurd hwy (by decide)
      · exact rfl
    cases hwo : withinP o s with
    | false =>
      have HO := Lib.hid hwo
      clear hg hh g1 h1 g0 hwy hwo hyo
      cases hgt : good t with
      | false =>
        have HT := Lib.hid hgt
        clear hgt
        go_enter Try.func7, Try.ntmps7
        go_wp2_with fail
        refine (awake_any w).mono ?_
        rintro e w1 ⟨rfl, x1⟩
        have X1 := Lib.hid x1
        clear x1
        go_wp2_with fail
        refine (within_any o s w1 (by assumption)).mono ?_
        rintro e w2 ⟨rfl, rfl⟩
        rw [HO.out]
        go_wp2_with fail
        refine (good_any s w1 (by assumption)).mono ?_
        rintro e w2 ⟨rfl, rfl⟩
        rw [HS.out]
        go_wp2_with fail
        refine (good_any t w1 (by assumption)).mono ?_
        rintro e w2 ⟨rfl, rfl⟩
        rw [HT.out]
        go_wp2_with fail
        refine (grade_any y s w1 hs).mono ?_
        rintro e w2 ⟨rfl, rfl⟩
        rw [HG.out]
        go_wp2_with fail
        refine (grade_any o s w1 hs).mono ?_
        rintro e w2 ⟨rfl, rfl⟩
        rw [HH.out]
        go_wp2_with fail
        refine (within_any y s w1 (by assumption)).mono ?_
        rintro e w2 ⟨rfl, rfl⟩
        rw [HY.out]
        go_wp2_with fail
        refine (within_any _ s w1 hs).mono ?_
        rintro e w2 ⟨rfl, rfl⟩
        rw [HN.out]
        go_wp2_with fail
        go_ret
        exact ⟨by first | rfl | simp, X1.out⟩
      | true =>
        have HT := Lib.hid hgt
        have hord := good_order HS.out hgt hs ht
        have hws := @within_ceil k s (by omega) HS.out hs
        have hwt := @within_ceil k t (by omega) hgt ht
        by_cases hst : mag s ≤ mag t
        · have d1 : (FloatKind.f64.format.order s t == some .lt || FloatKind.f64.format.order s t == some .eq) = true := by
            rw [show FloatKind.f64.format.order s t = some (compare (mag s : Int) (mag t : Int)) from hord]
            rcases Nat.lt_or_ge (mag s) (mag t) with h1 | h1
            · rw [Int.compare_eq_lt.2 (by omega)]; rfl
            · rw [Int.compare_eq_eq.2 (by omega)]; rfl
          by_cases hk2 : k < ceilN (mag s)
          · have HWS := Lib.hid (hws.trans (decide_eq_true hk2))
            have HWT := Lib.hid (hwt.trans (decide_eq_true (by have := ceilN_mono hst; omega)))
            clear hgt hord hws hwt hst hk2
            go_enter Try.func7, Try.ntmps7
            go_wp2_with fail
            refine (awake_any w).mono ?_
            rintro e w1 ⟨rfl, x1⟩
            have X1 := Lib.hid x1
            clear x1
            go_wp2_with fail
            refine (within_any o s w1 (by assumption)).mono ?_
            rintro e w2 ⟨rfl, rfl⟩
            rw [HO.out]
            go_wp2_with fail
            refine (good_any s w1 (by assumption)).mono ?_
            rintro e w2 ⟨rfl, rfl⟩
            rw [HS.out]
            go_wp2_with fail
            refine (good_any t w1 (by assumption)).mono ?_
            rintro e w2 ⟨rfl, rfl⟩
            rw [HT.out]
            go_wp2_with fail
            refine (within_any k s w1 (by assumption)).mono ?_
            rintro e w2 ⟨rfl, rfl⟩
            rw [HWS.out]
            go_wp2_with fail
            refine (within_any k t w1 (by assumption)).mono ?_
            rintro e w2 ⟨rfl, rfl⟩
            rw [HWT.out]
            go_wp2_with fail
            refine (grade_any y s w1 hs).mono ?_
            rintro e w2 ⟨rfl, rfl⟩
            rw [HG.out]
            go_wp2_with fail
            refine (grade_any o s w1 hs).mono ?_
            rintro e w2 ⟨rfl, rfl⟩
            rw [HH.out]
            go_wp2_with fail
            refine (within_any y s w1 (by assumption)).mono ?_
            rintro e w2 ⟨rfl, rfl⟩
            rw [HY.out]
            go_wp2_with fail
            refine (within_any _ s w1 hs).mono ?_
            rintro e w2 ⟨rfl, rfl⟩
            rw [HN.out]
            go_wp2_with fail
            go_ret
            exact ⟨by first | rfl | simp, X1.out⟩
          · have HWS := Lib.hid (hws.trans (decide_eq_false hk2))
            clear hgt hord hws hwt hst hk2
            go_enter Try.func7, Try.ntmps7
            go_wp2_with fail
            refine (awake_any w).mono ?_
            rintro e w1 ⟨rfl, x1⟩
            have X1 := Lib.hid x1
            clear x1
            go_wp2_with fail
            refine (within_any o s w1 (by assumption)).mono ?_
            rintro e w2 ⟨rfl, rfl⟩
            rw [HO.out]
            go_wp2_with fail
            refine (good_any s w1 (by assumption)).mono ?_
            rintro e w2 ⟨rfl, rfl⟩
            rw [HS.out]
            go_wp2_with fail
            refine (good_any t w1 (by assumption)).mono ?_
            rintro e w2 ⟨rfl, rfl⟩
            rw [HT.out]
            go_wp2_with fail
            refine (within_any k s w1 (by assumption)).mono ?_
            rintro e w2 ⟨rfl, rfl⟩
            rw [HWS.out]
            go_wp2_with fail
            refine (grade_any y s w1 hs).mono ?_
            rintro e w2 ⟨rfl, rfl⟩
            rw [HG.out]
            go_wp2_with fail
            refine (grade_any o s w1 hs).mono ?_
            rintro e w2 ⟨rfl, rfl⟩
            rw [HH.out]
            go_wp2_with fail
            refine (within_any y s w1 (by assumption)).mono ?_
            rintro e w2 ⟨rfl, rfl⟩
            rw [HY.out]
            go_wp2_with fail
            refine (within_any _ s w1 hs).mono ?_
            rintro e w2 ⟨rfl, rfl⟩
            rw [HN.out]
            go_wp2_with fail
            go_ret
            exact ⟨by first | rfl | simp, X1.out⟩
        · have d1 : (FloatKind.f64.format.order s t == some .lt || FloatKind.f64.format.order s t == some .eq) = false := by
            rw [show FloatKind.f64.format.order s t = some (compare (mag s : Int) (mag t : Int)) from hord, Int.compare_eq_gt.2 (by omega)]; rfl
          clear hgt hord hws hwt hst
          go_enter Try.func7, Try.ntmps7
          go_wp2_with fail
          refine (awake_any w).mono ?_
          rintro e w1 ⟨rfl, x1⟩
          have X1 := Lib.hid x1
          clear x1
          go_wp2_with fail
          refine (within_any o s w1 (by assumption)).mono ?_
          rintro e w2 ⟨rfl, rfl⟩
          rw [HO.out]
          go_wp2_with fail
          refine (good_any s w1 (by assumption)).mono ?_
          rintro e w2 ⟨rfl, rfl⟩
          rw [HS.out]
          go_wp2_with fail
          refine (good_any t w1 (by assumption)).mono ?_
          rintro e w2 ⟨rfl, rfl⟩
          rw [HT.out]
          go_wp2_with fail
          refine (grade_any y s w1 hs).mono ?_
          rintro e w2 ⟨rfl, rfl⟩
          rw [HG.out]
          go_wp2_with fail
          refine (grade_any o s w1 hs).mono ?_
          rintro e w2 ⟨rfl, rfl⟩
          rw [HH.out]
          go_wp2_with fail
          refine (within_any y s w1 (by assumption)).mono ?_
          rintro e w2 ⟨rfl, rfl⟩
          rw [HY.out]
          go_wp2_with fail
          refine (within_any _ s w1 hs).mono ?_
          rintro e w2 ⟨rfl, rfl⟩
          rw [HN.out]
          go_wp2_with fail
          go_ret
          exact ⟨by first | rfl | simp, X1.out⟩
    | true =>
      have HO := Lib.hid hwo
      clear hg hh g1 h1 g0 hwy hwo hyo
      cases hgt : good t with
      | false =>
        have HT := Lib.hid hgt
        clear hgt
        go_enter Try.func7, Try.ntmps7
        go_wp2_with fail
        refine (awake_any w).mono ?_
        rintro e w1 ⟨rfl, x1⟩
        have X1 := Lib.hid x1
        clear x1
        go_wp2_with fail
        refine (within_any o s w1 (by assumption)).mono ?_
        rintro e w2 ⟨rfl, rfl⟩
        rw [HO.out]
        go_wp2_with fail
        refine (within_any y s w1 (by assumption)).mono ?_
        rintro e w2 ⟨rfl, rfl⟩
        rw [HY.out]
        go_wp2_with fail
        refine (good_any s w1 (by assumption)).mono ?_
        rintro e w2 ⟨rfl, rfl⟩
        rw [HS.out]
        go_wp2_with fail
        refine (good_any t w1 (by assumption)).mono ?_
        rintro e w2 ⟨rfl, rfl⟩
        rw [HT.out]
        go_wp2_with fail
        refine (grade_any y s w1 hs).mono ?_
        rintro e w2 ⟨rfl, rfl⟩
        rw [HG.out]
        go_wp2_with fail
        refine (grade_any o s w1 hs).mono ?_
        rintro e w2 ⟨rfl, rfl⟩
        rw [HH.out]
        go_wp2_with fail
        refine (within_any y s w1 (by assumption)).mono ?_
        rintro e w2 ⟨rfl, rfl⟩
        rw [HY.out]
        go_wp2_with fail
        refine (within_any _ s w1 hs).mono ?_
        rintro e w2 ⟨rfl, rfl⟩
        rw [HN.out]
        go_wp2_with fail
        go_ret
        exact ⟨by first | rfl | simp, X1.out⟩
      | true =>
        have HT := Lib.hid hgt
        have hord := good_order HS.out hgt hs ht
        have hws := @within_ceil k s (by omega) HS.out hs
        have hwt := @within_ceil k t (by omega) hgt ht
        by_cases hst : mag s ≤ mag t
        · have d1 : (FloatKind.f64.format.order s t == some .lt || FloatKind.f64.format.order s t == some .eq) = true := by
            rw [show FloatKind.f64.format.order s t = some (compare (mag s : Int) (mag t : Int)) from hord]
            rcases Nat.lt_or_ge (mag s) (mag t) with h1 | h1
            · rw [Int.compare_eq_lt.2 (by omega)]; rfl
            · rw [Int.compare_eq_eq.2 (by omega)]; rfl
          by_cases hk2 : k < ceilN (mag s)
          · have HWS := Lib.hid (hws.trans (decide_eq_true hk2))
            have HWT := Lib.hid (hwt.trans (decide_eq_true (by have := ceilN_mono hst; omega)))
            clear hgt hord hws hwt hst hk2
            go_enter Try.func7, Try.ntmps7
            go_wp2_with fail
            refine (awake_any w).mono ?_
            rintro e w1 ⟨rfl, x1⟩
            have X1 := Lib.hid x1
            clear x1
            go_wp2_with fail
            refine (within_any o s w1 (by assumption)).mono ?_
            rintro e w2 ⟨rfl, rfl⟩
            rw [HO.out]
            go_wp2_with fail
            refine (within_any y s w1 (by assumption)).mono ?_
            rintro e w2 ⟨rfl, rfl⟩
            rw [HY.out]
            go_wp2_with fail
            refine (good_any s w1 (by assumption)).mono ?_
            rintro e w2 ⟨rfl, rfl⟩
            rw [HS.out]
            go_wp2_with fail
            refine (good_any t w1 (by assumption)).mono ?_
            rintro e w2 ⟨rfl, rfl⟩
            rw [HT.out]
            go_wp2_with fail
            refine (within_any k s w1 (by assumption)).mono ?_
            rintro e w2 ⟨rfl, rfl⟩
            rw [HWS.out]
            go_wp2_with fail
            refine (within_any k t w1 (by assumption)).mono ?_
            rintro e w2 ⟨rfl, rfl⟩
            rw [HWT.out]
            go_wp2_with fail
            refine (grade_any y s w1 hs).mono ?_
            rintro e w2 ⟨rfl, rfl⟩
            rw [HG.out]
            go_wp2_with fail
            refine (grade_any o s w1 hs).mono ?_
            rintro e w2 ⟨rfl, rfl⟩
            rw [HH.out]
            go_wp2_with fail
            refine (within_any y s w1 (by assumption)).mono ?_
            rintro e w2 ⟨rfl, rfl⟩
            rw [HY.out]
            go_wp2_with fail
            refine (within_any _ s w1 hs).mono ?_
            rintro e w2 ⟨rfl, rfl⟩
            rw [HN.out]
            go_wp2_with fail
            go_ret
            exact ⟨by first | rfl | simp, X1.out⟩
          · have HWS := Lib.hid (hws.trans (decide_eq_false hk2))
            clear hgt hord hws hwt hst hk2
            go_enter Try.func7, Try.ntmps7
            go_wp2_with fail
            refine (awake_any w).mono ?_
            rintro e w1 ⟨rfl, x1⟩
            have X1 := Lib.hid x1
            clear x1
            go_wp2_with fail
            refine (within_any o s w1 (by assumption)).mono ?_
            rintro e w2 ⟨rfl, rfl⟩
            rw [HO.out]
            go_wp2_with fail
            refine (within_any y s w1 (by assumption)).mono ?_
            rintro e w2 ⟨rfl, rfl⟩
            rw [HY.out]
            go_wp2_with fail
            refine (good_any s w1 (by assumption)).mono ?_
            rintro e w2 ⟨rfl, rfl⟩
            rw [HS.out]
            go_wp2_with fail
            refine (good_any t w1 (by assumption)).mono ?_
            rintro e w2 ⟨rfl, rfl⟩
            rw [HT.out]
            go_wp2_with fail
            refine (within_any k s w1 (by assumption)).mono ?_
            rintro e w2 ⟨rfl, rfl⟩
            rw [HWS.out]
            go_wp2_with fail
            refine (grade_any y s w1 hs).mono ?_
            rintro e w2 ⟨rfl, rfl⟩
            rw [HG.out]
            go_wp2_with fail
            refine (grade_any o s w1 hs).mono ?_
            rintro e w2 ⟨rfl, rfl⟩
            rw [HH.out]
            go_wp2_with fail
            refine (within_any y s w1 (by assumption)).mono ?_
            rintro e w2 ⟨rfl, rfl⟩
            rw [HY.out]
            go_wp2_with fail
            refine (within_any _ s w1 hs).mono ?_
            rintro e w2 ⟨rfl, rfl⟩
            rw [HN.out]
            go_wp2_with fail
            go_ret
            exact ⟨by first | rfl | simp, X1.out⟩
        · have d1 : (FloatKind.f64.format.order s t == some .lt || FloatKind.f64.format.order s t == some .eq) = false := by
            rw [show FloatKind.f64.format.order s t = some (compare (mag s : Int) (mag t : Int)) from hord, Int.compare_eq_gt.2 (by omega)]; rfl
          clear hgt hord hws hwt hst
          go_enter Try.func7, Try.ntmps7
          go_wp2_with fail
          refine (awake_any w).mono ?_
          rintro e w1 ⟨rfl, x1⟩
          have X1 := Lib.hid x1
          clear x1
          go_wp2_with fail
          refine (within_any o s w1 (by assumption)).mono ?_
          rintro e w2 ⟨rfl, rfl⟩
          rw [HO.out]
          go_wp2_with fail
          refine (within_any y s w1 (by assumption)).mono ?_
          rintro e w2 ⟨rfl, rfl⟩
          rw [HY.out]
          go_wp2_with fail
          refine (good_any s w1 (by assumption)).mono ?_
          rintro e w2 ⟨rfl, rfl⟩
          rw [HS.out]
          go_wp2_with fail
          refine (good_any t w1 (by assumption)).mono ?_
          rintro e w2 ⟨rfl, rfl⟩
          rw [HT.out]
          go_wp2_with fail
          refine (grade_any y s w1 hs).mono ?_
          rintro e w2 ⟨rfl, rfl⟩
          rw [HG.out]
          go_wp2_with fail
          refine (grade_any o s w1 hs).mono ?_
          rintro e w2 ⟨rfl, rfl⟩
          rw [HH.out]
          go_wp2_with fail
          refine (within_any y s w1 (by assumption)).mono ?_
          rintro e w2 ⟨rfl, rfl⟩
          rw [HY.out]
          go_wp2_with fail
          refine (within_any _ s w1 hs).mono ?_
          rintro e w2 ⟨rfl, rfl⟩
          rw [HN.out]
          go_wp2_with fail
          go_ret
          exact ⟨by first | rfl | simp, X1.out⟩
end Trm
end Go.Proofs.Ytbppjbheennphaa
