/- The walk of the law RealBetween. -/
import Derived.Test.YtomfkjllkmilpaaRealOrders
import Derived.Test.YtomfkjllkmilpaaRealSum
set_option linter.unusedSimpArgs false
set_option linter.unusedVariables false
set_option linter.unusedSectionVars false
namespace Go.Proofs.Ytomfkjllkmilpaa
open Go.RowKit
namespace FloatP
open Ieee
theorem less_self (a : Nat) : less a a = false := by
  unfold less
  rw [if_neg (by simp), Bool.eq_false_iff]
  intro h
  have := (lt_iff.1 h).2.2
  omega
theorem same_self (a : Nat) : same a a = true := by unfold same; rw [less_self]; rfl
theorem clean_clean (b : Nat) : clean (clean b) = clean b ∧ cls (clean b) ≠ 4 := by
  unfold clean
  by_cases h1 : cls b = 1
  · rw [if_pos h1]
    have c : cls 9221120237041090560 = 1 := by decide
    exact ⟨if_pos c, by rw [c]; decide⟩
  · rw [if_neg h1]
    by_cases h4 : cls b = 4
    · rw [if_pos h4]
      have c : cls 0 = 5 := by decide
      rw [c]
      exact ⟨by rw [if_neg (by decide), if_neg (by decide)], by decide⟩
    · rw [if_neg h4]
      exact ⟨by rw [if_neg h1, if_neg h4], h4⟩
theorem cls_nan {b : Nat} : isNan b = decide (cls b = 1) := by
  rcases cls_spec b with ⟨ca, na⟩ | ⟨ca, na, _⟩ | ⟨ca, na, _⟩ | ⟨ca, na, _⟩ | ⟨ca, na, _⟩ | ⟨ca, na, _⟩ | ⟨ca, na, _⟩ <;> rw [na, ca] <;> rfl
/-- a mean that takes nothing of what comes -/
theorem mix_stays {low high : Nat} (hlb : low < 18446744073709551616) (hl : mag low ≤ 9110782046170513408) (hh : mag high ≤ 9110782046170513408) : mixV low high 0 < 18446744073709551616 ∧ (double.order (mixV low high 0) low == some .eq) = true := by
  have hI : (9110782046170513408 : Nat) < INF := by decide
  have n1 : cls low ≠ 1 := by
    have := @cls_nan low
    rw [isNan_iff.2 (by omega)] at this
    intro h; rw [decide_eq_true h] at this; cases this
  have n2 : cls high ≠ 1 := by
    have := @cls_nan high
    rw [isNan_iff.2 (by omega)] at this
    intro h; rw [decide_eq_true h] at this; cases this
  obtain ⟨g, e1, g1, g2⟩ := sub_fin hh hl
  obtain ⟨p, e2, p1, p2⟩ := mul_none g1
  obtain ⟨s, e3, s1, s2, s3⟩ := add_none (show mag low < INF by omega) hlb p1
  have hv : mixV low high 0 = clean s := by
    unfold mixV
    rw [if_neg (by decide), if_neg n1, if_neg n2]
    unfold mixed
    rw [e1]
    simp only [Option.bind_some]
    rw [e2]
    simp only [Option.bind_some]
    rw [e3]
    rfl
  rw [hv]
  refine ⟨?_, s3⟩
  unfold clean; split
  · decide
  · split
    · decide
    · exact s1
end FloatP
namespace Flt
open FloatP
attribute [local go_sem] call_bits call_from unary_neg_float
set_option maxHeartbeats 1000000 in
theorem abs_any (b : Nat) (w : World) (hb : b < 18446744073709551616) : Calls Try.prog 33 #[.float .f64 b] w fun e w' => e = .returned (.float .f64 (mag b)) ∧ w = w' := by
  have hc : bits .andNot .u64 (b : Int) 9223372036854775808 = ((mag b : Nat) : Int) := clear_sign b hb
  go_enter Try.func33, Try.ntmps33
  go_wp2
  go_ret
  exact ⟨rfl, rfl⟩
set_option maxHeartbeats 1000000 in
theorem isinf_one (w : World) : Calls Try.prog 37 #[.float .f64 4607182418800017408, .int .i64 0] w fun e w' => e = .returned (.bool false) ∧ w = w' := by
  have t1 : (FloatKind.f64.format.order 4607182418800017408 9218868437227405311 == some .gt) = false := by decide +kernel
  go_enter Try.func37, Try.ntmps37
  go_wp2_with fail
  refine (abs_any 4607182418800017408 w (by decide)).mono ?_
  rintro e w' ⟨rfl, rfl⟩
  rw [show mag 4607182418800017408 = 4607182418800017408 by decide]
  go_wp2_with fail
  go_ret
  exact ⟨rfl, rfl⟩
set_option maxHeartbeats 1000000 in
theorem norm_one (w : World) : Calls Try.prog 50 #[.float .f64 4607182418800017408] w fun e w' => e = .returned (.tuple #[.float .f64 4607182418800017408, .int .i64 0]) ∧ w = w' := by
  have t1 : (FloatKind.f64.format.order 4607182418800017408 4503599627370496 == some .lt) = false := by decide +kernel
  go_enter Try.func50, Try.ntmps50
  go_wp2_with fail
  refine (abs_any 4607182418800017408 w (by decide)).mono ?_
  rintro e w' ⟨rfl, rfl⟩
  rw [show mag 4607182418800017408 = 4607182418800017408 by decide]
  go_wp2_with fail
  go_ret2
  exact ⟨rfl, rfl⟩
set_option maxHeartbeats 4000000 in
theorem ldexp_great (w : World) : Calls Try.prog 32 #[.float .f64 4607182418800017408, .int .i64 1000] w fun e w' => e = .returned (.float .f64 9110782046170513408) ∧ w = w' := by
  have H : Calls Try.prog 47 #[.float .f64 4607182418800017408, .int .i64 1000] w fun e w' => e = .returned (.float .f64 9110782046170513408) ∧ w = w' := by
    have z1 : (FloatKind.f64.format.order 4607182418800017408 0 == some .eq) = false := by decide +kernel
    have n1 : isNan 4607182418800017408 = false := by decide
    have hq : ∀ W, (binOp .mul 23 (.float .f64 4607182418800017408) (.float .f64 9110782046170513408)).run Try.prog W = .ok (.float .f64 9110782046170513408) W := fun W => run_float_arith W .mul 23 .f64 _ _ _ (by decide +kernel)
    have b1 : bits .andNot .u64 4607182418800017408 9218868437227405312 = 0 := by decide
    have b2 : bits .and .i64 1023 2047 = 1023 := by decide
    have b3 : bits .or .u64 0 9110782046170513408 = 9110782046170513408 := by decide
    go_enter Try.func47, Try.ntmps47
    go_wp2_with fail
    refine (isinf_one w).mono ?_
    rintro e w' ⟨rfl, rfl⟩
    go_wp2_with fail
    refine (isnan_any 4607182418800017408 w).mono ?_
    rintro e w' ⟨rfl, rfl⟩
    rw [n1]
    go_wp2_with fail
    refine (norm_one w).mono ?_
    rintro e w' ⟨rfl, rfl⟩
    go_wp2_with fail
    go_ret
    exact ⟨rfl, rfl⟩
  have HH := Lib.hid H
  clear H
  go_enter Try.func32, Try.ntmps32
  go_wp2_with fail
  refine HH.out.mono ?_
  rintro e w' ⟨rfl, rfl⟩
  go_wp2_with fail
  go_ret
  exact ⟨rfl, rfl⟩
theorem gt_great {b : Nat} (h : mag b ≤ INF) : (FloatKind.f64.format.order (mag b) 9110782046170513408 == some .gt) = decide (9110782046170513408 < mag b) := by
  have e := @gt_iff (mag b) 9110782046170513408
  have k1 : key 9110782046170513408 = 9110782046170513408 := by decide
  have n1 : isNan 9110782046170513408 = false := by decide
  have hm : mag (mag b) = mag b := by unfold mag; omega
  have hn : neg (mag b) = false := by unfold neg mag; rw [beq_eq_false_iff_ne]; omega
  have k2 : key (mag b) = (mag b : Int) := by unfold key; rw [hm, hn]; rfl
  have n2 : isNan (mag b) = false := by rw [isNan_iff, hm]; exact h
  rw [Bool.eq_iff_iff, decide_eq_true_iff]
  refine (show _ ↔ _ from e).trans ?_
  rw [k1, n1, k2, n2]
  simp; omega
theorem clean_low {b : Nat} (hb : b < 18446744073709551616) : clean b < 18446744073709551616 := by
  unfold clean; split
  · decide
  · split
    · decide
    · exact hb
set_option maxHeartbeats 8000000 in
theorem between_law (x low high : Nat) (w : World) (hx : x < 18446744073709551616) (hl : low < 18446744073709551616) (hh : high < 18446744073709551616) :
    Calls Try.prog 8 #[.float .f64 x, .float .f64 low, .float .f64 high] w fun e w' => e = .returned (.bool true) ∧ Reg.Ext w w' := by
  have HCC := Lib.hid (clean_clean x)
  have d4 : ((cls (clean x) : Int) == 4) = false := by rw [beq_eq_false_iff_ne]; have := HCC.out.2; omega
  have HC2 := Lib.hid (clean_low hx)
  have HCH := Lib.hid (clean_low hh)
  have HCW := Lib.hid (clean_low hl)
  go_enter Try.func8, Try.ntmps8
  go_wp2_with fail
  refine (awake_any w).mono ?_
  rintro e w1 ⟨rfl, x1⟩
  have HX1 := Lib.hid x1
  clear x1
  go_wp2_with fail
  by_cases hA : cls x = 1 ∨ cls low = 1 ∨ cls high = 1 ∨ less high low = true
  · have HV := Lib.hid (show clampV x low high = 9221120237041090560 by unfold clampV; rw [if_pos hA])
    clear hA
    cases hnl : isNan low with
    | true =>
      refine (clamp_any x low high w1 hx hl hh).mono ?_
      rintro e w2 ⟨rfl, x2⟩
      have HX2 := Lib.hid (HX1.out.trans x2)
      clear x2
      rw [HV.out]
      go_wp2_with fail
      refine (isnan_any _ w2).mono ?_
      rintro e w3 ⟨rfl, rfl⟩
      rw [show isNan 9221120237041090560 = true by decide]
      go_wp2_with fail
      refine (clean_any x w2 hx).mono ?_
      rintro e w3 ⟨rfl, rfl⟩
      go_wp2_with fail
      refine (clean_any (clean x) w2 HC2.out).mono ?_
      rintro e w3 ⟨rfl, rfl⟩
      rw [HCC.out.1]
      go_wp2_with fail
      refine (clean_any x w2 hx).mono ?_
      rintro e w3 ⟨rfl, rfl⟩
      go_wp2_with fail
      refine (same_any (clean x) (clean x) w2 HC2.out HC2.out).mono ?_
      rintro e w3 ⟨rfl, rfl⟩
      rw [same_self]
      go_wp2_with fail
      refine (clean_any x w2 hx).mono ?_
      rintro e w3 ⟨rfl, rfl⟩
      go_wp2_with fail
      refine (class_any (clean x) w2 HC2.out).mono ?_
      rintro e w3 ⟨rfl, rfl⟩
      go_wp2_with fail
      refine (ldexp_great w2).mono ?_
      rintro e w3 ⟨rfl, rfl⟩
      go_wp2_with fail
      refine (isnan_any low w2).mono ?_
      rintro e w3 ⟨rfl, rfl⟩
      rw [hnl]
      go_wp2_with fail
      go_ret
      exact ⟨by first | rfl | simp, HX2.out⟩
    | false =>
      cases hnh : isNan high with
      | true =>
        refine (clamp_any x low high w1 hx hl hh).mono ?_
        rintro e w2 ⟨rfl, x2⟩
        have HX2 := Lib.hid (HX1.out.trans x2)
        clear x2
        rw [HV.out]
        go_wp2_with fail
        refine (isnan_any _ w2).mono ?_
        rintro e w3 ⟨rfl, rfl⟩
        rw [show isNan 9221120237041090560 = true by decide]
        go_wp2_with fail
        refine (clean_any x w2 hx).mono ?_
        rintro e w3 ⟨rfl, rfl⟩
        go_wp2_with fail
        refine (clean_any (clean x) w2 HC2.out).mono ?_
        rintro e w3 ⟨rfl, rfl⟩
        rw [HCC.out.1]
        go_wp2_with fail
        refine (clean_any x w2 hx).mono ?_
        rintro e w3 ⟨rfl, rfl⟩
        go_wp2_with fail
        refine (same_any (clean x) (clean x) w2 HC2.out HC2.out).mono ?_
        rintro e w3 ⟨rfl, rfl⟩
        rw [same_self]
        go_wp2_with fail
        refine (clean_any x w2 hx).mono ?_
        rintro e w3 ⟨rfl, rfl⟩
        go_wp2_with fail
        refine (class_any (clean x) w2 HC2.out).mono ?_
        rintro e w3 ⟨rfl, rfl⟩
        go_wp2_with fail
        refine (ldexp_great w2).mono ?_
        rintro e w3 ⟨rfl, rfl⟩
        go_wp2_with fail
        refine (isnan_any low w2).mono ?_
        rintro e w3 ⟨rfl, rfl⟩
        rw [hnl]
        go_wp2_with fail
        refine (isnan_any high w2).mono ?_
        rintro e w3 ⟨rfl, rfl⟩
        rw [hnh]
        go_wp2_with fail
        go_ret
        exact ⟨by first | rfl | simp, HX2.out⟩
      | false =>
        have gl := gt_great (isNan_iff.1 hnl)
        have gh := gt_great (isNan_iff.1 hnh)
        by_cases hgl : 9110782046170513408 < mag low
        · rw [decide_eq_true hgl] at gl
          clear hgl gh
          refine (clamp_any x low high w1 hx hl hh).mono ?_
          rintro e w2 ⟨rfl, x2⟩
          have HX2 := Lib.hid (HX1.out.trans x2)
          clear x2
          rw [HV.out]
          go_wp2_with fail
          refine (isnan_any _ w2).mono ?_
          rintro e w3 ⟨rfl, rfl⟩
          rw [show isNan 9221120237041090560 = true by decide]
          go_wp2_with fail
          refine (clean_any x w2 hx).mono ?_
          rintro e w3 ⟨rfl, rfl⟩
          go_wp2_with fail
          refine (clean_any (clean x) w2 HC2.out).mono ?_
          rintro e w3 ⟨rfl, rfl⟩
          rw [HCC.out.1]
          go_wp2_with fail
          refine (clean_any x w2 hx).mono ?_
          rintro e w3 ⟨rfl, rfl⟩
          go_wp2_with fail
          refine (same_any (clean x) (clean x) w2 HC2.out HC2.out).mono ?_
          rintro e w3 ⟨rfl, rfl⟩
          rw [same_self]
          go_wp2_with fail
          refine (clean_any x w2 hx).mono ?_
          rintro e w3 ⟨rfl, rfl⟩
          go_wp2_with fail
          refine (class_any (clean x) w2 HC2.out).mono ?_
          rintro e w3 ⟨rfl, rfl⟩
          go_wp2_with fail
          refine (ldexp_great w2).mono ?_
          rintro e w3 ⟨rfl, rfl⟩
          go_wp2_with fail
          refine (isnan_any low w2).mono ?_
          rintro e w3 ⟨rfl, rfl⟩
          rw [hnl]
          go_wp2_with fail
          refine (isnan_any high w2).mono ?_
          rintro e w3 ⟨rfl, rfl⟩
          rw [hnh]
          go_wp2_with fail
          refine (abs_any low w2 (by assumption)).mono ?_
          rintro e w3 ⟨rfl, rfl⟩
          go_wp2_with fail
          go_ret
          exact ⟨by first | rfl | simp, HX2.out⟩
        · rw [decide_eq_false hgl] at gl
          by_cases hgh : 9110782046170513408 < mag high
          · rw [decide_eq_true hgh] at gh
            clear hgl hgh
            refine (clamp_any x low high w1 hx hl hh).mono ?_
            rintro e w2 ⟨rfl, x2⟩
            have HX2 := Lib.hid (HX1.out.trans x2)
            clear x2
            rw [HV.out]
            go_wp2_with fail
            refine (isnan_any _ w2).mono ?_
            rintro e w3 ⟨rfl, rfl⟩
            rw [show isNan 9221120237041090560 = true by decide]
            go_wp2_with fail
            refine (clean_any x w2 hx).mono ?_
            rintro e w3 ⟨rfl, rfl⟩
            go_wp2_with fail
            refine (clean_any (clean x) w2 HC2.out).mono ?_
            rintro e w3 ⟨rfl, rfl⟩
            rw [HCC.out.1]
            go_wp2_with fail
            refine (clean_any x w2 hx).mono ?_
            rintro e w3 ⟨rfl, rfl⟩
            go_wp2_with fail
            refine (same_any (clean x) (clean x) w2 HC2.out HC2.out).mono ?_
            rintro e w3 ⟨rfl, rfl⟩
            rw [same_self]
            go_wp2_with fail
            refine (clean_any x w2 hx).mono ?_
            rintro e w3 ⟨rfl, rfl⟩
            go_wp2_with fail
            refine (class_any (clean x) w2 HC2.out).mono ?_
            rintro e w3 ⟨rfl, rfl⟩
            go_wp2_with fail
            refine (ldexp_great w2).mono ?_
            rintro e w3 ⟨rfl, rfl⟩
            go_wp2_with fail
            refine (isnan_any low w2).mono ?_
            rintro e w3 ⟨rfl, rfl⟩
            rw [hnl]
            go_wp2_with fail
            refine (isnan_any high w2).mono ?_
            rintro e w3 ⟨rfl, rfl⟩
            rw [hnh]
            go_wp2_with fail
            refine (abs_any low w2 (by assumption)).mono ?_
            rintro e w3 ⟨rfl, rfl⟩
            go_wp2_with fail
            refine (abs_any high w2 (by assumption)).mono ?_
            rintro e w3 ⟨rfl, rfl⟩
            go_wp2_with fail
            go_ret
            exact ⟨by first | rfl | simp, HX2.out⟩
          · rw [decide_eq_false hgh] at gh
            obtain ⟨m1, m2⟩ := mix_stays hl (show mag low ≤ 9110782046170513408 by omega) (show mag high ≤ 9110782046170513408 by omega)
            obtain ⟨s1, hs1⟩ : ∃ s, mixV low high 0 = s := ⟨_, rfl⟩
            rw [hs1] at m1 m2
            have m3 : (FloatKind.f64.format.order s1 low == some .eq) = true := m2
            have HS1 := Lib.hid hs1
            have cl1 : cls low ≠ 1 := by have := @cls_nan low; rw [hnl] at this; simpa using this
            have ch1 : cls high ≠ 1 := by have := @cls_nan high; rw [hnh] at this; simpa using this
            have HS2 := Lib.hid (show mixV 9221120237041090561 high 4602678819172646912 = clean high by
              unfold mixV; rw [if_neg (by decide), if_pos (by decide)])
            have HS3 := Lib.hid (show mixV low 9221120237041090561 4602678819172646912 = clean low by
              unfold mixV; rw [if_neg (by decide), if_neg cl1, if_pos (by decide)])
            have HS4 := Lib.hid (show mixV low high 9218868437227405312 = 9221120237041090560 by
              unfold mixV; rw [if_pos (by decide)])
            clear hgl hgh cl1 ch1 hs1 m2
            refine (clamp_any x low high w1 hx hl hh).mono ?_
            rintro e w2 ⟨rfl, x2⟩
            have HX2 := Lib.hid (HX1.out.trans x2)
            clear x2
            rw [HV.out]
            go_wp2_with fail
            refine (isnan_any _ w2).mono ?_
            rintro e w3 ⟨rfl, rfl⟩
            rw [show isNan 9221120237041090560 = true by decide]
            go_wp2_with fail
            refine (clean_any x w2 hx).mono ?_
            rintro e w3 ⟨rfl, rfl⟩
            go_wp2_with fail
            refine (clean_any (clean x) w2 HC2.out).mono ?_
            rintro e w3 ⟨rfl, rfl⟩
            rw [HCC.out.1]
            go_wp2_with fail
            refine (clean_any x w2 hx).mono ?_
            rintro e w3 ⟨rfl, rfl⟩
            go_wp2_with fail
            refine (same_any (clean x) (clean x) w2 HC2.out HC2.out).mono ?_
            rintro e w3 ⟨rfl, rfl⟩
            rw [same_self]
            go_wp2_with fail
            refine (clean_any x w2 hx).mono ?_
            rintro e w3 ⟨rfl, rfl⟩
            go_wp2_with fail
            refine (class_any (clean x) w2 HC2.out).mono ?_
            rintro e w3 ⟨rfl, rfl⟩
            go_wp2_with fail
            refine (ldexp_great w2).mono ?_
            rintro e w3 ⟨rfl, rfl⟩
            go_wp2_with fail
            refine (isnan_any low w2).mono ?_
            rintro e w3 ⟨rfl, rfl⟩
            rw [hnl]
            go_wp2_with fail
            refine (isnan_any high w2).mono ?_
            rintro e w3 ⟨rfl, rfl⟩
            rw [hnh]
            go_wp2_with fail
            refine (abs_any low w2 (by assumption)).mono ?_
            rintro e w3 ⟨rfl, rfl⟩
            go_wp2_with fail
            refine (abs_any high w2 (by assumption)).mono ?_
            rintro e w3 ⟨rfl, rfl⟩
            go_wp2_with fail
            refine (mix_any low high 0 w2 (by first | assumption | decide) (by first | assumption | decide) (by decide)).mono ?_
            rintro e w3 ⟨rfl, x3⟩
            have HX3 := Lib.hid (HX2.out.trans x3)
            clear x3
            rw [HS1.out]
            go_wp2_with fail
            refine (nan_any w3).mono ?_
            rintro e w4 ⟨rfl, rfl⟩
            go_wp2_with fail
            refine (mix_any 9221120237041090561 high 4602678819172646912 w3 (by first | assumption | decide) (by first | assumption | decide) (by decide)).mono ?_
            rintro e w4 ⟨rfl, x4⟩
            have HX4 := Lib.hid (HX3.out.trans x4)
            clear x4
            rw [HS2.out]
            go_wp2_with fail
            refine (clean_any high w4 hh).mono ?_
            rintro e w5 ⟨rfl, rfl⟩
            go_wp2_with fail
            refine (same_any (clean high) (clean high) w4 HCH.out HCH.out).mono ?_
            rintro e w5 ⟨rfl, rfl⟩
            rw [same_self]
            go_wp2_with fail
            refine (nan_any w4).mono ?_
            rintro e w5 ⟨rfl, rfl⟩
            go_wp2_with fail
            refine (mix_any low 9221120237041090561 4602678819172646912 w4 (by first | assumption | decide) (by first | assumption | decide) (by decide)).mono ?_
            rintro e w5 ⟨rfl, x5⟩
            have HX5 := Lib.hid (HX4.out.trans x5)
            clear x5
            rw [HS3.out]
            go_wp2_with fail
            refine (clean_any low w5 hl).mono ?_
            rintro e w6 ⟨rfl, rfl⟩
            go_wp2_with fail
            refine (same_any (clean low) (clean low) w5 HCW.out HCW.out).mono ?_
            rintro e w6 ⟨rfl, rfl⟩
            rw [same_self]
            go_wp2_with fail
            refine (inf_any 1 w5).mono ?_
            rintro e w6 ⟨rfl, rfl⟩
            rw [show infOf 1 = 9218868437227405312 from rfl]
            go_wp2_with fail
            refine (mix_any low high 9218868437227405312 w5 (by first | assumption | decide) (by first | assumption | decide) (by decide)).mono ?_
            rintro e w6 ⟨rfl, x6⟩
            have HX6 := Lib.hid (HX5.out.trans x6)
            clear x6
            rw [HS4.out]
            go_wp2_with fail
            refine (isnan_any 9221120237041090560 w6).mono ?_
            rintro e w7 ⟨rfl, rfl⟩
            rw [show isNan 9221120237041090560 = true by decide]
            go_wp2_with fail
            go_ret
            exact ⟨by first | rfl | simp, HX6.out⟩
  · have hhl : less high low = false := by
      cases h : less high low with
      | false => rfl
      | true => exact absurd (.inr (.inr (.inr h))) hA
    cases hxl : less x low with
    | true =>
      have HV := Lib.hid (show clampV x low high = low by unfold clampV; rw [if_neg hA, if_pos hxl])
      have HNC := Lib.hid (show isNan low = false by rw [cls_nan, decide_eq_false_iff_not]; exact fun h => hA (.inr (.inl h)))
      clear hA
      cases hnl : isNan low with
      | true =>
        refine (clamp_any x low high w1 hx hl hh).mono ?_
        rintro e w2 ⟨rfl, x2⟩
        have HX2 := Lib.hid (HX1.out.trans x2)
        clear x2
        rw [HV.out]
        go_wp2_with fail
        refine (isnan_any _ w2).mono ?_
        rintro e w3 ⟨rfl, rfl⟩
        rw [HNC.out]
        go_wp2_with fail
        refine (less_any low low w2 (by assumption) (by assumption)).mono ?_
        rintro e w3 ⟨rfl, rfl⟩
        rw [less_self low]
        go_wp2_with fail
        refine (less_any high low w2 (by assumption) (by assumption)).mono ?_
        rintro e w3 ⟨rfl, rfl⟩
        rw [hhl]
        go_wp2_with fail
        refine (less_any x low w2 (by assumption) (by assumption)).mono ?_
        rintro e w3 ⟨rfl, rfl⟩
        rw [hxl]
        go_wp2_with fail
        refine (clean_any x w2 hx).mono ?_
        rintro e w3 ⟨rfl, rfl⟩
        go_wp2_with fail
        refine (clean_any (clean x) w2 HC2.out).mono ?_
        rintro e w3 ⟨rfl, rfl⟩
        rw [HCC.out.1]
        go_wp2_with fail
        refine (clean_any x w2 hx).mono ?_
        rintro e w3 ⟨rfl, rfl⟩
        go_wp2_with fail
        refine (same_any (clean x) (clean x) w2 HC2.out HC2.out).mono ?_
        rintro e w3 ⟨rfl, rfl⟩
        rw [same_self]
        go_wp2_with fail
        refine (clean_any x w2 hx).mono ?_
        rintro e w3 ⟨rfl, rfl⟩
        go_wp2_with fail
        refine (class_any (clean x) w2 HC2.out).mono ?_
        rintro e w3 ⟨rfl, rfl⟩
        go_wp2_with fail
        refine (ldexp_great w2).mono ?_
        rintro e w3 ⟨rfl, rfl⟩
        go_wp2_with fail
        refine (isnan_any low w2).mono ?_
        rintro e w3 ⟨rfl, rfl⟩
        rw [hnl]
        go_wp2_with fail
        go_ret
        exact ⟨by first | rfl | simp, HX2.out⟩
      | false =>
        cases hnh : isNan high with
        | true =>
          refine (clamp_any x low high w1 hx hl hh).mono ?_
          rintro e w2 ⟨rfl, x2⟩
          have HX2 := Lib.hid (HX1.out.trans x2)
          clear x2
          rw [HV.out]
          go_wp2_with fail
          refine (isnan_any _ w2).mono ?_
          rintro e w3 ⟨rfl, rfl⟩
          rw [HNC.out]
          go_wp2_with fail
          refine (less_any low low w2 (by assumption) (by assumption)).mono ?_
          rintro e w3 ⟨rfl, rfl⟩
          rw [less_self low]
          go_wp2_with fail
          refine (less_any high low w2 (by assumption) (by assumption)).mono ?_
          rintro e w3 ⟨rfl, rfl⟩
          rw [hhl]
          go_wp2_with fail
          refine (less_any x low w2 (by assumption) (by assumption)).mono ?_
          rintro e w3 ⟨rfl, rfl⟩
          rw [hxl]
          go_wp2_with fail
          refine (clean_any x w2 hx).mono ?_
          rintro e w3 ⟨rfl, rfl⟩
          go_wp2_with fail
          refine (clean_any (clean x) w2 HC2.out).mono ?_
          rintro e w3 ⟨rfl, rfl⟩
          rw [HCC.out.1]
          go_wp2_with fail
          refine (clean_any x w2 hx).mono ?_
          rintro e w3 ⟨rfl, rfl⟩
          go_wp2_with fail
          refine (same_any (clean x) (clean x) w2 HC2.out HC2.out).mono ?_
          rintro e w3 ⟨rfl, rfl⟩
          rw [same_self]
          go_wp2_with fail
          refine (clean_any x w2 hx).mono ?_
          rintro e w3 ⟨rfl, rfl⟩
          go_wp2_with fail
          refine (class_any (clean x) w2 HC2.out).mono ?_
          rintro e w3 ⟨rfl, rfl⟩
          go_wp2_with fail
          refine (ldexp_great w2).mono ?_
          rintro e w3 ⟨rfl, rfl⟩
          go_wp2_with fail
          refine (isnan_any low w2).mono ?_
          rintro e w3 ⟨rfl, rfl⟩
          rw [hnl]
          go_wp2_with fail
          refine (isnan_any high w2).mono ?_
          rintro e w3 ⟨rfl, rfl⟩
          rw [hnh]
          go_wp2_with fail
          go_ret
          exact ⟨by first | rfl | simp, HX2.out⟩
        | false =>
          have gl := gt_great (isNan_iff.1 hnl)
          have gh := gt_great (isNan_iff.1 hnh)
          by_cases hgl : 9110782046170513408 < mag low
          · rw [decide_eq_true hgl] at gl
            clear hgl gh
            refine (clamp_any x low high w1 hx hl hh).mono ?_
            rintro e w2 ⟨rfl, x2⟩
            have HX2 := Lib.hid (HX1.out.trans x2)
            clear x2
            rw [HV.out]
            go_wp2_with fail
            refine (isnan_any _ w2).mono ?_
            rintro e w3 ⟨rfl, rfl⟩
            rw [HNC.out]
            go_wp2_with fail
            refine (less_any low low w2 (by assumption) (by assumption)).mono ?_
            rintro e w3 ⟨rfl, rfl⟩
            rw [less_self low]
            go_wp2_with fail
            refine (less_any high low w2 (by assumption) (by assumption)).mono ?_
            rintro e w3 ⟨rfl, rfl⟩
            rw [hhl]
            go_wp2_with fail
            refine (less_any x low w2 (by assumption) (by assumption)).mono ?_
            rintro e w3 ⟨rfl, rfl⟩
            rw [hxl]
            go_wp2_with fail
            refine (clean_any x w2 hx).mono ?_
            rintro e w3 ⟨rfl, rfl⟩
            go_wp2_with fail
            refine (clean_any (clean x) w2 HC2.out).mono ?_
            rintro e w3 ⟨rfl, rfl⟩
            rw [HCC.out.1]
            go_wp2_with fail
            refine (clean_any x w2 hx).mono ?_
            rintro e w3 ⟨rfl, rfl⟩
            go_wp2_with fail
            refine (same_any (clean x) (clean x) w2 HC2.out HC2.out).mono ?_
            rintro e w3 ⟨rfl, rfl⟩
            rw [same_self]
            go_wp2_with fail
            refine (clean_any x w2 hx).mono ?_
            rintro e w3 ⟨rfl, rfl⟩
            go_wp2_with fail
            refine (class_any (clean x) w2 HC2.out).mono ?_
            rintro e w3 ⟨rfl, rfl⟩
            go_wp2_with fail
            refine (ldexp_great w2).mono ?_
            rintro e w3 ⟨rfl, rfl⟩
            go_wp2_with fail
            refine (isnan_any low w2).mono ?_
            rintro e w3 ⟨rfl, rfl⟩
            rw [hnl]
            go_wp2_with fail
            refine (isnan_any high w2).mono ?_
            rintro e w3 ⟨rfl, rfl⟩
            rw [hnh]
            go_wp2_with fail
            refine (abs_any low w2 (by assumption)).mono ?_
            rintro e w3 ⟨rfl, rfl⟩
            go_wp2_with fail
            go_ret
            exact ⟨by first | rfl | simp, HX2.out⟩
          · rw [decide_eq_false hgl] at gl
            by_cases hgh : 9110782046170513408 < mag high
            · rw [decide_eq_true hgh] at gh
              clear hgl hgh
              refine (clamp_any x low high w1 hx hl hh).mono ?_
              rintro e w2 ⟨rfl, x2⟩
              have HX2 := Lib.hid (HX1.out.trans x2)
              clear x2
              rw [HV.out]
              go_wp2_with fail
              refine (isnan_any _ w2).mono ?_
              rintro e w3 ⟨rfl, rfl⟩
              rw [HNC.out]
              go_wp2_with fail
              refine (less_any low low w2 (by assumption) (by assumption)).mono ?_
              rintro e w3 ⟨rfl, rfl⟩
              rw [less_self low]
              go_wp2_with fail
              refine (less_any high low w2 (by assumption) (by assumption)).mono ?_
              rintro e w3 ⟨rfl, rfl⟩
              rw [hhl]
              go_wp2_with fail
              refine (less_any x low w2 (by assumption) (by assumption)).mono ?_
              rintro e w3 ⟨rfl, rfl⟩
              rw [hxl]
              go_wp2_with fail
              refine (clean_any x w2 hx).mono ?_
              rintro e w3 ⟨rfl, rfl⟩
              go_wp2_with fail
              refine (clean_any (clean x) w2 HC2.out).mono ?_
              rintro e w3 ⟨rfl, rfl⟩
              rw [HCC.out.1]
              go_wp2_with fail
              refine (clean_any x w2 hx).mono ?_
              rintro e w3 ⟨rfl, rfl⟩
              go_wp2_with fail
              refine (same_any (clean x) (clean x) w2 HC2.out HC2.out).mono ?_
              rintro e w3 ⟨rfl, rfl⟩
              rw [same_self]
              go_wp2_with fail
              refine (clean_any x w2 hx).mono ?_
              rintro e w3 ⟨rfl, rfl⟩
              go_wp2_with fail
              refine (class_any (clean x) w2 HC2.out).mono ?_
              rintro e w3 ⟨rfl, rfl⟩
              go_wp2_with fail
              refine (ldexp_great w2).mono ?_
              rintro e w3 ⟨rfl, rfl⟩
              go_wp2_with fail
              refine (isnan_any low w2).mono ?_
              rintro e w3 ⟨rfl, rfl⟩
              rw [hnl]
              go_wp2_with fail
              refine (isnan_any high w2).mono ?_
              rintro e w3 ⟨rfl, rfl⟩
              rw [hnh]
              go_wp2_with fail
              refine (abs_any low w2 (by assumption)).mono ?_
              rintro e w3 ⟨rfl, rfl⟩
              go_wp2_with fail
              refine (abs_any high w2 (by assumption)).mono ?_
              rintro e w3 ⟨rfl, rfl⟩
              go_wp2_with fail
              go_ret
              exact ⟨by first | rfl | simp, HX2.out⟩
            · rw [decide_eq_false hgh] at gh
              obtain ⟨m1, m2⟩ := mix_stays hl (show mag low ≤ 9110782046170513408 by omega) (show mag high ≤ 9110782046170513408 by omega)
              obtain ⟨s1, hs1⟩ : ∃ s, mixV low high 0 = s := ⟨_, rfl⟩
              rw [hs1] at m1 m2
              have m3 : (FloatKind.f64.format.order s1 low == some .eq) = true := m2
              have HS1 := Lib.hid hs1
              have cl1 : cls low ≠ 1 := by have := @cls_nan low; rw [hnl] at this; simpa using this
              have ch1 : cls high ≠ 1 := by have := @cls_nan high; rw [hnh] at this; simpa using this
              have HS2 := Lib.hid (show mixV 9221120237041090561 high 4602678819172646912 = clean high by
                unfold mixV; rw [if_neg (by decide), if_pos (by decide)])
              have HS3 := Lib.hid (show mixV low 9221120237041090561 4602678819172646912 = clean low by
                unfold mixV; rw [if_neg (by decide), if_neg cl1, if_pos (by decide)])
              have HS4 := Lib.hid (show mixV low high 9218868437227405312 = 9221120237041090560 by
                unfold mixV; rw [if_pos (by decide)])
              clear hgl hgh cl1 ch1 hs1 m2
              refine (clamp_any x low high w1 hx hl hh).mono ?_
              rintro e w2 ⟨rfl, x2⟩
              have HX2 := Lib.hid (HX1.out.trans x2)
              clear x2
              rw [HV.out]
              go_wp2_with fail
              refine (isnan_any _ w2).mono ?_
              rintro e w3 ⟨rfl, rfl⟩
              rw [HNC.out]
              go_wp2_with fail
              refine (less_any low low w2 (by assumption) (by assumption)).mono ?_
              rintro e w3 ⟨rfl, rfl⟩
              rw [less_self low]
              go_wp2_with fail
              refine (less_any high low w2 (by assumption) (by assumption)).mono ?_
              rintro e w3 ⟨rfl, rfl⟩
              rw [hhl]
              go_wp2_with fail
              refine (less_any x low w2 (by assumption) (by assumption)).mono ?_
              rintro e w3 ⟨rfl, rfl⟩
              rw [hxl]
              go_wp2_with fail
              refine (clean_any x w2 hx).mono ?_
              rintro e w3 ⟨rfl, rfl⟩
              go_wp2_with fail
              refine (clean_any (clean x) w2 HC2.out).mono ?_
              rintro e w3 ⟨rfl, rfl⟩
              rw [HCC.out.1]
              go_wp2_with fail
              refine (clean_any x w2 hx).mono ?_
              rintro e w3 ⟨rfl, rfl⟩
              go_wp2_with fail
              refine (same_any (clean x) (clean x) w2 HC2.out HC2.out).mono ?_
              rintro e w3 ⟨rfl, rfl⟩
              rw [same_self]
              go_wp2_with fail
              refine (clean_any x w2 hx).mono ?_
              rintro e w3 ⟨rfl, rfl⟩
              go_wp2_with fail
              refine (class_any (clean x) w2 HC2.out).mono ?_
              rintro e w3 ⟨rfl, rfl⟩
              go_wp2_with fail
              refine (ldexp_great w2).mono ?_
              rintro e w3 ⟨rfl, rfl⟩
              go_wp2_with fail
              refine (isnan_any low w2).mono ?_
              rintro e w3 ⟨rfl, rfl⟩
              rw [hnl]
              go_wp2_with fail
              refine (isnan_any high w2).mono ?_
              rintro e w3 ⟨rfl, rfl⟩
              rw [hnh]
              go_wp2_with fail
              refine (abs_any low w2 (by assumption)).mono ?_
              rintro e w3 ⟨rfl, rfl⟩
              go_wp2_with fail
              refine (abs_any high w2 (by assumption)).mono ?_
              rintro e w3 ⟨rfl, rfl⟩
              go_wp2_with fail
              refine (mix_any low high 0 w2 (by first | assumption | decide) (by first | assumption | decide) (by decide)).mono ?_
              rintro e w3 ⟨rfl, x3⟩
              have HX3 := Lib.hid (HX2.out.trans x3)
              clear x3
              rw [HS1.out]
              go_wp2_with fail
              refine (nan_any w3).mono ?_
              rintro e w4 ⟨rfl, rfl⟩
              go_wp2_with fail
              refine (mix_any 9221120237041090561 high 4602678819172646912 w3 (by first | assumption | decide) (by first | assumption | decide) (by decide)).mono ?_
              rintro e w4 ⟨rfl, x4⟩
              have HX4 := Lib.hid (HX3.out.trans x4)
              clear x4
              rw [HS2.out]
              go_wp2_with fail
              refine (clean_any high w4 hh).mono ?_
              rintro e w5 ⟨rfl, rfl⟩
              go_wp2_with fail
              refine (same_any (clean high) (clean high) w4 HCH.out HCH.out).mono ?_
              rintro e w5 ⟨rfl, rfl⟩
              rw [same_self]
              go_wp2_with fail
              refine (nan_any w4).mono ?_
              rintro e w5 ⟨rfl, rfl⟩
              go_wp2_with fail
              refine (mix_any low 9221120237041090561 4602678819172646912 w4 (by first | assumption | decide) (by first | assumption | decide) (by decide)).mono ?_
              rintro e w5 ⟨rfl, x5⟩
              have HX5 := Lib.hid (HX4.out.trans x5)
              clear x5
              rw [HS3.out]
              go_wp2_with fail
              refine (clean_any low w5 hl).mono ?_
              rintro e w6 ⟨rfl, rfl⟩
              go_wp2_with fail
              refine (same_any (clean low) (clean low) w5 HCW.out HCW.out).mono ?_
              rintro e w6 ⟨rfl, rfl⟩
              rw [same_self]
              go_wp2_with fail
              refine (inf_any 1 w5).mono ?_
              rintro e w6 ⟨rfl, rfl⟩
              rw [show infOf 1 = 9218868437227405312 from rfl]
              go_wp2_with fail
              refine (mix_any low high 9218868437227405312 w5 (by first | assumption | decide) (by first | assumption | decide) (by decide)).mono ?_
              rintro e w6 ⟨rfl, x6⟩
              have HX6 := Lib.hid (HX5.out.trans x6)
              clear x6
              rw [HS4.out]
              go_wp2_with fail
              refine (isnan_any 9221120237041090560 w6).mono ?_
              rintro e w7 ⟨rfl, rfl⟩
              rw [show isNan 9221120237041090560 = true by decide]
              go_wp2_with fail
              go_ret
              exact ⟨by first | rfl | simp, HX6.out⟩
    | false =>
      cases hhx : less high x with
      | true =>
        have HV := Lib.hid (show clampV x low high = high by unfold clampV; rw [if_neg hA, if_neg (by simp [hxl]), if_pos hhx])
        have HNC := Lib.hid (show isNan high = false by rw [cls_nan, decide_eq_false_iff_not]; exact fun h => hA (.inr (.inr (.inl h))))
        clear hA
        cases hnl : isNan low with
        | true =>
          refine (clamp_any x low high w1 hx hl hh).mono ?_
          rintro e w2 ⟨rfl, x2⟩
          have HX2 := Lib.hid (HX1.out.trans x2)
          clear x2
          rw [HV.out]
          go_wp2_with fail
          refine (isnan_any _ w2).mono ?_
          rintro e w3 ⟨rfl, rfl⟩
          rw [HNC.out]
          go_wp2_with fail
          refine (less_any high low w2 (by assumption) (by assumption)).mono ?_
          rintro e w3 ⟨rfl, rfl⟩
          rw [hhl]
          go_wp2_with fail
          refine (less_any high high w2 (by assumption) (by assumption)).mono ?_
          rintro e w3 ⟨rfl, rfl⟩
          rw [less_self high]
          go_wp2_with fail
          refine (less_any x low w2 (by assumption) (by assumption)).mono ?_
          rintro e w3 ⟨rfl, rfl⟩
          rw [hxl]
          go_wp2_with fail
          refine (less_any high x w2 (by assumption) (by assumption)).mono ?_
          rintro e w3 ⟨rfl, rfl⟩
          rw [hhx]
          go_wp2_with fail
          refine (clean_any x w2 hx).mono ?_
          rintro e w3 ⟨rfl, rfl⟩
          go_wp2_with fail
          refine (clean_any (clean x) w2 HC2.out).mono ?_
          rintro e w3 ⟨rfl, rfl⟩
          rw [HCC.out.1]
          go_wp2_with fail
          refine (clean_any x w2 hx).mono ?_
          rintro e w3 ⟨rfl, rfl⟩
          go_wp2_with fail
          refine (same_any (clean x) (clean x) w2 HC2.out HC2.out).mono ?_
          rintro e w3 ⟨rfl, rfl⟩
          rw [same_self]
          go_wp2_with fail
          refine (clean_any x w2 hx).mono ?_
          rintro e w3 ⟨rfl, rfl⟩
          go_wp2_with fail
          refine (class_any (clean x) w2 HC2.out).mono ?_
          rintro e w3 ⟨rfl, rfl⟩
          go_wp2_with fail
          refine (ldexp_great w2).mono ?_
          rintro e w3 ⟨rfl, rfl⟩
          go_wp2_with fail
          refine (isnan_any low w2).mono ?_
          rintro e w3 ⟨rfl, rfl⟩
          rw [hnl]
          go_wp2_with fail
          go_ret
          exact ⟨by first | rfl | simp, HX2.out⟩
        | false =>
          cases hnh : isNan high with
          | true =>
            refine (clamp_any x low high w1 hx hl hh).mono ?_
            rintro e w2 ⟨rfl, x2⟩
            have HX2 := Lib.hid (HX1.out.trans x2)
            clear x2
            rw [HV.out]
            go_wp2_with fail
            refine (isnan_any _ w2).mono ?_
            rintro e w3 ⟨rfl, rfl⟩
            rw [HNC.out]
            go_wp2_with fail
            refine (less_any high low w2 (by assumption) (by assumption)).mono ?_
            rintro e w3 ⟨rfl, rfl⟩
            rw [hhl]
            go_wp2_with fail
            refine (less_any high high w2 (by assumption) (by assumption)).mono ?_
            rintro e w3 ⟨rfl, rfl⟩
            rw [less_self high]
            go_wp2_with fail
            refine (less_any x low w2 (by assumption) (by assumption)).mono ?_
            rintro e w3 ⟨rfl, rfl⟩
            rw [hxl]
            go_wp2_with fail
            refine (less_any high x w2 (by assumption) (by assumption)).mono ?_
            rintro e w3 ⟨rfl, rfl⟩
            rw [hhx]
            go_wp2_with fail
            refine (clean_any x w2 hx).mono ?_
            rintro e w3 ⟨rfl, rfl⟩
            go_wp2_with fail
            refine (clean_any (clean x) w2 HC2.out).mono ?_
            rintro e w3 ⟨rfl, rfl⟩
            rw [HCC.out.1]
            go_wp2_with fail
            refine (clean_any x w2 hx).mono ?_
            rintro e w3 ⟨rfl, rfl⟩
            go_wp2_with fail
            refine (same_any (clean x) (clean x) w2 HC2.out HC2.out).mono ?_
            rintro e w3 ⟨rfl, rfl⟩
            rw [same_self]
            go_wp2_with fail
            refine (clean_any x w2 hx).mono ?_
            rintro e w3 ⟨rfl, rfl⟩
            go_wp2_with fail
            refine (class_any (clean x) w2 HC2.out).mono ?_
            rintro e w3 ⟨rfl, rfl⟩
            go_wp2_with fail
            refine (ldexp_great w2).mono ?_
            rintro e w3 ⟨rfl, rfl⟩
            go_wp2_with fail
            refine (isnan_any low w2).mono ?_
            rintro e w3 ⟨rfl, rfl⟩
            rw [hnl]
            go_wp2_with fail
            refine (isnan_any high w2).mono ?_
            rintro e w3 ⟨rfl, rfl⟩
            rw [hnh]
            go_wp2_with fail
            go_ret
            exact ⟨by first | rfl | simp, HX2.out⟩
          | false =>
            have gl := gt_great (isNan_iff.1 hnl)
            have gh := gt_great (isNan_iff.1 hnh)
            by_cases hgl : 9110782046170513408 < mag low
            · rw [decide_eq_true hgl] at gl
              clear hgl gh
              refine (clamp_any x low high w1 hx hl hh).mono ?_
              rintro e w2 ⟨rfl, x2⟩
              have HX2 := Lib.hid (HX1.out.trans x2)
              clear x2
              rw [HV.out]
              go_wp2_with fail
              refine (isnan_any _ w2).mono ?_
              rintro e w3 ⟨rfl, rfl⟩
              rw [HNC.out]
              go_wp2_with fail
              refine (less_any high low w2 (by assumption) (by assumption)).mono ?_
              rintro e w3 ⟨rfl, rfl⟩
              rw [hhl]
              go_wp2_with fail
              refine (less_any high high w2 (by assumption) (by assumption)).mono ?_
              rintro e w3 ⟨rfl, rfl⟩
              rw [less_self high]
              go_wp2_with fail
              refine (less_any x low w2 (by assumption) (by assumption)).mono ?_
              rintro e w3 ⟨rfl, rfl⟩
              rw [hxl]
              go_wp2_with fail
              refine (less_any high x w2 (by assumption) (by assumption)).mono ?_
              rintro e w3 ⟨rfl, rfl⟩
              rw [hhx]
              go_wp2_with fail
              refine (clean_any x w2 hx).mono ?_
              rintro e w3 ⟨rfl, rfl⟩
              go_wp2_with fail
              refine (clean_any (clean x) w2 HC2.out).mono ?_
              rintro e w3 ⟨rfl, rfl⟩
              rw [HCC.out.1]
              go_wp2_with fail
              refine (clean_any x w2 hx).mono ?_
              rintro e w3 ⟨rfl, rfl⟩
              go_wp2_with fail
              refine (same_any (clean x) (clean x) w2 HC2.out HC2.out).mono ?_
              rintro e w3 ⟨rfl, rfl⟩
              rw [same_self]
              go_wp2_with fail
              refine (clean_any x w2 hx).mono ?_
              rintro e w3 ⟨rfl, rfl⟩
              go_wp2_with fail
              refine (class_any (clean x) w2 HC2.out).mono ?_
              rintro e w3 ⟨rfl, rfl⟩
              go_wp2_with fail
              refine (ldexp_great w2).mono ?_
              rintro e w3 ⟨rfl, rfl⟩
              go_wp2_with fail
              refine (isnan_any low w2).mono ?_
              rintro e w3 ⟨rfl, rfl⟩
              rw [hnl]
              go_wp2_with fail
              refine (isnan_any high w2).mono ?_
              rintro e w3 ⟨rfl, rfl⟩
              rw [hnh]
              go_wp2_with fail
              refine (abs_any low w2 (by assumption)).mono ?_
              rintro e w3 ⟨rfl, rfl⟩
              go_wp2_with fail
              go_ret
              exact ⟨by first | rfl | simp, HX2.out⟩
            · rw [decide_eq_false hgl] at gl
              by_cases hgh : 9110782046170513408 < mag high
              · rw [decide_eq_true hgh] at gh
                clear hgl hgh
                refine (clamp_any x low high w1 hx hl hh).mono ?_
                rintro e w2 ⟨rfl, x2⟩
                have HX2 := Lib.hid (HX1.out.trans x2)
                clear x2
                rw [HV.out]
                go_wp2_with fail
                refine (isnan_any _ w2).mono ?_
                rintro e w3 ⟨rfl, rfl⟩
                rw [HNC.out]
                go_wp2_with fail
                refine (less_any high low w2 (by assumption) (by assumption)).mono ?_
                rintro e w3 ⟨rfl, rfl⟩
                rw [hhl]
                go_wp2_with fail
                refine (less_any high high w2 (by assumption) (by assumption)).mono ?_
                rintro e w3 ⟨rfl, rfl⟩
                rw [less_self high]
                go_wp2_with fail
                refine (less_any x low w2 (by assumption) (by assumption)).mono ?_
                rintro e w3 ⟨rfl, rfl⟩
                rw [hxl]
                go_wp2_with fail
                refine (less_any high x w2 (by assumption) (by assumption)).mono ?_
                rintro e w3 ⟨rfl, rfl⟩
                rw [hhx]
                go_wp2_with fail
                refine (clean_any x w2 hx).mono ?_
                rintro e w3 ⟨rfl, rfl⟩
                go_wp2_with fail
                refine (clean_any (clean x) w2 HC2.out).mono ?_
                rintro e w3 ⟨rfl, rfl⟩
                rw [HCC.out.1]
                go_wp2_with fail
                refine (clean_any x w2 hx).mono ?_
                rintro e w3 ⟨rfl, rfl⟩
                go_wp2_with fail
                refine (same_any (clean x) (clean x) w2 HC2.out HC2.out).mono ?_
                rintro e w3 ⟨rfl, rfl⟩
                rw [same_self]
                go_wp2_with fail
                refine (clean_any x w2 hx).mono ?_
                rintro e w3 ⟨rfl, rfl⟩
                go_wp2_with fail
                refine (class_any (clean x) w2 HC2.out).mono ?_
                rintro e w3 ⟨rfl, rfl⟩
                go_wp2_with fail
                refine (ldexp_great w2).mono ?_
                rintro e w3 ⟨rfl, rfl⟩
                go_wp2_with fail
                refine (isnan_any low w2).mono ?_
                rintro e w3 ⟨rfl, rfl⟩
                rw [hnl]
                go_wp2_with fail
                refine (isnan_any high w2).mono ?_
                rintro e w3 ⟨rfl, rfl⟩
                rw [hnh]
                go_wp2_with fail
                refine (abs_any low w2 (by assumption)).mono ?_
                rintro e w3 ⟨rfl, rfl⟩
                go_wp2_with fail
                refine (abs_any high w2 (by assumption)).mono ?_
                rintro e w3 ⟨rfl, rfl⟩
                go_wp2_with fail
                go_ret
                exact ⟨by first | rfl | simp, HX2.out⟩
              · rw [decide_eq_false hgh] at gh
                obtain ⟨m1, m2⟩ := mix_stays hl (show mag low ≤ 9110782046170513408 by omega) (show mag high ≤ 9110782046170513408 by omega)
                obtain ⟨s1, hs1⟩ : ∃ s, mixV low high 0 = s := ⟨_, rfl⟩
                rw [hs1] at m1 m2
                have m3 : (FloatKind.f64.format.order s1 low == some .eq) = true := m2
                have HS1 := Lib.hid hs1
                have cl1 : cls low ≠ 1 := by have := @cls_nan low; rw [hnl] at this; simpa using this
                have ch1 : cls high ≠ 1 := by have := @cls_nan high; rw [hnh] at this; simpa using this
                have HS2 := Lib.hid (show mixV 9221120237041090561 high 4602678819172646912 = clean high by
                  unfold mixV; rw [if_neg (by decide), if_pos (by decide)])
                have HS3 := Lib.hid (show mixV low 9221120237041090561 4602678819172646912 = clean low by
                  unfold mixV; rw [if_neg (by decide), if_neg cl1, if_pos (by decide)])
                have HS4 := Lib.hid (show mixV low high 9218868437227405312 = 9221120237041090560 by
                  unfold mixV; rw [if_pos (by decide)])
                clear hgl hgh cl1 ch1 hs1 m2
                refine (clamp_any x low high w1 hx hl hh).mono ?_
                rintro e w2 ⟨rfl, x2⟩
                have HX2 := Lib.hid (HX1.out.trans x2)
                clear x2
                rw [HV.out]
                go_wp2_with fail
                refine (isnan_any _ w2).mono ?_
                rintro e w3 ⟨rfl, rfl⟩
                rw [HNC.out]
                go_wp2_with fail
                refine (less_any high low w2 (by assumption) (by assumption)).mono ?_
                rintro e w3 ⟨rfl, rfl⟩
                rw [hhl]
                go_wp2_with fail
                refine (less_any high high w2 (by assumption) (by assumption)).mono ?_
                rintro e w3 ⟨rfl, rfl⟩
                rw [less_self high]
                go_wp2_with fail
                refine (less_any x low w2 (by assumption) (by assumption)).mono ?_
                rintro e w3 ⟨rfl, rfl⟩
                rw [hxl]
                go_wp2_with fail
                refine (less_any high x w2 (by assumption) (by assumption)).mono ?_
                rintro e w3 ⟨rfl, rfl⟩
                rw [hhx]
                go_wp2_with fail
                refine (clean_any x w2 hx).mono ?_
                rintro e w3 ⟨rfl, rfl⟩
                go_wp2_with fail
                refine (clean_any (clean x) w2 HC2.out).mono ?_
                rintro e w3 ⟨rfl, rfl⟩
                rw [HCC.out.1]
                go_wp2_with fail
                refine (clean_any x w2 hx).mono ?_
                rintro e w3 ⟨rfl, rfl⟩
                go_wp2_with fail
                refine (same_any (clean x) (clean x) w2 HC2.out HC2.out).mono ?_
                rintro e w3 ⟨rfl, rfl⟩
                rw [same_self]
                go_wp2_with fail
                refine (clean_any x w2 hx).mono ?_
                rintro e w3 ⟨rfl, rfl⟩
                go_wp2_with fail
                refine (class_any (clean x) w2 HC2.out).mono ?_
                rintro e w3 ⟨rfl, rfl⟩
                go_wp2_with fail
                refine (ldexp_great w2).mono ?_
                rintro e w3 ⟨rfl, rfl⟩
                go_wp2_with fail
                refine (isnan_any low w2).mono ?_
                rintro e w3 ⟨rfl, rfl⟩
                rw [hnl]
                go_wp2_with fail
                refine (isnan_any high w2).mono ?_
                rintro e w3 ⟨rfl, rfl⟩
                rw [hnh]
                go_wp2_with fail
                refine (abs_any low w2 (by assumption)).mono ?_
                rintro e w3 ⟨rfl, rfl⟩
                go_wp2_with fail
                refine (abs_any high w2 (by assumption)).mono ?_
                rintro e w3 ⟨rfl, rfl⟩
                go_wp2_with fail
                refine (mix_any low high 0 w2 (by first | assumption | decide) (by first | assumption | decide) (by decide)).mono ?_
                rintro e w3 ⟨rfl, x3⟩
                have HX3 := Lib.hid (HX2.out.trans x3)
                clear x3
                rw [HS1.out]
                go_wp2_with fail
                refine (nan_any w3).mono ?_
                rintro e w4 ⟨rfl, rfl⟩
                go_wp2_with fail
                refine (mix_any 9221120237041090561 high 4602678819172646912 w3 (by first | assumption | decide) (by first | assumption | decide) (by decide)).mono ?_
                rintro e w4 ⟨rfl, x4⟩
                have HX4 := Lib.hid (HX3.out.trans x4)
                clear x4
                rw [HS2.out]
                go_wp2_with fail
                refine (clean_any high w4 hh).mono ?_
                rintro e w5 ⟨rfl, rfl⟩
                go_wp2_with fail
                refine (same_any (clean high) (clean high) w4 HCH.out HCH.out).mono ?_
                rintro e w5 ⟨rfl, rfl⟩
                rw [same_self]
                go_wp2_with fail
                refine (nan_any w4).mono ?_
                rintro e w5 ⟨rfl, rfl⟩
                go_wp2_with fail
                refine (mix_any low 9221120237041090561 4602678819172646912 w4 (by first | assumption | decide) (by first | assumption | decide) (by decide)).mono ?_
                rintro e w5 ⟨rfl, x5⟩
                have HX5 := Lib.hid (HX4.out.trans x5)
                clear x5
                rw [HS3.out]
                go_wp2_with fail
                refine (clean_any low w5 hl).mono ?_
                rintro e w6 ⟨rfl, rfl⟩
                go_wp2_with fail
                refine (same_any (clean low) (clean low) w5 HCW.out HCW.out).mono ?_
                rintro e w6 ⟨rfl, rfl⟩
                rw [same_self]
                go_wp2_with fail
                refine (inf_any 1 w5).mono ?_
                rintro e w6 ⟨rfl, rfl⟩
                rw [show infOf 1 = 9218868437227405312 from rfl]
                go_wp2_with fail
                refine (mix_any low high 9218868437227405312 w5 (by first | assumption | decide) (by first | assumption | decide) (by decide)).mono ?_
                rintro e w6 ⟨rfl, x6⟩
                have HX6 := Lib.hid (HX5.out.trans x6)
                clear x6
                rw [HS4.out]
                go_wp2_with fail
                refine (isnan_any 9221120237041090560 w6).mono ?_
                rintro e w7 ⟨rfl, rfl⟩
                rw [show isNan 9221120237041090560 = true by decide]
                go_wp2_with fail
                go_ret
                exact ⟨by first | rfl | simp, HX6.out⟩
      | false =>
        have HV := Lib.hid (show clampV x low high = x by unfold clampV; rw [if_neg hA, if_neg (by simp [hxl]), if_neg (by simp [hhx])])
        have HNC := Lib.hid (show isNan x = false by rw [cls_nan, decide_eq_false_iff_not]; exact fun h => hA (.inl h))
        clear hA
        cases hnl : isNan low with
        | true =>
          refine (clamp_any x low high w1 hx hl hh).mono ?_
          rintro e w2 ⟨rfl, x2⟩
          have HX2 := Lib.hid (HX1.out.trans x2)
          clear x2
          rw [HV.out]
          go_wp2_with fail
          refine (isnan_any _ w2).mono ?_
          rintro e w3 ⟨rfl, rfl⟩
          rw [HNC.out]
          go_wp2_with fail
          refine (less_any x low w2 (by assumption) (by assumption)).mono ?_
          rintro e w3 ⟨rfl, rfl⟩
          rw [hxl]
          go_wp2_with fail
          refine (less_any high x w2 (by assumption) (by assumption)).mono ?_
          rintro e w3 ⟨rfl, rfl⟩
          rw [hhx]
          go_wp2_with fail
          refine (less_any x low w2 (by assumption) (by assumption)).mono ?_
          rintro e w3 ⟨rfl, rfl⟩
          rw [hxl]
          go_wp2_with fail
          refine (less_any high x w2 (by assumption) (by assumption)).mono ?_
          rintro e w3 ⟨rfl, rfl⟩
          rw [hhx]
          go_wp2_with fail
          refine (same_any x x w2 hx hx).mono ?_
          rintro e w3 ⟨rfl, rfl⟩
          rw [same_self]
          go_wp2_with fail
          refine (clean_any x w2 hx).mono ?_
          rintro e w3 ⟨rfl, rfl⟩
          go_wp2_with fail
          refine (clean_any (clean x) w2 HC2.out).mono ?_
          rintro e w3 ⟨rfl, rfl⟩
          rw [HCC.out.1]
          go_wp2_with fail
          refine (clean_any x w2 hx).mono ?_
          rintro e w3 ⟨rfl, rfl⟩
          go_wp2_with fail
          refine (same_any (clean x) (clean x) w2 HC2.out HC2.out).mono ?_
          rintro e w3 ⟨rfl, rfl⟩
          rw [same_self]
          go_wp2_with fail
          refine (clean_any x w2 hx).mono ?_
          rintro e w3 ⟨rfl, rfl⟩
          go_wp2_with fail
          refine (class_any (clean x) w2 HC2.out).mono ?_
          rintro e w3 ⟨rfl, rfl⟩
          go_wp2_with fail
          refine (ldexp_great w2).mono ?_
          rintro e w3 ⟨rfl, rfl⟩
          go_wp2_with fail
          refine (isnan_any low w2).mono ?_
          rintro e w3 ⟨rfl, rfl⟩
          rw [hnl]
          go_wp2_with fail
          go_ret
          exact ⟨by first | rfl | simp, HX2.out⟩
        | false =>
          cases hnh : isNan high with
          | true =>
            refine (clamp_any x low high w1 hx hl hh).mono ?_
            rintro e w2 ⟨rfl, x2⟩
            have HX2 := Lib.hid (HX1.out.trans x2)
            clear x2
            rw [HV.out]
            go_wp2_with fail
            refine (isnan_any _ w2).mono ?_
            rintro e w3 ⟨rfl, rfl⟩
            rw [HNC.out]
            go_wp2_with fail
            refine (less_any x low w2 (by assumption) (by assumption)).mono ?_
            rintro e w3 ⟨rfl, rfl⟩
            rw [hxl]
            go_wp2_with fail
            refine (less_any high x w2 (by assumption) (by assumption)).mono ?_
            rintro e w3 ⟨rfl, rfl⟩
            rw [hhx]
            go_wp2_with fail
            refine (less_any x low w2 (by assumption) (by assumption)).mono ?_
            rintro e w3 ⟨rfl, rfl⟩
            rw [hxl]
            go_wp2_with fail
            refine (less_any high x w2 (by assumption) (by assumption)).mono ?_
            rintro e w3 ⟨rfl, rfl⟩
            rw [hhx]
            go_wp2_with fail
            refine (same_any x x w2 hx hx).mono ?_
            rintro e w3 ⟨rfl, rfl⟩
            rw [same_self]
            go_wp2_with fail
            refine (clean_any x w2 hx).mono ?_
            rintro e w3 ⟨rfl, rfl⟩
            go_wp2_with fail
            refine (clean_any (clean x) w2 HC2.out).mono ?_
            rintro e w3 ⟨rfl, rfl⟩
            rw [HCC.out.1]
            go_wp2_with fail
            refine (clean_any x w2 hx).mono ?_
            rintro e w3 ⟨rfl, rfl⟩
            go_wp2_with fail
            refine (same_any (clean x) (clean x) w2 HC2.out HC2.out).mono ?_
            rintro e w3 ⟨rfl, rfl⟩
            rw [same_self]
            go_wp2_with fail
            refine (clean_any x w2 hx).mono ?_
            rintro e w3 ⟨rfl, rfl⟩
            go_wp2_with fail
            refine (class_any (clean x) w2 HC2.out).mono ?_
            rintro e w3 ⟨rfl, rfl⟩
            go_wp2_with fail
            refine (ldexp_great w2).mono ?_
            rintro e w3 ⟨rfl, rfl⟩
            go_wp2_with fail
            refine (isnan_any low w2).mono ?_
            rintro e w3 ⟨rfl, rfl⟩
            rw [hnl]
            go_wp2_with fail
            refine (isnan_any high w2).mono ?_
            rintro e w3 ⟨rfl, rfl⟩
            rw [hnh]
            go_wp2_with fail
            go_ret
            exact ⟨by first | rfl | simp, HX2.out⟩
          | false =>
            have gl := gt_great (isNan_iff.1 hnl)
            have gh := gt_great (isNan_iff.1 hnh)
            by_cases hgl : 9110782046170513408 < mag low
            · rw [decide_eq_true hgl] at gl
              clear hgl gh
              refine (clamp_any x low high w1 hx hl hh).mono ?_
              rintro e w2 ⟨rfl, x2⟩
              have HX2 := Lib.hid (HX1.out.trans x2)
              clear x2
              rw [HV.out]
              go_wp2_with fail
              refine (isnan_any _ w2).mono ?_
              rintro e w3 ⟨rfl, rfl⟩
              rw [HNC.out]
              go_wp2_with fail
              refine (less_any x low w2 (by assumption) (by assumption)).mono ?_
              rintro e w3 ⟨rfl, rfl⟩
              rw [hxl]
              go_wp2_with fail
              refine (less_any high x w2 (by assumption) (by assumption)).mono ?_
              rintro e w3 ⟨rfl, rfl⟩
              rw [hhx]
              go_wp2_with fail
              refine (less_any x low w2 (by assumption) (by assumption)).mono ?_
              rintro e w3 ⟨rfl, rfl⟩
              rw [hxl]
              go_wp2_with fail
              refine (less_any high x w2 (by assumption) (by assumption)).mono ?_
              rintro e w3 ⟨rfl, rfl⟩
              rw [hhx]
              go_wp2_with fail
              refine (same_any x x w2 hx hx).mono ?_
              rintro e w3 ⟨rfl, rfl⟩
              rw [same_self]
              go_wp2_with fail
              refine (clean_any x w2 hx).mono ?_
              rintro e w3 ⟨rfl, rfl⟩
              go_wp2_with fail
              refine (clean_any (clean x) w2 HC2.out).mono ?_
              rintro e w3 ⟨rfl, rfl⟩
              rw [HCC.out.1]
              go_wp2_with fail
              refine (clean_any x w2 hx).mono ?_
              rintro e w3 ⟨rfl, rfl⟩
              go_wp2_with fail
              refine (same_any (clean x) (clean x) w2 HC2.out HC2.out).mono ?_
              rintro e w3 ⟨rfl, rfl⟩
              rw [same_self]
              go_wp2_with fail
              refine (clean_any x w2 hx).mono ?_
              rintro e w3 ⟨rfl, rfl⟩
              go_wp2_with fail
              refine (class_any (clean x) w2 HC2.out).mono ?_
              rintro e w3 ⟨rfl, rfl⟩
              go_wp2_with fail
              refine (ldexp_great w2).mono ?_
              rintro e w3 ⟨rfl, rfl⟩
              go_wp2_with fail
              refine (isnan_any low w2).mono ?_
              rintro e w3 ⟨rfl, rfl⟩
              rw [hnl]
              go_wp2_with fail
              refine (isnan_any high w2).mono ?_
              rintro e w3 ⟨rfl, rfl⟩
              rw [hnh]
              go_wp2_with fail
              refine (abs_any low w2 (by assumption)).mono ?_
              rintro e w3 ⟨rfl, rfl⟩
              go_wp2_with fail
              go_ret
              exact ⟨by first | rfl | simp, HX2.out⟩
            · rw [decide_eq_false hgl] at gl
              by_cases hgh : 9110782046170513408 < mag high
              · rw [decide_eq_true hgh] at gh
                clear hgl hgh
                refine (clamp_any x low high w1 hx hl hh).mono ?_
                rintro e w2 ⟨rfl, x2⟩
                have HX2 := Lib.hid (HX1.out.trans x2)
                clear x2
                rw [HV.out]
                go_wp2_with fail
                refine (isnan_any _ w2).mono ?_
                rintro e w3 ⟨rfl, rfl⟩
                rw [HNC.out]
                go_wp2_with fail
                refine (less_any x low w2 (by assumption) (by assumption)).mono ?_
                rintro e w3 ⟨rfl, rfl⟩
                rw [hxl]
                go_wp2_with fail
                refine (less_any high x w2 (by assumption) (by assumption)).mono ?_
                rintro e w3 ⟨rfl, rfl⟩
                rw [hhx]
                go_wp2_with fail
                refine (less_any x low w2 (by assumption) (by assumption)).mono ?_
                rintro e w3 ⟨rfl, rfl⟩
                rw [hxl]
                go_wp2_with fail
                refine (less_any high x w2 (by assumption) (by assumption)).mono ?_
                rintro e w3 ⟨rfl, rfl⟩
                rw [hhx]
                go_wp2_with fail
                refine (same_any x x w2 hx hx).mono ?_
                rintro e w3 ⟨rfl, rfl⟩
                rw [same_self]
                go_wp2_with fail
                refine (clean_any x w2 hx).mono ?_
                rintro e w3 ⟨rfl, rfl⟩
                go_wp2_with fail
                refine (clean_any (clean x) w2 HC2.out).mono ?_
                rintro e w3 ⟨rfl, rfl⟩
                rw [HCC.out.1]
                go_wp2_with fail
                refine (clean_any x w2 hx).mono ?_
                rintro e w3 ⟨rfl, rfl⟩
                go_wp2_with fail
                refine (same_any (clean x) (clean x) w2 HC2.out HC2.out).mono ?_
                rintro e w3 ⟨rfl, rfl⟩
                rw [same_self]
                go_wp2_with fail
                refine (clean_any x w2 hx).mono ?_
                rintro e w3 ⟨rfl, rfl⟩
                go_wp2_with fail
                refine (class_any (clean x) w2 HC2.out).mono ?_
                rintro e w3 ⟨rfl, rfl⟩
                go_wp2_with fail
                refine (ldexp_great w2).mono ?_
                rintro e w3 ⟨rfl, rfl⟩
                go_wp2_with fail
                refine (isnan_any low w2).mono ?_
                rintro e w3 ⟨rfl, rfl⟩
                rw [hnl]
                go_wp2_with fail
                refine (isnan_any high w2).mono ?_
                rintro e w3 ⟨rfl, rfl⟩
                rw [hnh]
                go_wp2_with fail
                refine (abs_any low w2 (by assumption)).mono ?_
                rintro e w3 ⟨rfl, rfl⟩
                go_wp2_with fail
                refine (abs_any high w2 (by assumption)).mono ?_
                rintro e w3 ⟨rfl, rfl⟩
                go_wp2_with fail
                go_ret
                exact ⟨by first | rfl | simp, HX2.out⟩
              · rw [decide_eq_false hgh] at gh
                obtain ⟨m1, m2⟩ := mix_stays hl (show mag low ≤ 9110782046170513408 by omega) (show mag high ≤ 9110782046170513408 by omega)
                obtain ⟨s1, hs1⟩ : ∃ s, mixV low high 0 = s := ⟨_, rfl⟩
                rw [hs1] at m1 m2
                have m3 : (FloatKind.f64.format.order s1 low == some .eq) = true := m2
                have HS1 := Lib.hid hs1
                have cl1 : cls low ≠ 1 := by have := @cls_nan low; rw [hnl] at this; simpa using this
                have ch1 : cls high ≠ 1 := by have := @cls_nan high; rw [hnh] at this; simpa using this
                have HS2 := Lib.hid (show mixV 9221120237041090561 high 4602678819172646912 = clean high by
                  unfold mixV; rw [if_neg (by decide), if_pos (by decide)])
                have HS3 := Lib.hid (show mixV low 9221120237041090561 4602678819172646912 = clean low by
                  unfold mixV; rw [if_neg (by decide), if_neg cl1, if_pos (by decide)])
                have HS4 := Lib.hid (show mixV low high 9218868437227405312 = 9221120237041090560 by
                  unfold mixV; rw [if_pos (by decide)])
                clear hgl hgh cl1 ch1 hs1 m2
                refine (clamp_any x low high w1 hx hl hh).mono ?_
                rintro e w2 ⟨rfl, x2⟩
                have HX2 := Lib.hid (HX1.out.trans x2)
                clear x2
                rw [HV.out]
                go_wp2_with fail
                refine (isnan_any _ w2).mono ?_
                rintro e w3 ⟨rfl, rfl⟩
                rw [HNC.out]
                go_wp2_with fail
                refine (less_any x low w2 (by assumption) (by assumption)).mono ?_
                rintro e w3 ⟨rfl, rfl⟩
                rw [hxl]
                go_wp2_with fail
                refine (less_any high x w2 (by assumption) (by assumption)).mono ?_
                rintro e w3 ⟨rfl, rfl⟩
                rw [hhx]
                go_wp2_with fail
                refine (less_any x low w2 (by assumption) (by assumption)).mono ?_
                rintro e w3 ⟨rfl, rfl⟩
                rw [hxl]
                go_wp2_with fail
                refine (less_any high x w2 (by assumption) (by assumption)).mono ?_
                rintro e w3 ⟨rfl, rfl⟩
                rw [hhx]
                go_wp2_with fail
                refine (same_any x x w2 hx hx).mono ?_
                rintro e w3 ⟨rfl, rfl⟩
                rw [same_self]
                go_wp2_with fail
                refine (clean_any x w2 hx).mono ?_
                rintro e w3 ⟨rfl, rfl⟩
                go_wp2_with fail
                refine (clean_any (clean x) w2 HC2.out).mono ?_
                rintro e w3 ⟨rfl, rfl⟩
                rw [HCC.out.1]
                go_wp2_with fail
                refine (clean_any x w2 hx).mono ?_
                rintro e w3 ⟨rfl, rfl⟩
                go_wp2_with fail
                refine (same_any (clean x) (clean x) w2 HC2.out HC2.out).mono ?_
                rintro e w3 ⟨rfl, rfl⟩
                rw [same_self]
                go_wp2_with fail
                refine (clean_any x w2 hx).mono ?_
                rintro e w3 ⟨rfl, rfl⟩
                go_wp2_with fail
                refine (class_any (clean x) w2 HC2.out).mono ?_
                rintro e w3 ⟨rfl, rfl⟩
                go_wp2_with fail
                refine (ldexp_great w2).mono ?_
                rintro e w3 ⟨rfl, rfl⟩
                go_wp2_with fail
                refine (isnan_any low w2).mono ?_
                rintro e w3 ⟨rfl, rfl⟩
                rw [hnl]
                go_wp2_with fail
                refine (isnan_any high w2).mono ?_
                rintro e w3 ⟨rfl, rfl⟩
                rw [hnh]
                go_wp2_with fail
                refine (abs_any low w2 (by assumption)).mono ?_
                rintro e w3 ⟨rfl, rfl⟩
                go_wp2_with fail
                refine (abs_any high w2 (by assumption)).mono ?_
                rintro e w3 ⟨rfl, rfl⟩
                go_wp2_with fail
                refine (mix_any low high 0 w2 (by first | assumption | decide) (by first | assumption | decide) (by decide)).mono ?_
                rintro e w3 ⟨rfl, x3⟩
                have HX3 := Lib.hid (HX2.out.trans x3)
                clear x3
                rw [HS1.out]
                go_wp2_with fail
                refine (nan_any w3).mono ?_
                rintro e w4 ⟨rfl, rfl⟩
                go_wp2_with fail
                refine (mix_any 9221120237041090561 high 4602678819172646912 w3 (by first | assumption | decide) (by first | assumption | decide) (by decide)).mono ?_
                rintro e w4 ⟨rfl, x4⟩
                have HX4 := Lib.hid (HX3.out.trans x4)
                clear x4
                rw [HS2.out]
                go_wp2_with fail
                refine (clean_any high w4 hh).mono ?_
                rintro e w5 ⟨rfl, rfl⟩
                go_wp2_with fail
                refine (same_any (clean high) (clean high) w4 HCH.out HCH.out).mono ?_
                rintro e w5 ⟨rfl, rfl⟩
                rw [same_self]
                go_wp2_with fail
                refine (nan_any w4).mono ?_
                rintro e w5 ⟨rfl, rfl⟩
                go_wp2_with fail
                refine (mix_any low 9221120237041090561 4602678819172646912 w4 (by first | assumption | decide) (by first | assumption | decide) (by decide)).mono ?_
                rintro e w5 ⟨rfl, x5⟩
                have HX5 := Lib.hid (HX4.out.trans x5)
                clear x5
                rw [HS3.out]
                go_wp2_with fail
                refine (clean_any low w5 hl).mono ?_
                rintro e w6 ⟨rfl, rfl⟩
                go_wp2_with fail
                refine (same_any (clean low) (clean low) w5 HCW.out HCW.out).mono ?_
                rintro e w6 ⟨rfl, rfl⟩
                rw [same_self]
                go_wp2_with fail
                refine (inf_any 1 w5).mono ?_
                rintro e w6 ⟨rfl, rfl⟩
                rw [show infOf 1 = 9218868437227405312 from rfl]
                go_wp2_with fail
                refine (mix_any low high 9218868437227405312 w5 (by first | assumption | decide) (by first | assumption | decide) (by decide)).mono ?_
                rintro e w6 ⟨rfl, x6⟩
                have HX6 := Lib.hid (HX5.out.trans x6)
                clear x6
                rw [HS4.out]
                go_wp2_with fail
                refine (isnan_any 9221120237041090560 w6).mono ?_
                rintro e w7 ⟨rfl, rfl⟩
                rw [show isNan 9221120237041090560 = true by decide]
                go_wp2_with fail
                go_ret
                exact ⟨by first | rfl | simp, HX6.out⟩
end Flt
end Go.Proofs.Ytomfkjllkmilpaa
