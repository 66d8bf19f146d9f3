/- The walks of math.Abs, math.IsInf of both, math.Ldexp upwards. -/
import Derived.Test.YtbppjbheennphaaTermRatio
import Derived.Test.YtbppjbheennphaaLdexpP
set_option linter.unusedSimpArgs false
set_option linter.unusedVariables false
set_option linter.unusedSectionVars false
namespace Go.Proofs.Ytbppjbheennphaa
open Go.RowKit
namespace Trm
open FloatP Flt
attribute [local go_sem] call_bits call_from unary_neg_float
set_option maxHeartbeats 1000000 in
theorem abs_any (b : Nat) (w : World) (hb : b < 18446744073709551616) : Calls Try.prog 48 #[.float .f64 b] w fun e w' => e = .returned (.float .f64 (mag b)) ∧ w = w' := by
  have hc : bits .andNot .u64 (b : Int) 9223372036854775808 = ((mag b : Nat) : Int) := clear_sign b hb
  go_enter Try.func48, Try.ntmps48
  go_wp2
  go_ret
  exact ⟨rfl, rfl⟩
theorem mag_mag (b : Nat) : mag (mag b) = mag b := by unfold mag; omega
theorem neg_mag (b : Nat) : neg (mag b) = false := by
  unfold neg mag
  rw [beq_eq_false_iff_ne]; omega
set_option maxHeartbeats 1000000 in
theorem isinf_both (b : Nat) (w : World) (hb : b < 18446744073709551616) : Calls Try.prog 39 #[.float .f64 b, .int .i64 0] w fun e w' => e = .returned (.bool (mag b == INF)) ∧ w = w' := by
  go_enter Try.func39, Try.ntmps39
  go_wp2_with fail
  refine (abs_any b w hb).mono ?_
  rintro e w' ⟨rfl, rfl⟩
  go_wp2_with fail
  go_ret
  exact ⟨ret_bool ((gt_max (mag b)).trans (by rw [neg_mag, mag_mag]; rfl)), rfl⟩
theorem lt_low {m : Nat} (hi : m ≤ INF) : (Ieee.double.order m 4503599627370496 == some .lt) = decide (m < B52) := by
  have h := @lt_iff m 4503599627370496
  unfold lt at h
  have k1 : key 4503599627370496 = 4503599627370496 := by decide
  have n1 : isNan 4503599627370496 = false := by decide
  rw [Bool.eq_iff_iff, h, (pos_key hi).1, (pos_key hi).2, n1, k1, decide_eq_true_iff]
  unfold B52; simp; omega
set_option maxHeartbeats 1000000 in
theorem norm_any (m : Nat) (w : World) (h0 : 0 < m) (hi : m < INF) : Calls Try.prog 50 #[.float .f64 m] w fun e w' => e = .returned (.tuple #[.float .f64 (normY m), .int .i64 (-(normD m : Int))]) ∧ w = w' := by
  have hl : (FloatKind.f64.format.order m 4503599627370496 == some .lt) = decide (m < B52) := lt_low (Nat.le_of_lt hi)
  have hm := (pos_mag (Nat.le_of_lt hi)).1
  have HB := Lib.hid (show m < 18446744073709551616 by unfold INF at hi; omega)
  have HN := Lib.hid (normY_spec h0 hi).2.2.2
  clear hi h0
  go_enter Try.func50, Try.ntmps50
  by_cases h : m < B52
  · have hq : ∀ W, (binOp .mul 22 (.float .f64 m) (.float .f64 4841369599423283200)).run Try.prog W = .ok (.float .f64 (normY m)) W := fun W => run_float_arith W .mul 22 .f64 _ _ _ (HN.out h)
    have HV := Lib.hid (show normD m = 52 by unfold normD; rw [if_pos h])
    rw [decide_eq_true h] at hl
    clear h
    go_wp2_with fail
    refine (abs_any m w HB.out).mono ?_
    rintro e w' ⟨rfl, rfl⟩
    rw [hm]
    clear hm
    go_wp2_with fail
    go_ret2
    exact ⟨by rw [HV.out]; rfl, rfl⟩
  · have HV := Lib.hid (show normD m = 0 ∧ normY m = m by unfold normD normY; rw [if_neg h, if_neg h]; exact ⟨rfl, rfl⟩)
    rw [decide_eq_false h] at hl
    clear h
    go_wp2_with fail
    refine (abs_any m w HB.out).mono ?_
    rintro e w' ⟨rfl, rfl⟩
    rw [hm]
    clear hm
    go_wp2_with fail
    go_ret2
    exact ⟨by rw [HV.out.1, HV.out.2]; rfl, rfl⟩
theorem eq_zero {m : Nat} (h0 : 0 < m) (hi : m ≤ INF) : (Ieee.double.order m 0 == some .eq) = false := by
  rw [Bool.eq_false_iff]
  intro h
  have h2 := (eq_iff.1 h).2.2
  rw [(pos_key hi).1, key_zero] at h2
  omega
theorem lt_pos {m : Nat} (hi : m ≤ INF) : (Ieee.double.order m 0 == some .lt) = false := by
  rw [lt_zero, (pos_mag hi).2, Bool.and_false, Bool.and_false]
set_option maxHeartbeats 4000000 in
theorem ldexp0_any (m k : Nat) (w : World) (h0 : 0 < m) (hi : m < INF) (hk : k ≤ 1000) : Calls Try.prog 44 #[.float .f64 m, .int .i64 (k : Int)] w fun e w' => e = .returned (.float .f64 (ldB m k)) ∧ w = w' := by
  have z1 : (FloatKind.f64.format.order m 0 == some .eq) = false := eq_zero h0 (Nat.le_of_lt hi)
  have HM := Lib.hid (pos_mag (Nat.le_of_lt hi)).1
  have HB := Lib.hid (show m < 18446744073709551616 by unfold INF at hi; omega)
  have HI := Lib.hid hi
  have H0 := Lib.hid h0
  have i1 : (mag m == INF) = false := by rw [HM.out, beq_eq_false_iff_ne]; omega
  have n1 : isNan m = false := (pos_key (Nat.le_of_lt hi)).2
  obtain ⟨y, hy⟩ : ∃ y, normY m = y := ⟨_, rfl⟩
  obtain ⟨d, hd⟩ : ∃ d, normD m = d := ⟨_, rfl⟩
  obtain ⟨q, hq⟩ : ∃ q, y / B52 = q := ⟨_, rfl⟩
  obtain ⟨f, hf⟩ : ∃ f, y % B52 = f := ⟨_, rfl⟩
  obtain ⟨c1, c2, c3, c4, c5, c6, c7⟩ := @ldB_cases m k q f d y hy hd h0 hi hq hf
  have hyi : y < INF := by rw [← hy]; exact (normY_spec h0 hi).2.1
  have HY := Lib.hid hy
  have HD := Lib.hid hd
  have s0 : bits .andNot .u64 (y : Int) 9218868437227405312 = ((f : Nat) : Int) := by rw [clear_exp y (by unfold INF at hyi; omega), hf]
  have s1 : IntKind.i64.wrap ((y : Int) / 4503599627370496) = (q : Int) := by
    rw [IntKind.wrap_i64]; unfold B52 INF at *; omega
  have s2 : bits .and .i64 (q : Int) 2047 = (q : Int) := low_exp q (by omega)
  have C5 := Lib.hid c5
  have C6 := Lib.hid c6
  have C7 := Lib.hid c7
  clear c5 c6 c7 hy hd hq hf hi h0
  go_enter Try.func44, Try.ntmps44
  go_wp2_with fail
  refine (isinf_both m w HB.out).mono ?_
  rintro e w' ⟨rfl, rfl⟩
  rw [i1]
  clear i1
  go_wp2_with fail
  refine (isnan_any m w).mono ?_
  rintro e w' ⟨rfl, rfl⟩
  rw [n1]
  clear n1
  go_wp2_with fail
  refine (norm_any m w H0.out HI.out).mono ?_
  rintro e w' ⟨rfl, rfl⟩
  rw [HY.out, HD.out]
  obtain ⟨e1, he1⟩ : ∃ e1 : Int, IntKind.i64.wrap ((k : Int) + -(d : Int)) = e1 := ⟨_, rfl⟩
  obtain ⟨e2, he2⟩ : ∃ e2 : Int, IntKind.i64.wrap ((q : Int) - 1023) = e2 := ⟨_, rfl⟩
  obtain ⟨e3, he3⟩ : ∃ e3 : Int, IntKind.i64.wrap (e1 + e2) = e3 := ⟨_, rfl⟩
  have he : e3 = (k : Int) + q - d - 1023 := by rw [← he3, ← he1, ← he2]; simp only [IntKind.wrap_i64]; omega
  have HE := Lib.hid he
  have z2 : (FloatKind.f64.format.order y 0 == some .lt) = false := lt_pos (Nat.le_of_lt hyi)
  by_cases g1 : 2047 + d ≤ k + q
  · have d1 : decide (e3 < -1075) = false := by rw [decide_eq_false_iff_not]; omega
    have d2 : decide (1023 < e3) = true := by rw [decide_eq_true_iff]; omega
    have HV := Lib.hid (C5.out g1)
    clear g1 he c1 c2 c4 hyi
    go_wp2_with fail
    refine (inf_any 1 w).mono ?_
    rintro e w' ⟨rfl, rfl⟩
    go_wp2_with fail
    go_ret
    exact ⟨by rw [HV.out]; rfl, rfl⟩
  · have d1 : decide (e3 < -1075) = false := by rw [decide_eq_false_iff_not]; omega
    have d2 : decide (1023 < e3) = false := by rw [decide_eq_false_iff_not]; omega
    by_cases g2 : 1 + d ≤ k + q
    · have d3 : decide (e3 < -1022) = false := by rw [decide_eq_false_iff_not]; omega
      obtain ⟨t, ht⟩ : ∃ t : Nat, k + q - d = t := ⟨_, rfl⟩
      have hC := C6.out g2 (by omega)
      rw [ht] at hC
      have he4 : IntKind.i64.wrap (e3 + 1023) = (t : Int) := by rw [IntKind.wrap_i64]; omega
      have he6 : IntKind.u64.wrap (t : Int) = (t : Int) := by rw [IntKind.wrap_u64]; omega
      obtain ⟨z, hz⟩ : ∃ z : Nat, t * B52 = z := ⟨_, rfl⟩
      obtain ⟨x, hx⟩ : ∃ x : Nat, f + z = x := ⟨_, rfl⟩
      have s5 : IntKind.u64.wrap ((t : Int) * 4503599627370496) = (z : Int) := by rw [IntKind.wrap_u64, ← hz]; unfold B52; omega
      have s6 : bits .or .u64 (f : Int) (z : Int) = (x : Int) := by rw [← hx, ← hz]; exact put_exp f t c3 (by omega)
      rw [hz, hx] at hC
      have hq : ∀ W, (binOp .mul 22 (.float .f64 4607182418800017408) (.float .f64 x)).run Try.prog W = .ok (.float .f64 (ldB m k)) W := fun W => run_float_arith W .mul 22 .f64 _ _ _ hC.2
      clear g1 g2 he c1 c2 c3 c4 hyi ht hC hz hx
      go_wp2_with fail
      go_ret
      exact ⟨rfl, rfl⟩
    · have d3 : decide (e3 < -1022) = true := by rw [decide_eq_true_iff]; omega
      obtain ⟨t, ht⟩ : ∃ t : Nat, k + q + 53 - d = t := ⟨_, rfl⟩
      have hC := C7.out (by omega)
      rw [ht] at hC
      obtain ⟨e5, he5⟩ : ∃ e5 : Int, IntKind.i64.wrap (e3 + 53) = e5 := ⟨_, rfl⟩
      have h5 : e5 = e3 + 53 := by rw [← he5, IntKind.wrap_i64]; omega
      have he4 : IntKind.i64.wrap (e5 + 1023) = (t : Int) := by rw [IntKind.wrap_i64]; omega
      have he6 : IntKind.u64.wrap (t : Int) = (t : Int) := by rw [IntKind.wrap_u64]; omega
      obtain ⟨z, hz⟩ : ∃ z : Nat, t * B52 = z := ⟨_, rfl⟩
      obtain ⟨x, hx⟩ : ∃ x : Nat, f + z = x := ⟨_, rfl⟩
      have s5 : IntKind.u64.wrap ((t : Int) * 4503599627370496) = (z : Int) := by rw [IntKind.wrap_u64, ← hz]; unfold B52; omega
      have s6 : bits .or .u64 (f : Int) (z : Int) = (x : Int) := by rw [← hx, ← hz]; exact put_exp f t c3 (by omega)
      rw [hz, hx] at hC
      have hq : ∀ W, (binOp .mul 22 (.float .f64 4368491638549381120) (.float .f64 x)).run Try.prog W = .ok (.float .f64 (ldB m k)) W := fun W => run_float_arith W .mul 22 .f64 _ _ _ hC
      clear g1 g2 he c1 c2 c3 c4 hyi ht hC h5 hz hx
      go_wp2_with fail
      go_ret
      exact ⟨rfl, rfl⟩
set_option maxHeartbeats 1000000 in
theorem ldexp_any (m k : Nat) (w : World) (h0 : 0 < m) (hi : m < INF) (hk : k ≤ 1000) : Calls Try.prog 27 #[.float .f64 m, .int .i64 (k : Int)] w fun e w' => e = .returned (.float .f64 (ldB m k)) ∧ w = w' := by
  have H0 := Lib.hid h0
  have HI := Lib.hid hi
  have HK := Lib.hid hk
  clear h0 hi hk
  go_enter Try.func27, Try.ntmps27
  go_wp2_with fail
  refine (ldexp0_any m k w H0.out HI.out HK.out).mono ?_
  rintro e w' ⟨rfl, rfl⟩
  go_wp2_with fail
  go_ret
  exact ⟨rfl, rfl⟩
set_option maxHeartbeats 1000000 in
theorem ldexp_inf (k : Int) (w : World) : Calls Try.prog 27 #[.float .f64 9218868437227405312, .int .i64 k] w fun e w' => e = .returned (.float .f64 9218868437227405312) ∧ w = w' := by
  have z1 : (FloatKind.f64.format.order 9218868437227405312 0 == some .eq) = false := eq_zero (by decide) (by decide)
  have H : Calls Try.prog 44 #[.float .f64 9218868437227405312, .int .i64 k] w fun e w' => e = .returned (.float .f64 9218868437227405312) ∧ w = w' := by
    go_enter Try.func44, Try.ntmps44
    go_wp2_with fail
    refine (isinf_both 9218868437227405312 w (by decide)).mono ?_
    rintro e w' ⟨rfl, rfl⟩
    rw [show (mag 9218868437227405312 == INF) = true by decide]
    go_wp2_with fail
    go_ret
    exact ⟨rfl, rfl⟩
  have HH := Lib.hid H
  clear H z1
  go_enter Try.func27, Try.ntmps27
  go_wp2_with fail
  refine HH.out.mono ?_
  rintro e w' ⟨rfl, rfl⟩
  go_wp2_with fail
  go_ret
  exact ⟨rfl, rfl⟩
end Trm
end Go.Proofs.Ytbppjbheennphaa
