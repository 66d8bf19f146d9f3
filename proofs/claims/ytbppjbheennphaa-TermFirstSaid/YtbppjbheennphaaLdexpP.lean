/- Products of doubles and scaling by a power of two, plain. -/
import Derived.Test.YtbppjbheennphaaTermV
import Derived.Laws.BitsAllLaws
import Derived.Laws.Bits128
set_option linter.unusedSimpArgs false
set_option linter.unusedVariables false
set_option linter.unusedSectionVars false
namespace Go.Proofs.Ytbppjbheennphaa
namespace FloatP
open Ieee
/-- the product of two numbers -/
theorem mul_rounds {a b : Nat} (ha : a < INF) (hb : b < INF) : ∃ r, Rounds (V a * V b) U r ∧ floatBits .mul .f64 a b = some (min r INF) := by
  obtain ⟨a1, a2⟩ := pos_mag (Nat.le_of_lt ha)
  obtain ⟨b1, b2⟩ := pos_mag (Nat.le_of_lt hb)
  obtain ⟨m, k, hr, hv⟩ := read_fin (b := a) (by rw [a1]; exact ha)
  obtain ⟨n, l, hs, hu⟩ := read_fin (b := b) (by rw [b1]; exact hb)
  rw [a1] at hv
  rw [b1] at hu
  obtain ⟨r, h1, h2⟩ := nearest_rounds false (m * n) (lp + (k : Int) + (lp + (l : Int)))
  refine ⟨r, rounds_cast (two_pos _) U_pos h1 ?_, ?_⟩
  · rw [← hv, ← hu, U_eq, show m * 2 ^ k * (n * 2 ^ l) = m * n * (2 ^ k * 2 ^ l) by simp only [Nat.mul_comm, Nat.mul_left_comm, Nat.mul_assoc]]
    generalize m * n = x
    rw [Nat.mul_assoc, Nat.mul_assoc, ← Nat.pow_add, ← Nat.pow_add, ← Nat.pow_add]
    refine congrArg (x * ·) (pow_same ?_)
    have hl : lp = -1074 := rfl
    have k1 := K74_eq
    omega
  · show ((double.read a).product (double.read b)).map double.write = _
    rw [hr, hs, a2, b2]
    show some (double.nearest (false ^^ false) (m * n) _) = _
    rw [show (false ^^ false) = false from rfl, h2, word_false]
theorem mul_exact {a b r : Nat} (ha : a < INF) (hb : b < INF) (h : V a * V b = V r * U) : floatBits .mul .f64 a b = some (min r INF) := by
  obtain ⟨s, h1, h2⟩ := mul_rounds ha hb
  rw [h2, rounds_is U_pos h1 h]
/-- m * 2 ^ k -/
def ldB (m k : Nat) : Nat := double.nearest false (V m) ((k : Int) - 1074)
theorem ldB_spec (m k : Nat) : ∃ r, V r = V m * 2 ^ k ∧ ldB m k = min r INF := by
  obtain ⟨s, e, hs, he⟩ := V_form m
  obtain ⟨r, hr⟩ := exists_V (e := e + k) hs
  have hr' : V r = V m * 2 ^ k := by rw [hr, he, Nat.mul_assoc, Nat.pow_add]
  refine ⟨r, hr', ?_⟩
  unfold ldB
  rw [nearest_exact (r := r) (p := (k : Int) - 1074) _ false, word_false]
  rw [show ((k : Int) - 1074 + 1074).toNat = k by omega, show (-((k : Int) - 1074 + 1074)).toNat = 0 by omega, hr', Nat.pow_zero, Nat.mul_one]
theorem ldB_is {m k r : Nat} (h : V r = V m * 2 ^ k) : ldB m k = min r INF := by
  obtain ⟨s, h1, h2⟩ := ldB_spec m k
  rw [h2, V_inj (h1.trans h.symm)]
theorem V_two52 : V 4841369599423283200 = 2 ^ 52 * U := by
  unfold V
  rw [if_neg (by decide), show 4841369599423283200 / B52 - 1 = K74 by rw [K74_eq]; decide, show B52 + 4841369599423283200 % B52 = 2 ^ 52 from by decide, U_eq]
theorem V_one : V 4607182418800017408 = U := by
  unfold V
  rw [if_neg (by decide), show 4607182418800017408 / B52 - 1 = K74 - 52 by rw [K74_eq]; decide, show B52 + 4607182418800017408 % B52 = 2 ^ 52 from by decide, U_eq, ← Nat.pow_add]
  exact pow_same (by have := K74_eq; omega)
theorem V_small : V 4368491638549381120 * 2 ^ 53 = U := by
  unfold V
  rw [if_neg (by decide), show 4368491638549381120 / B52 - 1 = K74 - 105 by rw [K74_eq]; decide, show B52 + 4368491638549381120 % B52 = 2 ^ 52 from by decide, U_eq, ← Nat.pow_add, ← Nat.pow_add]
  exact pow_same (by have := K74_eq; omega)
/-- a subnormal number made normal -/
def normD (m : Nat) : Nat := if m < B52 then 52 else 0
def normY (m : Nat) : Nat := if m < B52 then ldB m 52 else m
theorem V_B52 (r : Nat) (h : B52 ≤ r) : V r = (B52 + r % B52) * 2 ^ (r / B52 - 1) := by
  unfold V; rw [if_neg (by omega)]
theorem normY_spec {m : Nat} (h0 : 0 < m) (hi : m < INF) : B52 ≤ normY m ∧ normY m < INF ∧ V (normY m) = V m * 2 ^ normD m ∧ (m < B52 → floatBits .mul .f64 m 4841369599423283200 = some (normY m)) := by
  unfold normY normD
  by_cases h : m < B52
  · rw [if_pos h, if_pos h]
    obtain ⟨r, h1, h2⟩ := ldB_spec m 52
    have hm : V m = m := by unfold V; rw [if_pos h]
    have h3 : B52 ≤ r := by
      rw [← Nat.not_lt, ← V_lt_iff, h1, hm]
      have : V B52 = 2 ^ 52 := by decide
      have : B52 * 1 ≤ m * 2 ^ 52 := by unfold B52; omega
      unfold B52 at *
      omega
    have h4 : r < INF := by
      rw [← V_lt_iff, V_INF, h1, hm]
      calc m * 2 ^ 52 < 2 ^ 52 * 2 ^ 52 := Nat.mul_lt_mul_of_pos_right h (two_pos _)
        _ = 2 ^ (52 + 52) := (Nat.pow_add _ _ _).symm
        _ ≤ 2 ^ K98 := Nat.pow_le_pow_right (by omega) (by have := K98_eq; omega)
    refine ⟨by rw [h2]; unfold B52 INF at *; omega, by rw [h2]; omega, by rw [h2, Nat.min_eq_left (Nat.le_of_lt h4), h1], fun _ => ?_⟩
    rw [mul_exact (r := r) hi (by decide) (by rw [V_two52, h1, Nat.mul_assoc]), h2]
  · rw [if_neg h, if_neg h]
    exact ⟨by omega, hi, by rw [Nat.pow_zero, Nat.mul_one], fun h' => absurd h' h⟩
/-- what the scaled number is, by its exponent -/
theorem ldB_cases {m k q f d y : Nat} (hy : normY m = y) (hd : normD m = d) (h0 : 0 < m) (hi : m < INF) (hq : y / B52 = q) (hf : y % B52 = f) :
    1 ≤ q ∧ q ≤ 2046 ∧ f < B52 ∧ (d = 0 ∨ d = 52) ∧ (2047 + d ≤ k + q → ldB m k = INF) ∧
    (1 + d ≤ k + q → k + q < 2047 + d → ldB m k = f + (k + q - d) * B52 ∧ floatBits .mul .f64 4607182418800017408 (f + (k + q - d) * B52) = some (ldB m k)) ∧
    (k + q < 1 + d → floatBits .mul .f64 4368491638549381120 (f + (k + q + 53 - d) * B52) = some (ldB m k)) := by
  obtain ⟨n1, n2, n3, _⟩ := normY_spec h0 hi
  have k1 := K74_eq
  have k2 := K98_eq
  rw [hy] at n1 n2 n3
  rw [hd] at n3
  have hfl : f < B52 := by rw [← hf]; exact Nat.mod_lt _ (by unfold B52; omega)
  have hdc : d = 0 ∨ d = 52 := by rw [← hd]; unfold normD; split <;> simp
  have hq1 : 1 ≤ q := by rw [← hq]; unfold B52 at *; omega
  have hq2 : q ≤ 2046 := by rw [← hq]; unfold B52 INF at *; omega
  obtain ⟨r, r1, r2⟩ := ldB_spec m k
  have hv : V r * 2 ^ d = (B52 + f) * 2 ^ (q - 1 + k) := by
    rw [r1, Nat.mul_right_comm, ← n3, V_B52 y n1, hq, hf, Nat.mul_assoc, ← Nat.pow_add]
  have Vx : ∀ t, 1 ≤ t → V (f + t * B52) = (B52 + f) * 2 ^ (t - 1) := by
    intro t ht
    have e1 : (f + t * B52) / B52 = t := by unfold B52 at *; omega
    have e2 : (f + t * B52) % B52 = f := by unfold B52 at *; omega
    rw [V_B52 _ (by unfold B52 at *; omega), e1, e2]
  refine ⟨hq1, hq2, hfl, hdc, fun h => ?_, fun h1 h2 => ?_, fun h => ?_⟩
  · have h3 : INF ≤ r := by
      rw [← Nat.not_lt, ← V_lt_iff, V_INF]
      intro h4
      have h5 : V r * 2 ^ d < 2 ^ (K98 + d) := by
        rw [Nat.pow_add]; exact Nat.mul_lt_mul_of_pos_right h4 (two_pos _)
      have h6 : 2 ^ (K98 + d) ≤ (B52 + f) * 2 ^ (q - 1 + k) := by
        calc 2 ^ (K98 + d) ≤ 2 ^ (52 + (q - 1 + k)) := Nat.pow_le_pow_right (by omega) (by omega)
          _ = B52 * 2 ^ (q - 1 + k) := Nat.pow_add _ _ _
          _ ≤ (B52 + f) * 2 ^ (q - 1 + k) := Nat.mul_le_mul_right _ (by omega)
      omega
    rw [r2]; omega
  · have h3 : V (f + (k + q - d) * B52) = V r := by
      refine Nat.eq_of_mul_eq_mul_right (two_pos d) ?_
      rw [hv, Vx _ (by omega), Nat.mul_assoc, ← Nat.pow_add]
      exact congrArg ((B52 + f) * ·) (pow_same (by omega))
    have h4 : r = f + (k + q - d) * B52 := V_inj h3.symm
    have h5 : r < INF := by
      rw [h4]
      have : (k + q - d) * B52 ≤ 2046 * B52 := Nat.mul_le_mul_right _ (by omega)
      unfold B52 INF at *; omega
    have h6 : ldB m k = r := by rw [r2]; omega
    rw [h6, ← h4]
    refine ⟨rfl, ?_⟩
    rw [mul_exact (r := r) (by decide) h5 (by rw [V_one, Nat.mul_comm]), Nat.min_eq_left (Nat.le_of_lt h5)]
  · have hd52 : d = 52 := by omega
    have h5 : r < INF := by
      rw [← V_lt_iff, V_INF]
      refine Nat.lt_of_mul_lt_mul_right (a := 2 ^ d) ?_
      rw [hv]
      calc (B52 + f) * 2 ^ (q - 1 + k) < (2 * B52) * 2 ^ (q - 1 + k) := Nat.mul_lt_mul_of_pos_right (by omega) (two_pos _)
        _ = 2 ^ (53 + (q - 1 + k)) := (Nat.pow_add 2 53 _).symm
        _ ≤ 2 ^ (K98 + d) := Nat.pow_le_pow_right (by omega) (by omega)
        _ = 2 ^ K98 * 2 ^ d := Nat.pow_add _ _ _
    rw [mul_exact (r := r) (by decide) _ _, r2]
    · have : (k + q + 53 - d) * B52 ≤ 53 * B52 := Nat.mul_le_mul_right _ (by omega)
      unfold B52 INF at *; omega
    · refine Nat.eq_of_mul_eq_mul_right (two_pos 53) ?_
      rw [Nat.mul_right_comm, V_small, Vx _ (by omega), U_eq, show V r * 2 ^ K74 * 2 ^ 53 = (V r * 2 ^ d) * 2 ^ (K74 + 1) by rw [hd52, Nat.mul_assoc, Nat.mul_assoc, ← Nat.pow_add, ← Nat.pow_add, show 52 + (K74 + 1) = K74 + 53 by omega], hv, Nat.mul_comm (2 ^ K74), Nat.mul_assoc, Nat.mul_assoc, ← Nat.pow_add, ← Nat.pow_add]
      exact congrArg ((B52 + f) * ·) (pow_same (by omega))
/-! ### bits -/
theorem and_low (x : Nat) (h : x < 9223372036854775808) : x &&& 9227875636482146303 = x % B52 := by
  have e : (9227875636482146303 : Nat) = 2 ^ 63 ||| (2 ^ 52 - 1) := by decide
  rw [e, Nat.and_or_distrib_left, Nat.and_two_pow_sub_one_eq_mod]
  have z : x &&& 2 ^ 63 = 0 := by
    refine Nat.eq_of_testBit_eq fun i => ?_
    rw [Nat.testBit_and, Nat.testBit_two_pow, Nat.zero_testBit]
    by_cases hi : 63 = i
    · subst hi; rw [Nat.testBit_lt_two_pow h]; rfl
    · rw [decide_eq_false hi, Bool.and_false]
  rw [z, Nat.zero_or]
theorem clear_exp (x : Nat) (h : x < 9223372036854775808) : bits .andNot .u64 (x : Int) 9218868437227405312 = ((x % B52 : Nat) : Int) := by
  rw [show (9218868437227405312 : Int) = ((9218868437227405312 : Nat) : Int) from rfl, u64_andNot_nat _ _ (by omega) (by omega)]
  rw [show 18446744073709551615 - 9218868437227405312 = 9227875636482146303 from rfl, and_low x h]
theorem clear_sign (x : Nat) (h : x < 18446744073709551616) : bits .andNot .u64 (x : Int) 9223372036854775808 = ((mag x : Nat) : Int) := by
  rw [show (9223372036854775808 : Int) = ((9223372036854775808 : Nat) : Int) from rfl, u64_andNot_nat _ _ (by omega) (by omega)]
  rw [show 18446744073709551615 - 9223372036854775808 = 2 ^ 63 - 1 from rfl, Nat.and_two_pow_sub_one_eq_mod]; rfl
theorem put_exp (f t : Nat) (hf : f < B52) (ht : t < 2048) : bits .or .u64 (f : Int) ((t * B52 : Nat) : Int) = ((f + t * B52 : Nat) : Int) := by
  rw [u64_or_nat _ _ (by unfold B52 at *; omega) (by unfold B52 at *; omega)]
  have h := Nat.shiftLeft_add_eq_or_of_lt (i := 52) (b := f) hf t
  rw [Nat.shiftLeft_eq] at h
  rw [Nat.or_comm, Nat.add_comm]
  exact congrArg _ h.symm
theorem low_exp (n : Nat) (h : n < 2048) : bits .and .i64 (n : Int) 2047 = (n : Int) := by
  unfold bits
  have h1 : (BitVec.ofInt IntKind.i64.bits (n : Int) &&& BitVec.ofInt IntKind.i64.bits 2047).toNat = n := by
    rw [BitVec.toNat_and, BitVec.toNat_ofInt, BitVec.toNat_ofInt]
    show ((n : Int) % (18446744073709551616 : Int)).toNat &&& 2047 = n
    rw [show ((n : Int) % (18446744073709551616 : Int)).toNat = n by omega, show n &&& 2047 = n % 2 ^ 11 from Nat.and_two_pow_sub_one_eq_mod n 11, Nat.mod_eq_of_lt h]
  simp only [h1]
  rw [IntKind.wrap_i64]
  omega
end FloatP
end Go.Proofs.Ytbppjbheennphaa
