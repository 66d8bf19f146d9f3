/- Sums of doubles of any sign, plain. -/
import Derived.Test.YtomfkjllkmilpaaRound
import Derived.Laws.FloatArith
import Derived.Laws.BitsAllLaws
set_option linter.unusedSimpArgs false
set_option linter.unusedVariables false
set_option linter.unusedSectionVars false
namespace Go.Proofs.Ytomfkjllkmilpaa
namespace FloatP
open Ieee
@[irreducible] def K74 : Nat := 1074
theorem K74_eq : K74 = 1074 := by unfold K74; rfl
@[irreducible] def K98 : Nat := 2098
theorem K98_eq : K98 = 2098 := by unfold K98; rfl
/-- the unit: 1 in least units -/
@[irreducible] def U : Nat := 2 ^ K74
theorem U_eq : U = 2 ^ K74 := by unfold U; rfl
theorem U_pos : 0 < U := by rw [U_eq]; exact two_pos K74
theorem pow_same {a b : Nat} (h : a = b) : 2 ^ a = 2 ^ b := h ▸ rfl
theorem exists_V {s e : Nat} (h : s < 2 ^ 53) : ∃ r, V r = s * 2 ^ e := by
  by_cases hs : s = 0
  · exact ⟨0, by rw [hs, V_zero, Nat.zero_mul]⟩
  have l1 : 2 ^ s.log2 ≤ s := Nat.log2_self_le hs
  have l2 : s < 2 ^ (s.log2 + 1) := Nat.lt_log2_self
  have l3 : s.log2 < 53 := (Nat.log2_lt hs).2 h
  generalize s.log2 = L at *
  by_cases he : e + L < 52
  · refine ⟨s * 2 ^ e, ?_⟩
    unfold V
    rw [if_pos]
    calc s * 2 ^ e < 2 ^ (L + 1) * 2 ^ e := Nat.mul_lt_mul_of_pos_right l2 (two_pos _)
      _ = 2 ^ (L + 1 + e) := (Nat.pow_add _ _ _).symm
      _ ≤ 2 ^ 52 := Nat.pow_le_pow_right (by omega) (by omega)
      _ = B52 := rfl
  · have h1 : B52 ≤ s * 2 ^ (52 - L) := by
      calc B52 = 2 ^ (L + (52 - L)) := by rw [show L + (52 - L) = 52 by omega]
        _ = 2 ^ L * 2 ^ (52 - L) := Nat.pow_add _ _ _
        _ ≤ s * 2 ^ (52 - L) := Nat.mul_le_mul_right _ l1
    have h2 : s * 2 ^ (52 - L) < 2 * B52 := by
      calc s * 2 ^ (52 - L) < 2 ^ (L + 1) * 2 ^ (52 - L) := Nat.mul_lt_mul_of_pos_right l2 (two_pos _)
        _ = 2 ^ (L + 1 + (52 - L)) := (Nat.pow_add _ _ _).symm
        _ = 2 * B52 := by rw [show L + 1 + (52 - L) = 53 by omega]; rfl
    have h3 : s * 2 ^ e = s * 2 ^ (52 - L) * 2 ^ (e + L - 52) := by
      rw [Nat.mul_assoc, ← Nat.pow_add, show 52 - L + (e + L - 52) = e by omega]
    refine ⟨(e + L - 52 + 1) * B52 + (s * 2 ^ (52 - L) - B52), ?_⟩
    rw [h3]
    generalize s * 2 ^ (52 - L) = x at *
    generalize e + L - 52 = y at *
    unfold V
    have q1 : ((y + 1) * B52 + (x - B52)) / B52 = y + 1 := by unfold B52 at *; omega
    have q2 : ((y + 1) * B52 + (x - B52)) % B52 = x - B52 := by unfold B52 at *; omega
    rw [if_neg (by unfold B52 at *; omega), q1, q2, show B52 + (x - B52) = x by omega, Nat.add_sub_cancel]
theorem V_form (r : Nat) : ∃ s e, s < 2 ^ 53 ∧ V r = s * 2 ^ e := by
  unfold V
  by_cases h : r < B52
  · exact ⟨r, 0, Nat.lt_trans h (by decide), by rw [if_pos h, Nat.pow_zero, Nat.mul_one]⟩
  · have hm : r % B52 < B52 := Nat.mod_lt _ (by unfold B52; omega)
    exact ⟨B52 + r % B52, r / B52 - 1, by rw [show (2 : Nat) ^ 53 = 2 * B52 from rfl]; omega, by rw [if_neg h]⟩
theorem V_INF : V INF = 2 ^ K98 := by
  unfold V
  rw [if_neg (by decide), show INF / B52 - 1 = K98 - 52 by rw [K98_eq]; decide, show B52 + INF % B52 = 2 ^ 52 from by decide, ← Nat.pow_add]
  exact pow_same (by have := K98_eq; omega)
theorem word_false (r : Nat) : double.word false r = r := rfl
/-- what is exact stays: from a number of least units to its place -/
theorem nearest_exact {n r : Nat} {p : Int} (h : n * 2 ^ (p + 1074).toNat = V r * 2 ^ (-(p + 1074)).toNat) (s : Bool) : double.nearest s n p = double.word s (min r INF) := by
  obtain ⟨r', h1, h2⟩ := nearest_rounds s n p
  rw [h2, rounds_is (two_pos _) h1 h]
theorem clear_sign (x : Nat) (h : x < 18446744073709551616) : bits .andNot .u64 (x : Int) 9223372036854775808 = ((mag x : Nat) : Int) := by
  rw [show (9223372036854775808 : Int) = ((9223372036854775808 : Nat) : Int) from rfl, u64_andNot_nat _ _ (by omega) (by omega)]
  rw [show 18446744073709551615 - 9223372036854775808 = 2 ^ 63 - 1 from rfl, Nat.and_two_pow_sub_one_eq_mod]; rfl

/-- a number's value in least units, with its sign -/
def SV (b : Nat) : Int := if neg b then -(V (mag b) : Int) else (V (mag b) : Int)
theorem sum_spec {a b : Nat} (ha : mag a < INF) (hb : mag b < INF) : ∃ r s, Rounds (SV a + SV b).natAbs 1 r ∧ ((double.read a).sum (double.read b)).map double.write = some (double.word s (min r INF)) := by
  obtain ⟨m, k, hr, hv⟩ := read_fin ha
  obtain ⟨n, l, hs, hu⟩ := read_fin hb
  have hmn : (lp + (k : Int) - min (lp + (k : Int)) (lp + (l : Int))).toNat = k - min k l ∧ (lp + (l : Int) - min (lp + (k : Int)) (lp + (l : Int))).toNat = l - min k l ∧ min (lp + (k : Int)) (lp + (l : Int)) + 1074 = ((min k l : Nat) : Int) := by
    have hl : lp = -1074 := rfl
    rcases Nat.le_total k l with hkl | hkl
    · rw [Nat.min_eq_left hkl, Int.min_eq_left (by omega)]; omega
    · rw [Nat.min_eq_right hkl, Int.min_eq_right (by omega)]; omega
  have e1 : (m * 2 ^ (k - min k l)) * 2 ^ (min k l) = V (mag a) := by
    rw [Nat.mul_assoc, ← Nat.pow_add, show k - min k l + min k l = k by omega, hv]
  have e2 : (n * 2 ^ (l - min k l)) * 2 ^ (min k l) = V (mag b) := by
    rw [Nat.mul_assoc, ← Nat.pow_add, show l - min k l + min k l = l by omega, hu]
  obtain ⟨t, ht⟩ : ∃ t, signed (neg a) m (k - min k l) + signed (neg b) n (l - min k l) = t := ⟨_, rfl⟩
  have hsum : ∃ s, (double.read a).sum (double.read b) = some (.number s t.natAbs (min (lp + (k : Int)) (lp + (l : Int)))) := by
    rw [hr, hs]
    simp only [Datum.sum, hmn.1, hmn.2.1, ht]
    exact ⟨_, rfl⟩
  obtain ⟨s, hsum⟩ := hsum
  have htv : t * ((2 ^ (min k l) : Nat) : Int) = SV a + SV b := by
    rw [← ht, signed_eq, signed_eq, Int.add_mul]
    unfold SV
    rw [← e1, ← e2]
    cases neg a <;> cases neg b <;> simp [Int.neg_mul]
  have hna : t.natAbs * 2 ^ (min k l) = (SV a + SV b).natAbs := by
    rw [← htv, Int.natAbs_mul, Int.natAbs_natCast]
  obtain ⟨r, h1, h2⟩ := nearest_rounds s t.natAbs (min (lp + (k : Int)) (lp + (l : Int)))
  rw [hmn.2.2] at h1
  refine ⟨r, s, rounds_cast (two_pos _) (by omega) h1 ?_, ?_⟩
  · rw [show (-((min k l : Nat) : Int)).toNat = 0 by omega, show (((min k l : Nat) : Int)).toNat = min k l by omega, Nat.pow_zero, hna]
  · rw [hsum]
    show some (double.nearest s _ _) = _
    rw [h2]
theorem neg_word (s : Bool) {r : Nat} (h : r ≤ INF) : neg (double.word s r) = s ∧ mag (double.word s r) = r ∧ double.word s r < 18446744073709551616 := by
  unfold INF at h
  cases s
  · have e : double.word false r = r := rfl
    rw [e]; unfold neg mag
    refine ⟨?_, by omega, by omega⟩
    rw [beq_eq_false_iff_ne]; omega
  · have e : double.word true r = 9223372036854775808 + r := rfl
    rw [e]; unfold neg mag
    refine ⟨?_, by omega, by omega⟩
    rw [beq_iff_eq]; omega
theorem opp_read (b : Nat) (h : mag b < INF) : (double.read b).opposite = double.read (turned b) := by
  rw [read_eq, read_eq, mag_turned, neg_turned]
  by_cases h1 : mag b < B52
  · rw [if_pos h1, if_pos h1]; rfl
  · rw [if_neg h1, if_neg h1, if_pos h, if_pos h]; rfl
theorem V_mono' {a b : Nat} (h : a ≤ b) : V a ≤ V b := by
  rcases Nat.lt_or_ge a b with h1 | h1
  · exact Nat.le_of_lt (V_lt h1)
  · rw [show a = b by omega]; exact Nat.le_refl _
/-- a difference of numbers that are not too great is a number -/
theorem sub_fin {a b : Nat} (ha : mag a ≤ 9110782046170513408) (hb : mag b ≤ 9110782046170513408) : ∃ g, floatBits .sub .f64 a b = some g ∧ mag g < INF ∧ g < 18446744073709551616 := by
  have hi : (9110782046170513408 : Nat) < INF := by decide
  have hb' : mag (turned b) < INF := by rw [mag_turned]; omega
  obtain ⟨r, s, h1, h2⟩ := sum_spec (a := a) (b := turned b) (by omega) hb'
  have he : floatBits .sub .f64 a b = ((double.read a).sum (double.read b).opposite).map double.write := rfl
  rw [opp_read b (by omega), h2] at he
  have hr : r ≤ 9115285645797883904 := by
    refine rounds_le (by omega) h1 ?_
    have v1 := V_mono' ha
    have v2 := V_mono' hb
    have v3 : V 9115285645797883904 = 2 * V 9110782046170513408 := by decide +kernel
    have h3 : (SV a + SV (turned b)).natAbs ≤ V (mag a) + V (mag b) := by
      unfold SV
      rw [mag_turned]
      cases neg a <;> cases neg (turned b) <;> simp only [if_true, if_false, Bool.false_eq_true] <;> omega
    omega
  obtain ⟨w1, w2, w3⟩ := neg_word s (r := min r INF) (by omega)
  exact ⟨_, he, by rw [w2]; unfold INF; omega, w3⟩
/-- nothing of a number -/
theorem mul_none {g : Nat} (h : mag g < INF) : ∃ p, floatBits .mul .f64 0 g = some p ∧ mag p = 0 ∧ p < 18446744073709551616 := by
  obtain ⟨m, k, hr, hv⟩ := read_fin h
  have he : floatBits .mul .f64 0 g = ((double.read 0).product (double.read g)).map double.write := rfl
  rw [hr, show double.read 0 = .number false 0 lp from by decide] at he
  have hx : ((Datum.number false 0 lp).product (.number (neg g) m (lp + (k : Int)))).map double.write = some (double.word (neg g) 0) := by
    show some (double.nearest (false ^^ neg g) (0 * m) _) = _
    rw [Nat.zero_mul, Bool.false_xor]
    rfl
  rw [hx] at he
  obtain ⟨w1, w2, w3⟩ := neg_word (neg g) (r := 0) (by omega)
  exact ⟨_, he, w2, w3⟩
/-- a number and nothing: the number; of nothing, a zero -/
theorem add_none {a p : Nat} (ha : mag a < INF) (hb : a < 18446744073709551616) (hp : mag p = 0) : ∃ s, floatBits .add .f64 a p = some s ∧ s < 18446744073709551616 ∧ cls s ≠ 1 ∧ (double.order (clean s) a == some .eq) = true := by
  obtain ⟨m, k, hr, hv⟩ := read_fin ha
  have hl : lp = -1074 := rfl
  have hrp : double.read p = .number (neg p) 0 lp := by rw [read_eq, hp, if_pos (by decide)]
  have he : floatBits .add .f64 a p = ((double.read a).sum (double.read p)).map double.write := rfl
  rw [hr, hrp] at he
  have hsum : (Datum.number (neg a) m (lp + (k : Int))).sum (.number (neg p) 0 lp) = some (.number (if signed (neg a) m k = 0 then neg a && neg p else decide (signed (neg a) m k < 0)) (signed (neg a) m k).natAbs lp) := by
    have e1 : (lp + (k : Int) - lp).toNat = k := by omega
    have e2 : (lp - lp).toNat = 0 := by omega
    have e3 : min (lp + (k : Int)) lp = lp := by omega
    have e4 : signed (neg p) 0 0 = 0 := by rw [signed_eq]; simp
    simp only [Datum.sum, e3, e1, e2, e4, Int.add_zero]
  rw [hsum] at he
  have hna : (signed (neg a) m k).natAbs = V (mag a) := by
    rw [signed_eq, ← hv]
    cases neg a <;> simp only [if_true, if_false, Bool.false_eq_true] <;> omega
  have hnear : ∀ s, double.nearest s (V (mag a)) lp = double.word s (mag a) := by
    intro s
    rw [nearest_exact (r := mag a) (p := lp) (by rw [hl]; rfl) s, Nat.min_eq_left (Nat.le_of_lt ha)]
  have hw : ∀ s, floatBits .add .f64 a p = some (double.word s (mag a)) → (mag a = 0 ∨ s = neg a) → ∃ s, floatBits .add .f64 a p = some s ∧ s < 18446744073709551616 ∧ cls s ≠ 1 ∧ (double.order (clean s) a == some .eq) = true := by
    intro s h0 hs
    obtain ⟨w1, w2, w3⟩ := neg_word s (Nat.le_of_lt ha)
    have hnn : cls (double.word s (mag a)) ≠ 1 := by
      unfold cls; rw [w2, if_neg (by omega), if_neg (by omega)]
      split
      · split <;> decide
      · split <;> decide
    have hna : isNan a = false := isNan_iff.2 (Nat.le_of_lt ha)
    refine ⟨_, h0, w3, hnn, ?_⟩
    rw [eq_iff, hna]
    rcases hs with hz | rfl
    · have hc : clean (double.word s (mag a)) = 0 := by
        unfold clean
        rw [if_neg hnn]
        rw [hz]
        cases s <;> decide
      rw [hc, key_zero]
      refine ⟨by decide, rfl, ?_⟩
      unfold key; rw [hz]; split <;> rfl
    · have hwa : double.word (neg a) (mag a) = a := by
        have := low_bits hb
        cases hg : neg a
        · rw [hg] at this
          rw [show double.word false (mag a) = mag a from rfl]
          simpa using this.symm
        · rw [hg] at this; simp only [if_true] at this; exact this.symm
      rw [hwa]
      have hk : key (clean a) = key a ∧ isNan (clean a) = false := by
        unfold clean
        rw [hwa] at hnn
        rw [if_neg hnn]
        split
        · rename_i h4
          rcases cls_spec a with ⟨ca, na⟩ | ⟨ca, na, ka, sa⟩ | ⟨ca, na, ka, pa, qa, sa⟩ | ⟨ca, na, ka, pa, sa⟩ | ⟨ca, na, ka, pa, sa⟩ | ⟨ca, na, ka, pa, qa, sa⟩ | ⟨ca, na, ka, sa⟩ <;> first | omega | (rw [ka, key_zero]; exact ⟨rfl, by decide⟩)
        · exact ⟨rfl, hna⟩
      exact ⟨hk.2, rfl, hk.1⟩
  have he2 : floatBits .add .f64 a p = some (double.word (if signed (neg a) m k = 0 then neg a && neg p else decide (signed (neg a) m k < 0)) (mag a)) := by
    rw [he]
    show some (double.nearest _ _ _) = _
    rw [hna, hnear]
  refine hw _ he2 ?_
  by_cases h0 : mag a = 0
  · exact .inl h0
  · right
    have hvp := V_pos (Nat.pos_of_ne_zero h0)
    rw [if_neg (by omega), signed_eq, hv]
    cases neg a <;> simp only [if_true, if_false, Bool.false_eq_true] <;> first | (rw [decide_eq_false_iff_not]; omega) | (rw [decide_eq_true_iff]; omega)
end FloatP
end Go.Proofs.Ytomfkjllkmilpaa
