/- Doubles by their bits: in which order they stand. No program in sight. -/
import Ieee.Arith
import Derived.Laws.FloatBits
set_option linter.unusedSimpArgs false
set_option linter.unusedVariables false
set_option linter.unusedSectionVars false
namespace Go.Proofs.YtcfdlfedmbmidaaDoor
namespace FloatP
open Ieee
def mag (b : Nat) : Nat := b % 9223372036854775808
def neg (b : Nat) : Bool := b / 9223372036854775808 % 2 == 1
abbrev INF : Nat := 9218868437227405312
abbrev B52 : Nat := 4503599627370496
def key (b : Nat) : Int := if neg b then -(mag b : Int) else (mag b : Int)
def isNan (b : Nat) : Bool := decide (INF < mag b)
def V (r : Nat) : Nat := if r < B52 then r else (B52 + r % B52) * 2 ^ (r / B52 - 1)
theorem V_pos {r : Nat} (h : 0 < r) : 0 < V r := by
  unfold V
  split
  · exact h
  · exact Nat.mul_pos (by unfold B52; omega) (Nat.two_pow_pos _)
theorem V_lt {r s : Nat} (h : r < s) : V r < V s := by
  have hp : ∀ n, 0 < 2 ^ n := Nat.two_pow_pos
  unfold V
  by_cases h1 : r < B52
  · rw [if_pos h1]
    by_cases h2 : s < B52
    · rw [if_pos h2]; exact h
    · rw [if_neg h2]
      calc r < B52 + s % B52 := by omega
        _ = (B52 + s % B52) * 1 := by omega
        _ ≤ (B52 + s % B52) * 2 ^ (s / B52 - 1) := Nat.mul_le_mul_left _ (hp _)
  · have h2 : ¬ s < B52 := by omega
    rw [if_neg h1, if_neg h2]
    have hr1 : 1 ≤ r / B52 := by unfold B52 at *; omega
    have hm : s % B52 < B52 := Nat.mod_lt _ (by unfold B52; omega)
    have hm' : r % B52 < B52 := Nat.mod_lt _ (by unfold B52; omega)
    rcases Nat.lt_or_ge (r / B52) (s / B52) with hq | hq
    · calc (B52 + r % B52) * 2 ^ (r / B52 - 1) < (B52 + B52) * 2 ^ (r / B52 - 1) := Nat.mul_lt_mul_of_pos_right (by omega) (hp _)
        _ = B52 * 2 ^ (r / B52) := by
          have : r / B52 = (r / B52 - 1) + 1 := by omega
          conv => rhs; rw [this, Nat.pow_succ]
          rw [show B52 + B52 = B52 * 2 by omega, Nat.mul_assoc, Nat.mul_comm 2]
        _ ≤ B52 * 2 ^ (s / B52 - 1) := Nat.mul_le_mul_left _ (Nat.pow_le_pow_right (by omega) (by omega))
        _ ≤ (B52 + s % B52) * 2 ^ (s / B52 - 1) := Nat.mul_le_mul_right _ (by omega)
    · have he : r / B52 = s / B52 := by
        have := Nat.div_le_div_right (c := B52) (Nat.le_of_lt h)
        omega
      rw [he]
      refine Nat.mul_lt_mul_of_pos_right ?_ (hp _)
      have := Nat.div_add_mod r B52
      have := Nat.div_add_mod s B52
      rw [he] at *
      omega
theorem V_inj {r s : Nat} (h : V r = V s) : r = s := by
  rcases Nat.lt_trichotomy r s with hl | hl | hl
  · have := V_lt hl; omega
  · exact hl
  · have := V_lt hl; omega
theorem V_lt_iff {r s : Nat} : V r < V s ↔ r < s := by
  constructor
  · intro h
    rcases Nat.lt_trichotomy r s with hl | hl | hl
    · exact hl
    · subst hl; omega
    · have := V_lt hl; omega
  · exact V_lt
theorem V_zero : V 0 = 0 := by simp [V]
def lp : Int := -1074
theorem read_eq (b : Nat) : double.read b =
    if mag b < B52 then .number (neg b) (mag b) lp
    else if mag b < INF then .number (neg b) (B52 + mag b % B52) (lp + (mag b / B52 - 1 : Nat))
    else if mag b = INF then .infinity (neg b) else .nan (neg b) (mag b - INF) := rfl
theorem read_fin {b : Nat} (h : mag b < INF) : ∃ (m k : Nat), double.read b = .number (neg b) m (lp + (k : Nat)) ∧ m * 2 ^ k = V (mag b) := by
  rw [read_eq]
  by_cases h1 : mag b < B52
  · rw [if_pos h1]
    exact ⟨mag b, 0, by simp, by simp [V, h1]⟩
  · rw [if_neg h1, if_pos h]
    exact ⟨_, _, rfl, by simp [V, h1]⟩
theorem read_inf {b : Nat} (h : mag b = INF) : double.read b = .infinity (neg b) := by
  rw [read_eq, h]; rfl
theorem read_nan {b : Nat} (h : INF < mag b) : double.read b = .nan (neg b) (mag b - INF) := by
  rw [read_eq, if_neg (by unfold INF B52 at *; omega), if_neg (by omega), if_neg (by omega)]
theorem compare_same {a b c d : Int} (h1 : a < b ↔ c < d) (h2 : a = b ↔ c = d) : compare a b = compare c d := by
  simp only [compare, compareOfLessAndEq, h1, h2]
theorem signed_eq (s : Bool) (m u : Nat) : signed s m u = (if s then -((m * 2 ^ u : Nat) : Int) else ((m * 2 ^ u : Nat) : Int)) := by
  unfold signed
  rw [Nat.shiftLeft_eq]
theorem order_key {a b : Nat} (ha : isNan a = false) (hb : isNan b = false) : double.order a b = some (compare (key a) (key b)) := by
  have ha' : mag a ≤ INF := by simpa [isNan] using ha
  have hb' : mag b ≤ INF := by simpa [isNan] using hb
  unfold Format.order
  rcases Nat.lt_or_ge (mag a) INF with h1 | h1
  · obtain ⟨m, k, ra, va⟩ := read_fin h1
    rw [ra]
    rcases Nat.lt_or_ge (mag b) INF with h2 | h2
    · obtain ⟨n, l, rb, vb⟩ := read_fin h2
      rw [rb]
      show some (compare _ _) = _
      congr 1
      rw [signed_eq, signed_eq]
      have hmn : (lp + (k : Int) - min (lp + (k : Int)) (lp + (l : Int))).toNat = k - min k l ∧ (lp + (l : Int) - min (lp + (k : Int)) (lp + (l : Int))).toNat = l - min k l := by
        rcases Nat.le_total k l with hkl | hkl
        · rw [Nat.min_eq_left hkl, Int.min_eq_left (by omega)]; omega
        · rw [Nat.min_eq_right hkl, Int.min_eq_right (by omega)]; omega
      rw [hmn.1, hmn.2]
      have e1 : (m * 2 ^ (k - min k l)) * 2 ^ (min k l) = V (mag a) := by
        rw [Nat.mul_assoc, ← Nat.pow_add, show k - min k l + min k l = k by omega, va]
      have e2 : (n * 2 ^ (l - min k l)) * 2 ^ (min k l) = V (mag b) := by
        rw [Nat.mul_assoc, ← Nat.pow_add, show l - min k l + min k l = l by omega, vb]
      generalize m * 2 ^ (k - min k l) = x at *
      generalize n * 2 ^ (l - min k l) = y at *
      have hc : 0 < 2 ^ (min k l) := Nat.two_pow_pos _
      generalize 2 ^ (min k l) = c at *
      have hxy : x < y ↔ mag a < mag b := by
        rw [← V_lt_iff (r := mag a) (s := mag b), ← e1, ← e2]
        exact ⟨fun h => Nat.mul_lt_mul_of_pos_right h hc, fun h => Nat.lt_of_mul_lt_mul_right h⟩
      have hyx : y < x ↔ mag b < mag a := by
        rw [← V_lt_iff (r := mag b) (s := mag a), ← e1, ← e2]
        exact ⟨fun h => Nat.mul_lt_mul_of_pos_right h hc, fun h => Nat.lt_of_mul_lt_mul_right h⟩
      have hx0 : 0 < x ↔ 0 < mag a := by
        rw [← V_lt_iff (r := 0) (s := mag a), V_zero, ← e1]
        exact ⟨fun h => Nat.mul_pos h hc, fun h => Nat.pos_of_mul_pos_right h⟩
      have hy0 : 0 < y ↔ 0 < mag b := by
        rw [← V_lt_iff (r := 0) (s := mag b), V_zero, ← e2]
        exact ⟨fun h => Nat.mul_pos h hc, fun h => Nat.pos_of_mul_pos_right h⟩
      clear e1 e2 va vb ra rb
      unfold key
      cases neg a <;> cases neg b <;> simp only [if_true, if_false, Bool.false_eq_true] <;> refine compare_same ?_ ?_ <;> omega
    · have h3 : mag b = INF := by omega
      rw [read_inf h3]
      show some (if neg b then Ordering.gt else Ordering.lt) = _
      congr 1
      unfold key
      rw [h3]
      have := compare_same (a := 0) (b := 1) (c := if neg a then -(mag a : Int) else (mag a : Int)) (d := (INF : Int))
      cases neg b
      · simp only [if_false, Bool.false_eq_true]
        refine (Eq.trans (by rfl : Ordering.lt = compare (0 : Int) 1) (compare_same ?_ ?_)) <;> cases neg a <;> simp only [if_true, if_false, Bool.false_eq_true] <;> omega
      · simp only [if_true]
        refine (Eq.trans (by rfl : Ordering.gt = compare (1 : Int) 0) (compare_same ?_ ?_)) <;> cases neg a <;> simp only [if_true, if_false, Bool.false_eq_true] <;> omega
  · have h3 : mag a = INF := by omega
    rw [read_inf h3]
    rcases Nat.lt_or_ge (mag b) INF with h2 | h2
    · obtain ⟨n, l, rb, vb⟩ := read_fin h2
      rw [rb]
      show some (if neg a then Ordering.lt else Ordering.gt) = _
      congr 1
      unfold key
      rw [h3]
      cases neg a
      · simp only [if_false, Bool.false_eq_true]
        refine (Eq.trans (by rfl : Ordering.gt = compare (1 : Int) 0) (compare_same ?_ ?_)) <;> cases neg b <;> simp only [if_true, if_false, Bool.false_eq_true] <;> omega
      · simp only [if_true]
        refine (Eq.trans (by rfl : Ordering.lt = compare (0 : Int) 1) (compare_same ?_ ?_)) <;> cases neg b <;> simp only [if_true, if_false, Bool.false_eq_true] <;> omega
    · have h4 : mag b = INF := by omega
      rw [read_inf h4]
      show some (compare (neg b).toNat (neg a).toNat) = _
      congr 1
      unfold key
      rw [h3, h4]
      cases neg a <;> cases neg b <;> rfl
theorem order_nan {a b : Nat} (h : isNan a = true ∨ isNan b = true) : double.order a b = none := by
  unfold Format.order
  rcases h with h | h
  · have h' : INF < mag a := by simpa [isNan] using h
    rw [read_nan h']
    rfl
  · have h' : INF < mag b := by simpa [isNan] using h
    rw [read_nan h']
    cases double.read a <;> rfl
/-! ### classes -/
def cls (b : Nat) : Nat :=
  if INF < mag b then 1 else if mag b = INF then (if neg b then 2 else 7) else if mag b = 0 then (if neg b then 4 else 5) else if neg b then 3 else 6
def lt (a b : Nat) : Bool := double.order a b == some .lt
def less (a b : Nat) : Bool := if cls a ≠ cls b then decide (cls a < cls b) else lt a b
theorem lt_iff {a b : Nat} : lt a b = true ↔ isNan a = false ∧ isNan b = false ∧ key a < key b := by
  unfold lt
  cases ha : isNan a
  · cases hb : isNan b
    · rw [order_key ha hb]
      simp [Int.compare_eq_lt]
    · rw [order_nan (.inr hb)]; simp
  · rw [order_nan (.inl ha)]; simp
theorem gt_iff {a b : Nat} : (double.order a b == some .gt) = true ↔ isNan a = false ∧ isNan b = false ∧ key b < key a := by
  cases ha : isNan a
  · cases hb : isNan b
    · rw [order_key ha hb]
      simp [Int.compare_eq_gt]
    · rw [order_nan (.inr hb)]; simp
  · rw [order_nan (.inl ha)]; simp
theorem eq_iff {a b : Nat} : (double.order a b == some .eq) = true ↔ isNan a = false ∧ isNan b = false ∧ key a = key b := by
  cases ha : isNan a
  · cases hb : isNan b
    · rw [order_key ha hb]
      simp [Int.compare_eq_eq]
    · rw [order_nan (.inr hb)]; simp
  · rw [order_nan (.inl ha)]; simp
theorem nan_test (b : Nat) : (double.order b b != some .eq) = isNan b := by
  have h := @eq_iff b b
  cases hn : isNan b <;> simp [hn] at h ⊢ <;> exact h
theorem mag_lt (b : Nat) : mag b < 9223372036854775808 := Nat.mod_lt _ (by omega)
theorem key_max : key 9218868437227405311 = 9218868437227405311 := by decide
theorem key_zero : key 0 = 0 := by decide
theorem isNan_iff {b : Nat} : isNan b = false ↔ mag b ≤ INF := by simp [isNan]
theorem gt_max (b : Nat) : (double.order b 9218868437227405311 == some .gt) = (!neg b && mag b == INF) := by
  rw [Bool.eq_iff_iff, gt_iff, key_max, isNan_iff]
  have hx : isNan 9218868437227405311 = false := by decide
  unfold key
  cases neg b <;> simp [hx, INF] <;> omega
theorem lt_zero (b : Nat) : (double.order b 0 == some .lt) = (decide (mag b ≤ INF) && (decide (mag b ≠ 0) && neg b)) := by
  have h := @lt_iff b 0
  unfold lt at h
  rw [Bool.eq_iff_iff, h, key_zero, isNan_iff]
  have hx : isNan 0 = false := by decide
  unfold key
  cases neg b <;> simp [hx, INF] <;> omega
theorem gt_zero (b : Nat) : (double.order b 0 == some .gt) = (decide (mag b ≤ INF) && (decide (mag b ≠ 0) && !neg b)) := by
  rw [Bool.eq_iff_iff, gt_iff, key_zero, isNan_iff]
  have hx : isNan 0 = false := by decide
  unfold key
  cases neg b <;> simp [hx, INF] <;> omega
/-! ### the sign turned -/
def turned (b : Nat) : Nat := b ^^^ 9223372036854775808
theorem mag_turned (b : Nat) : mag (turned b) = mag b := by
  unfold mag turned
  have := @Nat.xor_mod_two_pow b 9223372036854775808 63
  rw [show (2 : Nat) ^ 63 = 9223372036854775808 from rfl] at this
  rw [this]
  simp
theorem neg_turned (b : Nat) : neg (turned b) = !neg b := by
  unfold neg turned
  have := @Nat.xor_div_two_pow b 9223372036854775808 63
  rw [show (2 : Nat) ^ 63 = 9223372036854775808 from rfl] at this
  rw [this, show (9223372036854775808 : Nat) / 9223372036854775808 = 1 from rfl]
  have h1 := Nat.xor_mod_two_pow (a := b / 9223372036854775808) (b := 1) (n := 1)
  rw [show (2 : Nat) ^ 1 = 2 from rfl] at h1
  rw [h1]
  rcases Nat.mod_two_eq_zero_or_one (b / 9223372036854775808) with h | h <;> rw [h] <;> rfl
theorem cls_range (b : Nat) : 1 ≤ cls b ∧ cls b ≤ 7 := by
  unfold cls
  split
  · omega
  · split
    · split <;> omega
    · split
      · split <;> omega
      · split <;> omega
def clean (b : Nat) : Nat := if cls b = 1 then 9221120237041090560 else if cls b = 4 then 0 else b
def same (a b : Nat) : Bool := !less a b && !less b a
/-- what one class says of a number -/
theorem cls_spec (b : Nat) : (cls b = 1 ∧ isNan b = true) ∨ (cls b = 2 ∧ isNan b = false ∧ key b = -(INF : Int) ∧ neg b = true) ∨ (cls b = 3 ∧ isNan b = false ∧ key b = -(mag b : Int) ∧ 0 < mag b ∧ mag b < INF ∧ neg b = true) ∨
    (cls b = 4 ∧ isNan b = false ∧ key b = 0 ∧ mag b = 0 ∧ neg b = true) ∨ (cls b = 5 ∧ isNan b = false ∧ key b = 0 ∧ mag b = 0 ∧ neg b = false) ∨ (cls b = 6 ∧ isNan b = false ∧ key b = (mag b : Int) ∧ 0 < mag b ∧ mag b < INF ∧ neg b = false) ∨
    (cls b = 7 ∧ isNan b = false ∧ key b = (INF : Int) ∧ neg b = false) := by
  unfold cls isNan key
  by_cases h1 : INF < mag b
  · simp [h1]
  · by_cases h2 : mag b = INF
    · cases neg b <;> simp [h2]
    · by_cases h3 : mag b = 0
      · cases neg b <;> simp [h3]
      · cases neg b <;> simp [h1, h2, h3] <;> omega
theorem low_bits {b : Nat} (hb : b < 18446744073709551616) : b = (if neg b then 9223372036854775808 else 0) + mag b := by
  unfold neg mag
  by_cases h : b / 9223372036854775808 % 2 = 1
  · rw [if_pos (by rw [beq_iff_eq]; exact h)]; omega
  · rw [if_neg (by rw [beq_iff_eq]; exact h)]; omega
theorem lt_same {a b : Nat} (ha : a < 18446744073709551616) (hb : b < 18446744073709551616) (h : cls a = cls b) : lt a b = if cls a = 3 then decide (b < a) else (cls a == 6 && decide (a < b)) := by
  have la := low_bits ha
  have lb := low_bits hb
  rw [Bool.eq_iff_iff, lt_iff]
  rcases cls_spec a with ⟨ca, na⟩ | ⟨ca, na, ka, sa⟩ | ⟨ca, na, ka, pa, qa, sa⟩ | ⟨ca, na, ka, pa, sa⟩ | ⟨ca, na, ka, pa, sa⟩ | ⟨ca, na, ka, pa, qa, sa⟩ | ⟨ca, na, ka, sa⟩ <;>
    rcases cls_spec b with ⟨cb, nb⟩ | ⟨cb, nb, kb, sb⟩ | ⟨cb, nb, kb, pb, qb, sb⟩ | ⟨cb, nb, kb, pb, sb⟩ | ⟨cb, nb, kb, pb, sb⟩ | ⟨cb, nb, kb, pb, qb, sb⟩ | ⟨cb, nb, kb, sb⟩ <;>
    first
      | (exfalso; omega)
      | (simp [ca, na]; done)
      | (rw [sa] at la; rw [sb] at lb; simp only [if_true, if_false, Bool.false_eq_true] at la lb; simp only [ca, na, nb, ka, kb, true_and, if_true, decide_eq_true_iff]; omega)
      | (rw [sa] at la; rw [sb] at lb; simp only [if_true, if_false, Bool.false_eq_true] at la lb; simp [ca, na, nb, ka, kb]; omega)
      | (simp [ca, na, nb, ka, kb]; done)
end FloatP
end Go.Proofs.YtcfdlfedmbmidaaDoor
