/- Package term: ticks and spans as whole numbers of the least unit, plain. -/
import Derived.Test.YtcfdlfedmbmidaaDoorRound
import Derived.Test.YtcfdlfedmbmidaaDoorTermPlain
import Derived.Laws.FloatArith
set_option linter.unusedSimpArgs false
set_option linter.unusedVariables false
set_option linter.unusedSectionVars false
namespace Go.Proofs.YtcfdlfedmbmidaaDoor
namespace FloatP
open Ieee
@[irreducible] def K74 : Nat := 1074
theorem K74_eq : K74 = 1074 := by unfold K74; rfl
@[irreducible] def K98 : Nat := 2098
theorem K98_eq : K98 = 2098 := by unfold K98; rfl
/-- the unit: 1 in least units -/
@[irreducible] def U : Nat := 2 ^ K74
theorem U_eq : U = 2 ^ K74 := by unfold U; rfl
theorem U_pos : 0 < U := by rw [U_eq]; exact two_pos K74
theorem pow_same {a b : Nat} (h : a = b) : 2 ^ a = 2 ^ b := h ▸ rfl
theorem exists_V {s e : Nat} (h : s < 2 ^ 53) : ∃ r, V r = s * 2 ^ e := by
  by_cases hs : s = 0
  · exact ⟨0, by rw [hs, V_zero, Nat.zero_mul]⟩
  have l1 : 2 ^ s.log2 ≤ s := Nat.log2_self_le hs
  have l2 : s < 2 ^ (s.log2 + 1) := Nat.lt_log2_self
  have l3 : s.log2 < 53 := (Nat.log2_lt hs).2 h
  generalize s.log2 = L at *
  by_cases he : e + L < 52
  · refine ⟨s * 2 ^ e, ?_⟩
    unfold V
    rw [if_pos]
    calc s * 2 ^ e < 2 ^ (L + 1) * 2 ^ e := Nat.mul_lt_mul_of_pos_right l2 (two_pos _)
      _ = 2 ^ (L + 1 + e) := (Nat.pow_add _ _ _).symm
      _ ≤ 2 ^ 52 := Nat.pow_le_pow_right (by omega) (by omega)
      _ = B52 := rfl
  · have h1 : B52 ≤ s * 2 ^ (52 - L) := by
      calc B52 = 2 ^ (L + (52 - L)) := by rw [show L + (52 - L) = 52 by omega]
        _ = 2 ^ L * 2 ^ (52 - L) := Nat.pow_add _ _ _
        _ ≤ s * 2 ^ (52 - L) := Nat.mul_le_mul_right _ l1
    have h2 : s * 2 ^ (52 - L) < 2 * B52 := by
      calc s * 2 ^ (52 - L) < 2 ^ (L + 1) * 2 ^ (52 - L) := Nat.mul_lt_mul_of_pos_right l2 (two_pos _)
        _ = 2 ^ (L + 1 + (52 - L)) := (Nat.pow_add _ _ _).symm
        _ = 2 * B52 := by rw [show L + 1 + (52 - L) = 53 by omega]; rfl
    have h3 : s * 2 ^ e = s * 2 ^ (52 - L) * 2 ^ (e + L - 52) := by
      rw [Nat.mul_assoc, ← Nat.pow_add, show 52 - L + (e + L - 52) = e by omega]
    refine ⟨(e + L - 52 + 1) * B52 + (s * 2 ^ (52 - L) - B52), ?_⟩
    rw [h3]
    generalize s * 2 ^ (52 - L) = x at *
    generalize e + L - 52 = y at *
    unfold V
    have q1 : ((y + 1) * B52 + (x - B52)) / B52 = y + 1 := by unfold B52 at *; omega
    have q2 : ((y + 1) * B52 + (x - B52)) % B52 = x - B52 := by unfold B52 at *; omega
    rw [if_neg (by unfold B52 at *; omega), q1, q2, show B52 + (x - B52) = x by omega, Nat.add_sub_cancel]
theorem V_form (r : Nat) : ∃ s e, s < 2 ^ 53 ∧ V r = s * 2 ^ e := by
  unfold V
  by_cases h : r < B52
  · exact ⟨r, 0, Nat.lt_trans h (by decide), by rw [if_pos h, Nat.pow_zero, Nat.mul_one]⟩
  · have hm : r % B52 < B52 := Nat.mod_lt _ (by unfold B52; omega)
    exact ⟨B52 + r % B52, r / B52 - 1, by rw [show (2 : Nat) ^ 53 = 2 * B52 from rfl]; omega, by rw [if_neg h]⟩
theorem V_INF : V INF = 2 ^ K98 := by
  unfold V
  rw [if_neg (by decide), show INF / B52 - 1 = K98 - 52 by rw [K98_eq]; decide, show B52 + INF % B52 = 2 ^ 52 from by decide, ← Nat.pow_add]
  exact pow_same (by have := K98_eq; omega)
theorem word_false (r : Nat) : double.word false r = r := rfl
/-- what is exact stays: from a number of least units to its place -/
theorem nearest_exact {n r : Nat} {p : Int} (h : n * 2 ^ (p + 1074).toNat = V r * 2 ^ (-(p + 1074)).toNat) (s : Bool) : double.nearest s n p = double.word s (min r INF) := by
  obtain ⟨r', h1, h2⟩ := nearest_rounds s n p
  rw [h2, rounds_is (two_pos _) h1 h]
/-! ### ticks -/
def tick (n : Nat) : Nat := floatOfInt .f64 (n : Int)
theorem tick_eq (n : Nat) : tick n = double.nearest false n 0 := by
  unfold tick floatOfInt
  show double.nearest (decide ((n : Int) < 0)) (n : Int).natAbs 0 = _
  rw [decide_eq_false (by omega), Int.natAbs_natCast]
theorem tick_spec {n : Nat} (h : n < 2 ^ 53) : tick n < INF ∧ V (tick n) = n * U := by
  obtain ⟨r, hr⟩ := exists_V (e := K74) h
  rw [← U_eq] at hr
  have hlt : r < INF := by
    rw [← V_lt_iff, V_INF, hr]
    rw [U_eq]
    have k1 := K74_eq
    have k2 := K98_eq
    calc n * 2 ^ K74 < 2 ^ 53 * 2 ^ K74 := Nat.mul_lt_mul_of_pos_right h (two_pos _)
      _ = 2 ^ (53 + K74) := (Nat.pow_add _ _ _).symm
      _ ≤ 2 ^ K98 := Nat.pow_le_pow_right (by omega) (by omega)
  have ht : tick n = r := by
    rw [tick_eq, nearest_exact (r := r) (p := 0) _ false, word_false]
    · omega
    · rw [show ((0 : Int) + 1074).toNat = K74 by rw [K74_eq]; rfl, show (-((0 : Int) + 1074)).toNat = 0 from rfl, hr, U_eq, Nat.pow_zero, Nat.mul_one]
  rw [ht]
  exact ⟨hlt, hr⟩
theorem tick_lt {n : Nat} (h : n < 2 ^ 53) {b : Nat} (hg : good b = true) (hb : b < 18446744073709551616) : lt (tick n) b = decide (n * U < V (mag b)) := by
  obtain ⟨g1, g2, _, _⟩ := good_spec hg hb
  obtain ⟨t1, t2⟩ := tick_spec h
  obtain ⟨p1, p2⟩ := pos_key (Nat.le_of_lt t1)
  rw [Bool.eq_iff_iff, lt_iff, g1, g2, p1, p2, decide_eq_true_iff, ← t2, V_lt_iff]
  simp
/-! ### whole numbers above -/
def cdiv (n g : Nat) : Nat := (n + (g - 1)) / g
theorem cdiv_le {n g c : Nat} (hg : 0 < g) : cdiv n g ≤ c ↔ n ≤ c * g := by
  unfold cdiv
  rw [Nat.div_le_iff_le_mul_add_pred hg, Nat.mul_comm g c]
  omega
theorem lt_cdiv {n g c : Nat} (hg : 0 < g) : c < cdiv n g ↔ c * g < n := by
  have := @cdiv_le n g c hg
  omega
theorem cdiv_cross {n g m k : Nat} (hg : 0 < g) (hk : 0 < k) (h : n * k = m * g) : cdiv n g = cdiv m k := by
  have H : ∀ c, n ≤ c * g ↔ m ≤ c * k := by
    intro c
    constructor
    · intro h1
      refine Nat.le_of_mul_le_mul_right (c := g) ?_ hg
      rw [← h]
      calc n * k ≤ c * g * k := Nat.mul_le_mul_right _ h1
        _ = c * k * g := by rw [Nat.mul_assoc, Nat.mul_comm g k, Nat.mul_assoc]
    · intro h1
      refine Nat.le_of_mul_le_mul_right (c := k) ?_ hk
      rw [h]
      calc m * g ≤ c * k * g := Nat.mul_le_mul_right _ h1
        _ = c * g * k := by rw [Nat.mul_assoc, Nat.mul_comm k g, Nat.mul_assoc]
  refine Nat.le_antisymm ((cdiv_le hg).2 ((H _).2 ((cdiv_le hk).1 (Nat.le_refl _)))) ((cdiv_le hk).2 ((H _).1 ((cdiv_le hg).1 (Nat.le_refl _))))
theorem cdiv_mono {n m g : Nat} (hg : 0 < g) (h : n ≤ m) : cdiv n g ≤ cdiv m g :=
  (cdiv_le hg).2 (Nat.le_trans h ((cdiv_le hg).1 (Nat.le_refl _)))
theorem cdiv_mul (c g : Nat) (hg : 0 < g) : cdiv (c * g) g = c := by
  refine Nat.le_antisymm ((cdiv_le hg).2 (Nat.le_refl _)) ?_
  have h1 := (cdiv_le hg).1 (Nat.le_refl (cdiv (c * g) g))
  exact Nat.le_of_mul_le_mul_right h1 hg
theorem gap_eq (n d : Nat) : (2 ^ min d (n.log2 + 2) = 2 ^ d) ∨ (n < 2 ^ min d (n.log2 + 2) ∧ n < 2 ^ d) := by
  rcases Nat.le_total d (n.log2 + 2) with h | h
  · left; rw [Nat.min_eq_left h]
  · right
    have hl : n < 2 ^ (n.log2 + 1) := Nat.lt_log2_self
    rw [Nat.min_eq_right h]
    exact ⟨Nat.lt_of_lt_of_le hl (Nat.pow_le_pow_right (by omega) (by omega)), Nat.lt_of_lt_of_le hl (Nat.pow_le_pow_right (by omega) (by omega))⟩
theorem cut_zero (s : Bool) (n d : Nat) : Toward.zero.cut s n d = n / 2 ^ d := by
  unfold Toward.cut
  simp only [Nat.shiftLeft_eq, Nat.one_mul]
  rcases gap_eq n d with h | ⟨h1, h2⟩
  · rw [h]; simp
  · rw [Nat.div_eq_of_lt h1, Nat.div_eq_of_lt h2]; simp
theorem cut_up (n d : Nat) : Toward.up.cut false n d = cdiv n (2 ^ d) := by
  have C : ∀ g, 0 < g → n / g + (!false && n % g != 0).toNat = cdiv n g := by
    intro g hg
    have hm := Nat.div_add_mod n g
    have hl := Nat.mod_lt n hg
    have hq : n / g * g = g * (n / g) := Nat.mul_comm _ _
    refine Nat.le_antisymm ?_ ((cdiv_le hg).2 ?_)
    · have h1 := (cdiv_le hg).1 (Nat.le_refl (cdiv n g))
      by_cases h0 : n % g = 0
      · simp only [h0, bne_self_eq_false, Bool.and_false, Bool.toNat_false, Nat.add_zero]
        refine Nat.le_of_mul_le_mul_right (c := g) ?_ hg
        omega
      · rw [show (!false && n % g != 0) = true by simp [h0]]
        rw [Bool.toNat_true, Nat.succ_le_iff, lt_cdiv hg]
        omega
    · by_cases h0 : n % g = 0
      · simp only [h0, bne_self_eq_false, Bool.and_false, Bool.toNat_false, Nat.add_zero]
        omega
      · rw [show (!false && n % g != 0) = true by simp [h0], Bool.toNat_true, Nat.add_mul]
        omega
  unfold Toward.cut
  simp only [Nat.shiftLeft_eq, Nat.one_mul]
  rcases gap_eq n d with h | ⟨h1, h2⟩
  · rw [h]; exact C _ (two_pos _)
  · have h3 := C _ (two_pos (min d (n.log2 + 2)))
    rw [h3]
    by_cases h0 : n = 0
    · subst h0
      rw [show cdiv 0 (2 ^ d) = 0 from Nat.le_zero.1 ((cdiv_le (two_pos _)).2 (Nat.zero_le _))]
      exact Nat.le_zero.1 ((cdiv_le (two_pos _)).2 (Nat.zero_le _))
    · have one : ∀ g, 0 < g → n < g → cdiv n g = 1 := by
        intro g hg hng
        refine Nat.le_antisymm ((cdiv_le hg).2 (by omega)) ?_
        rw [Nat.succ_le_iff, lt_cdiv hg]; omega
      rw [one _ (two_pos _) h1, one _ (two_pos _) h2]
/-- a span in ticks, rounded up -/
def ceilN (m : Nat) : Nat := cdiv (V m) U
def ceilB (b : Nat) : Nat := double.write ((double.read b).integral .up)
theorem toInt_tick {n : Nat} (h : n < 2 ^ 53) : (double.read (tick n)).toInt .zero = some (n : Int) := by
  obtain ⟨t1, t2⟩ := tick_spec h
  obtain ⟨p1, p2⟩ := pos_mag (Nat.le_of_lt t1)
  obtain ⟨m, k, hr, hv⟩ := read_fin (b := tick n) (by rw [p1]; exact t1)
  rw [p1, t2] at hv
  rw [hr, p2]
  unfold Datum.toInt Datum.integral
  simp only
  rw [signed_eq, cut_zero, Nat.shiftLeft_eq]
  simp only [Bool.false_eq_true, if_false]
  congr 2
  rw [Nat.pow_zero, Nat.mul_one]
  refine Nat.div_eq_of_eq_mul_left (two_pos _) ?_
  have hl : lp = -1074 := rfl
  have k1 := K74_eq
  rw [hl]
  refine Nat.eq_of_mul_eq_mul_right U_pos ?_
  rw [Nat.mul_assoc, Nat.mul_right_comm, ← hv, Nat.mul_assoc]
  refine congrArg (m * ·) ?_
  rw [U_eq, ← Nat.pow_add, ← Nat.pow_add]
  have k1 := K74_eq
  exact pow_same (by omega)
theorem i64_fits {n : Nat} (h : n < 2 ^ 53) : IntKind.min .i64 ≤ (n : Int) ∧ (n : Int) ≤ IntKind.max .i64 := by
  constructor
  · exact Int.le_trans (show IntKind.min .i64 ≤ 0 by decide) (by omega)
  · exact Int.le_trans (show (n : Int) ≤ 9007199254740992 by omega) (by decide)
theorem toInt_bits {n : Nat} (h : n < 2 ^ 53) : floatToIntVal .f64 (tick n) .i64 = some (n : Int) := by
  have h1 : (FloatKind.f64.decode (tick n)).toInt .zero = some (n : Int) := toInt_tick h
  unfold floatToIntVal
  rw [h1]
  exact if_pos (i64_fits h)
theorem ceil_zero : floatToIntVal .f64 (ceilB 0) .i64 = some 0 := by decide +kernel
theorem ceil_neg : floatToIntVal .f64 (ceilB 9223372036854775808) .i64 = some 0 := by decide +kernel
theorem ceil_tick {b : Nat} (hn : neg b = false) (hi : mag b < INF) : ceilB b = tick (ceilN (mag b)) := by
  obtain ⟨m, k, hr, hv⟩ := read_fin hi
  unfold ceilB
  rw [hr, hn, tick_eq]
  unfold Datum.integral
  simp only
  rw [cut_up, Nat.shiftLeft_eq]
  refine congrArg (double.nearest false · 0) (cdiv_cross (two_pos _) U_pos ?_)
  rw [← hv, Nat.mul_assoc, Nat.mul_assoc]
  refine congrArg (m * ·) ?_
  rw [U_eq, ← Nat.pow_add, ← Nat.pow_add]
  have hl : lp = -1074 := rfl
  have k1 := K74_eq
  exact pow_same (by omega)
theorem good_pos {b : Nat} (hg : good b = true) (h0 : mag b ≠ 0) : neg b = false := by
  have hgg : 4 ≤ cls b := by simpa [good] using hg
  rcases cls_spec b with ⟨ca, na⟩ | ⟨ca, na, ka, sa⟩ | ⟨ca, na, ka, pa, qa, sa⟩ | ⟨ca, na, ka, pa, sa⟩ | ⟨ca, na, ka, pa, sa⟩ | ⟨ca, na, ka, pa, qa, sa⟩ | ⟨ca, na, ka, sa⟩ <;> first | omega | exact sa
theorem ceil_bits {b : Nat} (hg : good b = true) (hb : b < 18446744073709551616) (hs : ceilN (mag b) < 2 ^ 53) (hi : mag b < INF) : floatToIntVal .f64 (ceilB b) .i64 = some (ceilN (mag b) : Int) := by
  by_cases h0 : mag b = 0
  · have hlow := low_bits hb
    have hc : ceilN 0 = 0 := Nat.le_zero.1 ((cdiv_le U_pos).2 (by rw [V_zero]; exact Nat.zero_le _))
    rw [h0] at hlow ⊢
    rw [hc]
    cases hn : neg b
    · rw [hn] at hlow
      have hb0 : b = 0 := hlow
      rw [hb0]; exact ceil_zero
    · rw [hn] at hlow
      have hb0 : b = 9223372036854775808 := hlow
      rw [hb0]; exact ceil_neg
  · rw [ceil_tick (good_pos hg h0) hi]
    exact toInt_bits hs
end FloatP
end Go.Proofs.YtcfdlfedmbmidaaDoor
