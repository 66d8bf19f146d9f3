/- Rounding, plain: what nearest gives of a fraction of whole numbers. -/
import Derived.Test.YtcfdlfedmbmidaaDoorFloatPlain
set_option linter.unusedSimpArgs false
set_option linter.unusedVariables false
set_option linter.unusedSectionVars false
namespace Go.Proofs.YtcfdlfedmbmidaaDoor
namespace FloatP
open Ieee
/-- the whole number nearest to n / g, between two the even one -/
def rhe (n g : Nat) : Nat := n / g + (if g < 2 * (n % g) ∨ (g = 2 * (n % g) ∧ n / g % 2 = 1) then 1 else 0)
theorem rhe_scale (n g c : Nat) (hc : 0 < c) : rhe (n * c) (g * c) = rhe n g := by
  unfold rhe
  rw [Nat.mul_div_mul_right _ _ hc, Nat.mul_mod_mul_right]
  have e1 : g * c < 2 * (n % g * c) ↔ g < 2 * (n % g) := by
    rw [← Nat.mul_assoc]
    exact ⟨fun h => Nat.lt_of_mul_lt_mul_right h, fun h => Nat.mul_lt_mul_of_pos_right h hc⟩
  have e2 : g * c = 2 * (n % g * c) ↔ g = 2 * (n % g) := by
    rw [← Nat.mul_assoc]
    exact ⟨fun h => Nat.eq_of_mul_eq_mul_right hc h, fun h => congrArg (· * c) h⟩
  simp only [e1, e2]
theorem rhe_mono {n m g : Nat} (h : n ≤ m) : rhe n g ≤ rhe m g := by
  unfold rhe
  have h1 := Nat.div_le_div_right (c := g) h
  have a := Nat.div_add_mod n g
  have b := Nat.div_add_mod m g
  by_cases hq : n / g = m / g
  · have hr : n % g ≤ m % g := by rw [hq] at a; omega
    rw [hq]; split <;> split <;> omega
  · split <;> split <;> omega
theorem rhe_cross {n g m k : Nat} (hg : 0 < g) (hk : 0 < k) (h : n * k ≤ m * g) : rhe n g ≤ rhe m k := by
  rw [← rhe_scale n g k hk, ← rhe_scale m k g hg, Nat.mul_comm g k]
  exact rhe_mono h
theorem rhe_eq {n g m k : Nat} (hg : 0 < g) (hk : 0 < k) (h : n * k = m * g) : rhe n g = rhe m k :=
  Nat.le_antisymm (rhe_cross hg hk (Nat.le_of_eq h)) (rhe_cross hk hg (Nat.le_of_eq h.symm))
theorem rhe_one (n : Nat) : rhe n 1 = n := by unfold rhe; simp [Nat.mod_one]
theorem rhe_le {n g c : Nat} (hg : 0 < g) (h : n ≤ c * g) : rhe n g ≤ c := by
  have := rhe_cross (n := n) (m := c) (k := 1) hg (by omega) (by rw [Nat.mul_one]; exact h)
  rwa [rhe_one] at this
theorem le_rhe {n g c : Nat} (hg : 0 < g) (h : c * g ≤ n) : c ≤ rhe n g := by
  have := rhe_cross (n := c) (g := 1) (m := n) (by omega) hg (by rw [Nat.mul_one]; exact h)
  rwa [rhe_one] at this
/-- r is the place in the row of numbers of what is nearest to a / b, in units of the least -/
def Rounds (a b r : Nat) : Prop := ∃ e, r = e * B52 + rhe a (b * 2 ^ e) ∧ a < 2 * B52 * (b * 2 ^ e) ∧ (0 < e → B52 * (b * 2 ^ e) ≤ a)
theorem two_pos (n : Nat) : 0 < 2 ^ n := Nat.two_pow_pos n
theorem rounds_mono {a b r c d s : Nat} (hb : 0 < b) (hd : 0 < d) (h1 : Rounds a b r) (h2 : Rounds c d s) (h : a * d ≤ c * b) : r ≤ s := by
  obtain ⟨e, rfl, la, ga⟩ := h1
  obtain ⟨f, rfl, lc, gc⟩ := h2
  have pe := two_pos e
  have pf := two_pos f
  have be : 0 < b * 2 ^ e := Nat.mul_pos hb pe
  have df : 0 < d * 2 ^ f := Nat.mul_pos hd pf
  rcases Nat.lt_trichotomy e f with he | rfl | he
  · have h3 := rhe_le be (Nat.le_of_lt la)
    have h4 := le_rhe df (gc (by omega))
    have h5 : (e + 1) * B52 ≤ f * B52 := Nat.mul_le_mul_right _ he
    unfold B52 at *
    omega
  · have h3 : rhe a (b * 2 ^ e) ≤ rhe c (d * 2 ^ e) := by
      refine rhe_cross be df ?_
      calc a * (d * 2 ^ e) = (a * d) * 2 ^ e := by rw [Nat.mul_assoc]
        _ ≤ (c * b) * 2 ^ e := Nat.mul_le_mul_right _ h
        _ = c * (b * 2 ^ e) := by rw [Nat.mul_assoc]
    omega
  · exfalso
    have h3 := ga (by omega)
    have h4 : 2 * 2 ^ f ≤ 2 ^ e := by
      rw [show 2 * 2 ^ f = 2 ^ (f + 1) by rw [Nat.pow_succ, Nat.mul_comm]]
      exact Nat.pow_le_pow_right (by omega) he
    have h5 : c * b < a * d := by
      calc c * b < 2 * B52 * (d * 2 ^ f) * b := Nat.mul_lt_mul_of_pos_right lc hb
        _ = B52 * (b * (2 * 2 ^ f)) * d := by
          simp only [Nat.mul_comm, Nat.mul_left_comm, Nat.mul_assoc]
        _ ≤ B52 * (b * 2 ^ e) * d := Nat.mul_le_mul_right _ (Nat.mul_le_mul_left _ (Nat.mul_le_mul_left _ h4))
        _ ≤ a * d := Nat.mul_le_mul_right _ h3
    omega
theorem rounds_eq {a b r c d s : Nat} (hb : 0 < b) (hd : 0 < d) (h1 : Rounds a b r) (h2 : Rounds c d s) (h : a * d = c * b) : r = s :=
  Nat.le_antisymm (rounds_mono hb hd h1 h2 (Nat.le_of_eq h)) (rounds_mono hd hb h2 h1 (Nat.le_of_eq h.symm))
theorem rounds_cast {a b r c d : Nat} (hb : 0 < b) (hd : 0 < d) (h1 : Rounds a b r) (h : a * d = c * b) : Rounds c d r := by
  obtain ⟨e, rfl, la, ga⟩ := h1
  have pe := two_pos e
  have be : 0 < b * 2 ^ e := Nat.mul_pos hb pe
  have de : 0 < d * 2 ^ e := Nat.mul_pos hd pe
  refine ⟨e, ?_, ?_, fun he => ?_⟩
  · congr 1
    refine rhe_eq be de ?_
    rw [← Nat.mul_assoc, h, Nat.mul_assoc]
  · refine Nat.lt_of_mul_lt_mul_right (a := b) ?_
    rw [← h]
    calc a * d < 2 * B52 * (b * 2 ^ e) * d := Nat.mul_lt_mul_of_pos_right la hd
      _ = 2 * B52 * (d * 2 ^ e) * b := by simp only [Nat.mul_comm, Nat.mul_left_comm, Nat.mul_assoc]
  · refine Nat.le_of_mul_le_mul_right (a := B52 * (d * 2 ^ e)) (c := b) ?_ hb
    rw [← h]
    calc B52 * (d * 2 ^ e) * b = B52 * (b * 2 ^ e) * d := by simp only [Nat.mul_comm, Nat.mul_left_comm, Nat.mul_assoc]
      _ ≤ a * d := Nat.mul_le_mul_right _ (ga he)
theorem rounds_zero (b : Nat) (hb : 0 < b) : Rounds 0 b 0 := by
  refine ⟨0, ?_, ?_, by omega⟩
  · unfold rhe; simp [Nat.pos_iff_ne_zero.1 hb]
  · exact Nat.mul_pos (by unfold B52; omega) (Nat.mul_pos hb (two_pos 0))
/-- a number of the format is its own nearest -/
theorem rounds_exact (r : Nat) : Rounds (V r) 1 r := by
  unfold V
  by_cases h : r < B52
  · rw [if_pos h]
    refine ⟨0, ?_, by unfold B52 at *; omega, by omega⟩
    rw [show 1 * 2 ^ 0 = 1 from rfl, rhe_one, Nat.zero_mul, Nat.zero_add]
  · rw [if_neg h]
    have hm : r % B52 < B52 := Nat.mod_lt _ (by unfold B52; omega)
    have pe := two_pos (r / B52 - 1)
    refine ⟨r / B52 - 1, ?_, ?_, fun _ => ?_⟩
    · rw [rhe_eq (m := B52 + r % B52) (k := 1) (by omega) (by omega) (by simp), rhe_one]
      unfold B52 at *; omega
    · rw [Nat.one_mul]
      exact Nat.mul_lt_mul_of_pos_right (by omega) pe
    · rw [Nat.one_mul]
      exact Nat.mul_le_mul_right _ (Nat.le_add_right _ _)
theorem rounds_le {a b r s : Nat} (hb : 0 < b) (h1 : Rounds a b r) (h : a ≤ V s * b) : r ≤ s :=
  rounds_mono hb (by omega) h1 (rounds_exact s) (by omega)
theorem le_rounds {a b r s : Nat} (hb : 0 < b) (h1 : Rounds a b r) (h : V s * b ≤ a) : s ≤ r :=
  rounds_mono (by omega) hb (rounds_exact s) h1 (by omega)
theorem rounds_is {a b r s : Nat} (hb : 0 < b) (h1 : Rounds a b r) (h : a = V s * b) : r = s :=
  Nat.le_antisymm (rounds_le hb h1 (Nat.le_of_eq h)) (le_rounds hb h1 (Nat.le_of_eq h.symm))
/-! ### the model's rounding -/
theorem cut_rhe (s : Bool) (n d : Nat) : Toward.even.cut s n d = rhe n (2 ^ d) := by
  have hl : n < 2 ^ (n.log2 + 1) := Nat.lt_log2_self
  have H : ∀ g : Nat, 0 < g → n / g + (decide (g < 2 * (n % g)) || (g == 2 * (n % g) && n / g % 2 == 1)).toNat = rhe n g := by
    intro g _
    unfold rhe
    congr 1
    generalize n % g = x
    generalize n / g % 2 = y
    by_cases h1 : g < 2 * x <;> by_cases h2 : g = 2 * x <;> by_cases h3 : y = 1 <;> simp [h1, h3] <;> first | omega | (simp [h2]) | skip
  unfold Toward.cut
  simp only [Nat.shiftLeft_eq, Nat.one_mul]
  rcases Nat.le_total d (n.log2 + 2) with h | h
  · rw [Nat.min_eq_left h]
    exact H _ (two_pos d)
  · rw [Nat.min_eq_right h]
    refine (H _ (two_pos _)).trans ?_
    have h1 : 2 ^ (n.log2 + 2) = 2 * 2 ^ (n.log2 + 1) := by rw [show n.log2 + 2 = (n.log2 + 1) + 1 by omega, Nat.pow_succ, Nat.mul_comm]
    have h2 : 2 ^ (n.log2 + 2) ≤ 2 ^ d := Nat.pow_le_pow_right (by omega) h
    have Z : ∀ g, 2 * n < g → rhe n g = 0 := by
      intro g hg
      unfold rhe
      rw [Nat.div_eq_of_lt (by omega), Nat.mod_eq_of_lt (by omega), if_neg (by omega)]
    rw [Z _ (by omega), Z _ (by omega)]
theorem pow_split (a b c d : Nat) (h : a + b = c + d) : 2 ^ a * 2 ^ b = 2 ^ c * 2 ^ d := by
  rw [← Nat.pow_add, ← Nat.pow_add, h]
theorem nearest_rounds (s : Bool) (n : Nat) (p : Int) : ∃ r, Rounds (n * 2 ^ (p + 1074).toNat) (2 ^ (-(p + 1074)).toNat) r ∧ double.nearest s n p = double.word s (min r INF) := by
  by_cases hn : n = 0
  · subst hn
    refine ⟨0, ?_, ?_⟩
    · rw [Nat.zero_mul]; exact rounds_zero _ (two_pos _)
    · unfold Format.nearest; rw [if_pos rfl]; rfl
  · have l1 : 2 ^ n.log2 ≤ n := Nat.log2_self_le hn
    have l2 : n < 2 ^ (n.log2 + 1) := Nat.lt_log2_self
    generalize hL : n.log2 = L at *
    have hla : ∀ last : Int, last = max (p + (L : Int) - 52) (-1074) → double.nearest s n p = double.word s (min ((last + 1074).toNat * B52 + rhe (n * 2 ^ (p - last).toNat) (2 ^ (last - p).toNat)) INF) := by
      intro last hlast
      unfold Format.nearest
      rw [if_neg hn]
      simp only [hL]
      show double.word s (min (((max (p + (L : Int) - 52) (-1074)) - (-1074)).toNat * B52 + _) INF) = _
      rw [show (double.fractionBits : Int) = 52 from rfl, show double.leastPlace = -1074 from rfl, ← hlast, cut_rhe, Nat.shiftLeft_eq, show last - -1074 = last + 1074 by omega]
    refine ⟨_, ⟨(max (p + (L : Int) - 52) (-1074) + 1074).toNat, rfl, ?_, ?_⟩, (hla _ rfl).trans ?_⟩
    all_goals generalize hx : max (p + (L : Int) - 52) (-1074) = last
    · have h1 : (L + 1) + (p + 1074).toNat ≤ 53 + ((-(p + 1074)).toNat + (last + 1074).toNat) := by omega
      calc n * 2 ^ (p + 1074).toNat < 2 ^ (L + 1) * 2 ^ (p + 1074).toNat := Nat.mul_lt_mul_of_pos_right l2 (two_pos _)
        _ = 2 ^ ((L + 1) + (p + 1074).toNat) := (Nat.pow_add _ _ _).symm
        _ ≤ 2 ^ (53 + ((-(p + 1074)).toNat + (last + 1074).toNat)) := Nat.pow_le_pow_right (by omega) h1
        _ = 2 * B52 * (2 ^ (-(p + 1074)).toNat * 2 ^ (last + 1074).toNat) := by rw [Nat.pow_add, Nat.pow_add 2 (-(p + 1074)).toNat]; rfl
    · intro h0
      have h1 : 52 + ((-(p + 1074)).toNat + (last + 1074).toNat) ≤ L + (p + 1074).toNat := by omega
      calc B52 * (2 ^ (-(p + 1074)).toNat * 2 ^ (last + 1074).toNat) = 2 ^ (52 + ((-(p + 1074)).toNat + (last + 1074).toNat)) := by rw [Nat.pow_add, Nat.pow_add]
        _ ≤ 2 ^ (L + (p + 1074).toNat) := Nat.pow_le_pow_right (by omega) h1
        _ = 2 ^ L * 2 ^ (p + 1074).toNat := by rw [Nat.pow_add]
        _ ≤ n * 2 ^ (p + 1074).toNat := Nat.mul_le_mul_right _ l1
    · congr 2
      congr 1
      refine rhe_eq (two_pos _) (Nat.mul_pos (two_pos _) (two_pos _)) ?_
      rw [Nat.mul_assoc, Nat.mul_assoc]
      congr 1
      rw [← Nat.pow_add, ← Nat.pow_add, ← Nat.pow_add]
      congr 1
      omega
end FloatP
end Go.Proofs.YtcfdlfedmbmidaaDoor
