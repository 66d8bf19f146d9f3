/- Differences and quotients of doubles, plain; what is waited. -/
import Derived.Test.YtbppjbheennphaaLdexpP
import Derived.Test.YtbppjbheennphaaTermWalks
set_option linter.unusedSimpArgs false
set_option linter.unusedVariables false
set_option linter.unusedSectionVars false
namespace Go.Proofs.Ytbppjbheennphaa
namespace FloatP
open Ieee
/-- a difference that is not below zero -/
theorem sub_rounds {a b : Nat} (ha : a < INF) (hb : b ≤ a) : ∃ r, Rounds (V a - V b) 1 r ∧ floatBits .sub .f64 a b = some r := by
  have hbi : b < INF := by omega
  obtain ⟨a1, a2⟩ := pos_mag (Nat.le_of_lt ha)
  obtain ⟨b1, b2⟩ := pos_mag (Nat.le_of_lt hbi)
  obtain ⟨m, k, hr, hv⟩ := read_fin (b := a) (by rw [a1]; exact ha)
  obtain ⟨n, l, hs, hu⟩ := read_fin (b := b) (by rw [b1]; exact hbi)
  rw [a1] at hv
  rw [b1] at hu
  have hle : V b ≤ V a := by
    rcases Nat.lt_or_ge b a with h | h
    · exact Nat.le_of_lt (V_lt h)
    · rw [show b = a by omega]; exact Nat.le_refl _
  have hmn : (lp + (k : Int) - min (lp + (k : Int)) (lp + (l : Int))).toNat = k - min k l ∧ (lp + (l : Int) - min (lp + (k : Int)) (lp + (l : Int))).toNat = l - min k l ∧ min (lp + (k : Int)) (lp + (l : Int)) + 1074 = ((min k l : Nat) : Int) := by
    have hl : lp = -1074 := rfl
    rcases Nat.le_total k l with hkl | hkl
    · rw [Nat.min_eq_left hkl, Int.min_eq_left (by omega)]; omega
    · rw [Nat.min_eq_right hkl, Int.min_eq_right (by omega)]; omega
  have e1 : (m * 2 ^ (k - min k l)) * 2 ^ (min k l) = V a := by
    rw [Nat.mul_assoc, ← Nat.pow_add, show k - min k l + min k l = k by omega, hv]
  have e2 : (n * 2 ^ (l - min k l)) * 2 ^ (min k l) = V b := by
    rw [Nat.mul_assoc, ← Nat.pow_add, show l - min k l + min k l = l by omega, hu]
  have hsum : (double.read a).sum (double.read b).opposite = some (.number (if ((m * 2 ^ (k - min k l) : Nat) : Int) + -((n * 2 ^ (l - min k l) : Nat) : Int) = 0 then false && true else decide (((m * 2 ^ (k - min k l) : Nat) : Int) + -((n * 2 ^ (l - min k l) : Nat) : Int) < 0)) (((m * 2 ^ (k - min k l) : Nat) : Int) + -((n * 2 ^ (l - min k l) : Nat) : Int)).natAbs (min (lp + (k : Int)) (lp + (l : Int)))) := by
    rw [hr, hs, a2, b2]
    simp only [Datum.opposite, Datum.sum, hmn.1, hmn.2.1, signed_eq, Bool.not_false, if_true, Bool.false_eq_true, if_false]
  have hsub : floatBits .sub .f64 a b = ((double.read a).sum (double.read b).opposite).map double.write := rfl
  rw [hsub, hsum]
  generalize m * 2 ^ (k - min k l) = x at *
  generalize n * 2 ^ (l - min k l) = y at *
  have hyx : y ≤ x := by
    refine Nat.le_of_mul_le_mul_right (c := 2 ^ (min k l)) ?_ (two_pos _)
    rw [e1, e2]; exact hle
  obtain ⟨r, h1, h2⟩ := nearest_rounds false (x - y) (min (lp + (k : Int)) (lp + (l : Int)))
  rw [hmn.2.2] at h1
  have h3 : Rounds (V a - V b) 1 r := by
    refine rounds_cast (two_pos _) (by omega) h1 ?_
    rw [show (-((min k l : Nat) : Int)).toNat = 0 by omega, show (((min k l : Nat) : Int)).toNat = min k l by omega, Nat.pow_zero, Nat.sub_mul, e1, e2]
  have hri : r ≤ a := rounds_le (by omega) h3 (by omega)
  refine ⟨r, h3, ?_⟩
  have hsg : (if ((x : Nat) : Int) + -((y : Nat) : Int) = 0 then false && true else decide (((x : Nat) : Int) + -((y : Nat) : Int) < 0)) = false := by
    split
    · rfl
    · rw [decide_eq_false_iff_not]; omega
  have hab : (((x : Nat) : Int) + -((y : Nat) : Int)).natAbs = x - y := by omega
  show some (double.nearest _ _ _) = _
  rw [hsg, hab, h2, word_false, Nat.min_eq_left (by omega)]
theorem rhe_sticky {D n g : Nat} (hn : 0 < n) (hg : 0 < g) : rhe (2 * (D / n) + (D % n != 0).toNat) (2 * (2 * g)) = rhe D (n * (2 * g)) := by
  have hm := Nat.div_add_mod D n
  have hr := Nat.mod_lt D hn
  generalize D / n = q at *
  generalize D % n = ρ at *
  have hq := Nat.div_add_mod q (2 * g)
  have hl := Nat.mod_lt q (show 0 < 2 * g by omega)
  generalize hA : q / (2 * g) = A at *
  generalize hB : q % (2 * g) = B at *
  have hD : D = n * (2 * g) * A + (n * B + ρ) := by
    rw [← hm, ← hq, Nat.mul_add, ← Nat.mul_assoc, Nat.add_assoc]
  have hlt : n * B + ρ < n * (2 * g) := by
    calc n * B + ρ < n * B + n := by omega
      _ = n * (B + 1) := by rw [Nat.mul_add, Nat.mul_one]
      _ ≤ n * (2 * g) := Nat.mul_le_mul_left _ hl
  have hpos : 0 < n * (2 * g) := Nat.mul_pos hn (by omega)
  have d1 : D / (n * (2 * g)) = A := by
    rw [hD, Nat.add_comm, Nat.add_mul_div_left _ _ hpos, Nat.div_eq_of_lt hlt, Nat.zero_add]
  have d2 : D % (n * (2 * g)) = n * B + ρ := by
    rw [hD, Nat.add_comm, Nat.add_mul_mod_self_left, Nat.mod_eq_of_lt hlt]
  have hs1 : (ρ != 0).toNat ≤ 1 := Bool.toNat_le _
  have d3 : (2 * q + (ρ != 0).toNat) / (2 * (2 * g)) = A := by
    generalize (ρ != 0).toNat = σ at *
    rw [← Nat.div_div_eq_div_mul, show (2 * q + σ) / 2 = q by omega, hA]
  have d4 : (2 * q + (ρ != 0).toNat) % (2 * (2 * g)) = 2 * B + (ρ != 0).toNat := by
    generalize (ρ != 0).toNat = σ at *
    have h5 := Nat.div_add_mod (2 * q + σ) (2 * (2 * g))
    rw [d3] at h5
    have h6 : 2 * (2 * g) * A = 2 * (2 * g * A) := by rw [Nat.mul_assoc]
    omega
  unfold rhe
  rw [d1, d2, d3, d4]
  congr 1
  -- the two tests agree
  have key : ∀ c : Nat, c < B → n * (2 * c) + 2 * n ≤ n * (2 * B) := by
    intro c hc
    calc n * (2 * c) + 2 * n = n * (2 * (c + 1)) := by rw [Nat.mul_add 2, Nat.mul_add, Nat.mul_one, Nat.mul_comm n 2]
      _ ≤ n * (2 * B) := Nat.mul_le_mul_left _ (by omega)
  have h2B : 2 * (n * B + ρ) = n * (2 * B) + 2 * ρ := by rw [Nat.mul_add, Nat.mul_left_comm]
  rw [h2B]
  by_cases hρ : ρ = 0
  · subst hρ
    simp only [bne_self_eq_false, Bool.toNat_false, Nat.add_zero, Nat.mul_zero]
    have t1 : 2 * (2 * g) < 2 * (2 * B) ↔ n * (2 * g) < n * (2 * B) := by
      constructor
      · intro h; exact Nat.mul_lt_mul_of_pos_left (by omega) hn
      · intro h; have := Nat.lt_of_mul_lt_mul_left h; omega
    have t2 : 2 * (2 * g) = 2 * (2 * B) ↔ n * (2 * g) = n * (2 * B) := by
      constructor
      · intro h; rw [show 2 * g = 2 * B by omega]
      · intro h; have := Nat.eq_of_mul_eq_mul_left hn h; omega
    simp only [t1, t2]
  · have h1 : (ρ != 0).toNat = 1 := by simp [hρ]
    rw [h1]
    have hρ' : 0 < ρ := Nat.pos_of_ne_zero hρ
    by_cases hgB : g ≤ B
    · have h3 : n * (2 * g) ≤ n * (2 * B) := Nat.mul_le_mul_left _ (by omega)
      rw [if_pos (.inl (by omega)), if_pos (.inl (by omega))]
    · have h3 : n * (2 * B) + 2 * n ≤ n * (2 * g) := by
        calc n * (2 * B) + 2 * n = n * (2 * (B + 1)) := by rw [Nat.mul_add 2, Nat.mul_add, Nat.mul_one, Nat.mul_comm n 2]
          _ ≤ n * (2 * g) := Nat.mul_le_mul_left _ (by omega)
      rw [if_neg (by omega), if_neg (by omega)]
/-- the quotient of two numbers -/
theorem div_rounds {a b : Nat} (ha : a < INF) (h0 : 0 < a) (hb : b < INF) (hb0 : 0 < b) : ∃ r, Rounds (V a * U) (V b) r ∧ floatBits .quo .f64 a b = some (min r INF) := by
  obtain ⟨a1, a2⟩ := pos_mag (Nat.le_of_lt ha)
  obtain ⟨b1, b2⟩ := pos_mag (Nat.le_of_lt hb)
  obtain ⟨m, k, hr, hv⟩ := read_fin (b := a) (by rw [a1]; exact ha)
  obtain ⟨n, l, hs, hu⟩ := read_fin (b := b) (by rw [b1]; exact hb)
  rw [a1] at hv
  rw [b1] at hu
  have hva := V_pos h0
  have hvb := V_pos hb0
  have hm0 : 0 < m := Nat.pos_of_ne_zero fun h => by rw [h, Nat.zero_mul] at hv; omega
  have hn0 : 0 < n := Nat.pos_of_ne_zero fun h => by rw [h, Nat.zero_mul] at hu; omega
  obtain ⟨more, hmore⟩ : ∃ t, 54 + n.log2 - m.log2 = t := ⟨_, rfl⟩
  obtain ⟨D, hD⟩ : ∃ t, m * 2 ^ more = t := ⟨_, rfl⟩
  obtain ⟨Q, hQ⟩ : ∃ t, 2 * (D / n) + (D % n != 0).toNat = t := ⟨_, rfl⟩
  have hquo : floatBits .quo .f64 a b = some (double.nearest false Q (lp + (k : Int) - (lp + (l : Int)) - more - 1)) := by
    have h1 : floatBits .quo .f64 a b = ((double.read a).quotient 54 (double.read b)).map double.write := rfl
    rw [h1, hr, hs, a2, b2]
    unfold Datum.quotient
    simp only [if_neg (show ¬ n = 0 by omega), hmore, Nat.shiftLeft_eq, hD, hQ]
    rfl
  -- D / n is great
  have hbig : 2 ^ 53 ≤ D / n := by
    rw [Nat.le_div_iff_mul_le hn0, ← hD]
    have l1 : 2 ^ m.log2 ≤ m := Nat.log2_self_le (by omega)
    have l2 : n < 2 ^ (n.log2 + 1) := Nat.lt_log2_self
    calc 2 ^ 53 * n ≤ 2 ^ 53 * 2 ^ (n.log2 + 1) := Nat.mul_le_mul_left _ (Nat.le_of_lt l2)
      _ = 2 ^ (53 + (n.log2 + 1)) := (Nat.pow_add _ _ _).symm
      _ ≤ 2 ^ (m.log2 + more) := Nat.pow_le_pow_right (by omega) (by omega)
      _ = 2 ^ m.log2 * 2 ^ more := Nat.pow_add _ _ _
      _ ≤ m * 2 ^ more := Nat.mul_le_mul_right _ l1
  have hσ : (D % n != 0).toNat ≤ 1 := Bool.toNat_le _
  have hQbig : 2 ^ 54 ≤ Q := by rw [← hQ]; omega
  obtain ⟨r, ⟨e, h1, h2, h3⟩, h4⟩ := nearest_rounds false Q (lp + (k : Int) - (lp + (l : Int)) - more - 1)
  have hP : ∃ P : Int, lp + (k : Int) - (lp + (l : Int)) - more - 1 + 1074 = P := ⟨_, rfl⟩
  obtain ⟨P, hP⟩ := hP
  rw [hP] at h1 h2 h3
  -- the kept digits leave out at least two
  have he : P + 2 ≤ (e : Int) := by
    apply Int.not_lt.1
    intro hlt
    have h5 : 2 ^ 54 * 2 ^ P.toNat ≤ Q * 2 ^ P.toNat := Nat.mul_le_mul_right _ hQbig
    have h6 : 2 * B52 * (2 ^ (-P).toNat * 2 ^ e) ≤ 2 ^ 54 * 2 ^ P.toNat := by
      calc 2 * B52 * (2 ^ (-P).toNat * 2 ^ e) = 2 ^ (53 + ((-P).toNat + e)) := by rw [Nat.pow_add, Nat.pow_add 2 (-P).toNat]; rfl
        _ ≤ 2 ^ (54 + P.toNat) := Nat.pow_le_pow_right (by omega) (by omega)
        _ = 2 ^ 54 * 2 ^ P.toNat := Nat.pow_add _ _ _
    omega
  obtain ⟨t, ht⟩ : ∃ t : Nat, (e : Int) = P + 2 + t := ⟨(e - P - 2).toNat, by omega⟩
  -- in digits of Q: 2 * (2 * 2^t) are dropped
  have hg : 2 * (2 * 2 ^ t) = 2 ^ (t + 2) := by rw [Nat.pow_add]; omega
  have hcross : 2 ^ (-P).toNat * 2 ^ e = 2 ^ (t + 2) * 2 ^ P.toNat := by
    rw [← Nat.pow_add, ← Nat.pow_add]; exact pow_same (by omega)
  have h1' : r = e * B52 + rhe D (n * (2 * 2 ^ t)) := by
    rw [h1, ← rhe_sticky hn0 (two_pos t), hQ, hg, hcross, rhe_scale _ _ _ (two_pos _)]
  have h2' : Q < 2 * B52 * 2 ^ (t + 2) := by
    rw [hcross, ← Nat.mul_assoc] at h2
    exact Nat.lt_of_mul_lt_mul_right h2
  have h3' : 0 < e → B52 * 2 ^ (t + 2) ≤ Q := by
    intro he0
    have h5 := h3 he0
    rw [hcross, ← Nat.mul_assoc] at h5
    exact Nat.le_of_mul_le_mul_right h5 (two_pos _)
  have hdm := Nat.div_add_mod D n
  have hml := Nat.mod_lt D hn0
  have hDup : D < 2 * B52 * (n * (2 * 2 ^ t)) := by
    have h5 : D / n < 2 * B52 * (2 * 2 ^ t) := by
      rw [← hg] at h2'
      rw [← hQ] at h2'
      have : 2 * B52 * (2 * (2 * 2 ^ t)) = 2 * (2 * B52 * (2 * 2 ^ t)) := by rw [Nat.mul_left_comm]
      omega
    calc D < n * (D / n + 1) := by rw [Nat.mul_add, Nat.mul_one]; omega
      _ ≤ n * (2 * B52 * (2 * 2 ^ t)) := Nat.mul_le_mul_left _ h5
      _ = 2 * B52 * (n * (2 * 2 ^ t)) := by rw [Nat.mul_left_comm]
  have hDlo : 0 < e → B52 * (n * (2 * 2 ^ t)) ≤ D := by
    intro he0
    have h5 := h3' he0
    rw [← hg, ← hQ] at h5
    have h7 : B52 * (2 * (2 * 2 ^ t)) = 2 * (B52 * (2 * 2 ^ t)) := by rw [Nat.mul_left_comm]
    have h6 : B52 * (2 * 2 ^ t) ≤ D / n := by omega
    calc B52 * (n * (2 * 2 ^ t)) = n * (B52 * (2 * 2 ^ t)) := by rw [Nat.mul_left_comm]
      _ ≤ n * (D / n) := Nat.mul_le_mul_left _ h6
      _ ≤ D := by omega
  -- D / n in places
  have hR : Rounds (D * 2 ^ (P + 1).toNat) (n * 2 ^ (-(P + 1)).toNat) r := by
    have hx : n * 2 ^ (-(P + 1)).toNat * 2 ^ e = n * (2 * 2 ^ t) * 2 ^ (P + 1).toNat := by
      rw [show 2 * 2 ^ t = 2 ^ (t + 1) by rw [Nat.pow_succ, Nat.mul_comm], Nat.mul_assoc, Nat.mul_assoc, ← Nat.pow_add, ← Nat.pow_add]
      exact congrArg (n * ·) (pow_same (by omega))
    refine ⟨e, ?_, ?_, fun he0 => ?_⟩
    · rw [hx, rhe_scale _ _ _ (two_pos _), h1']
    · rw [hx, ← Nat.mul_assoc]; exact Nat.mul_lt_mul_of_pos_right hDup (two_pos _)
    · rw [hx, ← Nat.mul_assoc]; exact Nat.mul_le_mul_right _ (hDlo he0)
  refine ⟨r, rounds_cast (Nat.mul_pos hn0 (two_pos _)) hvb hR ?_, ?_⟩
  · rw [← hv, ← hu, ← hD, U_eq]
    rw [show m * 2 ^ more * 2 ^ (P + 1).toNat * (n * 2 ^ l) = m * n * (2 ^ more * 2 ^ (P + 1).toNat * 2 ^ l) by simp only [Nat.mul_comm, Nat.mul_left_comm, Nat.mul_assoc],
      show m * 2 ^ k * 2 ^ K74 * (n * 2 ^ (-(P + 1)).toNat) = m * n * (2 ^ k * 2 ^ K74 * 2 ^ (-(P + 1)).toNat) by simp only [Nat.mul_comm, Nat.mul_left_comm, Nat.mul_assoc]]
    refine congrArg (m * n * ·) ?_
    rw [← Nat.pow_add, ← Nat.pow_add, ← Nat.pow_add, ← Nat.pow_add]
    have k1 := K74_eq
    exact pow_same (by omega)
  · rw [hquo, h4, word_false]
end FloatP
end Go.Proofs.Ytbppjbheennphaa
