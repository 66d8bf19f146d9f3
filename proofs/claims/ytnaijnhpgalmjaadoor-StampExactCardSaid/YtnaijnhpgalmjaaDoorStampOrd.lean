/- The order of digests: plain laws. No program in sight. -/
import Derived.Lib.Bytealg
set_option linter.unusedSimpArgs false
set_option linter.unusedVariables false
set_option linter.unusedSectionVars false
namespace Go.Proofs.YtnaijnhpgalmjaaDoor
namespace Stp
open Lib (compareBytes)
def lessL (l m : List UInt8) : Bool := decide (compareBytes l m < 0)
theorem cmp_refl : ∀ l, compareBytes l l = 0
  | [] => by simp only [compareBytes]
  | a :: l => by
    simp only [compareBytes]
    rw [if_neg (UInt8.lt_irrefl a), if_neg (UInt8.lt_irrefl a), cmp_refl l]
theorem cmp_anti : ∀ (l m : List UInt8), compareBytes m l = - compareBytes l m
  | [], [] => by simp [compareBytes]
  | [], _ :: _ => by simp [compareBytes]
  | _ :: _, [] => by simp [compareBytes]
  | a :: l, b :: m => by
    simp only [compareBytes]
    by_cases h1 : a < b
    · have h2 : ¬ b < a := fun h => UInt8.lt_irrefl _ (UInt8.lt_trans h1 h)
      rw [if_pos h1, if_neg h2, if_pos h1]; rfl
    · by_cases h2 : b < a
      · rw [if_neg h1, if_pos h2, if_pos h2, if_neg h1]
      · rw [if_neg h1, if_neg h2, if_neg h2, if_neg h1, cmp_anti l m]
theorem cmp_zero : ∀ {l m : List UInt8}, compareBytes l m = 0 → l = m
  | [], [], _ => rfl
  | [], _ :: _, h => by simp [compareBytes] at h
  | _ :: _, [], h => by simp [compareBytes] at h
  | a :: l, b :: m, h => by
    simp only [compareBytes] at h
    split at h
    · cases h
    · split at h
      · cases h
      · have e : a = b := UInt8.le_antisymm (UInt8.not_lt.1 (by assumption)) (UInt8.not_lt.1 (by assumption))
        rw [e, cmp_zero h]
theorem cmp_trans : ∀ {l m n : List UInt8}, compareBytes l m < 0 → compareBytes m n < 0 → compareBytes l n < 0
  | [], [], _, h, _ => by simp [compareBytes] at h
  | [], _ :: _, [], _, h => by simp [compareBytes] at h
  | [], _ :: _, _ :: _, _, _ => by simp [compareBytes]
  | _ :: _, [], _, h, _ => by simp [compareBytes] at h
  | _ :: _, _ :: _, [], _, h => by simp [compareBytes] at h
  | a :: l, b :: m, c :: n, h, k => by
    simp only [compareBytes] at h k ⊢
    by_cases h1 : a < b
    · by_cases h2 : b < c
      · rw [if_pos (UInt8.lt_trans h1 h2)]; decide
      · rw [if_neg h2] at k
        by_cases h3 : c < b
        · rw [if_pos h3] at k; exact absurd k (by decide)
        · have e : b = c := UInt8.le_antisymm (UInt8.not_lt.1 h3) (UInt8.not_lt.1 h2)
          rw [if_pos (e ▸ h1)]; decide
    · rw [if_neg h1] at h
      by_cases h3 : b < a
      · rw [if_pos h3] at h; exact absurd h (by decide)
      · have e : a = b := UInt8.le_antisymm (UInt8.not_lt.1 h3) (UInt8.not_lt.1 h1)
        subst e
        rw [if_neg h3] at h
        by_cases h2 : a < c
        · rw [if_pos h2]; decide
        · rw [if_neg h2] at k ⊢
          by_cases h4 : c < a
          · rw [if_pos h4] at k; exact absurd k (by decide)
          · rw [if_neg h4] at k ⊢
            exact cmp_trans h k
theorem less_trans {l m n : List UInt8} (h : lessL l m = true) (k : lessL m n = true) : lessL l n = true := by
  unfold lessL at *
  simp only [decide_eq_true_eq] at *
  exact cmp_trans h k
theorem less_self (l : List UInt8) : lessL l l = false := by simp [lessL, cmp_refl]
theorem less_total (l m : List UInt8) : (lessL l m || lessL m l) = (l != m) := by
  have h := cmp_anti l m
  by_cases e : l = m
  · subst e; simp [less_self]
  · have h0 : compareBytes l m ≠ 0 := fun h => e (cmp_zero h)
    have : (l != m) = true := by simp [e]
    rw [this]
    simp only [lessL, Bool.or_eq_true, decide_eq_true_eq]
    omega
theorem less_asym (l m : List UInt8) : (lessL l m && lessL m l) = false := by
  have h := cmp_anti l m
  simp only [lessL, Bool.and_eq_false_iff, decide_eq_false_iff_not]
  omega
end Stp
end Go.Proofs.YtnaijnhpgalmjaaDoor
