/- Weights, ratios. No program in sight. -/
import Derived.Test.YtglnefmaphajaaaDoorFloatPlain
import Derived.Laws.FloatArith
set_option linter.unusedSimpArgs false
set_option linter.unusedVariables false
set_option linter.unusedSectionVars false
namespace Go.Proofs.YtglnefmaphajaaaDoor
namespace FloatP
open Ieee
/-- the digits behind the point -/
def tailOk (top : UInt8) (l : List UInt8) : Bool := l.all fun d => decide (48 ≤ d.toNat ∧ d.toNat ≤ top.toNat)
def topOf (c : UInt8) : UInt8 := if c = 49 then 48 else 57
def isW : List UInt8 → Bool
  | [] => false
  | [c] => c == 48 || c == 49
  | c :: p :: l => decide (l.length ≤ 3) && (c == 48 || c == 49) && (p == 46) && tailOk (topOf c) l
def num (n : Nat) (l : List UInt8) : Nat := l.foldl (fun n d => n * 10 + (d.toNat - 48)) n
/-- the number of a weight, and by what it is divided -/
def wn : List UInt8 → Nat
  | [] => 0
  | c :: l => num (c.toNat - 48) (l.drop 1)
def wk : List UInt8 → Nat
  | [] => 0
  | _ :: l => (l.drop 1).length
theorem num_snoc (n : Nat) (l : List UInt8) (d : UInt8) : num n (l ++ [d]) = num n l * 10 + (d.toNat - 48) := by simp [num]
theorem num_lt (n : Nat) (l : List UInt8) (h : tailOk 57 l = true) : num n l < (n + 1) * 10 ^ l.length := by
  induction l generalizing n with
  | nil => simp [num]
  | cons d l ih =>
    simp only [tailOk, List.all_cons, Bool.and_eq_true, decide_eq_true_eq] at h
    have hd : d.toNat - 48 ≤ 9 := by have := h.1.2; rw [show (57 : UInt8).toNat = 57 from rfl] at this; omega
    have := ih (n * 10 + (d.toNat - 48)) (by simpa [tailOk] using h.2)
    show num (n * 10 + (d.toNat - 48)) l < _
    rw [List.length_cons, Nat.pow_succ]
    calc num (n * 10 + (d.toNat - 48)) l < (n * 10 + (d.toNat - 48) + 1) * 10 ^ l.length := this
      _ ≤ ((n + 1) * 10) * 10 ^ l.length := Nat.mul_le_mul_right _ (by omega)
      _ = (n + 1) * (10 ^ l.length * 10) := by rw [Nat.mul_assoc, Nat.mul_comm 10]
theorem tailOk_top {c : UInt8} {l : List UInt8} (h : tailOk (topOf c) l = true) : tailOk 57 l = true := by
  unfold tailOk topOf at *
  split at h
  · simp only [List.all_eq_true, decide_eq_true_eq] at *
    intro d hd
    have := h d hd
    rw [show (48 : UInt8).toNat = 48 from rfl] at this
    rw [show (57 : UInt8).toNat = 57 from rfl]
    omega
  · exact h
theorem num_one (n : Nat) (l : List UInt8) (h : tailOk 48 l = true) : num n l = n * 10 ^ l.length := by
  induction l generalizing n with
  | nil => simp [num]
  | cons d l ih =>
    simp only [tailOk, List.all_cons, Bool.and_eq_true, decide_eq_true_eq] at h
    have hd : d.toNat - 48 = 0 := by have := h.1; rw [show (48 : UInt8).toNat = 48 from rfl] at this; omega
    show num (n * 10 + (d.toNat - 48)) l = _
    rw [ih _ (by simpa [tailOk] using h.2), hd, List.length_cons, Nat.pow_succ, Nat.add_zero, Nat.mul_assoc, Nat.mul_comm 10]
theorem wn_le {l : List UInt8} (h : isW l = true) : wn l ≤ 10 ^ wk l ∧ wk l ≤ 3 := by
  match l, h with
  | [c], h =>
    simp only [isW, Bool.or_eq_true, beq_iff_eq] at h
    rcases h with rfl | rfl <;> decide
  | c :: p :: l, h =>
    simp only [isW, Bool.and_eq_true, Bool.or_eq_true, beq_iff_eq, decide_eq_true_eq] at h
    obtain ⟨⟨⟨h1, h2⟩, -⟩, h4⟩ := h
    refine ⟨?_, h1⟩
    show num (c.toNat - 48) l ≤ 10 ^ l.length
    rcases h2 with rfl | rfl
    · have := num_lt 0 l (tailOk_top h4)
      rw [Nat.zero_add, Nat.one_mul] at this
      exact Nat.le_of_lt this
    · have := num_one 1 l h4
      rw [Nat.one_mul] at this
      exact Nat.le_of_eq this
/-- a quotient -/
def quo (n d : Int) : Option Nat := floatBits .quo .f64 (floatOfInt .f64 n) (floatOfInt .f64 d)
def qv (n k : Nat) : Nat := clean ((quo n (10 ^ k : Nat)).getD 0)
def good (n k : Nat) : Bool := match quo n (10 ^ k : Nat) with
  | some r => decide (r < 18446744073709551616) && !(lt (clean r) 0) && !(double.order (clean r) 4607182418800017408 == some .gt) && !(isNan (clean r)) && decide (clean r < 18446744073709551616)
  | none => false
def allGood (k : Nat) : Nat → Bool
  | 0 => true
  | n + 1 => good n k && allGood k n
theorem allGood_of (k : Nat) : ∀ m, allGood k m = true → ∀ n, n < m → good n k = true
  | 0, _, n, h => by omega
  | m + 1, ha, n, h => by
    simp only [allGood, Bool.and_eq_true] at ha
    by_cases e : n = m
    · subst e; exact ha.1
    · exact allGood_of k m ha.2 n (by omega)
theorem good0 : allGood 0 2 = true := by decide +kernel
theorem good1 : allGood 1 11 = true := by decide +kernel
theorem good2 : allGood 2 101 = true := by decide +kernel
theorem good3 : allGood 3 1001 = true := by decide +kernel
theorem good_all (n k : Nat) (hk : k ≤ 3) (hn : n ≤ 10 ^ k) : good n k = true := by
  rcases (by omega : k = 0 ∨ k = 1 ∨ k = 2 ∨ k = 3) with rfl | rfl | rfl | rfl
  · exact allGood_of 0 2 good0 n (by omega)
  · exact allGood_of 1 11 good1 n (by omega)
  · exact allGood_of 2 101 good2 n (by omega)
  · exact allGood_of 3 1001 good3 n (by omega)
theorem good_spec {n k : Nat} (h : good n k = true) : ∃ r, quo n (10 ^ k : Nat) = some r ∧ r < 18446744073709551616 ∧ qv n k = clean r ∧ lt (qv n k) 0 = false ∧ (double.order (qv n k) 4607182418800017408 == some .gt) = false ∧ isNan (qv n k) = false ∧ qv n k < 18446744073709551616 := by
  unfold good at h
  cases hq : quo n (10 ^ k : Nat) with
  | none => rw [hq] at h; cases h
  | some r =>
    rw [hq] at h
    have hv : qv n k = clean r := by unfold qv; rw [hq]; rfl
    rw [hv]
    simp only [Bool.and_eq_true, Bool.not_eq_true', decide_eq_true_eq] at h
    obtain ⟨⟨⟨⟨h1, h2⟩, h3⟩, h4⟩, h5⟩ := h
    exact ⟨r, rfl, h1, rfl, h2, h3, h4, h5⟩
end FloatP
end Go.Proofs.YtglnefmaphajaaaDoor
