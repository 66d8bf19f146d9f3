/- Decimal digits, plain. -/
import Derived.Test.YtdnaijaamnfgmaaDoorHexaDecD
set_option linter.unusedSimpArgs false
set_option linter.unusedVariables false
set_option linter.unusedSectionVars false
namespace Go.Proofs.YtdnaijaamnfgmaaDoor
open Go.RowKit
namespace Hex
open HexP
theorem dec_small {u : Nat} (h : u < 10) : Lib.decDigits u = [UInt8.ofNat (48 + u)] := by rw [Lib.decDigits, dif_pos h]
theorem dec_big {u : Nat} (h : ¬ u < 10) : Lib.decDigits u = Lib.decDigits (u / 10) ++ [UInt8.ofNat (48 + u % 10)] := by rw [Lib.decDigits, dif_neg h]
theorem itoa_min : Lib.itoa (-9223372036854775808) = [45, 57, 50, 50, 51, 51, 55, 50, 48, 51, 54, 56, 53, 52, 55, 55, 53, 56, 48, 56] := by
  simp [Lib.itoa, Lib.decDigits]
def dd0 (n : Nat) : List UInt8 := if n = 0 then [] else Lib.decDigits n
theorem dig_dec (n : Nat) (h : n < 10) : UInt8.ofNat (48 + n) = dig n := by
  have : ∀ k : Fin 10, UInt8.ofNat (48 + k.val) = dig k.val := by decide
  exact this ⟨n, h⟩
theorem dd0_step (n : Nat) (h : 0 < n) : dd0 n = dd0 (n / 10) ++ [dig (n % 10)] := by
  unfold dd0
  rw [if_neg (by omega), ← dig_dec (n % 10) (by omega)]
  by_cases h16 : n < 10
  · rw [if_pos (by omega), dec_small h16, Nat.mod_eq_of_lt h16]; rfl
  · rw [if_neg (by omega), dec_big h16]
theorem dd_first (n : Nat) : Lib.decDigits n = dd0 (n / 10) ++ [dig (n % 10)] := by
  by_cases h0 : n = 0
  · subst h0; rw [dec_small (by omega)]; rfl
  · rw [← dd0_step n (by omega)]; unfold dd0; rw [if_neg h0]
theorem decLen100 (u : Nat) (h : u < 9223372036854775808) : (Lib.decDigits u).length ≤ 100 := by
  have : ∀ k a, a < 10 ^ (k + 1) → (Lib.decDigits a).length ≤ k + 1 := by
    intro k
    induction k with
    | zero => intro a h; rw [dec_small (by simpa using h)]; simp
    | succ k ih =>
      intro a h
      by_cases h10 : a < 10
      · rw [dec_small h10]; simp
      · rw [Nat.pow_succ] at h
        have := ih (a / 10) (Nat.div_lt_of_lt_mul (by omega))
        rw [dec_big h10, List.length_append, List.length_singleton]; omega
  have := this 19 u (by simp; omega)
  omega
end Hex
end Go.Proofs.YtdnaijaamnfgmaaDoor
