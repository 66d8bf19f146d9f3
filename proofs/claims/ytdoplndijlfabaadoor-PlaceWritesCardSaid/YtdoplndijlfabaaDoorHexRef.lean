/- The document's Value. -/
import Derived.Test.YtdoplndijlfabaaDoorHexRefH
set_option linter.unusedSimpArgs false
set_option linter.unusedVariables false
set_option linter.unusedSectionVars false
namespace Go.Proofs.YtdoplndijlfabaaDoor
open Go.RowKit
namespace Hex
open HexP
def valR (c : UInt8) : Option Nat :=
  if 48 ≤ c.toNat ∧ c.toNat ≤ 57 then some (c.toNat - 48) else if 97 ≤ c.toNat ∧ c.toNat ≤ 102 then some (c.toNat - 87) else if 65 ≤ c.toNat ∧ c.toNat ≤ 70 then some (c.toNat - 55) else none
def valZ (c : UInt8) : Int := match valR c with
  | some n => (n : Int)
  | none => -1
theorem valR_lt {c : UInt8} {n : Nat} (h : valR c = some n) : n < 16 := by
  unfold valR at h
  split at h
  · injection h; omega
  · split at h
    · injection h; omega
    · split at h
      · injection h; omega
      · cases h
theorem valR_dig (n : Nat) (h : n < 16) : valR (dig n) = some n := by
  have : ∀ k : Fin 16, valR (dig k.val) = some k.val := by decide
  exact this ⟨n, h⟩
set_option maxHeartbeats 1000000 in
theorem value_any (c : UInt8) (w : World) : Calls Tryd.prog 53 #[.int .u8 (c.toNat : Int)] w fun e w' => e = .returned (.int .i64 (valZ c)) ∧ w = w' := by
  have hc := c.toNat_lt
  go_enter Tryd.func53, Tryd.ntmps53
  have hz : valZ c = if 48 ≤ c.toNat ∧ c.toNat ≤ 57 then (c.toNat : Int) - 48 else if 97 ≤ c.toNat ∧ c.toNat ≤ 102 then (c.toNat : Int) - 97 + 10 else if 65 ≤ c.toNat ∧ c.toNat ≤ 70 then (c.toNat : Int) - 65 + 10 else -1 := by
    unfold valZ valR
    by_cases h1 : 48 ≤ c.toNat ∧ c.toNat ≤ 57
    · rw [if_pos h1, if_pos h1]; simp only; omega
    · rw [if_neg h1, if_neg h1]
      by_cases h2 : 97 ≤ c.toNat ∧ c.toNat ≤ 102
      · rw [if_pos h2, if_pos h2]; simp only; omega
      · rw [if_neg h2, if_neg h2]
        by_cases h3 : 65 ≤ c.toNat ∧ c.toNat ≤ 70
        · rw [if_pos h3, if_pos h3]; simp only; omega
        · rw [if_neg h3, if_neg h3]
  have HZ := Lib.hid hz
  clear hz
  by_cases h1 : 48 ≤ c.toNat ∧ c.toNat ≤ 57
  · have d1 : decide ((48 : Int) ≤ (c.toNat : Int)) = true := by rw [decide_eq_true_iff]; omega
    have d2 : decide ((c.toNat : Int) ≤ 57) = true := by rw [decide_eq_true_iff]; omega
    have HV := Lib.hid (show valZ c = (c.toNat : Int) - 48 by rw [HZ.out, if_pos h1])
    obtain ⟨h11, h12⟩ := h1
    go_wp2_with fail
    go_ret
    exact ⟨by rw [HV.out]; rfl, rfl⟩
  · by_cases h2 : 97 ≤ c.toNat ∧ c.toNat ≤ 102
    · have d1 : decide ((48 : Int) ≤ (c.toNat : Int)) = true := by rw [decide_eq_true_iff]; omega
      have d2 : decide ((c.toNat : Int) ≤ 57) = false := by rw [decide_eq_false_iff_not]; omega
      have d3 : decide ((97 : Int) ≤ (c.toNat : Int)) = true := by rw [decide_eq_true_iff]; omega
      have d4 : decide ((c.toNat : Int) ≤ 102) = true := by rw [decide_eq_true_iff]; omega
      have HV := Lib.hid (show valZ c = (c.toNat : Int) - 97 + 10 by rw [HZ.out, if_neg h1, if_pos h2])
      obtain ⟨h21, h22⟩ := h2
      clear h1
      go_wp2_with fail
      go_ret
      exact ⟨by rw [HV.out]; rfl, rfl⟩
    · by_cases h3 : 65 ≤ c.toNat ∧ c.toNat ≤ 70
      · have d1 : decide ((48 : Int) ≤ (c.toNat : Int)) = true := by rw [decide_eq_true_iff]; omega
        have d2 : decide ((c.toNat : Int) ≤ 57) = false := by rw [decide_eq_false_iff_not]; omega
        have d3 : decide ((97 : Int) ≤ (c.toNat : Int)) = false := by rw [decide_eq_false_iff_not]; omega
        have d5 : decide ((65 : Int) ≤ (c.toNat : Int)) = true := by rw [decide_eq_true_iff]; omega
        have d6 : decide ((c.toNat : Int) ≤ 70) = true := by rw [decide_eq_true_iff]; omega
        have HV := Lib.hid (show valZ c = (c.toNat : Int) - 65 + 10 by rw [HZ.out, if_neg h1, if_neg h2, if_pos h3])
        obtain ⟨h31, h32⟩ := h3
        clear h1 h2
        go_wp2_with fail
        go_ret
        exact ⟨by rw [HV.out]; rfl, rfl⟩
      · have HV := Lib.hid (show valZ c = -1 by rw [HZ.out, if_neg h1, if_neg h2, if_neg h3])
        by_cases a1 : 48 ≤ c.toNat
        · have d1 : decide ((48 : Int) ≤ (c.toNat : Int)) = true := by rw [decide_eq_true_iff]; omega
          have d2 : decide ((c.toNat : Int) ≤ 57) = false := by rw [decide_eq_false_iff_not]; omega
          by_cases a2 : 97 ≤ c.toNat
          · have d3 : decide ((97 : Int) ≤ (c.toNat : Int)) = true := by rw [decide_eq_true_iff]; omega
            have d4 : decide ((c.toNat : Int) ≤ 102) = false := by rw [decide_eq_false_iff_not]; omega
            have d5 : decide ((65 : Int) ≤ (c.toNat : Int)) = true := by rw [decide_eq_true_iff]; omega
            have d6 : decide ((c.toNat : Int) ≤ 70) = false := by rw [decide_eq_false_iff_not]; omega
            clear h1 h2 h3
            go_wp2_with fail
            go_ret
            exact ⟨by rw [HV.out]; rfl, rfl⟩
          · have d3 : decide ((97 : Int) ≤ (c.toNat : Int)) = false := by rw [decide_eq_false_iff_not]; omega
            by_cases a3 : 65 ≤ c.toNat
            · have d5 : decide ((65 : Int) ≤ (c.toNat : Int)) = true := by rw [decide_eq_true_iff]; omega
              have d6 : decide ((c.toNat : Int) ≤ 70) = false := by rw [decide_eq_false_iff_not]; omega
              clear h1 h2 h3
              go_wp2_with fail
              go_ret
              exact ⟨by rw [HV.out]; rfl, rfl⟩
            · have d5 : decide ((65 : Int) ≤ (c.toNat : Int)) = false := by rw [decide_eq_false_iff_not]; omega
              clear h1 h2 h3
              go_wp2_with fail
              go_ret
              exact ⟨by rw [HV.out]; rfl, rfl⟩
        · have d1 : decide ((48 : Int) ≤ (c.toNat : Int)) = false := by rw [decide_eq_false_iff_not]; omega
          have d3 : decide ((97 : Int) ≤ (c.toNat : Int)) = false := by rw [decide_eq_false_iff_not]; omega
          have d5 : decide ((65 : Int) ≤ (c.toNat : Int)) = false := by rw [decide_eq_false_iff_not]; omega
          clear h1 h2 h3
          go_wp2_with fail
          go_ret
          exact ⟨by rw [HV.out]; rfl, rfl⟩
end Hex
end Go.Proofs.YtdoplndijlfabaaDoor
