/- The walks of the classes of numbers, where neither Less nor Clean is reached; Within. -/
import Derived.Test.YtcfdlfedmbmidaaDoorRows
import Derived.Test.YtcfdlfedmbmidaaDoorTermV
import Derived.Test.YtcfdlfedmbmidaaDoorReg
import Derived.Test.YtcfdlfedmbmidaaDoorWords
import Derived.Laws.Externs
import Derived.WalkKit
import Derived.WalkSpells
import Derived.WalkLawsBesides
import Derived.BigQuiet
import Derived.BigRegion
import Derived.Deep.DeepCutAuto
import Derived.Great.Walk
import Derived.Lib.Hide
set_option linter.unusedSimpArgs false
set_option linter.unusedVariables false
set_option linter.unusedSectionVars false
namespace Go.Proofs.YtcfdlfedmbmidaaDoor
open Go.RowKit
namespace FloatP
open Ieee
def withinP (a : Int) (b : Nat) : Bool := good b && (decide (0 ≤ a) && lt (floatOfInt .f64 a) b)
theorem within_ceil {m : Nat} {b : Nat} (hm : m < 9007199254740992) (hg : good b = true) (hb : b < 18446744073709551616) : withinP (m : Int) b = decide (m < ceilN (mag b)) := by
  unfold withinP
  rw [hg, Bool.true_and, decide_eq_true (by omega), Bool.true_and]
  have h := tick_lt (n := m) (by omega) hg hb
  unfold tick at h
  rw [h]
  have h2 := @lt_cdiv (V (mag b)) U m U_pos
  unfold ceilN
  rw [Bool.eq_iff_iff, decide_eq_true_iff, decide_eq_true_iff, h2]
theorem within_bad {a : Int} {b : Nat} (hg : good b = false) : withinP a b = false := by unfold withinP; rw [hg]; rfl
/-- what is within a span was within it ahead of that -/
theorem within_mono {a c : Int} {b : Nat} (hb : b < 18446744073709551616) (h0 : 0 ≤ a) (h : a ≤ c) (hc : c < 9007199254740992) (hw : withinP c b = true) : withinP a b = true := by
  cases hg : good b
  · rw [within_bad hg] at hw; exact absurd hw (by decide)
  · obtain ⟨n, rfl⟩ : ∃ n : Nat, a = n := ⟨a.toNat, by omega⟩
    obtain ⟨m, rfl⟩ : ∃ m : Nat, c = m := ⟨c.toNat, by omega⟩
    rw [within_ceil (by omega) hg hb, decide_eq_true_iff] at hw ⊢
    omega
end FloatP
namespace Flt
open FloatP
theorem call_bits (b : Nat) (w : World) : (callFunc 70 #[.float .f64 b]).run Tryd.prog w = .ok (.value (.int .u64 (b : Int))) w := by
  rw [run_callFunc_extern Tryd.func70 (by kernel_rfl) (by kernel_rfl) (by kernel_rfl) (e := Extern.MathFloatBits.float64bits) (by kernel_rfl)]
  rfl
theorem call_from (n : Int) (w : World) : (callFunc 81 #[.int .u64 n]).run Tryd.prog w = .ok (.value (.float .f64 n.toNat)) w := by
  rw [run_callFunc_extern Tryd.func81 (by kernel_rfl) (by kernel_rfl) (by kernel_rfl) (e := Extern.MathFloatBits.float64frombits) (by kernel_rfl)]
  rfl
attribute [local go_sem] call_bits call_from
theorem unary_neg_float (b : Nat) : Op.unary .neg (.float .f64 b) = pure (.float .f64 (turned b)) := rfl
attribute [local go_sem] unary_neg_float
set_option maxHeartbeats 1000000 in
theorem isnan_any (b : Nat) (w : World) : Calls Tryd.prog 55 #[.float .f64 b] w fun e w' => e = .returned (.bool (isNan b)) ∧ w = w' := by
  go_enter Tryd.func55, Tryd.ntmps55
  go_wp2
  go_ret
  exact ⟨ret_bool (nan_test b), rfl⟩
set_option maxHeartbeats 1000000 in
theorem signbit_any (b : Nat) (w : World) (hb : b < 18446744073709551616) : Calls Tryd.prog 57 #[.float .f64 b] w fun e w' => e = .returned (.bool (neg b)) ∧ w = w' := by
  go_enter Tryd.func57, Tryd.ntmps57
  go_wp2
  go_ret
  refine ⟨ret_bool ?_, rfl⟩
  unfold neg wrap64
  rw [Bool.eq_iff_iff, decide_eq_true_iff, beq_iff_eq]
  omega
set_option maxHeartbeats 1000000 in
theorem isinf_below (b : Nat) (w : World) : Calls Tryd.prog 56 #[.float .f64 b, .int .i64 (-1)] w fun e w' => e = .returned (.bool (neg b && mag b == INF)) ∧ w = w' := by
  go_enter Tryd.func56, Tryd.ntmps56
  go_wp2
  go_ret
  exact ⟨ret_bool ((gt_max (turned b)).trans (by rw [mag_turned, neg_turned, Bool.not_not])), rfl⟩
set_option maxHeartbeats 1000000 in
theorem isinf_above (b : Nat) (w : World) : Calls Tryd.prog 56 #[.float .f64 b, .int .i64 1] w fun e w' => e = .returned (.bool (!neg b && mag b == INF)) ∧ w = w' := by
  go_enter Tryd.func56, Tryd.ntmps56
  go_wp2
  go_ret
  exact ⟨ret_bool (gt_max b), rfl⟩
set_option maxHeartbeats 2000000 in
theorem class_any (b : Nat) (w : World) (hb : b < 18446744073709551616) : Calls Tryd.prog 45 #[.float .f64 b] w fun e w' => e = .returned (.int .i64 (cls b : Int)) ∧ w = w' := by
  have t1 : (FloatKind.f64.format.order b 0 == some .lt) = _ := lt_zero b
  have t2 : (FloatKind.f64.format.order b 0 == some .gt) = _ := gt_zero b
  have hm := mag_lt b
  have hcls : cls b = if INF < mag b then 1 else if mag b = INF then (if neg b then 2 else 7) else if mag b = 0 then (if neg b then 4 else 5) else if neg b then 3 else 6 := rfl
  have HC := Lib.hid hcls
  clear hcls
  go_enter Tryd.func45, Tryd.ntmps45
  go_wp2_with fail
  refine (isnan_any b w).mono ?_
  rintro e w' ⟨rfl, rfl⟩
  by_cases h1 : INF < mag b
  · have hn : isNan b = true := by simp [isNan, h1]
    rw [hn]
    clear t1 t2
    have HV := Lib.hid (show cls b = 1 by (rw [HC.out, if_pos h1] <;> rfl))
    go_wp2_with fail
    go_ret
    exact ⟨by rw [HV.out]; rfl, rfl⟩
  · have hn : isNan b = false := by simp [isNan]; omega
    rw [hn]
    go_wp2_with fail
    refine (isinf_below b w).mono ?_
    rintro e w' ⟨rfl, rfl⟩
    by_cases h2 : mag b = INF
    · have hq : (mag b == INF) = true := by rw [beq_iff_eq]; exact h2
      rw [hq]
      cases hg : neg b
      · simp only [Bool.false_and]
        go_wp2_with fail
        refine (isinf_above b w).mono ?_
        rintro e w' ⟨rfl, rfl⟩
        rw [hq, hg]
        simp only [Bool.not_false, Bool.true_and]
        clear t1 t2
        have HV := Lib.hid (show cls b = 7 by (rw [HC.out, if_neg h1, if_pos h2, hg] <;> rfl))
        go_wp2_with fail
        go_ret
        exact ⟨by rw [HV.out]; rfl, rfl⟩
      · simp only [Bool.true_and]
        clear t1 t2
        have HV := Lib.hid (show cls b = 2 by (rw [HC.out, if_neg h1, if_pos h2, hg] <;> rfl))
        go_wp2_with fail
        go_ret
        exact ⟨by rw [HV.out]; rfl, rfl⟩
    · have hq : (mag b == INF) = false := by rw [beq_eq_false_iff_ne]; exact h2
      have hle : mag b ≤ INF := by omega
      rw [hq]
      simp only [Bool.and_false]
      go_wp2_with fail
      refine (isinf_above b w).mono ?_
      rintro e w' ⟨rfl, rfl⟩
      rw [hq]
      simp only [Bool.and_false]
      by_cases h3 : mag b = 0
      · simp only [h3, ne_eq, not_true_eq_false, decide_false, Bool.false_and, Bool.and_false] at t1 t2
        go_wp2_with fail
        refine (signbit_any b w hb).mono ?_
        rintro e w' ⟨rfl, rfl⟩
        cases hg : neg b
        · have HV := Lib.hid (show cls b = 5 by (rw [HC.out, if_neg h1, if_neg h2, if_pos h3, hg] <;> rfl))
          go_wp2_with fail
          go_ret
          exact ⟨by rw [HV.out]; rfl, rfl⟩
        · have HV := Lib.hid (show cls b = 4 by (rw [HC.out, if_neg h1, if_neg h2, if_pos h3, hg] <;> rfl))
          go_wp2_with fail
          go_ret
          exact ⟨by rw [HV.out]; rfl, rfl⟩
      · simp only [h3, hle, ne_eq, not_false_eq_true, decide_true, Bool.true_and] at t1 t2
        cases hg : neg b
        · rw [hg] at t1 t2
          simp only [Bool.not_false] at t2
          have HV := Lib.hid (show cls b = 6 by (rw [HC.out, if_neg h1, if_neg h2, if_neg h3, hg] <;> rfl))
          go_wp2_with fail
          go_ret
          exact ⟨by rw [HV.out]; rfl, rfl⟩
        · rw [hg] at t1 t2
          clear t2
          have HV := Lib.hid (show cls b = 3 by (rw [HC.out, if_neg h1, if_neg h2, if_neg h3, hg] <;> rfl))
          go_wp2_with fail
          go_ret
          exact ⟨by rw [HV.out]; rfl, rfl⟩
/-! ### the document's -/
theorem top_bit (b : Nat) (hb : b < 18446744073709551616) : ((b : Int) / 9223372036854775808 == 1) = neg b := by
  unfold neg
  rw [Bool.eq_iff_iff, beq_iff_eq, beq_iff_eq]; omega
set_option maxHeartbeats 1000000 in
theorem classR_any (b : Nat) (w : World) (hb : b < 18446744073709551616) : Calls Tryd.prog 54 #[.float .f64 b] w fun e w' => e = .returned (.int .i64 (cls b : Int)) ∧ w = w' := by
  have hcls : cls b = if INF < mag b then 1 else if mag b = INF then (if neg b then 2 else 7) else if mag b = 0 then (if neg b then 4 else 5) else if neg b then 3 else 6 := rfl
  have HC := Lib.hid hcls
  clear hcls
  have e1 := top_bit b hb
  have e2 : IntKind.u64.wrap ((b : Int) * 2) / 2 = (mag b : Int) := by
    rw [IntKind.wrap_u64]; unfold mag; omega
  have hml := mag_lt b
  go_enter Tryd.func54, Tryd.ntmps54
  by_cases h1 : INF < mag b
  · have d1 : decide ((9218868437227405312 : Int) < (mag b : Int)) = true := by rw [decide_eq_true_iff]; unfold INF at h1; omega
    have HV := Lib.hid (show cls b = 1 by (rw [HC.out, if_pos h1] <;> rfl))
    go_wp2_with fail
    go_ret
    exact ⟨by rw [HV.out]; rfl, rfl⟩
  · have d1 : decide ((9218868437227405312 : Int) < (mag b : Int)) = false := by rw [decide_eq_false_iff_not]; unfold INF at h1; omega
    by_cases h2 : mag b = INF
    · have d2 : ((mag b : Int) == 9218868437227405312) = true := by rw [beq_iff_eq]; unfold INF at h2; omega
      cases hg : neg b
      · rw [hg] at e1
        have HV := Lib.hid (show cls b = 7 by (rw [HC.out, if_neg h1, if_pos h2, hg] <;> rfl))
        go_wp2_with fail
        go_ret
        exact ⟨by rw [HV.out]; rfl, rfl⟩
      · rw [hg] at e1
        have HV := Lib.hid (show cls b = 2 by (rw [HC.out, if_neg h1, if_pos h2, hg] <;> rfl))
        go_wp2_with fail
        go_ret
        exact ⟨by rw [HV.out]; rfl, rfl⟩
    · have d2 : ((mag b : Int) == 9218868437227405312) = false := by rw [beq_eq_false_iff_ne]; unfold INF at h2; omega
      by_cases h3 : mag b = 0
      · have d3 : ((mag b : Int) == 0) = true := by rw [beq_iff_eq]; omega
        cases hg : neg b
        · rw [hg] at e1
          have HV := Lib.hid (show cls b = 5 by (rw [HC.out, if_neg h1, if_neg h2, if_pos h3, hg] <;> rfl))
          go_wp2_with fail
          go_ret
          exact ⟨by rw [HV.out]; rfl, rfl⟩
        · rw [hg] at e1
          have HV := Lib.hid (show cls b = 4 by (rw [HC.out, if_neg h1, if_neg h2, if_pos h3, hg] <;> rfl))
          go_wp2_with fail
          go_ret
          exact ⟨by rw [HV.out]; rfl, rfl⟩
      · have d3 : ((mag b : Int) == 0) = false := by rw [beq_eq_false_iff_ne]; omega
        cases hg : neg b
        · rw [hg] at e1
          have HV := Lib.hid (show cls b = 6 by (rw [HC.out, if_neg h1, if_neg h2, if_neg h3, hg] <;> rfl))
          go_wp2_with fail
          go_ret
          exact ⟨by rw [HV.out]; rfl, rfl⟩
        · rw [hg] at e1
          have HV := Lib.hid (show cls b = 3 by (rw [HC.out, if_neg h1, if_neg h2, if_neg h3, hg] <;> rfl))
          go_wp2_with fail
          go_ret
          exact ⟨by rw [HV.out]; rfl, rfl⟩
theorem good_test (b : Nat) : decide ((4 : Int) ≤ (cls b : Int)) = good b := by
  unfold good
  rw [Bool.eq_iff_iff, decide_eq_true_iff, decide_eq_true_iff]; omega
set_option maxHeartbeats 1000000 in
theorem good_any (b : Nat) (w : World) (hb : b < 18446744073709551616) : Calls Tryd.prog 31 #[.float .f64 b] w fun e w' => e = .returned (.bool (good b)) ∧ w = w' := by
  have HV := Lib.hid (good_test b)
  go_enter Tryd.func31, Tryd.ntmps31
  go_wp2_with fail
  refine (class_any b w hb).mono ?_
  rintro e w' ⟨rfl, rfl⟩
  go_wp2_with fail
  go_ret
  exact ⟨by rw [← HV.out]; rfl, rfl⟩
set_option maxHeartbeats 1000000 in
theorem goodR_any (b : Nat) (w : World) (hb : b < 18446744073709551616) : Calls Tryd.prog 44 #[.float .f64 b] w fun e w' => e = .returned (.bool (good b)) ∧ w = w' := by
  have HV := Lib.hid (good_test b)
  go_enter Tryd.func44, Tryd.ntmps44
  go_wp2_with fail
  refine (classR_any b w hb).mono ?_
  rintro e w' ⟨rfl, rfl⟩
  go_wp2_with fail
  go_ret
  exact ⟨by rw [← HV.out]; rfl, rfl⟩
set_option maxHeartbeats 1000000 in
theorem within_any (a : Int) (b : Nat) (w : World) (hb : b < 18446744073709551616) : Calls Tryd.prog 13 #[.int .i64 a, .float .f64 b] w fun e w' => e = .returned (.bool (withinP a b)) ∧ w = w' := by
  go_enter Tryd.func13, Tryd.ntmps13
  cases hg : good b
  · have HV := Lib.hid (show withinP a b = false by unfold withinP; rw [hg]; rfl)
    go_wp2_with fail
    refine (good_any b w hb).mono ?_
    rintro e w' ⟨rfl, rfl⟩
    rw [hg]
    clear hg
    go_wp2_with fail
    go_ret
    exact ⟨by rw [HV.out]; rfl, rfl⟩
  · by_cases ha : 0 ≤ a
    · have HV := Lib.hid (show withinP a b = lt (floatOfInt .f64 a) b by unfold withinP; rw [hg, decide_eq_true ha]; rfl)
      have da : decide (0 ≤ a) = true := decide_eq_true ha
      clear ha
      go_wp2_with fail
      refine (good_any b w hb).mono ?_
      rintro e w' ⟨rfl, rfl⟩
      rw [hg]
      clear hg
      go_wp2_with fail
      go_ret
      exact ⟨by rw [HV.out]; rfl, rfl⟩
    · have HV := Lib.hid (show withinP a b = false by unfold withinP; rw [hg, decide_eq_false ha]; rfl)
      have da : decide (0 ≤ a) = false := decide_eq_false ha
      clear ha
      go_wp2_with fail
      refine (good_any b w hb).mono ?_
      rintro e w' ⟨rfl, rfl⟩
      rw [hg]
      clear hg
      go_wp2_with fail
      go_ret
      exact ⟨by rw [HV.out]; rfl, rfl⟩
set_option maxHeartbeats 1000000 in
theorem withinR_any (a : Int) (b : Nat) (w : World) (hb : b < 18446744073709551616) : Calls Tryd.prog 30 #[.int .i64 a, .float .f64 b] w fun e w' => e = .returned (.bool (withinP a b)) ∧ w = w' := by
  go_enter Tryd.func30, Tryd.ntmps30
  cases hg : good b
  · have HV := Lib.hid (show withinP a b = false by unfold withinP; rw [hg]; rfl)
    go_wp2_with fail
    refine (goodR_any b w hb).mono ?_
    rintro e w' ⟨rfl, rfl⟩
    rw [hg]
    clear hg
    go_wp2_with fail
    go_ret
    exact ⟨by rw [HV.out]; rfl, rfl⟩
  · by_cases ha : 0 ≤ a
    · have HV := Lib.hid (show withinP a b = lt (floatOfInt .f64 a) b by unfold withinP; rw [hg, decide_eq_true ha]; rfl)
      have da : decide (0 ≤ a) = true := decide_eq_true ha
      clear ha
      go_wp2_with fail
      refine (goodR_any b w hb).mono ?_
      rintro e w' ⟨rfl, rfl⟩
      rw [hg]
      clear hg
      go_wp2_with fail
      go_ret
      exact ⟨by rw [HV.out]; rfl, rfl⟩
    · have HV := Lib.hid (show withinP a b = false by unfold withinP; rw [hg, decide_eq_false ha]; rfl)
      have da : decide (0 ≤ a) = false := decide_eq_false ha
      clear ha
      go_wp2_with fail
      refine (goodR_any b w hb).mono ?_
      rintro e w' ⟨rfl, rfl⟩
      rw [hg]
      clear hg
      go_wp2_with fail
      go_ret
      exact ⟨by rw [HV.out]; rfl, rfl⟩
end Flt
end Go.Proofs.YtcfdlfedmbmidaaDoor
