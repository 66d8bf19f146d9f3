/- The walks of the classes of numbers. -/
import Derived.Test.YtglnefmaphajaaaDoorRows
import Derived.Test.YtglnefmaphajaaaDoorFloatPlain
import Derived.Test.YtglnefmaphajaaaDoorReg
import Derived.Test.YtglnefmaphajaaaDoorWords
import Derived.Laws.Externs
import Derived.WalkKit
import Derived.WalkSpells
import Derived.WalkLawsBesides
import Derived.BigQuiet
import Derived.BigRegion
import Derived.Deep.DeepCutAuto
import Derived.Great.Walk
import Derived.Lib.Hide
set_option linter.unusedSimpArgs false
set_option linter.unusedVariables false
set_option linter.unusedSectionVars false
namespace Go.Proofs.YtglnefmaphajaaaDoor
open Go.RowKit
namespace Flt
open FloatP
theorem call_bits (b : Nat) (w : World) : (callFunc 32 #[.float .f64 b]).run Tryd.prog w = .ok (.value (.int .u64 (b : Int))) w := by
  rw [run_callFunc_extern Tryd.func32 (by kernel_rfl) (by kernel_rfl) (by kernel_rfl) (e := Extern.MathFloatBits.float64bits) (by kernel_rfl)]
  rfl
theorem call_from (n : Int) (w : World) : (callFunc 42 #[.int .u64 n]).run Tryd.prog w = .ok (.value (.float .f64 n.toNat)) w := by
  rw [run_callFunc_extern Tryd.func42 (by kernel_rfl) (by kernel_rfl) (by kernel_rfl) (e := Extern.MathFloatBits.float64frombits) (by kernel_rfl)]
  rfl
attribute [local go_sem] call_bits call_from
theorem unary_neg_float (b : Nat) : Op.unary .neg (.float .f64 b) = pure (.float .f64 (turned b)) := rfl
attribute [local go_sem] unary_neg_float
set_option maxHeartbeats 1000000 in
theorem isnan_any (b : Nat) (w : World) : Calls Tryd.prog 21 #[.float .f64 b] w fun e w' => e = .returned (.bool (isNan b)) ∧ w = w' := by
  go_enter Tryd.func21, Tryd.ntmps21
  go_wp2
  go_ret
  exact ⟨ret_bool (nan_test b), rfl⟩
set_option maxHeartbeats 1000000 in
theorem signbit_any (b : Nat) (w : World) (hb : b < 18446744073709551616) : Calls Tryd.prog 23 #[.float .f64 b] w fun e w' => e = .returned (.bool (neg b)) ∧ w = w' := by
  go_enter Tryd.func23, Tryd.ntmps23
  go_wp2
  go_ret
  refine ⟨ret_bool ?_, rfl⟩
  unfold neg wrap64
  rw [Bool.eq_iff_iff, decide_eq_true_iff, beq_iff_eq]
  omega
set_option maxHeartbeats 1000000 in
theorem isinf_below (b : Nat) (w : World) : Calls Tryd.prog 22 #[.float .f64 b, .int .i64 (-1)] w fun e w' => e = .returned (.bool (neg b && mag b == INF)) ∧ w = w' := by
  go_enter Tryd.func22, Tryd.ntmps22
  go_wp2
  go_ret
  exact ⟨ret_bool ((gt_max (turned b)).trans (by rw [mag_turned, neg_turned, Bool.not_not])), rfl⟩
set_option maxHeartbeats 1000000 in
theorem isinf_above (b : Nat) (w : World) : Calls Tryd.prog 22 #[.float .f64 b, .int .i64 1] w fun e w' => e = .returned (.bool (!neg b && mag b == INF)) ∧ w = w' := by
  go_enter Tryd.func22, Tryd.ntmps22
  go_wp2
  go_ret
  exact ⟨ret_bool (gt_max b), rfl⟩
set_option maxHeartbeats 2000000 in
theorem class_any (b : Nat) (w : World) (hb : b < 18446744073709551616) : Calls Tryd.prog 10 #[.float .f64 b] w fun e w' => e = .returned (.int .i64 (cls b : Int)) ∧ w = w' := by
  have t1 : (FloatKind.f64.format.order b 0 == some .lt) = _ := lt_zero b
  have t2 : (FloatKind.f64.format.order b 0 == some .gt) = _ := gt_zero b
  have hm := mag_lt b
  have hcls : cls b = if INF < mag b then 1 else if mag b = INF then (if neg b then 2 else 7) else if mag b = 0 then (if neg b then 4 else 5) else if neg b then 3 else 6 := rfl
  have HC := Lib.hid hcls
  clear hcls
  go_enter Tryd.func10, Tryd.ntmps10
  go_wp2_with fail
  refine (isnan_any b w).mono ?_
  rintro e w' ⟨rfl, rfl⟩
  by_cases h1 : INF < mag b
  · have hn : isNan b = true := by simp [isNan, h1]
    rw [hn]
    clear t1 t2
    have HV := Lib.hid (show cls b = 1 by (rw [HC.out, if_pos h1] <;> rfl))
    go_wp2_with fail
    go_ret
    exact ⟨by rw [HV.out]; rfl, rfl⟩
  · have hn : isNan b = false := by simp [isNan]; omega
    rw [hn]
    go_wp2_with fail
    refine (isinf_below b w).mono ?_
    rintro e w' ⟨rfl, rfl⟩
    by_cases h2 : mag b = INF
    · have hq : (mag b == INF) = true := by rw [beq_iff_eq]; exact h2
      rw [hq]
      cases hg : neg b
      · simp only [Bool.false_and]
        go_wp2_with fail
        refine (isinf_above b w).mono ?_
        rintro e w' ⟨rfl, rfl⟩
        rw [hq, hg]
        simp only [Bool.not_false, Bool.true_and]
        clear t1 t2
        have HV := Lib.hid (show cls b = 7 by (rw [HC.out, if_neg h1, if_pos h2, hg] <;> rfl))
        go_wp2_with fail
        go_ret
        exact ⟨by rw [HV.out]; rfl, rfl⟩
      · simp only [Bool.true_and]
        clear t1 t2
        have HV := Lib.hid (show cls b = 2 by (rw [HC.out, if_neg h1, if_pos h2, hg] <;> rfl))
        go_wp2_with fail
        go_ret
        exact ⟨by rw [HV.out]; rfl, rfl⟩
    · have hq : (mag b == INF) = false := by rw [beq_eq_false_iff_ne]; exact h2
      have hle : mag b ≤ INF := by omega
      rw [hq]
      simp only [Bool.and_false]
      go_wp2_with fail
      refine (isinf_above b w).mono ?_
      rintro e w' ⟨rfl, rfl⟩
      rw [hq]
      simp only [Bool.and_false]
      by_cases h3 : mag b = 0
      · simp only [h3, ne_eq, not_true_eq_false, decide_false, Bool.false_and, Bool.and_false] at t1 t2
        go_wp2_with fail
        refine (signbit_any b w hb).mono ?_
        rintro e w' ⟨rfl, rfl⟩
        cases hg : neg b
        · have HV := Lib.hid (show cls b = 5 by (rw [HC.out, if_neg h1, if_neg h2, if_pos h3, hg] <;> rfl))
          go_wp2_with fail
          go_ret
          exact ⟨by rw [HV.out]; rfl, rfl⟩
        · have HV := Lib.hid (show cls b = 4 by (rw [HC.out, if_neg h1, if_neg h2, if_pos h3, hg] <;> rfl))
          go_wp2_with fail
          go_ret
          exact ⟨by rw [HV.out]; rfl, rfl⟩
      · simp only [h3, hle, ne_eq, not_false_eq_true, decide_true, Bool.true_and] at t1 t2
        cases hg : neg b
        · rw [hg] at t1 t2
          simp only [Bool.not_false] at t2
          have HV := Lib.hid (show cls b = 6 by (rw [HC.out, if_neg h1, if_neg h2, if_neg h3, hg] <;> rfl))
          go_wp2_with fail
          go_ret
          exact ⟨by rw [HV.out]; rfl, rfl⟩
        · rw [hg] at t1 t2
          clear t2
          have HV := Lib.hid (show cls b = 3 by (rw [HC.out, if_neg h1, if_neg h2, if_neg h3, hg] <;> rfl))
          go_wp2_with fail
          go_ret
          exact ⟨by rw [HV.out]; rfl, rfl⟩
theorem class_calls {b : Nat} {w : World} {R : Ending → World → Prop} (hb : b < 18446744073709551616) (h : R (.returned (.int .i64 (cls b : Int))) w) : Calls Tryd.prog 10 #[.float .f64 b] w R :=
  (class_any b w hb).mono fun e w' ⟨he, hw⟩ => by subst he hw; exact h
set_option maxHeartbeats 1000000 in
theorem clean_any (b : Nat) (w : World) (hb : b < 18446744073709551616) : Calls Tryd.prog 47 #[.float .f64 b] w fun e w' => e = .returned (.float .f64 (clean b)) ∧ w = w' := by
  go_enter Tryd.func47, Tryd.ntmps47
  go_wp2_with fail
  refine (class_any b w hb).mono ?_
  rintro e w' ⟨rfl, rfl⟩
  by_cases h1 : cls b = 1
  · have HV := Lib.hid (show clean b = 9221120237041090560 by unfold clean; rw [if_pos h1])
    rw [h1]
    clear h1
    go_wp2_with fail
    go_ret
    exact ⟨by rw [HV.out]; rfl, rfl⟩
  · have d1 : ((cls b : Int) == 1) = false := by rw [beq_eq_false_iff_ne]; omega
    by_cases h4 : cls b = 4
    · have HV := Lib.hid (show clean b = 0 by unfold clean; rw [if_neg h1, if_pos h4])
      rw [h4]
      clear h4 h1 d1
      go_wp2_with fail
      go_ret
      exact ⟨by rw [HV.out]; rfl, rfl⟩
    · have d4 : ((cls b : Int) == 4) = false := by rw [beq_eq_false_iff_ne]; omega
      have HV := Lib.hid (show clean b = b by unfold clean; rw [if_neg h1, if_neg h4])
      clear h4 h1
      generalize cls b = c at *
      go_wp2_with fail
      go_ret
      exact ⟨by rw [HV.out]; rfl, rfl⟩
set_option maxHeartbeats 1000000 in
theorem less_any (a b : Nat) (w : World) (ha : a < 18446744073709551616) (hb : b < 18446744073709551616) : Calls Tryd.prog 14 #[.float .f64 a, .float .f64 b] w fun e w' => e = .returned (.bool (less a b)) ∧ w = w' := by
  go_enter Tryd.func14, Tryd.ntmps14
  go_wp2_with fail
  refine (class_any a w ha).mono ?_
  rintro e w' ⟨rfl, rfl⟩
  go_wp2_with fail
  refine (class_any b w hb).mono ?_
  rintro e w' ⟨rfl, rfl⟩
  by_cases h : cls a = cls b
  · have HV := Lib.hid (show less a b = (FloatKind.f64.format.order a b == some .lt) by unfold less; rw [if_neg (by omega)]; rfl)
    rw [h]
    clear h
    generalize cls b = c at *
    go_wp2_with fail
    go_ret
    exact ⟨by rw [HV.out]; rfl, rfl⟩
  · have HV := Lib.hid (show less a b = decide (cls a < cls b) by unfold less; rw [if_pos h])
    have d1 : ((cls a : Int) != (cls b : Int)) = true := by rw [bne_iff_ne]; omega
    clear h
    generalize cls b = c at *
    generalize cls a = d at *
    go_wp2_with fail
    go_ret
    exact ⟨by rw [HV.out]; rfl, rfl⟩
theorem nan_any (w : World) : Calls Tryd.prog 48 #[] w fun e w' => e = .returned (.float .f64 9221120237041090561) ∧ w = w' := by
  go_enter Tryd.func48, Tryd.ntmps48
  go_wp2_with fail
  go_ret
  exact ⟨rfl, rfl⟩
end Flt
end Go.Proofs.YtglnefmaphajaaaDoor
