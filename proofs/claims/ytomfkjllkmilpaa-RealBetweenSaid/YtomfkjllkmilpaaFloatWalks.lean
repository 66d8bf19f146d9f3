/- The walks of the classes of numbers. -/
import Derived.Test.YtomfkjllkmilpaaRows
import Derived.Test.YtomfkjllkmilpaaFloatPlain
import Derived.Test.YtomfkjllkmilpaaReg
import Derived.Test.YtomfkjllkmilpaaWords
import Derived.Laws.Externs
import Derived.WalkKit
import Derived.WalkSpells
import Derived.WalkLawsBesides
import Derived.BigQuiet
import Derived.BigRegion
import Derived.Deep.DeepCutAuto
import Derived.Great.Walk
import Derived.Lib.Hide
set_option linter.unusedSimpArgs false
set_option linter.unusedVariables false
set_option linter.unusedSectionVars false
namespace Go.Proofs.Ytomfkjllkmilpaa
open Go.RowKit
namespace Flt
open FloatP
theorem call_bits (b : Nat) (w : World) : (callFunc 31 #[.float .f64 b]).run Try.prog w = .ok (.value (.int .u64 (b : Int))) w := by
  rw [run_callFunc_extern Try.func31 (by kernel_rfl) (by kernel_rfl) (by kernel_rfl) (e := Extern.MathFloatBits.float64bits) (by kernel_rfl)]
  rfl
theorem call_from (n : Int) (w : World) : (callFunc 39 #[.int .u64 n]).run Try.prog w = .ok (.value (.float .f64 n.toNat)) w := by
  rw [run_callFunc_extern Try.func39 (by kernel_rfl) (by kernel_rfl) (by kernel_rfl) (e := Extern.MathFloatBits.float64frombits) (by kernel_rfl)]
  rfl
attribute [local go_sem] call_bits call_from
theorem unary_neg_float (b : Nat) : Op.unary .neg (.float .f64 b) = pure (.float .f64 (turned b)) := rfl
attribute [local go_sem] unary_neg_float
set_option maxHeartbeats 1000000 in
theorem isnan_any (b : Nat) (w : World) : Calls Try.prog 14 #[.float .f64 b] w fun e w' => e = .returned (.bool (isNan b)) ∧ w = w' := by
  go_enter Try.func14, Try.ntmps14
  go_wp2
  go_ret
  exact ⟨ret_bool (nan_test b), rfl⟩
set_option maxHeartbeats 1000000 in
theorem signbit_any (b : Nat) (w : World) (hb : b < 18446744073709551616) : Calls Try.prog 38 #[.float .f64 b] w fun e w' => e = .returned (.bool (neg b)) ∧ w = w' := by
  go_enter Try.func38, Try.ntmps38
  go_wp2
  go_ret
  refine ⟨ret_bool ?_, rfl⟩
  unfold neg wrap64
  rw [Bool.eq_iff_iff, decide_eq_true_iff, beq_iff_eq]
  omega
set_option maxHeartbeats 1000000 in
theorem isinf_below (b : Nat) (w : World) : Calls Try.prog 37 #[.float .f64 b, .int .i64 (-1)] w fun e w' => e = .returned (.bool (neg b && mag b == INF)) ∧ w = w' := by
  go_enter Try.func37, Try.ntmps37
  go_wp2
  go_ret
  exact ⟨ret_bool ((gt_max (turned b)).trans (by rw [mag_turned, neg_turned, Bool.not_not])), rfl⟩
set_option maxHeartbeats 1000000 in
theorem isinf_above (b : Nat) (w : World) : Calls Try.prog 37 #[.float .f64 b, .int .i64 1] w fun e w' => e = .returned (.bool (!neg b && mag b == INF)) ∧ w = w' := by
  go_enter Try.func37, Try.ntmps37
  go_wp2
  go_ret
  exact ⟨ret_bool (gt_max b), rfl⟩
set_option maxHeartbeats 2000000 in
theorem class_any (b : Nat) (w : World) (hb : b < 18446744073709551616) : Calls Try.prog 15 #[.float .f64 b] w fun e w' => e = .returned (.int .i64 (cls b : Int)) ∧ w = w' := by
  have t1 : (FloatKind.f64.format.order b 0 == some .lt) = _ := lt_zero b
  have t2 : (FloatKind.f64.format.order b 0 == some .gt) = _ := gt_zero b
  have hm := mag_lt b
  have hcls : cls b = if INF < mag b then 1 else if mag b = INF then (if neg b then 2 else 7) else if mag b = 0 then (if neg b then 4 else 5) else if neg b then 3 else 6 := rfl
  have HC := Lib.hid hcls
  clear hcls
  go_enter Try.func15, Try.ntmps15
  go_wp2_with fail
  refine (isnan_any b w).mono ?_
  rintro e w' ⟨rfl, rfl⟩
  by_cases h1 : INF < mag b
  · have hn : isNan b = true := by simp [isNan, h1]
    rw [hn]
    clear t1 t2
    have HV := Lib.hid (show cls b = 1 by (rw [HC.out, if_pos h1] <;> rfl))
    go_wp2_with fail
    go_ret
    exact ⟨by rw [HV.out]; rfl, rfl⟩
  · have hn : isNan b = false := by simp [isNan]; omega
    rw [hn]
    go_wp2_with fail
    refine (isinf_below b w).mono ?_
    rintro e w' ⟨rfl, rfl⟩
    by_cases h2 : mag b = INF
    · have hq : (mag b == INF) = true := by rw [beq_iff_eq]; exact h2
      rw [hq]
      cases hg : neg b
      · simp only [Bool.false_and]
        go_wp2_with fail
        refine (isinf_above b w).mono ?_
        rintro e w' ⟨rfl, rfl⟩
        rw [hq, hg]
        simp only [Bool.not_false, Bool.true_and]
        clear t1 t2
        have HV := Lib.hid (show cls b = 7 by (rw [HC.out, if_neg h1, if_pos h2, hg] <;> rfl))
        go_wp2_with fail
        go_ret
        exact ⟨by rw [HV.out]; rfl, rfl⟩
      · simp only [Bool.true_and]
        clear t1 t2
        have HV := Lib.hid (show cls b = 2 by (rw [HC.out, if_neg h1, if_pos h2, hg] <;> rfl))
        go_wp2_with fail
        go_ret
        exact ⟨by rw [HV.out]; rfl, rfl⟩
    · have hq : (mag b == INF) = false := by rw [beq_eq_false_iff_ne]; exact h2
      have hle : mag b ≤ INF := by omega
      rw [hq]
      simp only [Bool.and_false]
      go_wp2_with fail
      refine (isinf_above b w).mono ?_
      rintro e w' ⟨rfl, rfl⟩
      rw [hq]
      simp only [Bool.and_false]
      by_cases h3 : mag b = 0
      · simp only [h3, ne_eq, not_true_eq_false, decide_false, Bool.false_and, Bool.and_false] at t1 t2
        go_wp2_with fail
        refine (signbit_any b w hb).mono ?_
        rintro e w' ⟨rfl, rfl⟩
        cases hg : neg b
        · have HV := Lib.hid (show cls b = 5 by (rw [HC.out, if_neg h1, if_neg h2, if_pos h3, hg] <;> rfl))
          go_wp2_with fail
          go_ret
          exact ⟨by rw [HV.out]; rfl, rfl⟩
        · have HV := Lib.hid (show cls b = 4 by (rw [HC.out, if_neg h1, if_neg h2, if_pos h3, hg] <;> rfl))
          go_wp2_with fail
          go_ret
          exact ⟨by rw [HV.out]; rfl, rfl⟩
      · simp only [h3, hle, ne_eq, not_false_eq_true, decide_true, Bool.true_and] at t1 t2
        cases hg : neg b
        · rw [hg] at t1 t2
          simp only [Bool.not_false] at t2
          have HV := Lib.hid (show cls b = 6 by (rw [HC.out, if_neg h1, if_neg h2, if_neg h3, hg] <;> rfl))
          go_wp2_with fail
          go_ret
          exact ⟨by rw [HV.out]; rfl, rfl⟩
        · rw [hg] at t1 t2
          clear t2
          have HV := Lib.hid (show cls b = 3 by (rw [HC.out, if_neg h1, if_neg h2, if_neg h3, hg] <;> rfl))
          go_wp2_with fail
          go_ret
          exact ⟨by rw [HV.out]; rfl, rfl⟩
theorem class_calls {b : Nat} {w : World} {R : Ending → World → Prop} (hb : b < 18446744073709551616) (h : R (.returned (.int .i64 (cls b : Int))) w) : Calls Try.prog 15 #[.float .f64 b] w R :=
  (class_any b w hb).mono fun e w' ⟨he, hw⟩ => by subst he hw; exact h
set_option maxHeartbeats 1000000 in
theorem clean_any (b : Nat) (w : World) (hb : b < 18446744073709551616) : Calls Try.prog 19 #[.float .f64 b] w fun e w' => e = .returned (.float .f64 (clean b)) ∧ w = w' := by
  go_enter Try.func19, Try.ntmps19
  go_wp2_with fail
  refine (class_any b w hb).mono ?_
  rintro e w' ⟨rfl, rfl⟩
  by_cases h1 : cls b = 1
  · have HV := Lib.hid (show clean b = 9221120237041090560 by unfold clean; rw [if_pos h1])
    rw [h1]
    clear h1
    go_wp2_with fail
    go_ret
    exact ⟨by rw [HV.out]; rfl, rfl⟩
  · have d1 : ((cls b : Int) == 1) = false := by rw [beq_eq_false_iff_ne]; omega
    by_cases h4 : cls b = 4
    · have HV := Lib.hid (show clean b = 0 by unfold clean; rw [if_neg h1, if_pos h4])
      rw [h4]
      clear h4 h1 d1
      go_wp2_with fail
      go_ret
      exact ⟨by rw [HV.out]; rfl, rfl⟩
    · have d4 : ((cls b : Int) == 4) = false := by rw [beq_eq_false_iff_ne]; omega
      have HV := Lib.hid (show clean b = b by unfold clean; rw [if_neg h1, if_neg h4])
      clear h4 h1
      generalize cls b = c at *
      go_wp2_with fail
      go_ret
      exact ⟨by rw [HV.out]; rfl, rfl⟩
set_option maxHeartbeats 1000000 in
theorem less_any (a b : Nat) (w : World) (ha : a < 18446744073709551616) (hb : b < 18446744073709551616) : Calls Try.prog 12 #[.float .f64 a, .float .f64 b] w fun e w' => e = .returned (.bool (less a b)) ∧ w = w' := by
  go_enter Try.func12, Try.ntmps12
  go_wp2_with fail
  refine (class_any a w ha).mono ?_
  rintro e w' ⟨rfl, rfl⟩
  go_wp2_with fail
  refine (class_any b w hb).mono ?_
  rintro e w' ⟨rfl, rfl⟩
  by_cases h : cls a = cls b
  · have HV := Lib.hid (show less a b = (FloatKind.f64.format.order a b == some .lt) by unfold less; rw [if_neg (by omega)]; rfl)
    rw [h]
    clear h
    generalize cls b = c at *
    go_wp2_with fail
    go_ret
    exact ⟨by rw [HV.out]; rfl, rfl⟩
  · have HV := Lib.hid (show less a b = decide (cls a < cls b) by unfold less; rw [if_pos h])
    have d1 : ((cls a : Int) != (cls b : Int)) = true := by rw [bne_iff_ne]; omega
    clear h
    generalize cls b = c at *
    generalize cls a = d at *
    go_wp2_with fail
    go_ret
    exact ⟨by rw [HV.out]; rfl, rfl⟩
set_option maxHeartbeats 1000000 in
theorem same_any (a b : Nat) (w : World) (ha : a < 18446744073709551616) (hb : b < 18446744073709551616) : Calls Try.prog 13 #[.float .f64 a, .float .f64 b] w fun e w' => e = .returned (.bool (same a b)) ∧ w = w' := by
  have HV := Lib.hid (show same a b = (!less a b && !less b a) from rfl)
  go_enter Try.func13, Try.ntmps13
  go_wp2_with fail
  refine (less_any a b w ha hb).mono ?_
  rintro e w' ⟨rfl, rfl⟩
  cases h : less a b
  · rw [h] at HV
    clear h
    go_wp2_with fail
    refine (less_any b a w hb ha).mono ?_
    rintro e w' ⟨rfl, rfl⟩
    go_wp2_with fail
    go_ret
    exact ⟨by rw [HV.out]; rfl, rfl⟩
  · rw [h] at HV
    clear h
    go_wp2_with fail
    go_ret
    exact ⟨by rw [HV.out]; rfl, rfl⟩
/-! ### the document's -/
theorem top_bit (b : Nat) (hb : b < 18446744073709551616) : ((b : Int) / 9223372036854775808 == 1) = neg b := by
  unfold neg
  rw [Bool.eq_iff_iff, beq_iff_eq, beq_iff_eq]; omega
set_option maxHeartbeats 1000000 in
theorem classR_any (b : Nat) (w : World) (hb : b < 18446744073709551616) : Calls Try.prog 16 #[.float .f64 b] w fun e w' => e = .returned (.int .i64 (cls b : Int)) ∧ w = w' := by
  have hcls : cls b = if INF < mag b then 1 else if mag b = INF then (if neg b then 2 else 7) else if mag b = 0 then (if neg b then 4 else 5) else if neg b then 3 else 6 := rfl
  have HC := Lib.hid hcls
  clear hcls
  have e1 := top_bit b hb
  have e2 : IntKind.u64.wrap ((b : Int) * 2) / 2 = (mag b : Int) := by
    rw [IntKind.wrap_u64]; unfold mag; omega
  have hml := mag_lt b
  go_enter Try.func16, Try.ntmps16
  by_cases h1 : INF < mag b
  · have d1 : decide ((9218868437227405312 : Int) < (mag b : Int)) = true := by rw [decide_eq_true_iff]; unfold INF at h1; omega
    have HV := Lib.hid (show cls b = 1 by (rw [HC.out, if_pos h1] <;> rfl))
    go_wp2_with fail
    go_ret
    exact ⟨by rw [HV.out]; rfl, rfl⟩
  · have d1 : decide ((9218868437227405312 : Int) < (mag b : Int)) = false := by rw [decide_eq_false_iff_not]; unfold INF at h1; omega
    by_cases h2 : mag b = INF
    · have d2 : ((mag b : Int) == 9218868437227405312) = true := by rw [beq_iff_eq]; unfold INF at h2; omega
      cases hg : neg b
      · rw [hg] at e1
        have HV := Lib.hid (show cls b = 7 by (rw [HC.out, if_neg h1, if_pos h2, hg] <;> rfl))
        go_wp2_with fail
        go_ret
        exact ⟨by rw [HV.out]; rfl, rfl⟩
      · rw [hg] at e1
        have HV := Lib.hid (show cls b = 2 by (rw [HC.out, if_neg h1, if_pos h2, hg] <;> rfl))
        go_wp2_with fail
        go_ret
        exact ⟨by rw [HV.out]; rfl, rfl⟩
    · have d2 : ((mag b : Int) == 9218868437227405312) = false := by rw [beq_eq_false_iff_ne]; unfold INF at h2; omega
      by_cases h3 : mag b = 0
      · have d3 : ((mag b : Int) == 0) = true := by rw [beq_iff_eq]; omega
        cases hg : neg b
        · rw [hg] at e1
          have HV := Lib.hid (show cls b = 5 by (rw [HC.out, if_neg h1, if_neg h2, if_pos h3, hg] <;> rfl))
          go_wp2_with fail
          go_ret
          exact ⟨by rw [HV.out]; rfl, rfl⟩
        · rw [hg] at e1
          have HV := Lib.hid (show cls b = 4 by (rw [HC.out, if_neg h1, if_neg h2, if_pos h3, hg] <;> rfl))
          go_wp2_with fail
          go_ret
          exact ⟨by rw [HV.out]; rfl, rfl⟩
      · have d3 : ((mag b : Int) == 0) = false := by rw [beq_eq_false_iff_ne]; omega
        cases hg : neg b
        · rw [hg] at e1
          have HV := Lib.hid (show cls b = 6 by (rw [HC.out, if_neg h1, if_neg h2, if_neg h3, hg] <;> rfl))
          go_wp2_with fail
          go_ret
          exact ⟨by rw [HV.out]; rfl, rfl⟩
        · rw [hg] at e1
          have HV := Lib.hid (show cls b = 3 by (rw [HC.out, if_neg h1, if_neg h2, if_neg h3, hg] <;> rfl))
          go_wp2_with fail
          go_ret
          exact ⟨by rw [HV.out]; rfl, rfl⟩
theorem nanR_any (w : World) : Calls Try.prog 40 #[] w fun e w' => e = .returned (.float .f64 9221120237041090560) ∧ w = w' := by
  go_enter Try.func40, Try.ntmps40
  go_wp2_with fail
  go_ret
  exact ⟨rfl, rfl⟩
theorem nan_any (w : World) : Calls Try.prog 34 #[] w fun e w' => e = .returned (.float .f64 9221120237041090561) ∧ w = w' := by
  go_enter Try.func34, Try.ntmps34
  go_wp2_with fail
  go_ret
  exact ⟨rfl, rfl⟩
set_option maxHeartbeats 1000000 in
theorem lessR_any (a b : Nat) (w : World) (ha : a < 18446744073709551616) (hb : b < 18446744073709551616) : Calls Try.prog 17 #[.float .f64 a, .float .f64 b] w fun e w' => e = .returned (.bool (less a b)) ∧ w = w' := by
  go_enter Try.func17, Try.ntmps17
  go_wp2_with fail
  refine (classR_any a w ha).mono ?_
  rintro e w' ⟨rfl, rfl⟩
  go_wp2_with fail
  refine (classR_any b w hb).mono ?_
  rintro e w' ⟨rfl, rfl⟩
  by_cases h : cls a = cls b
  · have hv : less a b = if cls a = 3 then decide (b < a) else (cls a == 6 && decide (a < b)) := by
      unfold less; rw [if_neg (by omega), lt_same ha hb h]
    rw [h] at hv ⊢
    have HV := Lib.hid hv
    clear hv h
    generalize cls b = c at *
    by_cases h3 : c = 3
    · subst h3
      go_wp2_with fail
      go_ret
      exact ⟨by rw [HV.out]; rfl, rfl⟩
    · have d3 : ((c : Int) == 3) = false := by rw [beq_eq_false_iff_ne]; omega
      by_cases h6 : c = 6
      · subst h6
        clear d3
        go_wp2_with fail
        go_ret
        exact ⟨by rw [HV.out]; simp, rfl⟩
      · have d6 : ((c : Int) == 6) = false := by rw [beq_eq_false_iff_ne]; omega
        have HV2 := Lib.hid (show less a b = false by rw [HV.out, if_neg h3]; simp [h6])
        clear HV h3 h6
        go_wp2_with fail
        go_ret
        exact ⟨by rw [HV2.out]; rfl, rfl⟩
  · have HV := Lib.hid (show less a b = decide (cls a < cls b) by unfold less; rw [if_pos h])
    have d1 : ((cls a : Int) != (cls b : Int)) = true := by rw [bne_iff_ne]; omega
    clear h
    generalize cls b = c at *
    generalize cls a = d at *
    go_wp2_with fail
    go_ret
    exact ⟨by rw [HV.out]; rfl, rfl⟩
set_option maxHeartbeats 1000000 in
theorem cleanR_any (b : Nat) (w : World) (hb : b < 18446744073709551616) : Calls Try.prog 20 #[.float .f64 b] w fun e w' => e = .returned (.float .f64 (clean b)) ∧ w = w' := by
  go_enter Try.func20, Try.ntmps20
  go_wp2_with fail
  refine (classR_any b w hb).mono ?_
  rintro e w' ⟨rfl, rfl⟩
  by_cases h1 : cls b = 1
  · have HV := Lib.hid (show clean b = 9221120237041090560 by unfold clean; rw [if_pos h1])
    rw [h1]
    clear h1
    go_wp2_with fail
    refine (nanR_any w).mono ?_
    rintro e w' ⟨rfl, rfl⟩
    go_wp2_with fail
    go_ret
    exact ⟨by rw [HV.out]; rfl, rfl⟩
  · have d1 : ((cls b : Int) == 1) = false := by rw [beq_eq_false_iff_ne]; omega
    by_cases h4 : cls b = 4
    · have HV := Lib.hid (show clean b = 0 by unfold clean; rw [if_neg h1, if_pos h4])
      rw [h4]
      clear h4 h1 d1
      go_wp2_with fail
      go_ret
      exact ⟨by rw [HV.out]; rfl, rfl⟩
    · have d4 : ((cls b : Int) == 4) = false := by rw [beq_eq_false_iff_ne]; omega
      have HV := Lib.hid (show clean b = b by unfold clean; rw [if_neg h1, if_neg h4])
      clear h4 h1
      generalize cls b = c at *
      go_wp2_with fail
      go_ret
      exact ⟨by rw [HV.out]; rfl, rfl⟩
/-- alike numbers -/
theorem alikeR_same (b : Nat) (w : World) : Calls Try.prog 18 #[.float .f64 b, .float .f64 b] w fun e w' => e = .returned (.bool true) ∧ w = w' := by
  go_enter Try.func18, Try.ntmps18
  go_wp2_with fail
  go_ret
  exact ⟨rfl, rfl⟩
end Flt
end Go.Proofs.Ytomfkjllkmilpaa
