/- Package term: Good, Within, Ceil, Ends; the document's Good, Within. -/
import Derived.Test.YtbppjbheennphaaTermRatio
import Derived.Test.YtbppjbheennphaaTermV
set_option linter.unusedSimpArgs false
set_option linter.unusedVariables false
set_option linter.unusedSectionVars false
namespace Go.Proofs.Ytbppjbheennphaa
open Go.RowKit
namespace FloatP
open Ieee
def withinP (a : Int) (b : Nat) : Bool := good b && (decide (0 ≤ a) && lt (floatOfInt .f64 a) b)
def T40 : Nat := 4787326403894837248
def T20 : Nat := 4697254411347427328
theorem T40_eq : T40 = tick 1099511627776 := by decide +kernel
theorem T20_eq : T20 = tick 1048576 := by decide +kernel
theorem V_T40 : V T40 = 1099511627776 * U := by rw [T40_eq]; exact (tick_spec (by decide)).2
theorem V_T20 : V T20 = 1048576 * U := by rw [T20_eq]; exact (tick_spec (by decide)).2
/-- a tick ends behind a span -/
def endsP (a : Int) (b : Nat) : Int × Bool := if good b = true ∧ 0 ≤ a ∧ a ≤ 1099511627776 ∧ mag b ≤ T40 ∧ a + (ceilN (mag b) : Int) ≤ 1099511627776 then (a + (ceilN (mag b) : Int), true) else (0, false)
def endsV (a : Int) (b : Nat) : Value := .tuple #[.int .i64 (endsP a b).1, .bool (endsP a b).2]
theorem gt_T40 {b : Nat} (hg : good b = true) (hb : b < 18446744073709551616) : (double.order b 4787326403894837248 == some .gt) = decide (T40 < mag b) := by
  obtain ⟨g1, g2, _, _⟩ := good_spec hg hb
  have k1 : key 4787326403894837248 = (T40 : Int) := by decide
  have n1 : isNan 4787326403894837248 = false := by decide
  rw [Bool.eq_iff_iff, gt_iff, g1, g2, n1, k1, decide_eq_true_iff]
  simp
theorem ceilN_le {m : Nat} (h : m ≤ T40) : ceilN m ≤ 1099511627776 := by
  unfold ceilN
  refine (cdiv_le U_pos).2 ?_
  rw [← V_T40]
  rcases Nat.lt_or_ge m T40 with h1 | h1
  · exact Nat.le_of_lt (V_lt h1)
  · rw [show m = T40 by omega]; exact Nat.le_refl _
end FloatP
namespace Trm
open FloatP Flt
theorem call_ceil (b : Nat) (w : World) (h : isNan b = false) : (callFunc 41 #[.float .f64 b]).run Try.prog w = .ok (.value (.float .f64 (ceilB b))) w := by
  rw [run_callFunc_extern Try.func41 (by kernel_rfl) (by kernel_rfl) (by kernel_rfl) (e := Extern.MathFloor.toIntegral "math.archCeil" .up) (by kernel_rfl)]
  have hr : ∃ d, Ieee.double.read b = d ∧ ∀ s t, d ≠ .nan s t := by
    refine ⟨_, rfl, ?_⟩
    have h2 := isNan_iff.1 h
    rcases Nat.lt_or_ge (mag b) INF with h1 | h1
    · obtain ⟨m, k, hr, _⟩ := read_fin h1
      rw [hr]; intro s t h; cases h
    · rw [read_inf (by omega)]; intro s t h; cases h
  obtain ⟨d, hd, hn⟩ := hr
  have hd' : FloatKind.f64.decode b = d := hd
  have hv : ceilB b = FloatKind.f64.encode (d.integral .up) := by unfold ceilB; rw [hd]; rfl
  rw [hv]
  have H : ∀ d, FloatKind.f64.decode b = d → (∀ s t, d ≠ .nan s t) → Extern.MathFloor.toIntegral "math.archCeil" .up #[.float .f64 b] = pure (.float .f64 (FloatKind.f64.encode (d.integral .up))) := by
    intro d hd hn
    show (match FloatKind.f64.decode b with | .nan s t => _ | d => pure (.float .f64 (FloatKind.f64.encode (d.integral .up))) : Sem Value) = _
    rw [hd]
    cases d with
    | nan s t => exact absurd rfl (hn s t)
    | infinity s => rfl
    | number s m i => rfl
  rw [H d hd' hn]
  rfl
set_option maxHeartbeats 1000000 in
theorem ceil_any (b : Nat) (w : World) (h : isNan b = false) : Calls Try.prog 26 #[.float .f64 b] w fun e w' => e = .returned (.float .f64 (ceilB b)) ∧ w = w' := by
  have hc := fun W => call_ceil b W h
  clear h
  go_enter Try.func26, Try.ntmps26
  go_wp2
  go_ret
  exact ⟨rfl, rfl⟩
theorem good_test (b : Nat) : decide ((4 : Int) ≤ (cls b : Int)) = good b := by
  unfold good
  rw [Bool.eq_iff_iff, decide_eq_true_iff, decide_eq_true_iff]; omega
set_option maxHeartbeats 1000000 in
theorem good_any (b : Nat) (w : World) (hb : b < 18446744073709551616) : Calls Try.prog 11 #[.float .f64 b] w fun e w' => e = .returned (.bool (good b)) ∧ w = w' := by
  have HV := Lib.hid (good_test b)
  go_enter Try.func11, Try.ntmps11
  go_wp2_with fail
  refine (class_any b w hb).mono ?_
  rintro e w' ⟨rfl, rfl⟩
  go_wp2_with fail
  go_ret
  exact ⟨by rw [← HV.out]; rfl, rfl⟩
set_option maxHeartbeats 1000000 in
theorem goodR_any (b : Nat) (w : World) (hb : b < 18446744073709551616) : Calls Try.prog 19 #[.float .f64 b] w fun e w' => e = .returned (.bool (good b)) ∧ w = w' := by
  have HV := Lib.hid (good_test b)
  go_enter Try.func19, Try.ntmps19
  go_wp2_with fail
  refine (classR_any b w hb).mono ?_
  rintro e w' ⟨rfl, rfl⟩
  go_wp2_with fail
  go_ret
  exact ⟨by rw [← HV.out]; rfl, rfl⟩
set_option maxHeartbeats 1000000 in
theorem within_any (a : Int) (b : Nat) (w : World) (hb : b < 18446744073709551616) : Calls Try.prog 12 #[.int .i64 a, .float .f64 b] w fun e w' => e = .returned (.bool (withinP a b)) ∧ w = w' := by
  go_enter Try.func12, Try.ntmps12
  cases hg : good b
  · have HV := Lib.hid (show withinP a b = false by unfold withinP; rw [hg]; rfl)
    go_wp2_with fail
    refine (good_any b w hb).mono ?_
    rintro e w' ⟨rfl, rfl⟩
    rw [hg]
    clear hg
    go_wp2_with fail
    go_ret
    exact ⟨by rw [HV.out]; rfl, rfl⟩
  · by_cases ha : 0 ≤ a
    · have HV := Lib.hid (show withinP a b = lt (floatOfInt .f64 a) b by unfold withinP; rw [hg, decide_eq_true ha]; rfl)
      have da : decide (0 ≤ a) = true := decide_eq_true ha
      clear ha
      go_wp2_with fail
      refine (good_any b w hb).mono ?_
      rintro e w' ⟨rfl, rfl⟩
      rw [hg]
      clear hg
      go_wp2_with fail
      go_ret
      exact ⟨by rw [HV.out]; rfl, rfl⟩
    · have HV := Lib.hid (show withinP a b = false by unfold withinP; rw [hg, decide_eq_false ha]; rfl)
      have da : decide (0 ≤ a) = false := decide_eq_false ha
      clear ha
      go_wp2_with fail
      refine (good_any b w hb).mono ?_
      rintro e w' ⟨rfl, rfl⟩
      rw [hg]
      clear hg
      go_wp2_with fail
      go_ret
      exact ⟨by rw [HV.out]; rfl, rfl⟩
set_option maxHeartbeats 1000000 in
theorem withinR_any (a : Int) (b : Nat) (w : World) (hb : b < 18446744073709551616) : Calls Try.prog 20 #[.int .i64 a, .float .f64 b] w fun e w' => e = .returned (.bool (withinP a b)) ∧ w = w' := by
  go_enter Try.func20, Try.ntmps20
  cases hg : good b
  · have HV := Lib.hid (show withinP a b = false by unfold withinP; rw [hg]; rfl)
    go_wp2_with fail
    refine (goodR_any b w hb).mono ?_
    rintro e w' ⟨rfl, rfl⟩
    rw [hg]
    clear hg
    go_wp2_with fail
    go_ret
    exact ⟨by rw [HV.out]; rfl, rfl⟩
  · by_cases ha : 0 ≤ a
    · have HV := Lib.hid (show withinP a b = lt (floatOfInt .f64 a) b by unfold withinP; rw [hg, decide_eq_true ha]; rfl)
      have da : decide (0 ≤ a) = true := decide_eq_true ha
      clear ha
      go_wp2_with fail
      refine (goodR_any b w hb).mono ?_
      rintro e w' ⟨rfl, rfl⟩
      rw [hg]
      clear hg
      go_wp2_with fail
      go_ret
      exact ⟨by rw [HV.out]; rfl, rfl⟩
    · have HV := Lib.hid (show withinP a b = false by unfold withinP; rw [hg, decide_eq_false ha]; rfl)
      have da : decide (0 ≤ a) = false := decide_eq_false ha
      clear ha
      go_wp2_with fail
      refine (goodR_any b w hb).mono ?_
      rintro e w' ⟨rfl, rfl⟩
      rw [hg]
      clear hg
      go_wp2_with fail
      go_ret
      exact ⟨by rw [HV.out]; rfl, rfl⟩
set_option maxHeartbeats 2000000 in
theorem ends_any (a : Int) (b : Nat) (w : World) (hb : b < 18446744073709551616) : Calls Try.prog 10 #[.int .i64 a, .float .f64 b] w fun e w' => e = .returned (endsV a b) ∧ w = w' := by
  go_enter Try.func10, Try.ntmps10
  cases hg : good b
  · have HV := Lib.hid (show endsV a b = .tuple #[.int .i64 0, .bool false] by unfold endsV endsP; rw [if_neg (by intro h; rw [hg] at h; exact absurd h.1 (by decide))])
    go_wp2_with fail
    refine (good_any b w hb).mono ?_
    rintro e w' ⟨rfl, rfl⟩
    rw [hg]
    clear hg
    go_wp2_with fail
    go_ret2
    exact ⟨by rw [HV.out]; rfl, rfl⟩
  · by_cases h1 : a < 0
    · have HV := Lib.hid (show endsV a b = .tuple #[.int .i64 0, .bool false] by unfold endsV endsP; rw [if_neg (by intro h; omega)])
      have d1 : decide (a < 0) = true := decide_eq_true h1
      clear h1
      go_wp2_with fail
      refine (good_any b w hb).mono ?_
      rintro e w' ⟨rfl, rfl⟩
      rw [hg]
      clear hg
      go_wp2_with fail
      go_ret2
      exact ⟨by rw [HV.out]; rfl, rfl⟩
    · have d1 : decide (a < 0) = false := decide_eq_false h1
      by_cases h2 : 1099511627776 < a
      · have HV := Lib.hid (show endsV a b = .tuple #[.int .i64 0, .bool false] by unfold endsV endsP; rw [if_neg (by intro h; omega)])
        have d2 : decide ((1099511627776 : Int) < a) = true := decide_eq_true h2
        clear h1 h2
        go_wp2_with fail
        refine (good_any b w hb).mono ?_
        rintro e w' ⟨rfl, rfl⟩
        rw [hg]
        clear hg
        go_wp2_with fail
        go_ret2
        exact ⟨by rw [HV.out]; rfl, rfl⟩
      · have d2 : decide ((1099511627776 : Int) < a) = false := decide_eq_false h2
        have d3 : (FloatKind.f64.format.order b 4787326403894837248 == some .gt) = decide (T40 < mag b) := gt_T40 hg hb
        by_cases h3 : T40 < mag b
        · have HV := Lib.hid (show endsV a b = .tuple #[.int .i64 0, .bool false] by unfold endsV endsP; rw [if_neg (by intro h; omega)])
          rw [decide_eq_true h3] at d3
          clear h1 h2 h3
          go_wp2_with fail
          refine (good_any b w hb).mono ?_
          rintro e w' ⟨rfl, rfl⟩
          rw [hg]
          clear hg
          go_wp2_with fail
          go_ret2
          exact ⟨by rw [HV.out]; rfl, rfl⟩
        · rw [decide_eq_false h3] at d3
          have hle : mag b ≤ T40 := by omega
          have hc := ceilN_le hle
          have hcv : floatToIntVal .f64 (ceilB b) .i64 = some (ceilN (mag b) : Int) := ceil_bits hg hb (by omega) (by unfold T40 at hle; unfold INF; omega)
          have hcc : ∀ W, (convert 22 3 (.float .f64 (ceilB b))).run Try.prog W = .ok (.int .i64 (ceilN (mag b) : Int)) W := fun W => run_convert_float_int W 22 3 .f64 .i64 _ _ (by kernel_rfl) (by kernel_rfl) hcv
          have hnn : isNan b = false := (good_spec hg hb).1
          have HNN := Lib.hid hnn
          have hw : IntKind.i64.wrap (a + (ceilN (mag b) : Int)) = a + (ceilN (mag b) : Int) := by rw [IntKind.wrap_i64]; omega
          by_cases h4 : 1099511627776 < a + (ceilN (mag b) : Int)
          · have HV := Lib.hid (show endsV a b = .tuple #[.int .i64 0, .bool false] by unfold endsV endsP; rw [if_neg (by intro h; omega)])
            have d4 : decide ((1099511627776 : Int) < a + (ceilN (mag b) : Int)) = true := decide_eq_true h4
            clear h1 h2 h3 h4 hcv hnn hle hc
            generalize ceilN (mag b) = c at *
            go_wp2_with fail
            refine (good_any b w hb).mono ?_
            rintro e w' ⟨rfl, rfl⟩
            rw [hg]
            clear hg
            go_wp2_with fail
            refine (ceil_any b w HNN.out).mono ?_
            rintro e w' ⟨rfl, rfl⟩
            go_wp2_with fail
            go_ret2
            exact ⟨by rw [HV.out]; rfl, rfl⟩
          · have HV := Lib.hid (show endsV a b = .tuple #[.int .i64 (a + (ceilN (mag b) : Int)), .bool true] by unfold endsV endsP; rw [if_pos ⟨hg, by omega, by omega, hle, by omega⟩])
            have d4 : decide ((1099511627776 : Int) < a + (ceilN (mag b) : Int)) = false := decide_eq_false h4
            clear h1 h2 h3 h4 hcv hnn hle hc
            generalize ceilN (mag b) = c at *
            go_wp2_with fail
            refine (good_any b w hb).mono ?_
            rintro e w' ⟨rfl, rfl⟩
            rw [hg]
            clear hg
            go_wp2_with fail
            refine (ceil_any b w HNN.out).mono ?_
            rintro e w' ⟨rfl, rfl⟩
            go_wp2_with fail
            go_ret2
            exact ⟨by rw [HV.out]; rfl, rfl⟩
end Trm
end Go.Proofs.Ytbppjbheennphaa
