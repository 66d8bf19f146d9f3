/- Package term: Grade; the document's. -/
import Derived.Test.YtbppjbheennphaaTermWaits
set_option linter.unusedSimpArgs false
set_option linter.unusedVariables false
set_option linter.unusedSectionVars false
namespace Go.Proofs.Ytbppjbheennphaa
open Go.RowKit
namespace FloatP
open Ieee
def gradeP (a : Int) (b : Nat) : Nat := if withinP a b = true then (if cls b = 7 then 4607182418800017408 else ((floatBits .sub .f64 b (floatOfInt .f64 a)).bind fun s => floatBits .quo .f64 s b).getD 0) else 0
theorem tick_le (n : Nat) : tick n ≤ INF := by
  rw [tick_eq]
  obtain ⟨r, _, h⟩ := nearest_rounds false n 0
  rw [h, word_false]
  omega
theorem cls_seven {b : Nat} (hg : good b = true) (hb : b < 18446744073709551616) : cls b = 7 ↔ mag b = INF := by
  have hc := cls_spec b
  have h4 : 4 ≤ cls b := by simpa [good] using hg
  have hm := (good_spec hg hb).2.2.1
  rcases hc with ⟨ca, na⟩ | ⟨ca, na, ka, sa⟩ | ⟨ca, na, ka, pa, qa, sa⟩ | ⟨ca, na, ka, pa, sa⟩ | ⟨ca, na, ka, pa, sa⟩ | ⟨ca, na, ka, pa, qa, sa⟩ | ⟨ca, na, ka, sa⟩
  · omega
  · omega
  · omega
  · rw [ca, pa]; decide
  · rw [ca, pa]; decide
  · rw [ca]; constructor
    · intro h; omega
    · intro h; omega
  · rw [ca]
    have k := (good_spec hg hb).2.1
    constructor
    · intro _; rw [k] at ka; omega
    · intro _; rfl
/-- what is left, and how much of it that is -/
theorem grade_spec {a : Int} {b : Nat} (hb : b < 18446744073709551616) (hw : withinP a b = true) (hi : cls b ≠ 7) : ∃ (n s g : Nat), a = (n : Int) ∧ mag b = b ∧ 0 < b ∧ b < INF ∧ tick n < b ∧ Rounds (V b - V (tick n)) 1 s ∧ 0 < s ∧ s ≤ b ∧
    floatBits .sub .f64 b (floatOfInt .f64 a) = some s ∧ Rounds (V s * U) (V b) g ∧ g ≤ 4607182418800017408 ∧ floatBits .quo .f64 s b = some g := by
  unfold withinP at hw
  simp only [Bool.and_eq_true, decide_eq_true_eq] at hw
  obtain ⟨hg, h0, hl⟩ := hw
  obtain ⟨n, rfl⟩ : ∃ n : Nat, a = (n : Int) := ⟨a.toNat, by omega⟩
  have hm : mag b < INF := by
    have := (good_spec hg hb).2.2.1
    have h7 := mt (cls_seven hg hb).2 hi
    omega
  have hlt : tick n < mag b := by
    have h1 := (lt_iff.1 hl).2.2
    have h2 := (pos_key (tick_le n)).1
    have h3 := (good_spec hg hb).2.1
    unfold tick at h2
    rw [h2, h3] at h1
    unfold tick
    omega
  have hbb := good_bits hg hb (by omega)
  rw [← hbb] at hlt hm
  obtain ⟨s, s1, s2⟩ := sub_rounds hm (Nat.le_of_lt hlt)
  have hv := V_lt hlt
  have hs0 : 1 ≤ s := le_rounds (by omega) s1 (by rw [show V 1 = 1 by decide]; omega)
  have hsb : s ≤ b := rounds_le (by omega) s1 (by omega)
  have hvb := V_pos (show 0 < b by omega)
  obtain ⟨g, g1, g2⟩ := div_rounds (show s < INF by omega) hs0 hm (by omega)
  have hg1 : g ≤ 4607182418800017408 := rounds_le hvb g1 (by
    rw [V_one, Nat.mul_comm]
    exact Nat.mul_le_mul_left _ (V_mono hsb))
  refine ⟨n, s, g, rfl, hbb.symm, by omega, hm, hlt, s1, by omega, hsb, s2, g1, hg1, ?_⟩
  rw [g2, Nat.min_eq_left (by unfold INF; omega)]
end FloatP
namespace Trm
open FloatP Flt
set_option maxHeartbeats 2000000 in
theorem grade_any (a : Int) (b : Nat) (w : World) (hb : b < 18446744073709551616) : Calls Try.prog 22 #[.int .i64 a, .float .f64 b] w fun e w' => e = .returned (.float .f64 (gradeP a b)) ∧ w = w' := by
  go_enter Try.func22, Try.ntmps22
  cases hw : withinP a b
  · have HV := Lib.hid (show gradeP a b = 0 by unfold gradeP; rw [if_neg (by rw [hw]; decide)])
    go_wp2_with fail
    refine (within_any a b w hb).mono ?_
    rintro e w' ⟨rfl, rfl⟩
    rw [hw]
    clear hw
    go_wp2_with fail
    go_ret
    exact ⟨by rw [HV.out]; rfl, rfl⟩
  · by_cases h7 : cls b = 7
    · have HV := Lib.hid (show gradeP a b = 4607182418800017408 by unfold gradeP; rw [if_pos hw, if_pos h7])
      go_wp2_with fail
      refine (within_any a b w hb).mono ?_
      rintro e w' ⟨rfl, rfl⟩
      rw [hw]
      clear hw
      go_wp2_with fail
      refine (class_any b w hb).mono ?_
      rintro e w' ⟨rfl, rfl⟩
      rw [h7]
      clear h7
      go_wp2_with fail
      go_ret
      exact ⟨by rw [HV.out]; rfl, rfl⟩
    · obtain ⟨n, s, g, -, -, -, -, -, -, -, -, hs, -, -, hq⟩ := grade_spec hb hw h7
      have HV := Lib.hid (show gradeP a b = g by unfold gradeP; rw [if_pos hw, if_neg h7, hs]; show (floatBits .quo .f64 s b).getD 0 = g; rw [hq]; rfl)
      have rs : ∀ W, (binOp .sub 22 (.float .f64 b) (.float .f64 (floatOfInt .f64 a))).run Try.prog W = .ok (.float .f64 s) W := fun W => run_float_arith W .sub 22 .f64 _ _ _ hs
      have rq : ∀ W, (binOp .quo 22 (.float .f64 s) (.float .f64 b)).run Try.prog W = .ok (.float .f64 g) W := fun W => run_float_arith W .quo 22 .f64 _ _ _ hq
      have d7 : ((cls b : Int) == 7) = false := by rw [beq_eq_false_iff_ne]; omega
      clear hs hq h7
      go_wp2_with fail
      refine (within_any a b w hb).mono ?_
      rintro e w' ⟨rfl, rfl⟩
      rw [hw]
      clear hw
      go_wp2_with fail
      refine (class_any b w hb).mono ?_
      rintro e w' ⟨rfl, rfl⟩
      go_wp2_with fail
      go_ret
      exact ⟨by rw [HV.out]; rfl, rfl⟩
set_option maxHeartbeats 2000000 in
theorem gradeR_any (a : Int) (b : Nat) (w : World) (hb : b < 18446744073709551616) : Calls Try.prog 23 #[.int .i64 a, .float .f64 b] w fun e w' => e = .returned (.float .f64 (gradeP a b)) ∧ w = w' := by
  go_enter Try.func23, Try.ntmps23
  cases hw : withinP a b
  · have HV := Lib.hid (show gradeP a b = 0 by unfold gradeP; rw [if_neg (by rw [hw]; decide)])
    go_wp2_with fail
    refine (withinR_any a b w hb).mono ?_
    rintro e w' ⟨rfl, rfl⟩
    rw [hw]
    clear hw
    go_wp2_with fail
    go_ret
    exact ⟨by rw [HV.out]; rfl, rfl⟩
  · by_cases h7 : cls b = 7
    · have HV := Lib.hid (show gradeP a b = 4607182418800017408 by unfold gradeP; rw [if_pos hw, if_pos h7])
      go_wp2_with fail
      refine (withinR_any a b w hb).mono ?_
      rintro e w' ⟨rfl, rfl⟩
      rw [hw]
      clear hw
      go_wp2_with fail
      refine (classR_any b w hb).mono ?_
      rintro e w' ⟨rfl, rfl⟩
      rw [h7]
      clear h7
      go_wp2_with fail
      go_ret
      exact ⟨by rw [HV.out]; rfl, rfl⟩
    · obtain ⟨n, s, g, -, -, -, -, -, -, -, -, hs, -, -, hq⟩ := grade_spec hb hw h7
      have HV := Lib.hid (show gradeP a b = g by unfold gradeP; rw [if_pos hw, if_neg h7, hs]; show (floatBits .quo .f64 s b).getD 0 = g; rw [hq]; rfl)
      have rs : ∀ W, (binOp .sub 22 (.float .f64 b) (.float .f64 (floatOfInt .f64 a))).run Try.prog W = .ok (.float .f64 s) W := fun W => run_float_arith W .sub 22 .f64 _ _ _ hs
      have rq : ∀ W, (binOp .quo 22 (.float .f64 s) (.float .f64 b)).run Try.prog W = .ok (.float .f64 g) W := fun W => run_float_arith W .quo 22 .f64 _ _ _ hq
      have d7 : ((cls b : Int) == 7) = false := by rw [beq_eq_false_iff_ne]; omega
      clear hs hq h7
      go_wp2_with fail
      refine (withinR_any a b w hb).mono ?_
      rintro e w' ⟨rfl, rfl⟩
      rw [hw]
      clear hw
      go_wp2_with fail
      refine (classR_any b w hb).mono ?_
      rintro e w' ⟨rfl, rfl⟩
      go_wp2_with fail
      go_ret
      exact ⟨by rw [HV.out]; rfl, rfl⟩
end Trm
end Go.Proofs.Ytbppjbheennphaa
