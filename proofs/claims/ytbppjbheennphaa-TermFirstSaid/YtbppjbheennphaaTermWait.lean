/- Package term: Wait. -/
import Derived.Test.YtbppjbheennphaaArithP
import Derived.Test.YtbppjbheennphaaLdexp
set_option linter.unusedSimpArgs false
set_option linter.unusedVariables false
set_option linter.unusedSectionVars false
namespace Go.Proofs.Ytbppjbheennphaa
open Go.RowKit
namespace FloatP
open Ieee
def waitK (t : Int) : Nat := (min t 60 - 1).toNat
def waitC (b : Nat) (t : Int) : Nat := min (ldB (mag b) (waitK t)) T20
def waitP (b : Nat) (t : Int) : Int := if good b = true ∧ 1 ≤ t ∧ mag b ≠ 0 then (ceilN (waitC b t) : Int) else 0
theorem good_bits {b : Nat} (hg : good b = true) (hb : b < 18446744073709551616) (h0 : mag b ≠ 0) : b = mag b := by
  have h := low_bits hb
  rw [good_pos hg h0] at h
  simpa using h
theorem zero_test {b : Nat} (hg : good b = true) (hb : b < 18446744073709551616) : (double.order b 0 == some .eq) = decide (mag b = 0) := by
  obtain ⟨g1, g2, _, _⟩ := good_spec hg hb
  rw [Bool.eq_iff_iff, eq_iff, g1, g2, key_zero, decide_eq_true_iff]
  have n0 : isNan 0 = false := by decide
  rw [n0]; simp
theorem ldB_pos {m k : Nat} (h : 0 < m) : 0 < ldB m k ∧ ldB m k ≤ INF := by
  obtain ⟨r, h1, h2⟩ := ldB_spec m k
  have h3 : 0 < r := by
    rw [← V_lt_iff, V_zero, h1]
    exact Nat.mul_pos (V_pos h) (two_pos k)
  rw [h2]
  unfold INF
  omega
theorem ldB_inf (k : Nat) : ldB INF k = INF := by
  obtain ⟨r, h1, h2⟩ := ldB_spec INF k
  have h3 : INF ≤ r := by
    rw [← Nat.not_lt, ← V_lt_iff, h1]
    have := Nat.le_mul_of_pos_right (V INF) (two_pos k)
    omega
  rw [h2]; omega
theorem clamp_min {a : Nat} (ha : a ≤ INF) : clampV a 0 4697254411347427328 = min a T20 := by
  have ht : (4697254411347427328 : Nat) ≤ INF := by decide
  have c1 : cls a ≠ 1 := by
    rw [pos_cls ha]; split
    · decide
    · split <;> decide
  unfold clampV
  rw [pos_less ht (by decide), pos_less ha (by decide), pos_less ht ha, if_neg (by
    intro h
    rcases h with h | h | h | h
    · exact c1 h
    · exact absurd h (by decide)
    · exact absurd h (by decide)
    · exact absurd h (by decide))]
  unfold T20
  by_cases h1 : a < 0
  · omega
  · rw [if_neg (by simp)]
    by_cases h2 : 4697254411347427328 < a
    · rw [if_pos (by simpa using h2)]; omega
    · rw [if_neg (by simpa using h2)]; omega
theorem waitC_spec {b : Nat} {t : Int} : waitC b t ≤ T20 ∧ ceilN (waitC b t) ≤ 1048576 := by
  have h : waitC b t ≤ T20 := Nat.min_le_right _ _
  refine ⟨h, ?_⟩
  unfold ceilN
  refine (cdiv_le U_pos).2 ?_
  rw [← V_T20]
  rcases Nat.lt_or_ge (waitC b t) T20 with h1 | h1
  · exact Nat.le_of_lt (V_lt h1)
  · rw [show waitC b t = T20 by omega]; exact Nat.le_refl _
end FloatP
namespace Trm
open FloatP Flt
set_option maxHeartbeats 2000000 in
theorem wait_any (b : Nat) (t : Int) (w : World) (hb : b < 18446744073709551616) (ht : t < 9223372036854775808) : Calls Try.prog 13 #[.float .f64 b, .int .i64 t] w fun e w' => e = .returned (.int .i64 (waitP b t)) ∧ Reg.Ext w w' := by
  go_enter Try.func13, Try.ntmps13
  cases hg : good b
  · have HV := Lib.hid (show waitP b t = 0 by unfold waitP; rw [if_neg (by intro h; rw [hg] at h; exact absurd h.1 (by decide))])
    go_wp2_with fail
    refine (good_any b w hb).mono ?_
    rintro e w' ⟨rfl, rfl⟩
    rw [hg]
    clear hg
    go_wp2_with fail
    go_ret
    exact ⟨by rw [HV.out]; rfl, Reg.Ext.refl _⟩
  · by_cases h1 : t < 1
    · have HV := Lib.hid (show waitP b t = 0 by unfold waitP; rw [if_neg (by intro h; omega)])
      have d1 : decide (t < 1) = true := decide_eq_true h1
      clear h1
      go_wp2_with fail
      refine (good_any b w hb).mono ?_
      rintro e w' ⟨rfl, rfl⟩
      rw [hg]
      clear hg
      go_wp2_with fail
      go_ret
      exact ⟨by rw [HV.out]; rfl, Reg.Ext.refl _⟩
    · have d1 : decide (t < 1) = false := decide_eq_false h1
      have z1 : (FloatKind.f64.format.order b 0 == some .eq) = decide (mag b = 0) := zero_test hg hb
      by_cases h2 : mag b = 0
      · have HV := Lib.hid (show waitP b t = 0 by unfold waitP; rw [if_neg (by intro h; omega)])
        rw [decide_eq_true h2] at z1
        clear h1 h2
        go_wp2_with fail
        refine (good_any b w hb).mono ?_
        rintro e w' ⟨rfl, rfl⟩
        rw [hg]
        clear hg
        go_wp2_with fail
        go_ret
        exact ⟨by rw [HV.out]; rfl, Reg.Ext.refl _⟩
      · rw [decide_eq_false h2] at z1
        obtain ⟨c, hc⟩ : ∃ c, waitC b t = c := ⟨_, rfl⟩
        have hcs := @waitC_spec b t
        rw [hc] at hcs
        have HV := Lib.hid (show waitP b t = (ceilN c : Int) by unfold waitP; rw [if_pos ⟨hg, by omega, h2⟩, hc])
        obtain ⟨k, hk⟩ : ∃ k, waitK t = k := ⟨_, rfl⟩
        have hk9 : k ≤ 1000 := by rw [← hk]; unfold waitK; omega
        obtain ⟨all, hall⟩ : ∃ all, ldB (mag b) k = all := ⟨_, rfl⟩
        obtain ⟨p1, p2⟩ := @ldB_pos (mag b) k (by omega)
        rw [hall] at p1 p2
        have hcv : clampV all 0 4697254411347427328 = c := by rw [clamp_min p2, ← hc, ← hall]; unfold waitC; rw [hk]
        have hci : c ≤ INF := by have := hcs.1; unfold T20 at this; unfold INF; omega
        have hcg : good c = true := by
          unfold good; rw [pos_cls hci]; split
          · rfl
          · split <;> rfl
        have hcm := (pos_mag hci).1
        have hcb : floatToIntVal .f64 (ceilB c) .i64 = some (ceilN (mag c) : Int) := ceil_bits hcg (by unfold INF at hci; omega) (by rw [hcm]; omega) (by rw [hcm]; have := hcs.1; unfold T20 at this; unfold INF; omega)
        rw [hcm] at hcb
        have hcc : ∀ W, (convert 22 3 (.float .f64 (ceilB c))).run Try.prog W = .ok (.int .i64 (ceilN c : Int)) W := fun W => run_convert_float_int W 22 3 .f64 .i64 _ _ (by kernel_rfl) (by kernel_rfl) hcb
        have HC := Lib.hid hcv
        have HN := Lib.hid (pos_key hci).2
        have HL := Lib.hid (show all < 18446744073709551616 by unfold INF at p2; omega)
        have HW := Lib.hid (show wrap64 (min t 60 - 1 : Int) = (k : Int) by rw [← hk]; unfold waitK wrap64; omega)
        have hgb := good_bits hg hb h2
        have HLD : Hid (Calls Try.prog 27 #[.float .f64 b, .int .i64 (k : Int)] w fun e w' => e = .returned (.float .f64 all) ∧ w = w') := by
          show Calls _ _ _ _ _
          rw [hgb]
          rcases Nat.lt_or_ge (mag b) INF with hi | hi
          · rw [← hall]; exact ldexp_any (mag b) k w (by omega) hi hk9
          · have hi' : mag b = INF := by have := (good_spec hg hb).2.2.1; omega
            rw [hi', show all = INF by rw [← hall, hi', ldB_inf]]
            exact ldexp_inf k w
        clear hc hcs hk hk9 hall p1 p2 hcv hci hcg hcm hcb hgb h2
        clear h1 ht
        go_wp2_with fail
        refine (good_any b w hb).mono ?_
        rintro e w' ⟨rfl, rfl⟩
        rw [hg]
        clear hg
        go_wp2_with fail
        rw [HW.out]
        refine HLD.out.mono ?_
        rintro e w' ⟨rfl, rfl⟩
        go_wp2_with fail
        refine (clamp_any _ _ _ w HL.out (by decide) (by decide)).mono ?_
        rintro e w' ⟨rfl, HX⟩
        rw [HC.out]
        go_wp2_with fail
        refine (ceil_any _ w' HN.out).mono ?_
        rintro e w'' ⟨rfl, rfl⟩
        go_wp2_with fail
        go_ret
        exact ⟨by rw [HV.out]; rfl, HX⟩
end Trm
end Go.Proofs.Ytbppjbheennphaa
