/- The document's Ends and Wait: searches by halves. -/
import Derived.Test.YtbppjbheennphaaTermGrade
set_option linter.unusedSimpArgs false
set_option linter.unusedVariables false
set_option linter.unusedSectionVars false
namespace Go.Proofs.Ytbppjbheennphaa
open Go.RowKit
namespace FloatP
open Ieee
theorem fit_of_ceil {m : Nat} (h : ceilN m ≤ 1099511627776) : m ≤ T40 := by
  rw [← Nat.not_lt]
  intro h2
  have := ceilN_gt h2
  omega
end FloatP
namespace Trm
open FloatP Flt
set_option maxHeartbeats 4000000 in
theorem endsR_any (a : Int) (b : Nat) (w : World) (hb : b < 18446744073709551616) : Calls Try.prog 18 #[.int .i64 a, .float .f64 b] w fun e w' => e = .returned (endsV a b) ∧ w = w' := by
  go_enter Try.func18, Try.ntmps18
  cases hg : good b
  · have HV := Lib.hid (show endsV a b = .tuple #[.int .i64 0, .bool false] by unfold endsV endsP; rw [if_neg (by intro h; rw [hg] at h; exact absurd h.1 (by decide))])
    go_wp2_with fail
    refine (goodR_any b w hb).mono ?_
    rintro e w' ⟨rfl, rfl⟩
    rw [hg]
    clear hg
    go_wp2_with fail
    go_ret2
    exact ⟨by rw [HV.out]; rfl, rfl⟩
  · by_cases h1 : a < 0
    · have HV := Lib.hid (show endsV a b = .tuple #[.int .i64 0, .bool false] by unfold endsV endsP; rw [if_neg (by intro h; omega)])
      have d1 : decide (a < 0) = true := decide_eq_true h1
      clear h1
      go_wp2_with fail
      refine (goodR_any b w hb).mono ?_
      rintro e w' ⟨rfl, rfl⟩
      rw [hg]
      clear hg
      go_wp2_with fail
      go_ret2
      exact ⟨by rw [HV.out]; rfl, rfl⟩
    · have d1 : decide (a < 0) = false := decide_eq_false h1
      by_cases h2 : 1099511627776 < a
      · have HV := Lib.hid (show endsV a b = .tuple #[.int .i64 0, .bool false] by unfold endsV endsP; rw [if_neg (by intro h; omega)])
        have d2 : decide ((1099511627776 : Int) < a) = true := decide_eq_true h2
        clear h1 h2
        go_wp2_with fail
        refine (goodR_any b w hb).mono ?_
        rintro e w' ⟨rfl, rfl⟩
        rw [hg]
        clear hg
        go_wp2_with fail
        go_ret2
        exact ⟨by rw [HV.out]; rfl, rfl⟩
      · have d2 : decide ((1099511627776 : Int) < a) = false := decide_eq_false h2
        obtain ⟨t, ht⟩ : ∃ t : Nat, (t : Int) = 1099511627776 - a := ⟨(1099511627776 - a).toNat, by omega⟩
        have hw : IntKind.i64.wrap (1099511627776 - a) = (t : Int) := by rw [IntKind.wrap_i64]; omega
        have hwt := @within_ceil t b (by omega) hg hb
        by_cases h3 : t < ceilN (mag b)
        · have HV := Lib.hid (show endsV a b = .tuple #[.int .i64 0, .bool false] by unfold endsV endsP; rw [if_neg (by rintro ⟨_, _, _, _, h⟩; omega)])
          rw [decide_eq_true h3] at hwt
          have HT := Lib.hid hwt
          clear h1 h2 h3 hwt ht
          go_wp2_with fail
          refine (goodR_any b w hb).mono ?_
          rintro e w' ⟨rfl, rfl⟩
          rw [hg]
          clear hg
          go_wp2_with fail
          refine (withinR_any _ b w hb).mono ?_
          rintro e w' ⟨rfl, rfl⟩
          rw [HT.out]
          go_wp2_with fail
          go_ret2
          exact ⟨by rw [HV.out]; rfl, rfl⟩
        · rw [decide_eq_false h3] at hwt
          have HT := Lib.hid hwt
          have hc : ceilN (mag b) ≤ t := by omega
          have HV := Lib.hid (show endsV a b = .tuple #[.int .i64 (a + (ceilN (mag b) : Int)), .bool true] by unfold endsV endsP; rw [if_pos ⟨hg, by omega, by omega, fit_of_ceil (by omega), by omega⟩])
          have HF := Lib.hid (fun n (hn : n < 9007199254740992) => @within_ceil n b hn hg hb)
          have HA := Lib.hid (show 0 ≤ a ∧ a ≤ 1099511627776 ∧ (t : Int) = 1099511627776 - a by omega)
          have ht40 : t ≤ 1099511627776 := by omega
          clear h1 h2 h3 hwt ht
          generalize ceilN (mag b) = c at *
          go_wp2_with fail
          refine (goodR_any b w hb).mono ?_
          rintro e w' ⟨rfl, rfl⟩
          rw [hg]
          clear hg
          go_wp2_with fail
          refine (withinR_any _ b w hb).mono ?_
          rintro e w' ⟨rfl, rfl⟩
          rw [HT.out]
          go_wp2_with fail
          go_loopw [6, 7, 8] (fun i j _ wr => ∃ lo hi : Nat, lo ≤ c ∧ c ≤ hi ∧ hi ≤ t ∧ i = .int .i64 lo ∧ j = .int .i64 hi ∧ w = wr) (fun i j _ _ => (intOf j).toNat - (intOf i).toNat)
          case atStart => exact ⟨0, t, Nat.zero_le _, hc, Nat.le_refl _, rfl, rfl, rfl⟩
          case round =>
            obtain ⟨lo, hi, hl, hh, hht, rfl, rfl, rfl⟩ := hrel
            by_cases hlt : lo < hi
            · have d9 : decide ((lo : Int) < (hi : Int)) = true := by rw [decide_eq_true_iff]; omega
              obtain ⟨m, hm⟩ : ∃ m : Nat, (((lo : Int) + (hi : Int)) / 2) = (m : Int) := ⟨(lo + hi) / 2, by omega⟩
              have HM := Lib.hid hm
              have HW := Lib.hid (HF.out m (by omega))
              have hms : lo ≤ m ∧ m < hi := by omega
              clear hm
              by_cases hmc : m < c
              · have HW2 := Lib.hid (HW.out.trans (decide_eq_true hmc))
                go_wp2_with fail
                rw [HM.out]
                refine (withinR_any _ b w hb).mono ?_
                rintro e w' ⟨rfl, rfl⟩
                rw [HW2.out]
                go_wp2_with fail
                go_roundw
                case rel => exact ⟨m + 1, hi, by omega, hh, hht, by go_num, rfl, trivial⟩
                case measure => simp [intOf]; omega
              · have HW2 := Lib.hid (HW.out.trans (decide_eq_false hmc))
                go_wp2_with fail
                rw [HM.out]
                refine (withinR_any _ b w hb).mono ?_
                rintro e w' ⟨rfl, rfl⟩
                rw [HW2.out]
                go_wp2_with fail
                go_roundw
                case rel => exact ⟨lo, m, hl, by omega, by omega, rfl, rfl, trivial⟩
                case measure => simp [intOf]; omega
            · have d9 : decide ((lo : Int) < (hi : Int)) = false := by rw [decide_eq_false_iff_not]; omega
              have hlc : lo = c := by omega
              have hA := HA.out
              have hw2 : IntKind.i64.wrap (a + (lo : Int)) = a + (lo : Int) := by rw [IntKind.wrap_i64]; omega
              subst hlc
              clear hA hl hh hht
              go_wp2_with fail
              go_ret2
              exact ⟨by rw [HV.out]; rfl, rfl⟩
end Trm
namespace FloatP
open Ieee
theorem cls_six {b : Nat} (hg : good b = true) : cls b < 6 ↔ mag b = 0 := by
  have h4 : 4 ≤ cls b := by simpa [good] using hg
  rcases cls_spec b with ⟨ca, na⟩ | ⟨ca, na, ka, sa⟩ | ⟨ca, na, ka, pa, qa, sa⟩ | ⟨ca, na, ka, pa, sa⟩ | ⟨ca, na, ka, pa, sa⟩ | ⟨ca, na, ka, pa, qa, sa⟩ | ⟨ca, na, ka, sa⟩
  · omega
  · omega
  · omega
  · omega
  · omega
  · omega
  · rw [ca]
    constructor
    · intro h; omega
    · intro h
      have : key b = 0 := by unfold key; rw [h]; split <;> rfl
      rw [this] at ka
      exact absurd ka (by decide)
theorem tick_pow (k : Nat) (hk : k ≤ 1000) : tick (2 ^ k) < INF ∧ V (tick (2 ^ k)) = 2 ^ k * U := by
  obtain ⟨r, hr⟩ := @exists_V 1 (k + K74) (by decide)
  have k1 := K74_eq
  have k2 := K98_eq
  rw [Nat.one_mul, Nat.pow_add, ← U_eq] at hr
  have hlt : r < INF := by
    rw [← V_lt_iff, V_INF, hr, U_eq, ← Nat.pow_add]
    exact Nat.pow_lt_pow_right (by omega) (by omega)
  have ht : tick (2 ^ k) = r := by
    rw [tick_eq, nearest_exact (r := r) (p := 0) _ false, word_false]
    · omega
    · rw [show ((0 : Int) + 1074).toNat = K74 by rw [K74_eq]; rfl, show (-((0 : Int) + 1074)).toNat = 0 from rfl, hr, U_eq, Nat.pow_zero, Nat.mul_one]
  rw [ht]
  exact ⟨hlt, hr⟩
theorem mul_pow {m k : Nat} (h0 : 0 < m) (hm : m ≤ INF) (hk : k ≤ 1000) : floatBits .mul .f64 m (tick (2 ^ k)) = some (ldB m k) := by
  obtain ⟨t1, t2⟩ := tick_pow k hk
  rcases Nat.lt_or_ge m INF with hi | hi
  · obtain ⟨r, r1, r2⟩ := ldB_spec m k
    rw [mul_exact (r := r) hi t1 (by rw [t2, r1, Nat.mul_assoc]), r2]
  · have hmi : m = INF := by omega
    have p0 : 0 < tick (2 ^ k) := by
      rw [← V_lt_iff, V_zero, t2]; exact Nat.mul_pos (two_pos k) U_pos
    obtain ⟨q1, q2⟩ := pos_mag (Nat.le_of_lt t1)
    obtain ⟨n, l, hr, hv⟩ := read_fin (b := tick (2 ^ k)) (by rw [q1]; exact t1)
    rw [q1] at hv
    have hn : n ≠ 0 := by
      intro h
      rw [h, Nat.zero_mul] at hv
      have := V_pos p0
      omega
    rw [hmi, ldB_inf]
    show ((double.read INF).product (double.read (tick (2 ^ k)))).map double.write = _
    rw [read_inf (b := INF) (by decide), hr, q2]
    show (if n = 0 then none else some (Datum.infinity (neg INF ^^ false))).map double.write = _
    rw [if_neg hn]
    decide
/-- a tick stands below what may be waited -/
theorem below_wait {b n : Nat} {t : Int} (h0 : mag b ≠ 0) (hn : n < 1048576) : lt (tick n) (ldB (mag b) (waitK t)) = decide (n < ceilN (waitC b t)) := by
  obtain ⟨p1, p2⟩ := @ldB_pos (mag b) (waitK t) (by omega)
  have hg : good (ldB (mag b) (waitK t)) = true := by
    unfold good; rw [pos_cls p2]; split
    · rfl
    · split <;> rfl
  rw [tick_lt (by omega) hg (by unfold INF at p2; omega), (pos_mag p2).1]
  unfold waitC ceilN
  rw [Bool.eq_iff_iff, decide_eq_true_iff, decide_eq_true_iff, lt_cdiv U_pos]
  generalize ldB (mag b) (waitK t) = x at *
  have hT : n * U < V T20 := by
    rw [V_T20]; exact Nat.mul_lt_mul_of_pos_right hn U_pos
  rcases Nat.lt_or_ge x T20 with h | h
  · rw [Nat.min_eq_left (Nat.le_of_lt h)]
  · rw [Nat.min_eq_right h]
    have := V_mono h
    omega
end FloatP
namespace Trm
open FloatP Flt
set_option maxHeartbeats 4000000 in
theorem waitR_any (b : Nat) (t : Int) (w : World) (hb : b < 18446744073709551616) (ht : t < 9223372036854775808) : Calls Try.prog 21 #[.float .f64 b, .int .i64 t] w fun e w' => e = .returned (.int .i64 (waitP b t)) ∧ w = w' := by
  go_enter Try.func21, Try.ntmps21
  cases hg : good b
  · have HV := Lib.hid (show waitP b t = 0 by unfold waitP; rw [if_neg (by intro h; rw [hg] at h; exact absurd h.1 (by decide))])
    go_wp2_with fail
    refine (goodR_any b w hb).mono ?_
    rintro e w' ⟨rfl, rfl⟩
    rw [hg]
    clear hg
    go_wp2_with fail
    go_ret
    exact ⟨by rw [HV.out]; rfl, rfl⟩
  · by_cases h1 : t < 1
    · have HV := Lib.hid (show waitP b t = 0 by unfold waitP; rw [if_neg (by intro h; omega)])
      have d1 : decide (t < 1) = true := decide_eq_true h1
      clear h1
      go_wp2_with fail
      refine (goodR_any b w hb).mono ?_
      rintro e w' ⟨rfl, rfl⟩
      rw [hg]
      clear hg
      go_wp2_with fail
      go_ret
      exact ⟨by rw [HV.out]; rfl, rfl⟩
    · have d1 : decide (t < 1) = false := decide_eq_false h1
      have h6 := cls_six hg
      by_cases h2 : mag b = 0
      · have HV := Lib.hid (show waitP b t = 0 by unfold waitP; rw [if_neg (by intro h; omega)])
        have d6 : decide ((cls b : Int) < 6) = true := by rw [decide_eq_true_iff]; have := h6.2 h2; omega
        clear h1 h2 h6
        go_wp2_with fail
        refine (goodR_any b w hb).mono ?_
        rintro e w' ⟨rfl, rfl⟩
        rw [hg]
        clear hg
        go_wp2_with fail
        refine (classR_any b w hb).mono ?_
        rintro e w' ⟨rfl, rfl⟩
        go_wp2_with fail
        go_ret
        exact ⟨by rw [HV.out]; rfl, rfl⟩
      · have d6 : decide ((cls b : Int) < 6) = false := by rw [decide_eq_false_iff_not]; intro h; exact h2 (h6.1 (by omega))
        obtain ⟨c, hc⟩ : ∃ c, ceilN (waitC b t) = c := ⟨_, rfl⟩
        have hcs := (@waitC_spec b t).2
        rw [hc] at hcs
        have HV := Lib.hid (show waitP b t = (c : Int) by unfold waitP; rw [if_pos ⟨hg, by omega, h2⟩, hc])
        obtain ⟨k, hk⟩ : ∃ k, waitK t = k := ⟨_, rfl⟩
        have hk9 : k ≤ 59 := by rw [← hk]; unfold waitK; omega
        have HB := Lib.hid (fun n (hn : n < 1048576) => @below_wait b n t h2 hn)
        obtain ⟨all, hall⟩ : ∃ all, ldB (mag b) (waitK t) = all := ⟨_, rfl⟩
        rw [hall, hc] at HB
        have hmul : floatBits .mul .f64 b (tick (2 ^ k)) = some all := by
          rw [good_bits hg hb h2, ← hall, hk]
          exact mul_pow (by omega) (good_spec hg hb).2.2.1 (by omega)
        obtain ⟨p, hp⟩ : ∃ p : Nat, 2 ^ k = p := ⟨_, rfl⟩
        rw [hp] at hmul
        have hq : ∀ W, (binOp .mul 22 (.float .f64 b) (.float .f64 (floatOfInt .f64 (p : Int)))).run Try.prog W = .ok (.float .f64 all) W := fun W => run_float_arith W .mul 22 .f64 _ _ _ hmul
        have hsh : ∀ W, (Op.shift .shl .u64 1 .i64 (k : Int)).run Try.prog W = .ok (.int .u64 (p : Int)) W := by
          intro W
          have hv : IntKind.u64.wrap (1 * 2 ^ (k : Int).toNat) = (p : Int) := by
            have h1 : ((2 : Int) ^ (k : Int).toNat) = ((2 ^ k : Nat) : Int) := by rw [Int.toNat_natCast]; simp
            have h2 : 2 ^ k ≤ 2 ^ 59 := Nat.pow_le_pow_right (by omega) hk9
            rw [Int.one_mul, h1, hp, IntKind.wrap_u64]
            omega
          rw [shift_shl .u64 .i64 1 (k : Int) (by omega) (by show (k : Int) ≤ 64; omega), hv]
          rfl
        have HW := Lib.hid (show wrap64 (min t 60 - 1 : Int) = (k : Int) by rw [← hk]; unfold waitK wrap64; omega)
        clear hc hk hall hmul h2 h6 h1 ht hp
        go_wp2_with fail
        refine (goodR_any b w hb).mono ?_
        rintro e w' ⟨rfl, rfl⟩
        rw [hg]
        clear hg
        go_wp2_with fail
        refine (classR_any b w hb).mono ?_
        rintro e w' ⟨rfl, rfl⟩
        go_wp2_with fail
        rw [HW.out, hsh]
        go_wp2_with fail
        go_loopw [7, 8, 9] (fun i j _ wr => ∃ lo hi : Nat, lo ≤ c ∧ c ≤ hi ∧ hi ≤ 1048576 ∧ i = .int .i64 lo ∧ j = .int .i64 hi ∧ w = wr) (fun i j _ _ => (intOf j).toNat - (intOf i).toNat)
        case atStart => exact ⟨0, 1048576, Nat.zero_le _, hcs, Nat.le_refl _, rfl, rfl, rfl⟩
        case round =>
          obtain ⟨lo, hi, hl, hh, hht, rfl, rfl, rfl⟩ := hrel
          by_cases hlt : lo < hi
          · have d9 : decide ((lo : Int) < (hi : Int)) = true := by rw [decide_eq_true_iff]; omega
            obtain ⟨m, hm⟩ : ∃ m : Nat, (((lo : Int) + (hi : Int)) / 2) = (m : Int) := ⟨(lo + hi) / 2, by omega⟩
            have hms : lo ≤ m ∧ m < hi := by omega
            have hb1 : (FloatKind.f64.format.order (floatOfInt .f64 (m : Int)) all == some .lt) = decide (m < c) := HB.out m (by omega)
            by_cases hmc : m < c
            · rw [decide_eq_true hmc] at hb1
              go_wp2_with fail
              go_roundw
              case rel => exact ⟨m + 1, hi, by omega, hh, hht, by go_num, rfl, trivial⟩
              case measure => simp [intOf]; omega
            · rw [decide_eq_false hmc] at hb1
              go_wp2_with fail
              go_roundw
              case rel => exact ⟨lo, m, hl, by omega, by omega, rfl, by first | rfl | rw [hm], trivial⟩
              case measure => simp [intOf]; omega
          · have d9 : decide ((lo : Int) < (hi : Int)) = false := by rw [decide_eq_false_iff_not]; omega
            have hlc : lo = c := by omega
            subst hlc
            clear hl hh hht
            go_wp2_with fail
            go_ret
            exact ⟨by rw [HV.out]; rfl, rfl⟩
end Trm
end Go.Proofs.Ytbppjbheennphaa
