/- The walk of the law RealRow. -/
import Derived.Test.YtomfkjllkmilpaaRealPrint
set_option linter.unusedSimpArgs false
set_option linter.unusedVariables false
set_option linter.unusedSectionVars false
namespace Go.Proofs.Ytomfkjllkmilpaa
open Go.RowKit
namespace FloatP
open Ieee
/-- the place of a number in the row of all -/
def rk (b : Nat) : Int := (cls b : Int) * 36893488147419103232 + (if cls b = 3 ∨ cls b = 6 then key b else 0)
theorem less_rk {a b : Nat} : less a b = decide (rk a < rk b) := by
  unfold less
  have lta := @lt_iff a b
  have h1 := mag_lt a
  have h2 := mag_lt b
  unfold rk
  rw [Bool.eq_iff_iff]
  rcases cls_spec a with ⟨ca, na⟩ | ⟨ca, na, ka, sa⟩ | ⟨ca, na, ka, pa, qa, sa⟩ | ⟨ca, na, ka, pa, sa⟩ | ⟨ca, na, ka, pa, sa⟩ | ⟨ca, na, ka, pa, qa, sa⟩ | ⟨ca, na, ka, sa⟩ <;>
    rcases cls_spec b with ⟨cb, nb⟩ | ⟨cb, nb, kb, sb⟩ | ⟨cb, nb, kb, pb, qb, sb⟩ | ⟨cb, nb, kb, pb, sb⟩ | ⟨cb, nb, kb, pb, sb⟩ | ⟨cb, nb, kb, pb, qb, sb⟩ | ⟨cb, nb, kb, sb⟩ <;>
    rw [ca, cb] <;> simp [na, nb] at lta <;> simp [lta] <;> omega
theorem same_rk {a b : Nat} : same a b = decide (rk a = rk b) := by
  unfold same
  rw [less_rk, less_rk, Bool.eq_iff_iff]
  simp
  omega
theorem lt_less {a b : Nat} (ha : isNan a = false) (hb : isNan b = false) (hz : ¬ (key a = 0 ∧ key b = 0)) : (double.order a b == some .lt) = less a b := by
  have h1 := mag_lt a
  have h2 := mag_lt b
  have lta := @lt_iff a b
  unfold lt at lta
  rw [less_rk, Bool.eq_iff_iff, lta]
  unfold rk
  rcases cls_spec a with ⟨ca, na⟩ | ⟨ca, na, ka, sa⟩ | ⟨ca, na, ka, pa, qa, sa⟩ | ⟨ca, na, ka, pa, sa⟩ | ⟨ca, na, ka, pa, sa⟩ | ⟨ca, na, ka, pa, qa, sa⟩ | ⟨ca, na, ka, sa⟩ <;>
    rcases cls_spec b with ⟨cb, nb⟩ | ⟨cb, nb, kb, sb⟩ | ⟨cb, nb, kb, pb, qb, sb⟩ | ⟨cb, nb, kb, pb, sb⟩ | ⟨cb, nb, kb, pb, sb⟩ | ⟨cb, nb, kb, pb, qb, sb⟩ | ⟨cb, nb, kb, sb⟩ <;>
    rw [ca, cb] <;> simp_all [INF] <;> omega
theorem zero_test {a : Nat} (ha : isNan a = false) : (double.order a 0 == some .eq) = decide (key a = 0) := by
  have h := @eq_iff a 0
  rw [Bool.eq_iff_iff, h, key_zero]
  have : isNan 0 = false := by decide
  simp [ha, this]
end FloatP
namespace Flt
open FloatP
set_option maxHeartbeats 4000000 in
theorem row_law (a b c : Nat) (w : World) (ha : a < 18446744073709551616) (hb : b < 18446744073709551616) (hc : c < 18446744073709551616) :
    Calls Try.prog 4 #[.float .f64 a, .float .f64 b, .float .f64 c] w fun e w' => e = .returned (.bool true) ∧ Reg.Ext w w' := by
  have lab := @less_rk a b
  have lba := @less_rk b a
  have lbc := @less_rk b c
  have lac := @less_rk a c
  have laa := @less_rk a a
  have sab := @same_rk a b
  have sbc := @same_rk b c
  have sac := @same_rk a c
  have saa := @same_rk a a
  rw [decide_eq_false (Int.lt_irrefl _)] at laa
  rw [decide_eq_true rfl] at saa
  go_enter Try.func4, Try.ntmps4
  go_wp2_with fail
  refine (awake_any w).mono ?_
  rintro e w1 ⟨rfl, x1⟩
  have X1 := Lib.hid x1
  clear x1
  generalize rk a = x at *
  generalize rk b = y at *
  generalize rk c = z at *
  rcases Int.lt_trichotomy x y with h1 | h1 | h1
  · rcases Int.lt_trichotomy y z with h2 | h2 | h2
    · as_aux_lemma =>
        rw [show decide (x < y) = true from by first | exact decide_eq_true (by omega) | exact decide_eq_false (by omega)] at lab
        rw [show decide (y < x) = false from by first | exact decide_eq_true (by omega) | exact decide_eq_false (by omega)] at lba
        rw [show decide (y < z) = true from by first | exact decide_eq_true (by omega) | exact decide_eq_false (by omega)] at lbc
        rw [show decide (x < z) = true from by first | exact decide_eq_true (by omega) | exact decide_eq_false (by omega)] at lac
        rw [show decide (x = y) = false from by first | exact decide_eq_true (by omega) | exact decide_eq_false (by omega)] at sab
        rw [show decide (y = z) = false from by first | exact decide_eq_true (by omega) | exact decide_eq_false (by omega)] at sbc
        rw [show decide (x = z) = false from by first | exact decide_eq_true (by omega) | exact decide_eq_false (by omega)] at sac
        clear h1 h2
        go_wp2_with fail
        repeat (first
          | (refine (less_any _ _ _ (by assumption) (by assumption)).mono ?_
             rintro e w' ⟨rfl, rfl⟩
             go_wp2_with fail)
          | (refine (same_any _ _ _ (by assumption) (by assumption)).mono ?_
             rintro e w' ⟨rfl, rfl⟩
             go_wp2_with fail))
        refine (isnan_any a _).mono ?_
        rintro e w' ⟨rfl, rfl⟩
        cases hna : isNan a with
        | true =>
          go_wp2_with fail
          go_ret
          exact ⟨rfl, X1.out⟩
        | false =>
          go_wp2_with fail
          refine (isnan_any b _).mono ?_
          rintro e w' ⟨rfl, rfl⟩
          cases hnb : isNan b with
          | true =>
            go_wp2_with fail
            go_ret
            exact ⟨rfl, X1.out⟩
          | false =>
            have za : (FloatKind.f64.format.order a 0 == some .eq) = decide (key a = 0) := zero_test hna
            have zb : (FloatKind.f64.format.order b 0 == some .eq) = decide (key b = 0) := zero_test hnb
            have HLT := @lt_less a b hna hnb
            clear hna hnb
            by_cases hz : key a = 0 ∧ key b = 0
            · rw [decide_eq_true hz.1] at za
              rw [decide_eq_true hz.2] at zb
              clear HLT hz
              go_wp2_with fail
              go_ret
              exact ⟨rfl, X1.out⟩
            · have hlt : (FloatKind.f64.format.order a b == some .lt) = less a b := HLT hz
              rw [lab] at hlt
              clear HLT
              by_cases hza : key a = 0
              · rw [decide_eq_true hza] at za
                rw [decide_eq_false (fun h => hz ⟨hza, h⟩)] at zb
                clear hz hza
                go_wp2_with fail
                repeat (first
                  | (refine (less_any _ _ _ (by assumption) (by assumption)).mono ?_
                     rintro e w' ⟨rfl, rfl⟩
                     go_wp2_with fail)
                  | (refine (same_any _ _ _ (by assumption) (by assumption)).mono ?_
                     rintro e w' ⟨rfl, rfl⟩
                     go_wp2_with fail))
                go_ret
                exact ⟨rfl, X1.out⟩
              · rw [decide_eq_false hza] at za
                clear hz hza zb
                go_wp2_with fail
                repeat (first
                  | (refine (less_any _ _ _ (by assumption) (by assumption)).mono ?_
                     rintro e w' ⟨rfl, rfl⟩
                     go_wp2_with fail)
                  | (refine (same_any _ _ _ (by assumption) (by assumption)).mono ?_
                     rintro e w' ⟨rfl, rfl⟩
                     go_wp2_with fail))
                go_ret
                exact ⟨rfl, X1.out⟩
    · as_aux_lemma =>
        rw [show decide (x < y) = true from by first | exact decide_eq_true (by omega) | exact decide_eq_false (by omega)] at lab
        rw [show decide (y < x) = false from by first | exact decide_eq_true (by omega) | exact decide_eq_false (by omega)] at lba
        rw [show decide (y < z) = false from by first | exact decide_eq_true (by omega) | exact decide_eq_false (by omega)] at lbc
        rw [show decide (x < z) = true from by first | exact decide_eq_true (by omega) | exact decide_eq_false (by omega)] at lac
        rw [show decide (x = y) = false from by first | exact decide_eq_true (by omega) | exact decide_eq_false (by omega)] at sab
        rw [show decide (y = z) = true from by first | exact decide_eq_true (by omega) | exact decide_eq_false (by omega)] at sbc
        rw [show decide (x = z) = false from by first | exact decide_eq_true (by omega) | exact decide_eq_false (by omega)] at sac
        clear h1 h2
        go_wp2_with fail
        repeat (first
          | (refine (less_any _ _ _ (by assumption) (by assumption)).mono ?_
             rintro e w' ⟨rfl, rfl⟩
             go_wp2_with fail)
          | (refine (same_any _ _ _ (by assumption) (by assumption)).mono ?_
             rintro e w' ⟨rfl, rfl⟩
             go_wp2_with fail))
        refine (isnan_any a _).mono ?_
        rintro e w' ⟨rfl, rfl⟩
        cases hna : isNan a with
        | true =>
          go_wp2_with fail
          go_ret
          exact ⟨rfl, X1.out⟩
        | false =>
          go_wp2_with fail
          refine (isnan_any b _).mono ?_
          rintro e w' ⟨rfl, rfl⟩
          cases hnb : isNan b with
          | true =>
            go_wp2_with fail
            go_ret
            exact ⟨rfl, X1.out⟩
          | false =>
            have za : (FloatKind.f64.format.order a 0 == some .eq) = decide (key a = 0) := zero_test hna
            have zb : (FloatKind.f64.format.order b 0 == some .eq) = decide (key b = 0) := zero_test hnb
            have HLT := @lt_less a b hna hnb
            clear hna hnb
            by_cases hz : key a = 0 ∧ key b = 0
            · rw [decide_eq_true hz.1] at za
              rw [decide_eq_true hz.2] at zb
              clear HLT hz
              go_wp2_with fail
              go_ret
              exact ⟨rfl, X1.out⟩
            · have hlt : (FloatKind.f64.format.order a b == some .lt) = less a b := HLT hz
              rw [lab] at hlt
              clear HLT
              by_cases hza : key a = 0
              · rw [decide_eq_true hza] at za
                rw [decide_eq_false (fun h => hz ⟨hza, h⟩)] at zb
                clear hz hza
                go_wp2_with fail
                repeat (first
                  | (refine (less_any _ _ _ (by assumption) (by assumption)).mono ?_
                     rintro e w' ⟨rfl, rfl⟩
                     go_wp2_with fail)
                  | (refine (same_any _ _ _ (by assumption) (by assumption)).mono ?_
                     rintro e w' ⟨rfl, rfl⟩
                     go_wp2_with fail))
                go_ret
                exact ⟨rfl, X1.out⟩
              · rw [decide_eq_false hza] at za
                clear hz hza zb
                go_wp2_with fail
                repeat (first
                  | (refine (less_any _ _ _ (by assumption) (by assumption)).mono ?_
                     rintro e w' ⟨rfl, rfl⟩
                     go_wp2_with fail)
                  | (refine (same_any _ _ _ (by assumption) (by assumption)).mono ?_
                     rintro e w' ⟨rfl, rfl⟩
                     go_wp2_with fail))
                go_ret
                exact ⟨rfl, X1.out⟩
    · rcases Int.lt_trichotomy x z with h3 | h3 | h3
      · as_aux_lemma =>
          rw [show decide (x < y) = true from by first | exact decide_eq_true (by omega) | exact decide_eq_false (by omega)] at lab
          rw [show decide (y < x) = false from by first | exact decide_eq_true (by omega) | exact decide_eq_false (by omega)] at lba
          rw [show decide (y < z) = false from by first | exact decide_eq_true (by omega) | exact decide_eq_false (by omega)] at lbc
          rw [show decide (x < z) = true from by first | exact decide_eq_true (by omega) | exact decide_eq_false (by omega)] at lac
          rw [show decide (x = y) = false from by first | exact decide_eq_true (by omega) | exact decide_eq_false (by omega)] at sab
          rw [show decide (y = z) = false from by first | exact decide_eq_true (by omega) | exact decide_eq_false (by omega)] at sbc
          rw [show decide (x = z) = false from by first | exact decide_eq_true (by omega) | exact decide_eq_false (by omega)] at sac
          clear h1 h2
          go_wp2_with fail
          repeat (first
            | (refine (less_any _ _ _ (by assumption) (by assumption)).mono ?_
               rintro e w' ⟨rfl, rfl⟩
               go_wp2_with fail)
            | (refine (same_any _ _ _ (by assumption) (by assumption)).mono ?_
               rintro e w' ⟨rfl, rfl⟩
               go_wp2_with fail))
          refine (isnan_any a _).mono ?_
          rintro e w' ⟨rfl, rfl⟩
          cases hna : isNan a with
          | true =>
            go_wp2_with fail
            go_ret
            exact ⟨rfl, X1.out⟩
          | false =>
            go_wp2_with fail
            refine (isnan_any b _).mono ?_
            rintro e w' ⟨rfl, rfl⟩
            cases hnb : isNan b with
            | true =>
              go_wp2_with fail
              go_ret
              exact ⟨rfl, X1.out⟩
            | false =>
              have za : (FloatKind.f64.format.order a 0 == some .eq) = decide (key a = 0) := zero_test hna
              have zb : (FloatKind.f64.format.order b 0 == some .eq) = decide (key b = 0) := zero_test hnb
              have HLT := @lt_less a b hna hnb
              clear hna hnb
              by_cases hz : key a = 0 ∧ key b = 0
              · rw [decide_eq_true hz.1] at za
                rw [decide_eq_true hz.2] at zb
                clear HLT hz
                go_wp2_with fail
                go_ret
                exact ⟨rfl, X1.out⟩
              · have hlt : (FloatKind.f64.format.order a b == some .lt) = less a b := HLT hz
                rw [lab] at hlt
                clear HLT
                by_cases hza : key a = 0
                · rw [decide_eq_true hza] at za
                  rw [decide_eq_false (fun h => hz ⟨hza, h⟩)] at zb
                  clear hz hza
                  go_wp2_with fail
                  repeat (first
                    | (refine (less_any _ _ _ (by assumption) (by assumption)).mono ?_
                       rintro e w' ⟨rfl, rfl⟩
                       go_wp2_with fail)
                    | (refine (same_any _ _ _ (by assumption) (by assumption)).mono ?_
                       rintro e w' ⟨rfl, rfl⟩
                       go_wp2_with fail))
                  go_ret
                  exact ⟨rfl, X1.out⟩
                · rw [decide_eq_false hza] at za
                  clear hz hza zb
                  go_wp2_with fail
                  repeat (first
                    | (refine (less_any _ _ _ (by assumption) (by assumption)).mono ?_
                       rintro e w' ⟨rfl, rfl⟩
                       go_wp2_with fail)
                    | (refine (same_any _ _ _ (by assumption) (by assumption)).mono ?_
                       rintro e w' ⟨rfl, rfl⟩
                       go_wp2_with fail))
                  go_ret
                  exact ⟨rfl, X1.out⟩
      · as_aux_lemma =>
          rw [show decide (x < y) = true from by first | exact decide_eq_true (by omega) | exact decide_eq_false (by omega)] at lab
          rw [show decide (y < x) = false from by first | exact decide_eq_true (by omega) | exact decide_eq_false (by omega)] at lba
          rw [show decide (y < z) = false from by first | exact decide_eq_true (by omega) | exact decide_eq_false (by omega)] at lbc
          rw [show decide (x < z) = false from by first | exact decide_eq_true (by omega) | exact decide_eq_false (by omega)] at lac
          rw [show decide (x = y) = false from by first | exact decide_eq_true (by omega) | exact decide_eq_false (by omega)] at sab
          rw [show decide (y = z) = false from by first | exact decide_eq_true (by omega) | exact decide_eq_false (by omega)] at sbc
          rw [show decide (x = z) = true from by first | exact decide_eq_true (by omega) | exact decide_eq_false (by omega)] at sac
          clear h1 h2
          go_wp2_with fail
          repeat (first
            | (refine (less_any _ _ _ (by assumption) (by assumption)).mono ?_
               rintro e w' ⟨rfl, rfl⟩
               go_wp2_with fail)
            | (refine (same_any _ _ _ (by assumption) (by assumption)).mono ?_
               rintro e w' ⟨rfl, rfl⟩
               go_wp2_with fail))
          refine (isnan_any a _).mono ?_
          rintro e w' ⟨rfl, rfl⟩
          cases hna : isNan a with
          | true =>
            go_wp2_with fail
            go_ret
            exact ⟨rfl, X1.out⟩
          | false =>
            go_wp2_with fail
            refine (isnan_any b _).mono ?_
            rintro e w' ⟨rfl, rfl⟩
            cases hnb : isNan b with
            | true =>
              go_wp2_with fail
              go_ret
              exact ⟨rfl, X1.out⟩
            | false =>
              have za : (FloatKind.f64.format.order a 0 == some .eq) = decide (key a = 0) := zero_test hna
              have zb : (FloatKind.f64.format.order b 0 == some .eq) = decide (key b = 0) := zero_test hnb
              have HLT := @lt_less a b hna hnb
              clear hna hnb
              by_cases hz : key a = 0 ∧ key b = 0
              · rw [decide_eq_true hz.1] at za
                rw [decide_eq_true hz.2] at zb
                clear HLT hz
                go_wp2_with fail
                go_ret
                exact ⟨rfl, X1.out⟩
              · have hlt : (FloatKind.f64.format.order a b == some .lt) = less a b := HLT hz
                rw [lab] at hlt
                clear HLT
                by_cases hza : key a = 0
                · rw [decide_eq_true hza] at za
                  rw [decide_eq_false (fun h => hz ⟨hza, h⟩)] at zb
                  clear hz hza
                  go_wp2_with fail
                  repeat (first
                    | (refine (less_any _ _ _ (by assumption) (by assumption)).mono ?_
                       rintro e w' ⟨rfl, rfl⟩
                       go_wp2_with fail)
                    | (refine (same_any _ _ _ (by assumption) (by assumption)).mono ?_
                       rintro e w' ⟨rfl, rfl⟩
                       go_wp2_with fail))
                  go_ret
                  exact ⟨rfl, X1.out⟩
                · rw [decide_eq_false hza] at za
                  clear hz hza zb
                  go_wp2_with fail
                  repeat (first
                    | (refine (less_any _ _ _ (by assumption) (by assumption)).mono ?_
                       rintro e w' ⟨rfl, rfl⟩
                       go_wp2_with fail)
                    | (refine (same_any _ _ _ (by assumption) (by assumption)).mono ?_
                       rintro e w' ⟨rfl, rfl⟩
                       go_wp2_with fail))
                  go_ret
                  exact ⟨rfl, X1.out⟩
      · as_aux_lemma =>
          rw [show decide (x < y) = true from by first | exact decide_eq_true (by omega) | exact decide_eq_false (by omega)] at lab
          rw [show decide (y < x) = false from by first | exact decide_eq_true (by omega) | exact decide_eq_false (by omega)] at lba
          rw [show decide (y < z) = false from by first | exact decide_eq_true (by omega) | exact decide_eq_false (by omega)] at lbc
          rw [show decide (x < z) = false from by first | exact decide_eq_true (by omega) | exact decide_eq_false (by omega)] at lac
          rw [show decide (x = y) = false from by first | exact decide_eq_true (by omega) | exact decide_eq_false (by omega)] at sab
          rw [show decide (y = z) = false from by first | exact decide_eq_true (by omega) | exact decide_eq_false (by omega)] at sbc
          rw [show decide (x = z) = false from by first | exact decide_eq_true (by omega) | exact decide_eq_false (by omega)] at sac
          clear h1 h2
          go_wp2_with fail
          repeat (first
            | (refine (less_any _ _ _ (by assumption) (by assumption)).mono ?_
               rintro e w' ⟨rfl, rfl⟩
               go_wp2_with fail)
            | (refine (same_any _ _ _ (by assumption) (by assumption)).mono ?_
               rintro e w' ⟨rfl, rfl⟩
               go_wp2_with fail))
          refine (isnan_any a _).mono ?_
          rintro e w' ⟨rfl, rfl⟩
          cases hna : isNan a with
          | true =>
            go_wp2_with fail
            go_ret
            exact ⟨rfl, X1.out⟩
          | false =>
            go_wp2_with fail
            refine (isnan_any b _).mono ?_
            rintro e w' ⟨rfl, rfl⟩
            cases hnb : isNan b with
            | true =>
              go_wp2_with fail
              go_ret
              exact ⟨rfl, X1.out⟩
            | false =>
              have za : (FloatKind.f64.format.order a 0 == some .eq) = decide (key a = 0) := zero_test hna
              have zb : (FloatKind.f64.format.order b 0 == some .eq) = decide (key b = 0) := zero_test hnb
              have HLT := @lt_less a b hna hnb
              clear hna hnb
              by_cases hz : key a = 0 ∧ key b = 0
              · rw [decide_eq_true hz.1] at za
                rw [decide_eq_true hz.2] at zb
                clear HLT hz
                go_wp2_with fail
                go_ret
                exact ⟨rfl, X1.out⟩
              · have hlt : (FloatKind.f64.format.order a b == some .lt) = less a b := HLT hz
                rw [lab] at hlt
                clear HLT
                by_cases hza : key a = 0
                · rw [decide_eq_true hza] at za
                  rw [decide_eq_false (fun h => hz ⟨hza, h⟩)] at zb
                  clear hz hza
                  go_wp2_with fail
                  repeat (first
                    | (refine (less_any _ _ _ (by assumption) (by assumption)).mono ?_
                       rintro e w' ⟨rfl, rfl⟩
                       go_wp2_with fail)
                    | (refine (same_any _ _ _ (by assumption) (by assumption)).mono ?_
                       rintro e w' ⟨rfl, rfl⟩
                       go_wp2_with fail))
                  go_ret
                  exact ⟨rfl, X1.out⟩
                · rw [decide_eq_false hza] at za
                  clear hz hza zb
                  go_wp2_with fail
                  repeat (first
                    | (refine (less_any _ _ _ (by assumption) (by assumption)).mono ?_
                       rintro e w' ⟨rfl, rfl⟩
                       go_wp2_with fail)
                    | (refine (same_any _ _ _ (by assumption) (by assumption)).mono ?_
                       rintro e w' ⟨rfl, rfl⟩
                       go_wp2_with fail))
                  go_ret
                  exact ⟨rfl, X1.out⟩
  · rcases Int.lt_trichotomy y z with h2 | h2 | h2
    · as_aux_lemma =>
        rw [show decide (x < y) = false from by first | exact decide_eq_true (by omega) | exact decide_eq_false (by omega)] at lab
        rw [show decide (y < x) = false from by first | exact decide_eq_true (by omega) | exact decide_eq_false (by omega)] at lba
        rw [show decide (y < z) = true from by first | exact decide_eq_true (by omega) | exact decide_eq_false (by omega)] at lbc
        rw [show decide (x < z) = true from by first | exact decide_eq_true (by omega) | exact decide_eq_false (by omega)] at lac
        rw [show decide (x = y) = true from by first | exact decide_eq_true (by omega) | exact decide_eq_false (by omega)] at sab
        rw [show decide (y = z) = false from by first | exact decide_eq_true (by omega) | exact decide_eq_false (by omega)] at sbc
        rw [show decide (x = z) = false from by first | exact decide_eq_true (by omega) | exact decide_eq_false (by omega)] at sac
        clear h1 h2
        go_wp2_with fail
        repeat (first
          | (refine (less_any _ _ _ (by assumption) (by assumption)).mono ?_
             rintro e w' ⟨rfl, rfl⟩
             go_wp2_with fail)
          | (refine (same_any _ _ _ (by assumption) (by assumption)).mono ?_
             rintro e w' ⟨rfl, rfl⟩
             go_wp2_with fail))
        refine (isnan_any a _).mono ?_
        rintro e w' ⟨rfl, rfl⟩
        cases hna : isNan a with
        | true =>
          go_wp2_with fail
          go_ret
          exact ⟨rfl, X1.out⟩
        | false =>
          go_wp2_with fail
          refine (isnan_any b _).mono ?_
          rintro e w' ⟨rfl, rfl⟩
          cases hnb : isNan b with
          | true =>
            go_wp2_with fail
            go_ret
            exact ⟨rfl, X1.out⟩
          | false =>
            have za : (FloatKind.f64.format.order a 0 == some .eq) = decide (key a = 0) := zero_test hna
            have zb : (FloatKind.f64.format.order b 0 == some .eq) = decide (key b = 0) := zero_test hnb
            have HLT := @lt_less a b hna hnb
            clear hna hnb
            by_cases hz : key a = 0 ∧ key b = 0
            · rw [decide_eq_true hz.1] at za
              rw [decide_eq_true hz.2] at zb
              clear HLT hz
              go_wp2_with fail
              go_ret
              exact ⟨rfl, X1.out⟩
            · have hlt : (FloatKind.f64.format.order a b == some .lt) = less a b := HLT hz
              rw [lab] at hlt
              clear HLT
              by_cases hza : key a = 0
              · rw [decide_eq_true hza] at za
                rw [decide_eq_false (fun h => hz ⟨hza, h⟩)] at zb
                clear hz hza
                go_wp2_with fail
                repeat (first
                  | (refine (less_any _ _ _ (by assumption) (by assumption)).mono ?_
                     rintro e w' ⟨rfl, rfl⟩
                     go_wp2_with fail)
                  | (refine (same_any _ _ _ (by assumption) (by assumption)).mono ?_
                     rintro e w' ⟨rfl, rfl⟩
                     go_wp2_with fail))
                go_ret
                exact ⟨rfl, X1.out⟩
              · rw [decide_eq_false hza] at za
                clear hz hza zb
                go_wp2_with fail
                repeat (first
                  | (refine (less_any _ _ _ (by assumption) (by assumption)).mono ?_
                     rintro e w' ⟨rfl, rfl⟩
                     go_wp2_with fail)
                  | (refine (same_any _ _ _ (by assumption) (by assumption)).mono ?_
                     rintro e w' ⟨rfl, rfl⟩
                     go_wp2_with fail))
                go_ret
                exact ⟨rfl, X1.out⟩
    · as_aux_lemma =>
        rw [show decide (x < y) = false from by first | exact decide_eq_true (by omega) | exact decide_eq_false (by omega)] at lab
        rw [show decide (y < x) = false from by first | exact decide_eq_true (by omega) | exact decide_eq_false (by omega)] at lba
        rw [show decide (y < z) = false from by first | exact decide_eq_true (by omega) | exact decide_eq_false (by omega)] at lbc
        rw [show decide (x < z) = false from by first | exact decide_eq_true (by omega) | exact decide_eq_false (by omega)] at lac
        rw [show decide (x = y) = true from by first | exact decide_eq_true (by omega) | exact decide_eq_false (by omega)] at sab
        rw [show decide (y = z) = true from by first | exact decide_eq_true (by omega) | exact decide_eq_false (by omega)] at sbc
        rw [show decide (x = z) = true from by first | exact decide_eq_true (by omega) | exact decide_eq_false (by omega)] at sac
        clear h1 h2
        go_wp2_with fail
        repeat (first
          | (refine (less_any _ _ _ (by assumption) (by assumption)).mono ?_
             rintro e w' ⟨rfl, rfl⟩
             go_wp2_with fail)
          | (refine (same_any _ _ _ (by assumption) (by assumption)).mono ?_
             rintro e w' ⟨rfl, rfl⟩
             go_wp2_with fail))
        refine (isnan_any a _).mono ?_
        rintro e w' ⟨rfl, rfl⟩
        cases hna : isNan a with
        | true =>
          go_wp2_with fail
          go_ret
          exact ⟨rfl, X1.out⟩
        | false =>
          go_wp2_with fail
          refine (isnan_any b _).mono ?_
          rintro e w' ⟨rfl, rfl⟩
          cases hnb : isNan b with
          | true =>
            go_wp2_with fail
            go_ret
            exact ⟨rfl, X1.out⟩
          | false =>
            have za : (FloatKind.f64.format.order a 0 == some .eq) = decide (key a = 0) := zero_test hna
            have zb : (FloatKind.f64.format.order b 0 == some .eq) = decide (key b = 0) := zero_test hnb
            have HLT := @lt_less a b hna hnb
            clear hna hnb
            by_cases hz : key a = 0 ∧ key b = 0
            · rw [decide_eq_true hz.1] at za
              rw [decide_eq_true hz.2] at zb
              clear HLT hz
              go_wp2_with fail
              go_ret
              exact ⟨rfl, X1.out⟩
            · have hlt : (FloatKind.f64.format.order a b == some .lt) = less a b := HLT hz
              rw [lab] at hlt
              clear HLT
              by_cases hza : key a = 0
              · rw [decide_eq_true hza] at za
                rw [decide_eq_false (fun h => hz ⟨hza, h⟩)] at zb
                clear hz hza
                go_wp2_with fail
                repeat (first
                  | (refine (less_any _ _ _ (by assumption) (by assumption)).mono ?_
                     rintro e w' ⟨rfl, rfl⟩
                     go_wp2_with fail)
                  | (refine (same_any _ _ _ (by assumption) (by assumption)).mono ?_
                     rintro e w' ⟨rfl, rfl⟩
                     go_wp2_with fail))
                go_ret
                exact ⟨rfl, X1.out⟩
              · rw [decide_eq_false hza] at za
                clear hz hza zb
                go_wp2_with fail
                repeat (first
                  | (refine (less_any _ _ _ (by assumption) (by assumption)).mono ?_
                     rintro e w' ⟨rfl, rfl⟩
                     go_wp2_with fail)
                  | (refine (same_any _ _ _ (by assumption) (by assumption)).mono ?_
                     rintro e w' ⟨rfl, rfl⟩
                     go_wp2_with fail))
                go_ret
                exact ⟨rfl, X1.out⟩
    · as_aux_lemma =>
        rw [show decide (x < y) = false from by first | exact decide_eq_true (by omega) | exact decide_eq_false (by omega)] at lab
        rw [show decide (y < x) = false from by first | exact decide_eq_true (by omega) | exact decide_eq_false (by omega)] at lba
        rw [show decide (y < z) = false from by first | exact decide_eq_true (by omega) | exact decide_eq_false (by omega)] at lbc
        rw [show decide (x < z) = false from by first | exact decide_eq_true (by omega) | exact decide_eq_false (by omega)] at lac
        rw [show decide (x = y) = true from by first | exact decide_eq_true (by omega) | exact decide_eq_false (by omega)] at sab
        rw [show decide (y = z) = false from by first | exact decide_eq_true (by omega) | exact decide_eq_false (by omega)] at sbc
        rw [show decide (x = z) = false from by first | exact decide_eq_true (by omega) | exact decide_eq_false (by omega)] at sac
        clear h1 h2
        go_wp2_with fail
        repeat (first
          | (refine (less_any _ _ _ (by assumption) (by assumption)).mono ?_
             rintro e w' ⟨rfl, rfl⟩
             go_wp2_with fail)
          | (refine (same_any _ _ _ (by assumption) (by assumption)).mono ?_
             rintro e w' ⟨rfl, rfl⟩
             go_wp2_with fail))
        refine (isnan_any a _).mono ?_
        rintro e w' ⟨rfl, rfl⟩
        cases hna : isNan a with
        | true =>
          go_wp2_with fail
          go_ret
          exact ⟨rfl, X1.out⟩
        | false =>
          go_wp2_with fail
          refine (isnan_any b _).mono ?_
          rintro e w' ⟨rfl, rfl⟩
          cases hnb : isNan b with
          | true =>
            go_wp2_with fail
            go_ret
            exact ⟨rfl, X1.out⟩
          | false =>
            have za : (FloatKind.f64.format.order a 0 == some .eq) = decide (key a = 0) := zero_test hna
            have zb : (FloatKind.f64.format.order b 0 == some .eq) = decide (key b = 0) := zero_test hnb
            have HLT := @lt_less a b hna hnb
            clear hna hnb
            by_cases hz : key a = 0 ∧ key b = 0
            · rw [decide_eq_true hz.1] at za
              rw [decide_eq_true hz.2] at zb
              clear HLT hz
              go_wp2_with fail
              go_ret
              exact ⟨rfl, X1.out⟩
            · have hlt : (FloatKind.f64.format.order a b == some .lt) = less a b := HLT hz
              rw [lab] at hlt
              clear HLT
              by_cases hza : key a = 0
              · rw [decide_eq_true hza] at za
                rw [decide_eq_false (fun h => hz ⟨hza, h⟩)] at zb
                clear hz hza
                go_wp2_with fail
                repeat (first
                  | (refine (less_any _ _ _ (by assumption) (by assumption)).mono ?_
                     rintro e w' ⟨rfl, rfl⟩
                     go_wp2_with fail)
                  | (refine (same_any _ _ _ (by assumption) (by assumption)).mono ?_
                     rintro e w' ⟨rfl, rfl⟩
                     go_wp2_with fail))
                go_ret
                exact ⟨rfl, X1.out⟩
              · rw [decide_eq_false hza] at za
                clear hz hza zb
                go_wp2_with fail
                repeat (first
                  | (refine (less_any _ _ _ (by assumption) (by assumption)).mono ?_
                     rintro e w' ⟨rfl, rfl⟩
                     go_wp2_with fail)
                  | (refine (same_any _ _ _ (by assumption) (by assumption)).mono ?_
                     rintro e w' ⟨rfl, rfl⟩
                     go_wp2_with fail))
                go_ret
                exact ⟨rfl, X1.out⟩
  · rcases Int.lt_trichotomy y z with h2 | h2 | h2
    · rcases Int.lt_trichotomy x z with h3 | h3 | h3
      · as_aux_lemma =>
          rw [show decide (x < y) = false from by first | exact decide_eq_true (by omega) | exact decide_eq_false (by omega)] at lab
          rw [show decide (y < x) = true from by first | exact decide_eq_true (by omega) | exact decide_eq_false (by omega)] at lba
          rw [show decide (y < z) = true from by first | exact decide_eq_true (by omega) | exact decide_eq_false (by omega)] at lbc
          rw [show decide (x < z) = true from by first | exact decide_eq_true (by omega) | exact decide_eq_false (by omega)] at lac
          rw [show decide (x = y) = false from by first | exact decide_eq_true (by omega) | exact decide_eq_false (by omega)] at sab
          rw [show decide (y = z) = false from by first | exact decide_eq_true (by omega) | exact decide_eq_false (by omega)] at sbc
          rw [show decide (x = z) = false from by first | exact decide_eq_true (by omega) | exact decide_eq_false (by omega)] at sac
          clear h1 h2
          go_wp2_with fail
          repeat (first
            | (refine (less_any _ _ _ (by assumption) (by assumption)).mono ?_
               rintro e w' ⟨rfl, rfl⟩
               go_wp2_with fail)
            | (refine (same_any _ _ _ (by assumption) (by assumption)).mono ?_
               rintro e w' ⟨rfl, rfl⟩
               go_wp2_with fail))
          refine (isnan_any a _).mono ?_
          rintro e w' ⟨rfl, rfl⟩
          cases hna : isNan a with
          | true =>
            go_wp2_with fail
            go_ret
            exact ⟨rfl, X1.out⟩
          | false =>
            go_wp2_with fail
            refine (isnan_any b _).mono ?_
            rintro e w' ⟨rfl, rfl⟩
            cases hnb : isNan b with
            | true =>
              go_wp2_with fail
              go_ret
              exact ⟨rfl, X1.out⟩
            | false =>
              have za : (FloatKind.f64.format.order a 0 == some .eq) = decide (key a = 0) := zero_test hna
              have zb : (FloatKind.f64.format.order b 0 == some .eq) = decide (key b = 0) := zero_test hnb
              have HLT := @lt_less a b hna hnb
              clear hna hnb
              by_cases hz : key a = 0 ∧ key b = 0
              · rw [decide_eq_true hz.1] at za
                rw [decide_eq_true hz.2] at zb
                clear HLT hz
                go_wp2_with fail
                go_ret
                exact ⟨rfl, X1.out⟩
              · have hlt : (FloatKind.f64.format.order a b == some .lt) = less a b := HLT hz
                rw [lab] at hlt
                clear HLT
                by_cases hza : key a = 0
                · rw [decide_eq_true hza] at za
                  rw [decide_eq_false (fun h => hz ⟨hza, h⟩)] at zb
                  clear hz hza
                  go_wp2_with fail
                  repeat (first
                    | (refine (less_any _ _ _ (by assumption) (by assumption)).mono ?_
                       rintro e w' ⟨rfl, rfl⟩
                       go_wp2_with fail)
                    | (refine (same_any _ _ _ (by assumption) (by assumption)).mono ?_
                       rintro e w' ⟨rfl, rfl⟩
                       go_wp2_with fail))
                  go_ret
                  exact ⟨rfl, X1.out⟩
                · rw [decide_eq_false hza] at za
                  clear hz hza zb
                  go_wp2_with fail
                  repeat (first
                    | (refine (less_any _ _ _ (by assumption) (by assumption)).mono ?_
                       rintro e w' ⟨rfl, rfl⟩
                       go_wp2_with fail)
                    | (refine (same_any _ _ _ (by assumption) (by assumption)).mono ?_
                       rintro e w' ⟨rfl, rfl⟩
                       go_wp2_with fail))
                  go_ret
                  exact ⟨rfl, X1.out⟩
      · as_aux_lemma =>
          rw [show decide (x < y) = false from by first | exact decide_eq_true (by omega) | exact decide_eq_false (by omega)] at lab
          rw [show decide (y < x) = true from by first | exact decide_eq_true (by omega) | exact decide_eq_false (by omega)] at lba
          rw [show decide (y < z) = true from by first | exact decide_eq_true (by omega) | exact decide_eq_false (by omega)] at lbc
          rw [show decide (x < z) = false from by first | exact decide_eq_true (by omega) | exact decide_eq_false (by omega)] at lac
          rw [show decide (x = y) = false from by first | exact decide_eq_true (by omega) | exact decide_eq_false (by omega)] at sab
          rw [show decide (y = z) = false from by first | exact decide_eq_true (by omega) | exact decide_eq_false (by omega)] at sbc
          rw [show decide (x = z) = true from by first | exact decide_eq_true (by omega) | exact decide_eq_false (by omega)] at sac
          clear h1 h2
          go_wp2_with fail
          repeat (first
            | (refine (less_any _ _ _ (by assumption) (by assumption)).mono ?_
               rintro e w' ⟨rfl, rfl⟩
               go_wp2_with fail)
            | (refine (same_any _ _ _ (by assumption) (by assumption)).mono ?_
               rintro e w' ⟨rfl, rfl⟩
               go_wp2_with fail))
          refine (isnan_any a _).mono ?_
          rintro e w' ⟨rfl, rfl⟩
          cases hna : isNan a with
          | true =>
            go_wp2_with fail
            go_ret
            exact ⟨rfl, X1.out⟩
          | false =>
            go_wp2_with fail
            refine (isnan_any b _).mono ?_
            rintro e w' ⟨rfl, rfl⟩
            cases hnb : isNan b with
            | true =>
              go_wp2_with fail
              go_ret
              exact ⟨rfl, X1.out⟩
            | false =>
              have za : (FloatKind.f64.format.order a 0 == some .eq) = decide (key a = 0) := zero_test hna
              have zb : (FloatKind.f64.format.order b 0 == some .eq) = decide (key b = 0) := zero_test hnb
              have HLT := @lt_less a b hna hnb
              clear hna hnb
              by_cases hz : key a = 0 ∧ key b = 0
              · rw [decide_eq_true hz.1] at za
                rw [decide_eq_true hz.2] at zb
                clear HLT hz
                go_wp2_with fail
                go_ret
                exact ⟨rfl, X1.out⟩
              · have hlt : (FloatKind.f64.format.order a b == some .lt) = less a b := HLT hz
                rw [lab] at hlt
                clear HLT
                by_cases hza : key a = 0
                · rw [decide_eq_true hza] at za
                  rw [decide_eq_false (fun h => hz ⟨hza, h⟩)] at zb
                  clear hz hza
                  go_wp2_with fail
                  repeat (first
                    | (refine (less_any _ _ _ (by assumption) (by assumption)).mono ?_
                       rintro e w' ⟨rfl, rfl⟩
                       go_wp2_with fail)
                    | (refine (same_any _ _ _ (by assumption) (by assumption)).mono ?_
                       rintro e w' ⟨rfl, rfl⟩
                       go_wp2_with fail))
                  go_ret
                  exact ⟨rfl, X1.out⟩
                · rw [decide_eq_false hza] at za
                  clear hz hza zb
                  go_wp2_with fail
                  repeat (first
                    | (refine (less_any _ _ _ (by assumption) (by assumption)).mono ?_
                       rintro e w' ⟨rfl, rfl⟩
                       go_wp2_with fail)
                    | (refine (same_any _ _ _ (by assumption) (by assumption)).mono ?_
                       rintro e w' ⟨rfl, rfl⟩
                       go_wp2_with fail))
                  go_ret
                  exact ⟨rfl, X1.out⟩
      · as_aux_lemma =>
          rw [show decide (x < y) = false from by first | exact decide_eq_true (by omega) | exact decide_eq_false (by omega)] at lab
          rw [show decide (y < x) = true from by first | exact decide_eq_true (by omega) | exact decide_eq_false (by omega)] at lba
          rw [show decide (y < z) = true from by first | exact decide_eq_true (by omega) | exact decide_eq_false (by omega)] at lbc
          rw [show decide (x < z) = false from by first | exact decide_eq_true (by omega) | exact decide_eq_false (by omega)] at lac
          rw [show decide (x = y) = false from by first | exact decide_eq_true (by omega) | exact decide_eq_false (by omega)] at sab
          rw [show decide (y = z) = false from by first | exact decide_eq_true (by omega) | exact decide_eq_false (by omega)] at sbc
          rw [show decide (x = z) = false from by first | exact decide_eq_true (by omega) | exact decide_eq_false (by omega)] at sac
          clear h1 h2
          go_wp2_with fail
          repeat (first
            | (refine (less_any _ _ _ (by assumption) (by assumption)).mono ?_
               rintro e w' ⟨rfl, rfl⟩
               go_wp2_with fail)
            | (refine (same_any _ _ _ (by assumption) (by assumption)).mono ?_
               rintro e w' ⟨rfl, rfl⟩
               go_wp2_with fail))
          refine (isnan_any a _).mono ?_
          rintro e w' ⟨rfl, rfl⟩
          cases hna : isNan a with
          | true =>
            go_wp2_with fail
            go_ret
            exact ⟨rfl, X1.out⟩
          | false =>
            go_wp2_with fail
            refine (isnan_any b _).mono ?_
            rintro e w' ⟨rfl, rfl⟩
            cases hnb : isNan b with
            | true =>
              go_wp2_with fail
              go_ret
              exact ⟨rfl, X1.out⟩
            | false =>
              have za : (FloatKind.f64.format.order a 0 == some .eq) = decide (key a = 0) := zero_test hna
              have zb : (FloatKind.f64.format.order b 0 == some .eq) = decide (key b = 0) := zero_test hnb
              have HLT := @lt_less a b hna hnb
              clear hna hnb
              by_cases hz : key a = 0 ∧ key b = 0
              · rw [decide_eq_true hz.1] at za
                rw [decide_eq_true hz.2] at zb
                clear HLT hz
                go_wp2_with fail
                go_ret
                exact ⟨rfl, X1.out⟩
              · have hlt : (FloatKind.f64.format.order a b == some .lt) = less a b := HLT hz
                rw [lab] at hlt
                clear HLT
                by_cases hza : key a = 0
                · rw [decide_eq_true hza] at za
                  rw [decide_eq_false (fun h => hz ⟨hza, h⟩)] at zb
                  clear hz hza
                  go_wp2_with fail
                  repeat (first
                    | (refine (less_any _ _ _ (by assumption) (by assumption)).mono ?_
                       rintro e w' ⟨rfl, rfl⟩
                       go_wp2_with fail)
                    | (refine (same_any _ _ _ (by assumption) (by assumption)).mono ?_
                       rintro e w' ⟨rfl, rfl⟩
                       go_wp2_with fail))
                  go_ret
                  exact ⟨rfl, X1.out⟩
                · rw [decide_eq_false hza] at za
                  clear hz hza zb
                  go_wp2_with fail
                  repeat (first
                    | (refine (less_any _ _ _ (by assumption) (by assumption)).mono ?_
                       rintro e w' ⟨rfl, rfl⟩
                       go_wp2_with fail)
                    | (refine (same_any _ _ _ (by assumption) (by assumption)).mono ?_
                       rintro e w' ⟨rfl, rfl⟩
                       go_wp2_with fail))
                  go_ret
                  exact ⟨rfl, X1.out⟩
    · as_aux_lemma =>
        rw [show decide (x < y) = false from by first | exact decide_eq_true (by omega) | exact decide_eq_false (by omega)] at lab
        rw [show decide (y < x) = true from by first | exact decide_eq_true (by omega) | exact decide_eq_false (by omega)] at lba
        rw [show decide (y < z) = false from by first | exact decide_eq_true (by omega) | exact decide_eq_false (by omega)] at lbc
        rw [show decide (x < z) = false from by first | exact decide_eq_true (by omega) | exact decide_eq_false (by omega)] at lac
        rw [show decide (x = y) = false from by first | exact decide_eq_true (by omega) | exact decide_eq_false (by omega)] at sab
        rw [show decide (y = z) = true from by first | exact decide_eq_true (by omega) | exact decide_eq_false (by omega)] at sbc
        rw [show decide (x = z) = false from by first | exact decide_eq_true (by omega) | exact decide_eq_false (by omega)] at sac
        clear h1 h2
        go_wp2_with fail
        repeat (first
          | (refine (less_any _ _ _ (by assumption) (by assumption)).mono ?_
             rintro e w' ⟨rfl, rfl⟩
             go_wp2_with fail)
          | (refine (same_any _ _ _ (by assumption) (by assumption)).mono ?_
             rintro e w' ⟨rfl, rfl⟩
             go_wp2_with fail))
        refine (isnan_any a _).mono ?_
        rintro e w' ⟨rfl, rfl⟩
        cases hna : isNan a with
        | true =>
          go_wp2_with fail
          go_ret
          exact ⟨rfl, X1.out⟩
        | false =>
          go_wp2_with fail
          refine (isnan_any b _).mono ?_
          rintro e w' ⟨rfl, rfl⟩
          cases hnb : isNan b with
          | true =>
            go_wp2_with fail
            go_ret
            exact ⟨rfl, X1.out⟩
          | false =>
            have za : (FloatKind.f64.format.order a 0 == some .eq) = decide (key a = 0) := zero_test hna
            have zb : (FloatKind.f64.format.order b 0 == some .eq) = decide (key b = 0) := zero_test hnb
            have HLT := @lt_less a b hna hnb
            clear hna hnb
            by_cases hz : key a = 0 ∧ key b = 0
            · rw [decide_eq_true hz.1] at za
              rw [decide_eq_true hz.2] at zb
              clear HLT hz
              go_wp2_with fail
              go_ret
              exact ⟨rfl, X1.out⟩
            · have hlt : (FloatKind.f64.format.order a b == some .lt) = less a b := HLT hz
              rw [lab] at hlt
              clear HLT
              by_cases hza : key a = 0
              · rw [decide_eq_true hza] at za
                rw [decide_eq_false (fun h => hz ⟨hza, h⟩)] at zb
                clear hz hza
                go_wp2_with fail
                repeat (first
                  | (refine (less_any _ _ _ (by assumption) (by assumption)).mono ?_
                     rintro e w' ⟨rfl, rfl⟩
                     go_wp2_with fail)
                  | (refine (same_any _ _ _ (by assumption) (by assumption)).mono ?_
                     rintro e w' ⟨rfl, rfl⟩
                     go_wp2_with fail))
                go_ret
                exact ⟨rfl, X1.out⟩
              · rw [decide_eq_false hza] at za
                clear hz hza zb
                go_wp2_with fail
                repeat (first
                  | (refine (less_any _ _ _ (by assumption) (by assumption)).mono ?_
                     rintro e w' ⟨rfl, rfl⟩
                     go_wp2_with fail)
                  | (refine (same_any _ _ _ (by assumption) (by assumption)).mono ?_
                     rintro e w' ⟨rfl, rfl⟩
                     go_wp2_with fail))
                go_ret
                exact ⟨rfl, X1.out⟩
    · as_aux_lemma =>
        rw [show decide (x < y) = false from by first | exact decide_eq_true (by omega) | exact decide_eq_false (by omega)] at lab
        rw [show decide (y < x) = true from by first | exact decide_eq_true (by omega) | exact decide_eq_false (by omega)] at lba
        rw [show decide (y < z) = false from by first | exact decide_eq_true (by omega) | exact decide_eq_false (by omega)] at lbc
        rw [show decide (x < z) = false from by first | exact decide_eq_true (by omega) | exact decide_eq_false (by omega)] at lac
        rw [show decide (x = y) = false from by first | exact decide_eq_true (by omega) | exact decide_eq_false (by omega)] at sab
        rw [show decide (y = z) = false from by first | exact decide_eq_true (by omega) | exact decide_eq_false (by omega)] at sbc
        rw [show decide (x = z) = false from by first | exact decide_eq_true (by omega) | exact decide_eq_false (by omega)] at sac
        clear h1 h2
        go_wp2_with fail
        repeat (first
          | (refine (less_any _ _ _ (by assumption) (by assumption)).mono ?_
             rintro e w' ⟨rfl, rfl⟩
             go_wp2_with fail)
          | (refine (same_any _ _ _ (by assumption) (by assumption)).mono ?_
             rintro e w' ⟨rfl, rfl⟩
             go_wp2_with fail))
        refine (isnan_any a _).mono ?_
        rintro e w' ⟨rfl, rfl⟩
        cases hna : isNan a with
        | true =>
          go_wp2_with fail
          go_ret
          exact ⟨rfl, X1.out⟩
        | false =>
          go_wp2_with fail
          refine (isnan_any b _).mono ?_
          rintro e w' ⟨rfl, rfl⟩
          cases hnb : isNan b with
          | true =>
            go_wp2_with fail
            go_ret
            exact ⟨rfl, X1.out⟩
          | false =>
            have za : (FloatKind.f64.format.order a 0 == some .eq) = decide (key a = 0) := zero_test hna
            have zb : (FloatKind.f64.format.order b 0 == some .eq) = decide (key b = 0) := zero_test hnb
            have HLT := @lt_less a b hna hnb
            clear hna hnb
            by_cases hz : key a = 0 ∧ key b = 0
            · rw [decide_eq_true hz.1] at za
              rw [decide_eq_true hz.2] at zb
              clear HLT hz
              go_wp2_with fail
              go_ret
              exact ⟨rfl, X1.out⟩
            · have hlt : (FloatKind.f64.format.order a b == some .lt) = less a b := HLT hz
              rw [lab] at hlt
              clear HLT
              by_cases hza : key a = 0
              · rw [decide_eq_true hza] at za
                rw [decide_eq_false (fun h => hz ⟨hza, h⟩)] at zb
                clear hz hza
                go_wp2_with fail
                repeat (first
                  | (refine (less_any _ _ _ (by assumption) (by assumption)).mono ?_
                     rintro e w' ⟨rfl, rfl⟩
                     go_wp2_with fail)
                  | (refine (same_any _ _ _ (by assumption) (by assumption)).mono ?_
                     rintro e w' ⟨rfl, rfl⟩
                     go_wp2_with fail))
                go_ret
                exact ⟨rfl, X1.out⟩
              · rw [decide_eq_false hza] at za
                clear hz hza zb
                go_wp2_with fail
                repeat (first
                  | (refine (less_any _ _ _ (by assumption) (by assumption)).mono ?_
                     rintro e w' ⟨rfl, rfl⟩
                     go_wp2_with fail)
                  | (refine (same_any _ _ _ (by assumption) (by assumption)).mono ?_
                     rintro e w' ⟨rfl, rfl⟩
                     go_wp2_with fail))
                go_ret
                exact ⟨rfl, X1.out⟩
end Flt
end Go.Proofs.Ytomfkjllkmilpaa
