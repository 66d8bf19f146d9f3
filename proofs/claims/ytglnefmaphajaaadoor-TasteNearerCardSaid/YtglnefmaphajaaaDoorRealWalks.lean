/- The walks of package real: Ratio, Quality, Print. -/
import Derived.Test.YtglnefmaphajaaaDoorFloatW1
import Derived.Test.YtglnefmaphajaaaDoorRealPlain
import Derived.Test.YtglnefmaphajaaaDoorBuf
set_option linter.unusedSimpArgs false
set_option linter.unusedVariables false
set_option linter.unusedSectionVars false
namespace Go.Proofs.YtglnefmaphajaaaDoor
open Go.RowKit
namespace Flt
open FloatP
attribute [local go_sem] call_bits call_from unary_neg_float
def infOf (n : Int) : Nat := if n < 0 then 18442240474082181120 else 9218868437227405312
set_option maxHeartbeats 1000000 in
theorem inf_any (n : Int) (w : World) : Calls Tryd.prog 49 #[.int .i64 n] w fun e w' => e = .returned (.float .f64 (infOf n)) ∧ w = w' := by
  go_enter Tryd.func49, Tryd.ntmps49
  by_cases h : 0 ≤ n
  · have d1 : decide (0 ≤ n) = true := decide_eq_true h
    have HV := Lib.hid (show infOf n = 9218868437227405312 from if_neg (by omega))
    clear h
    go_wp2_with fail
    go_ret
    exact ⟨by rw [HV.out]; rfl, rfl⟩
  · have d1 : decide (0 ≤ n) = false := decide_eq_false h
    have HV := Lib.hid (show infOf n = 18442240474082181120 from if_pos (by omega))
    clear h
    go_wp2_with fail
    go_ret
    exact ⟨by rw [HV.out]; rfl, rfl⟩
set_option maxHeartbeats 1000000 in
theorem ratio_any (a b : Int) (r : Nat) (w : World) (hb : b ≠ 0) (hr : quo a b = some r) (hl : r < 18446744073709551616) : Calls Tryd.prog 41 #[.int .i64 a, .int .i64 b] w fun e w' => e = .returned (.float .f64 (clean r)) ∧ w = w' := by
  have d1 : (b != 0) = true := by rw [bne_iff_ne]; exact hb
  have hd : ∀ W, (binOp .quo 27 (.float .f64 (floatOfInt .f64 a)) (.float .f64 (floatOfInt .f64 b))).run Tryd.prog W = .ok (.float .f64 r) W := fun W => run_float_arith W .quo 27 .f64 _ _ r hr
  clear hr
  go_enter Tryd.func41, Tryd.ntmps41
  go_wp2_with fail
  refine (clean_any r w hl).mono ?_
  rintro e w' ⟨rfl, rfl⟩
  go_wp2_with fail
  go_ret
  exact ⟨rfl, rfl⟩
theorem clean_nan : clean 9221120237041090561 = 9221120237041090560 := by decide
set_option maxHeartbeats 1000000 in
theorem ratio_none (w : World) : Calls Tryd.prog 41 #[.int .i64 0, .int .i64 0] w fun e w' => e = .returned (.float .f64 9221120237041090560) ∧ w = w' := by
  go_enter Tryd.func41, Tryd.ntmps41
  go_wp2_with fail
  refine (nan_any w).mono ?_
  rintro e w' ⟨rfl, rfl⟩
  go_wp2_with fail
  refine (clean_any _ w (by decide)).mono ?_
  rintro e w' ⟨rfl, rfl⟩
  rw [clean_nan]
  go_wp2_with fail
  go_ret
  exact ⟨rfl, rfl⟩
set_option maxHeartbeats 1000000 in
theorem ratio_inf (a : Int) (ha : a ≠ 0) (w : World) : Calls Tryd.prog 41 #[.int .i64 a, .int .i64 0] w fun e w' => e = .returned (.float .f64 (infOf a)) ∧ w = w' := by
  have d1 : (a == 0) = false := by rw [beq_eq_false_iff_ne]; exact ha
  go_enter Tryd.func41, Tryd.ntmps41
  go_wp2_with fail
  refine (inf_any a w).mono ?_
  rintro e w' ⟨rfl, rfl⟩
  go_wp2_with fail
  go_ret
  exact ⟨rfl, rfl⟩
/-! ### weights -/
theorem first_byte (s : ByteArray) (h : 0 < s.size) : ∃ l, s.data.toList = s[0] :: l := by
  match hl : s.data.toList with
  | [] => have := len_data s; rw [hl] at this; simp at this; omega
  | c :: l =>
    refine ⟨l, ?_⟩
    have : s[0] = s.data.toList[0]'(by rw [len_data]; exact h) := rfl
    rw [this]
    simp [hl]
theorem two_bytes (s : ByteArray) (h : 1 < s.size) : ∃ l, s.data.toList = s[0] :: s[1] :: l := by
  match hl : s.data.toList with
  | [] => have := len_data s; rw [hl] at this; simp at this; omega
  | [c] => have := len_data s; rw [hl] at this; simp at this; omega
  | c :: d :: l =>
    refine ⟨l, ?_⟩
    have e0 : s[0] = s.data.toList[0]'(by rw [len_data]; omega) := rfl
    have e1 : s[1] = s.data.toList[1]'(by rw [len_data]; omega) := rfl
    rw [e0, e1]
    simp [hl]
set_option maxHeartbeats 2000000 in
theorem isw_any (s : ByteArray) (w : World) (hs : s.size ≤ 274877906944) : Calls Tryd.prog 40 #[.string s] w fun e w' => e = .returned (.bool (isW s.data.toList)) ∧ w = w' := by
  have hlen := len_data s
  go_enter Tryd.func40, Tryd.ntmps40
  by_cases h0 : s.size < 1
  · have d0 : decide ((s.size : Int) < 1) = true := by rw [decide_eq_true_iff]; omega
    have HV := Lib.hid (show isW s.data.toList = false by rw [List.eq_nil_of_length_eq_zero (l := s.data.toList) (by omega)]; rfl)
    clear h0
    go_wp2_with fail
    go_ret
    exact ⟨by rw [HV.out]; rfl, rfl⟩
  · have d0 : decide ((s.size : Int) < 1) = false := by rw [decide_eq_false_iff_not]; omega
    by_cases h5 : 5 < s.size
    · have d5 : decide ((5 : Int) < (s.size : Int)) = true := by rw [decide_eq_true_iff]; omega
      have HV := Lib.hid (show isW s.data.toList = false by
        match hl : s.data.toList, hlen with
        | c :: p :: l, hlen =>
          have : ¬ (l.length ≤ 3) := by simp at hlen; omega
          simp [isW, this]
        | [c], hlen => simp at hlen; omega
        | [], hlen => simp at hlen; omega)
      clear h5
      go_wp2_with fail
      go_ret
      exact ⟨by rw [HV.out]; rfl, rfl⟩
    · have d5 : decide ((5 : Int) < (s.size : Int)) = false := by rw [decide_eq_false_iff_not]; omega
      have hs0 : (0 : Int) < (s.size : Int) := by omega
      have hb0 : 0 < s.size := by omega
      by_cases hc : s[0] = 48
      · have t48 : (((s[0]).toNat : Int) != 48) = false := by rw [hc]; rfl
        have t49 : (((s[0]).toNat : Int) == 49) = false := by rw [hc]; rfl
        by_cases h1 : 1 < s.size
        · have d1 : decide ((1 : Int) < (s.size : Int)) = true := by rw [decide_eq_true_iff]; omega
          obtain ⟨l, hl⟩ := two_bytes s h1
          have hl3 : l.length ≤ 3 := by have := len_data s; rw [hl] at this; simp at this; omega
          by_cases hp : s[1] = 46
          · have t46 : (((s[1]).toNat : Int) != 46) = false := by rw [hp]; rfl
            have HW : Hid (isW s.data.toList = tailOk 57 (s.data.toList.drop 2)) := by
              show _ = _
              rw [hl, hp, hc]
              simp [isW, hl3, topOf]
            clear hl hp hc
            go_wp2_with fail
            go_loopw [4] (fun i wr => ∃ m : Nat, 2 ≤ m ∧ m ≤ s.size + 1 ∧ i = .int .i64 m ∧ Hid (isW s.data.toList = tailOk 57 (s.data.toList.drop m)) ∧ w = wr) (fun i _ => s.size + 1 - (intOf i).toNat)
            case atStart => exact ⟨2, by omega, by omega, rfl, HW, rfl⟩
            case round =>
              obtain ⟨m, hm2, hm, rfl, HWR, rfl⟩ := hrel
              clear HW
              by_cases hms : m < s.size
              · have d9 : decide ((m : Int) < (s.size : Int)) = true := by rw [decide_eq_true_iff]; omega
                have hd : s.data.toList.drop m = s[m] :: s.data.toList.drop (m + 1) := List.drop_eq_getElem_cons (by rw [len_data]; exact hms)
                have hW := HWR.out
                rw [hd] at hW
                simp only [tailOk, List.all_cons] at hW
                clear hd HWR
                by_cases hlo : (s[m]).toNat < 48
                · have e1 : decide (((s[m]).toNat : Int) < 48) = true := by rw [decide_eq_true_iff]; omega
                  have HV := Lib.hid (show isW s.data.toList = false by rw [hW, show decide (48 ≤ (s[m]).toNat ∧ (s[m]).toNat ≤ UInt8.toNat 57) = false by rw [decide_eq_false_iff_not]; omega]; rfl)
                  clear hW hlo
                  go_wp2_with fail
                  go_ret
                  exact ⟨by rw [HV.out]; rfl, rfl⟩
                · have e1 : decide (((s[m]).toNat : Int) < 48) = false := by rw [decide_eq_false_iff_not]; omega
                  by_cases hhi : 57 < (s[m]).toNat
                  · have e2 : decide ((57 : Int) < ((s[m]).toNat : Int)) = true := by rw [decide_eq_true_iff]; omega
                    have HV := Lib.hid (show isW s.data.toList = false by rw [hW, show decide (48 ≤ (s[m]).toNat ∧ (s[m]).toNat ≤ UInt8.toNat 57) = false by rw [decide_eq_false_iff_not, show UInt8.toNat 57 = 57 from rfl]; omega]; rfl)
                    clear hW hlo hhi
                    go_wp2_with fail
                    go_ret
                    exact ⟨by rw [HV.out]; rfl, rfl⟩
                  · have e2 : decide ((57 : Int) < ((s[m]).toNat : Int)) = false := by rw [decide_eq_false_iff_not]; omega
                    have HW2 : Hid (isW s.data.toList = tailOk 57 (s.data.toList.drop (m + 1))) := by
                      show _ = _
                      rw [hW, show decide (48 ≤ (s[m]).toNat ∧ (s[m]).toNat ≤ UInt8.toNat 57) = true by rw [decide_eq_true_iff, show UInt8.toNat 57 = 57 from rfl]; omega, Bool.true_and]
                      rfl
                    clear hW hlo hhi
                    go_wp2_with fail
                    go_roundw
                    case rel => exact ⟨m + 1, by omega, by omega, by go_num, HW2, trivial⟩
                    case measure => simp [intOf]; omega
              · have d9 : decide ((m : Int) < (s.size : Int)) = false := by rw [decide_eq_false_iff_not]; omega
                have HV := Lib.hid (show isW s.data.toList = true by rw [HWR.out, List.drop_of_length_le (by rw [len_data]; omega)]; rfl)
                clear HWR
                go_wp2_with fail
                go_ret
                exact ⟨by rw [HV.out]; rfl, rfl⟩
          · have t46 : (((s[1]).toNat : Int) != 46) = true := by
              rw [bne_iff_ne]
              intro e
              exact hp (UInt8.toNat_inj.1 (by rw [show (46 : UInt8).toNat = 46 from rfl]; omega))
            have HV := Lib.hid (show isW s.data.toList = false by rw [hl]; simp [isW, hp])
            clear hl hp hc
            go_wp2_with fail
            go_ret
            exact ⟨by rw [HV.out]; rfl, rfl⟩
        · have d1 : decide ((1 : Int) < (s.size : Int)) = false := by rw [decide_eq_false_iff_not]; omega
          obtain ⟨l, hl⟩ := first_byte s (by omega)
          have hl0 : l = [] := List.eq_nil_of_length_eq_zero (by have := len_data s; rw [hl] at this; simp at this; omega)
          have HW : Hid (isW s.data.toList = tailOk 57 (s.data.toList.drop 2)) := by
            show _ = _
            rw [hl, hl0, hc]
            rfl
          clear hl hc
          go_wp2_with fail
          go_loopw [4] (fun i wr => ∃ m : Nat, 2 ≤ m ∧ m ≤ s.size + 1 ∧ i = .int .i64 m ∧ Hid (isW s.data.toList = tailOk 57 (s.data.toList.drop m)) ∧ w = wr) (fun i _ => s.size + 1 - (intOf i).toNat)
          case atStart => exact ⟨2, by omega, by omega, rfl, HW, rfl⟩
          case round =>
            obtain ⟨m, hm2, hm, rfl, HWR, rfl⟩ := hrel
            clear HW
            by_cases hms : m < s.size
            · have d9 : decide ((m : Int) < (s.size : Int)) = true := by rw [decide_eq_true_iff]; omega
              have hd : s.data.toList.drop m = s[m] :: s.data.toList.drop (m + 1) := List.drop_eq_getElem_cons (by rw [len_data]; exact hms)
              have hW := HWR.out
              rw [hd] at hW
              simp only [tailOk, List.all_cons] at hW
              clear hd HWR
              by_cases hlo : (s[m]).toNat < 48
              · have e1 : decide (((s[m]).toNat : Int) < 48) = true := by rw [decide_eq_true_iff]; omega
                have HV := Lib.hid (show isW s.data.toList = false by rw [hW, show decide (48 ≤ (s[m]).toNat ∧ (s[m]).toNat ≤ UInt8.toNat 57) = false by rw [decide_eq_false_iff_not]; omega]; rfl)
                clear hW hlo
                go_wp2_with fail
                go_ret
                exact ⟨by rw [HV.out]; rfl, rfl⟩
              · have e1 : decide (((s[m]).toNat : Int) < 48) = false := by rw [decide_eq_false_iff_not]; omega
                by_cases hhi : 57 < (s[m]).toNat
                · have e2 : decide ((57 : Int) < ((s[m]).toNat : Int)) = true := by rw [decide_eq_true_iff]; omega
                  have HV := Lib.hid (show isW s.data.toList = false by rw [hW, show decide (48 ≤ (s[m]).toNat ∧ (s[m]).toNat ≤ UInt8.toNat 57) = false by rw [decide_eq_false_iff_not, show UInt8.toNat 57 = 57 from rfl]; omega]; rfl)
                  clear hW hlo hhi
                  go_wp2_with fail
                  go_ret
                  exact ⟨by rw [HV.out]; rfl, rfl⟩
                · have e2 : decide ((57 : Int) < ((s[m]).toNat : Int)) = false := by rw [decide_eq_false_iff_not]; omega
                  have HW2 : Hid (isW s.data.toList = tailOk 57 (s.data.toList.drop (m + 1))) := by
                    show _ = _
                    rw [hW, show decide (48 ≤ (s[m]).toNat ∧ (s[m]).toNat ≤ UInt8.toNat 57) = true by rw [decide_eq_true_iff, show UInt8.toNat 57 = 57 from rfl]; omega, Bool.true_and]
                    rfl
                  clear hW hlo hhi
                  go_wp2_with fail
                  go_roundw
                  case rel => exact ⟨m + 1, by omega, by omega, by go_num, HW2, trivial⟩
                  case measure => simp [intOf]; omega
            · have d9 : decide ((m : Int) < (s.size : Int)) = false := by rw [decide_eq_false_iff_not]; omega
              have HV := Lib.hid (show isW s.data.toList = true by rw [HWR.out, List.drop_of_length_le (by rw [len_data]; omega)]; rfl)
              clear HWR
              go_wp2_with fail
              go_ret
              exact ⟨by rw [HV.out]; rfl, rfl⟩
      · have t48 : (((s[0]).toNat : Int) != 48) = true := by
          rw [bne_iff_ne]
          intro e
          exact hc (UInt8.toNat_inj.1 (by rw [show (48 : UInt8).toNat = 48 from rfl]; omega))
        have hc48 := hc
        clear hc
        by_cases hc : s[0] = 49
        · have t49 : (((s[0]).toNat : Int) != 49) = false := by rw [hc]; rfl
          have t49' : (((s[0]).toNat : Int) == 49) = true := by rw [hc]; rfl
          clear hc48
          by_cases h1 : 1 < s.size
          · have d1 : decide ((1 : Int) < (s.size : Int)) = true := by rw [decide_eq_true_iff]; omega
            obtain ⟨l, hl⟩ := two_bytes s h1
            have hl3 : l.length ≤ 3 := by have := len_data s; rw [hl] at this; simp at this; omega
            by_cases hp : s[1] = 46
            · have t46 : (((s[1]).toNat : Int) != 46) = false := by rw [hp]; rfl
              have HW : Hid (isW s.data.toList = tailOk 48 (s.data.toList.drop 2)) := by
                show _ = _
                rw [hl, hp, hc]
                simp [isW, hl3, topOf]
              clear hl hp hc
              go_wp2_with fail
              go_loopw [4] (fun i wr => ∃ m : Nat, 2 ≤ m ∧ m ≤ s.size + 1 ∧ i = .int .i64 m ∧ Hid (isW s.data.toList = tailOk 48 (s.data.toList.drop m)) ∧ w = wr) (fun i _ => s.size + 1 - (intOf i).toNat)
              case atStart => exact ⟨2, by omega, by omega, rfl, HW, rfl⟩
              case round =>
                obtain ⟨m, hm2, hm, rfl, HWR, rfl⟩ := hrel
                clear HW
                by_cases hms : m < s.size
                · have d9 : decide ((m : Int) < (s.size : Int)) = true := by rw [decide_eq_true_iff]; omega
                  have hd : s.data.toList.drop m = s[m] :: s.data.toList.drop (m + 1) := List.drop_eq_getElem_cons (by rw [len_data]; exact hms)
                  have hW := HWR.out
                  rw [hd] at hW
                  simp only [tailOk, List.all_cons] at hW
                  clear hd HWR
                  by_cases hlo : (s[m]).toNat < 48
                  · have e1 : decide (((s[m]).toNat : Int) < 48) = true := by rw [decide_eq_true_iff]; omega
                    have HV := Lib.hid (show isW s.data.toList = false by rw [hW, show decide (48 ≤ (s[m]).toNat ∧ (s[m]).toNat ≤ UInt8.toNat 48) = false by rw [decide_eq_false_iff_not]; omega]; rfl)
                    clear hW hlo
                    go_wp2_with fail
                    go_ret
                    exact ⟨by rw [HV.out]; rfl, rfl⟩
                  · have e1 : decide (((s[m]).toNat : Int) < 48) = false := by rw [decide_eq_false_iff_not]; omega
                    by_cases hhi : 48 < (s[m]).toNat
                    · have e2 : decide ((48 : Int) < ((s[m]).toNat : Int)) = true := by rw [decide_eq_true_iff]; omega
                      have HV := Lib.hid (show isW s.data.toList = false by rw [hW, show decide (48 ≤ (s[m]).toNat ∧ (s[m]).toNat ≤ UInt8.toNat 48) = false by rw [decide_eq_false_iff_not, show UInt8.toNat 48 = 48 from rfl]; omega]; rfl)
                      clear hW hlo hhi
                      go_wp2_with fail
                      go_ret
                      exact ⟨by rw [HV.out]; rfl, rfl⟩
                    · have e2 : decide ((48 : Int) < ((s[m]).toNat : Int)) = false := by rw [decide_eq_false_iff_not]; omega
                      have HW2 : Hid (isW s.data.toList = tailOk 48 (s.data.toList.drop (m + 1))) := by
                        show _ = _
                        rw [hW, show decide (48 ≤ (s[m]).toNat ∧ (s[m]).toNat ≤ UInt8.toNat 48) = true by rw [decide_eq_true_iff, show UInt8.toNat 48 = 48 from rfl]; omega, Bool.true_and]
                        rfl
                      clear hW hlo hhi
                      go_wp2_with fail
                      go_roundw
                      case rel => exact ⟨m + 1, by omega, by omega, by go_num, HW2, trivial⟩
                      case measure => simp [intOf]; omega
                · have d9 : decide ((m : Int) < (s.size : Int)) = false := by rw [decide_eq_false_iff_not]; omega
                  have HV := Lib.hid (show isW s.data.toList = true by rw [HWR.out, List.drop_of_length_le (by rw [len_data]; omega)]; rfl)
                  clear HWR
                  go_wp2_with fail
                  go_ret
                  exact ⟨by rw [HV.out]; rfl, rfl⟩
            · have t46 : (((s[1]).toNat : Int) != 46) = true := by
                rw [bne_iff_ne]
                intro e
                exact hp (UInt8.toNat_inj.1 (by rw [show (46 : UInt8).toNat = 46 from rfl]; omega))
              have HV := Lib.hid (show isW s.data.toList = false by rw [hl]; simp [isW, hp])
              clear hl hp hc
              go_wp2_with fail
              go_ret
              exact ⟨by rw [HV.out]; rfl, rfl⟩
          · have d1 : decide ((1 : Int) < (s.size : Int)) = false := by rw [decide_eq_false_iff_not]; omega
            obtain ⟨l, hl⟩ := first_byte s (by omega)
            have hl0 : l = [] := List.eq_nil_of_length_eq_zero (by have := len_data s; rw [hl] at this; simp at this; omega)
            have HW : Hid (isW s.data.toList = tailOk 48 (s.data.toList.drop 2)) := by
              show _ = _
              rw [hl, hl0, hc]
              rfl
            clear hl hc
            go_wp2_with fail
            go_loopw [4] (fun i wr => ∃ m : Nat, 2 ≤ m ∧ m ≤ s.size + 1 ∧ i = .int .i64 m ∧ Hid (isW s.data.toList = tailOk 48 (s.data.toList.drop m)) ∧ w = wr) (fun i _ => s.size + 1 - (intOf i).toNat)
            case atStart => exact ⟨2, by omega, by omega, rfl, HW, rfl⟩
            case round =>
              obtain ⟨m, hm2, hm, rfl, HWR, rfl⟩ := hrel
              clear HW
              by_cases hms : m < s.size
              · have d9 : decide ((m : Int) < (s.size : Int)) = true := by rw [decide_eq_true_iff]; omega
                have hd : s.data.toList.drop m = s[m] :: s.data.toList.drop (m + 1) := List.drop_eq_getElem_cons (by rw [len_data]; exact hms)
                have hW := HWR.out
                rw [hd] at hW
                simp only [tailOk, List.all_cons] at hW
                clear hd HWR
                by_cases hlo : (s[m]).toNat < 48
                · have e1 : decide (((s[m]).toNat : Int) < 48) = true := by rw [decide_eq_true_iff]; omega
                  have HV := Lib.hid (show isW s.data.toList = false by rw [hW, show decide (48 ≤ (s[m]).toNat ∧ (s[m]).toNat ≤ UInt8.toNat 48) = false by rw [decide_eq_false_iff_not]; omega]; rfl)
                  clear hW hlo
                  go_wp2_with fail
                  go_ret
                  exact ⟨by rw [HV.out]; rfl, rfl⟩
                · have e1 : decide (((s[m]).toNat : Int) < 48) = false := by rw [decide_eq_false_iff_not]; omega
                  by_cases hhi : 48 < (s[m]).toNat
                  · have e2 : decide ((48 : Int) < ((s[m]).toNat : Int)) = true := by rw [decide_eq_true_iff]; omega
                    have HV := Lib.hid (show isW s.data.toList = false by rw [hW, show decide (48 ≤ (s[m]).toNat ∧ (s[m]).toNat ≤ UInt8.toNat 48) = false by rw [decide_eq_false_iff_not, show UInt8.toNat 48 = 48 from rfl]; omega]; rfl)
                    clear hW hlo hhi
                    go_wp2_with fail
                    go_ret
                    exact ⟨by rw [HV.out]; rfl, rfl⟩
                  · have e2 : decide ((48 : Int) < ((s[m]).toNat : Int)) = false := by rw [decide_eq_false_iff_not]; omega
                    have HW2 : Hid (isW s.data.toList = tailOk 48 (s.data.toList.drop (m + 1))) := by
                      show _ = _
                      rw [hW, show decide (48 ≤ (s[m]).toNat ∧ (s[m]).toNat ≤ UInt8.toNat 48) = true by rw [decide_eq_true_iff, show UInt8.toNat 48 = 48 from rfl]; omega, Bool.true_and]
                      rfl
                    clear hW hlo hhi
                    go_wp2_with fail
                    go_roundw
                    case rel => exact ⟨m + 1, by omega, by omega, by go_num, HW2, trivial⟩
                    case measure => simp [intOf]; omega
              · have d9 : decide ((m : Int) < (s.size : Int)) = false := by rw [decide_eq_false_iff_not]; omega
                have HV := Lib.hid (show isW s.data.toList = true by rw [HWR.out, List.drop_of_length_le (by rw [len_data]; omega)]; rfl)
                clear HWR
                go_wp2_with fail
                go_ret
                exact ⟨by rw [HV.out]; rfl, rfl⟩
        · have t49 : (((s[0]).toNat : Int) != 49) = true := by
            rw [bne_iff_ne]
            intro e
            exact hc (UInt8.toNat_inj.1 (by rw [show (49 : UInt8).toNat = 49 from rfl]; omega))
          obtain ⟨l, hl⟩ := first_byte s hb0
          have HV := Lib.hid (show isW s.data.toList = false by
            rw [hl]
            cases l with
            | nil => simp [isW, hc48, hc]
            | cons p l => simp [isW, hc48, hc])
          clear hl hc hc48
          go_wp2_with fail
          go_ret
          exact ⟨by rw [HV.out]; rfl, rfl⟩
end Flt
end Go.Proofs.YtglnefmaphajaaaDoor
