/- The document's Quality; the walk of the law RealTexts. -/
import Derived.Test.YtomfkjllkmilpaaRealTexts
set_option linter.unusedSimpArgs false
set_option linter.unusedVariables false
set_option linter.unusedSectionVars false
namespace Go.Proofs.Ytomfkjllkmilpaa
open Go.RowKit
namespace FloatP
def still (n k : Nat) : Bool := match quo n (10 ^ k : Nat) with
  | some r => clean r == r
  | none => true
def allStill (k : Nat) : Nat → Bool
  | 0 => true
  | n + 1 => still n k && allStill k n
theorem allStill_of (k : Nat) : ∀ m, allStill k m = true → ∀ n, n < m → still n k = true
  | 0, _, n, h => by omega
  | m + 1, ha, n, h => by
    simp only [allStill, Bool.and_eq_true] at ha
    by_cases e : n = m
    · subst e; exact ha.1
    · exact allStill_of k m ha.2 n (by omega)
theorem still0 : allStill 0 2 = true := by decide +kernel
theorem still1 : allStill 1 11 = true := by decide +kernel
theorem still2 : allStill 2 101 = true := by decide +kernel
theorem still3 : allStill 3 1001 = true := by decide +kernel
theorem still_all (n k : Nat) (hk : k ≤ 3) (hn : n ≤ 10 ^ k) : still n k = true := by
  rcases (by omega : k = 0 ∨ k = 1 ∨ k = 2 ∨ k = 3) with rfl | rfl | rfl | rfl
  · exact allStill_of 0 2 still0 n (by omega)
  · exact allStill_of 1 11 still1 n (by omega)
  · exact allStill_of 2 101 still2 n (by omega)
  · exact allStill_of 3 1001 still3 n (by omega)
end FloatP
namespace Flt
open FloatP HexP
attribute [local go_sem] call_bits call_from unary_neg_float
set_option maxHeartbeats 4000000 in
theorem qualityR_any (s : ByteArray) (w : World) (hs : s.size ≤ 60) : Calls Try.prog 27 #[.string s] w fun e w' => e = .returned (qualV s.data.toList) ∧ Reg.Ext w w' := by
  have hlen := len_data s
  go_enter Try.func27, Try.ntmps27
  by_cases h0 : s.size < 1
  · have d0 : decide ((s.size : Int) < 1) = true := by rw [decide_eq_true_iff]; omega
    have hf : isW s.data.toList = false := by rw [List.eq_nil_of_length_eq_zero (l := s.data.toList) (by omega)]; rfl
    have HV := Lib.hid (show qualV s.data.toList = .tuple #[.float .f64 0, .int .i64 3] by unfold qualV; rw [hf]; rfl)
    clear hf h0
    go_wp2_with fail
    all_goals
      go_ret2
      exact ⟨by rw [HV.out]; rfl, Reg.Ext.refl w⟩
  · have d0 : decide ((s.size : Int) < 1) = false := by rw [decide_eq_false_iff_not]; omega
    by_cases h5 : 5 < s.size
    · have d5 : decide ((5 : Int) < (s.size : Int)) = true := by rw [decide_eq_true_iff]; omega
      have hf : isW s.data.toList = false := by
        cases h : isW s.data.toList with
        | false => rfl
        | true =>
          have h1 := wn_le h
          obtain ⟨_, _, _, _, hk⟩ := isW_spec h
          rw [List.length_drop, len_data] at hk
          omega
      have HV := Lib.hid (show qualV s.data.toList = .tuple #[.float .f64 0, .int .i64 3] by unfold qualV; rw [hf]; rfl)
      clear hf h5
      go_wp2_with fail
      all_goals
        go_ret2
        exact ⟨by rw [HV.out]; rfl, Reg.Ext.refl w⟩
    · have d5 : decide ((5 : Int) < (s.size : Int)) = false := by rw [decide_eq_false_iff_not]; omega
      have hs0 : (0 : Int) < (s.size : Int) := by omega
      have hb0 : 0 < s.size := by omega
      obtain ⟨L, hL⟩ : ∃ L, L = s.data.toList.drop 2 := ⟨_, rfl⟩
      have hLl : L.length = s.size - 2 := by rw [hL, List.length_drop, len_data]
      have HL := Lib.hid hL
      clear hL
      by_cases hc : s[0] = 48
      · have t48 : (((s[0]).toNat : Int) != 48) = false := by rw [hc]; rfl
        have t49 : (((s[0]).toNat : Int) == 49) = false := by rw [hc]; rfl
        obtain ⟨x, hx0⟩ : ∃ x : Nat, x = 0 := ⟨_, rfl⟩
        have hxc : (s[0]).toNat = 48 + x := by rw [hc, hx0]; rfl
        have hxi : ((s[0]).toNat : Int) - 48 = (x : Int) := by omega
        by_cases h1 : 1 < s.size
        · have d1 : decide ((1 : Int) < (s.size : Int)) = true := by rw [decide_eq_true_iff]; omega
          obtain ⟨l, hl⟩ := two_bytes s h1
          have hl3 : l.length ≤ 3 := by have := len_data s; rw [hl] at this; simp at this; omega
          by_cases hp : s[1] = 46
          · have t46 : (((s[1]).toNat : Int) != 46) = false := by rw [hp]; rfl
            have HW : Hid (isW s.data.toList = tailOk 57 (L.drop 0)) := by
              show _ = _
              rw [HL.out, List.drop_drop, hl, hp, hc]
              simp [isW, hl3, topOf]
            clear hl hp
            go_wp2_with fail
            have hx9 : x ≤ 1 := by omega
            have hLs : L.length ≤ 3 := by omega
            go_loopw [4, 5, 6] (fun n p i wr => ∃ j : Nat, j ≤ L.length ∧ i = .int .i64 ((j + 2 : Nat) : Int) ∧ n = .int .i64 (num x (L.take j) : Nat) ∧ p = .int .i64 (10 ^ j : Nat) ∧ Hid (isW s.data.toList = tailOk 57 (L.drop j)) ∧ Hid (tailOk 57 (L.take j) = true) ∧ w = wr) (fun _ _ i _ => 60 - (intOf i).toNat)
            case atStart => exact ⟨0, Nat.zero_le _, rfl, by first | rfl | (show Value.int _ _ = Value.int _ _; congr 1; simp [num]; omega), rfl, HW, rfl, rfl⟩
            case round =>
              obtain ⟨j, hj, rfl, rfl, rfl, HWR, HTK, rfl⟩ := hrel
              clear HW
              have hb1 : num x (L.take j) ≤ 2000 ∧ 10 ^ j ≤ 1000 := by
                have h1 := num_lt x (L.take j) HTK.out
                have h2 : (L.take j).length = j := by rw [List.length_take]; omega
                rw [h2] at h1
                have h4 : 10 ^ j ≤ 10 ^ 3 := Nat.pow_le_pow_right (by omega) (by omega)
                have h5 : (x + 1) * 10 ^ j ≤ 2 * 10 ^ 3 := Nat.mul_le_mul (by omega) h4
                have h6 : (10 : Nat) ^ 3 = 1000 := rfl
                rw [h6] at h4 h5
                exact ⟨by omega, h4⟩
              obtain ⟨hb1, hb2⟩ := hb1
              have hj3 : j ≤ 3 := by omega
              simp only [Int.natCast_add, Int.cast_ofNat_Int]
              by_cases hjl : j < L.length
              · have hjs : j + 2 < s.size := by omega
                have d9 : decide ((j : Int) + 2 < (s.size : Int)) = true := by rw [decide_eq_true_iff]; omega
                have hsd : s[j + 2] = L[j] := by
                  have e0 : s[j + 2] = s.data.toList[j + 2]'(by rw [len_data]; exact hjs) := rfl
                  rw [e0]
                  have := HL.out
                  simp only [this, List.getElem_drop]
                  congr 1
                  omega
                have hd : L.drop j = s[j + 2] :: L.drop (j + 1) := by rw [hsd]; exact List.drop_eq_getElem_cons hjl
                have hW := HWR.out
                rw [hd] at hW
                simp only [tailOk, List.all_cons] at hW
                have hdt := (s[j + 2]).toNat_lt
                clear hd HWR
                by_cases hlo : (s[j + 2]).toNat < 48
                · have e1 : decide (((s[j + 2]).toNat : Int) < 48) = true := by rw [decide_eq_true_iff]; omega
                  have hf : isW s.data.toList = false := by rw [hW, show decide (48 ≤ (s[j + 2]).toNat ∧ (s[j + 2]).toNat ≤ UInt8.toNat 57) = false by rw [decide_eq_false_iff_not]; omega]; rfl
                  have HV := Lib.hid (show qualV s.data.toList = .tuple #[.float .f64 0, .int .i64 3] by unfold qualV; rw [hf]; rfl)
                  clear hW hf hlo hsd
                  go_wp2_with fail
                  all_goals
                    go_ret2
                    exact ⟨by rw [HV.out]; rfl, Reg.Ext.refl w⟩
                · have e1 : decide (((s[j + 2]).toNat : Int) < 48) = false := by rw [decide_eq_false_iff_not]; omega
                  by_cases hhi : 57 < (s[j + 2]).toNat
                  · have e2 : decide ((57 : Int) < ((s[j + 2]).toNat : Int)) = true := by rw [decide_eq_true_iff]; omega
                    have hf : isW s.data.toList = false := by rw [hW, show decide (48 ≤ (s[j + 2]).toNat ∧ (s[j + 2]).toNat ≤ UInt8.toNat 57) = false by rw [decide_eq_false_iff_not, show UInt8.toNat 57 = 57 from rfl]; omega]; rfl
                    have HV := Lib.hid (show qualV s.data.toList = .tuple #[.float .f64 0, .int .i64 3] by unfold qualV; rw [hf]; rfl)
                    clear hW hf hlo hhi hsd
                    go_wp2_with fail
                    all_goals
                      go_ret2
                      exact ⟨by rw [HV.out]; rfl, Reg.Ext.refl w⟩
                  · have e2 : decide ((57 : Int) < ((s[j + 2]).toNat : Int)) = false := by rw [decide_eq_false_iff_not]; omega
                    by_cases htop : 57 < (s[j + 2]).toNat
                    · have e3 : (((s[j + 2]).toNat : Int) != 48) = true := by rw [bne_iff_ne]; omega
                      have hf : isW s.data.toList = false := by rw [hW, show decide (48 ≤ (s[j + 2]).toNat ∧ (s[j + 2]).toNat ≤ UInt8.toNat 57) = false by rw [decide_eq_false_iff_not, show UInt8.toNat 57 = 57 from rfl]; omega]; rfl
                      have HV := Lib.hid (show qualV s.data.toList = .tuple #[.float .f64 0, .int .i64 3] by unfold qualV; rw [hf]; rfl)
                      have hno : ¬ (57 : Nat) = 57 ∨ False := .inl (by omega)
                      clear hW hf hlo hsd
                      first
                        | (exfalso; omega)
                        | (clear hhi htop
                           go_wp2_with fail
                           all_goals
                             go_ret2
                             exact ⟨by rw [HV.out]; rfl, Reg.Ext.refl w⟩)
                    · have HW2 : Hid (isW s.data.toList = tailOk 57 (L.drop (j + 1))) := by
                        show _ = _
                        rw [hW, show decide (48 ≤ (s[j + 2]).toNat ∧ (s[j + 2]).toNat ≤ UInt8.toNat 57) = true by rw [decide_eq_true_iff, show UInt8.toNat 57 = 57 from rfl]; omega, Bool.true_and]
                        rfl
                      have HTK2 : Hid (tailOk 57 (L.take (j + 1)) = true) := by
                        show _ = _
                        rw [List.take_succ_eq_append_getElem hjl, tailOk, List.all_append]
                        have h1 := HTK.out
                        unfold tailOk at h1
                        rw [h1, ← hsd]
                        have h57 : (57 : UInt8).toNat = 57 := rfl
                        simp [h57]
                        omega
                      have hsn : num x (L.take (j + 1)) = num x (L.take j) * 10 + ((s[j + 2]).toNat - 48) := by
                        rw [List.take_succ_eq_append_getElem hjl, num_snoc, hsd]
                      have HS := Lib.hid hsn
                      have HP := Lib.hid (show (10 : Nat) ^ (j + 1) = 10 ^ j * 10 from Nat.pow_succ 10 j)
                      have e3 : 57 = 57 ∨ (((s[j + 2]).toNat : Int) != 48) = false := by
                        first
                          | exact .inl rfl
                          | (right
                             have h48 : (s[j + 2]).toNat = 48 := by omega
                             rw [h48]; rfl)
                      clear hsn hW hsd
                      have hdlo : 48 ≤ (s[j + 2]).toNat := by omega
                      have hdhi : (s[j + 2]).toNat ≤ 57 := by omega
                      clear hlo hhi htop
                      generalize num x (L.take j) = n at *
                      generalize 10 ^ j = p at *
                      rcases e3 with e3 | e3
                      · first
                          | (exfalso; omega)
                          | (clear e3
                             go_wp2_with fail
                             all_goals
                               go_roundw
                               case rel => exact ⟨j + 1, by omega, by go_num, by rw [HS.out, show ((n * 10 + ((s[j + 2]).toNat - 48) : Nat) : Int) = (n : Int) * 10 + (((s[j + 2]).toNat : Int) - 48) by omega], by rw [HP.out]; go_num, HW2, HTK2, trivial⟩
                               case measure => simp [intOf]; omega)
                      · go_wp2_with fail
                        all_goals
                          go_roundw
                          case rel => exact ⟨j + 1, by omega, by go_num, by rw [HS.out, show ((n * 10 + ((s[j + 2]).toNat - 48) : Nat) : Int) = (n : Int) * 10 + (((s[j + 2]).toNat : Int) - 48) by omega], by rw [HP.out]; go_num, HW2, HTK2, trivial⟩
                          case measure => simp [intOf]; omega
              · have hjs : ¬ j + 2 < s.size := by omega
                have d9 : decide ((j : Int) + 2 < (s.size : Int)) = false := by rw [decide_eq_false_iff_not]; omega
                have hje : j = L.length := by omega
                have hw : isW s.data.toList = true := by rw [HWR.out, List.drop_of_length_le (by omega)]; rfl
                obtain ⟨hle, hk3⟩ := wn_le hw
                obtain ⟨r, hq, hr, hqv, -⟩ := good_spec (good_all _ _ hk3 hle)
                have hst := still_all _ _ hk3 hle
                unfold still at hst
                rw [hq] at hst
                simp only [beq_iff_eq] at hst
                have HV := Lib.hid (show qualV s.data.toList = .tuple #[.float .f64 r, .int .i64 0] by unfold qualV; rw [hw, hqv, hst]; rfl)
                obtain ⟨h0', hc', ht', hn', hk'⟩ := isW_spec hw
                have hxx : (s[0]).toNat - 48 = x := by omega
                rw [hxx, ← HL.out] at hn'
                rw [← HL.out] at hk'
                have hqq : quo ((num x (L.take j) : Nat) : Int) ((10 ^ j : Nat) : Int) = some r := by
                  rw [List.take_of_length_le (by omega), hje, ← hk', ← hn']; exact hq
                have hdv : ∀ W, (binOp .quo 23 (.float .f64 (floatOfInt .f64 ((num x (L.take j) : Nat) : Int))) (.float .f64 (floatOfInt .f64 ((10 ^ j : Nat) : Int)))).run Try.prog W = .ok (.float .f64 r) W := fun W => run_float_arith W .quo 23 .f64 _ _ r hqq
                clear hqq hn' hk' ht' hc' hst hqv hq hw hje HWR hle hk3
                generalize num x (L.take j) = n at *
                generalize 10 ^ j = p at *
                go_wp2_with fail
                go_ret2
                exact ⟨by rw [HV.out]; rfl, Reg.Ext.refl w⟩
          · have t46 : (((s[1]).toNat : Int) != 46) = true := by
              rw [bne_iff_ne]
              intro e
              exact hp (UInt8.toNat_inj.1 (by rw [show (46 : UInt8).toNat = 46 from rfl]; omega))
            have hf : isW s.data.toList = false := by rw [hl]; simp [isW, hp]
            have HV := Lib.hid (show qualV s.data.toList = .tuple #[.float .f64 0, .int .i64 3] by unfold qualV; rw [hf]; rfl)
            clear hl hp hf
            go_wp2_with fail
            all_goals
              go_ret2
              exact ⟨by rw [HV.out]; rfl, Reg.Ext.refl w⟩
        · have d1 : decide ((1 : Int) < (s.size : Int)) = false := by rw [decide_eq_false_iff_not]; omega
          obtain ⟨l, hl⟩ := first_byte s (by omega)
          have hl0 : l = [] := List.eq_nil_of_length_eq_zero (by have := len_data s; rw [hl] at this; simp at this; omega)
          have HW : Hid (isW s.data.toList = tailOk 57 (L.drop 0)) := by
            show _ = _
            rw [HL.out, List.drop_drop, hl, hl0, hc]
            rfl
          clear hl
          go_wp2_with fail
          have hx9 : x ≤ 1 := by omega
          have hLs : L.length ≤ 3 := by omega
          go_loopw [4, 5, 6] (fun n p i wr => ∃ j : Nat, j ≤ L.length ∧ i = .int .i64 ((j + 2 : Nat) : Int) ∧ n = .int .i64 (num x (L.take j) : Nat) ∧ p = .int .i64 (10 ^ j : Nat) ∧ Hid (isW s.data.toList = tailOk 57 (L.drop j)) ∧ Hid (tailOk 57 (L.take j) = true) ∧ w = wr) (fun _ _ i _ => 60 - (intOf i).toNat)
          case atStart => exact ⟨0, Nat.zero_le _, rfl, by first | rfl | (show Value.int _ _ = Value.int _ _; congr 1; simp [num]; omega), rfl, HW, rfl, rfl⟩
          case round =>
            obtain ⟨j, hj, rfl, rfl, rfl, HWR, HTK, rfl⟩ := hrel
            clear HW
            have hb1 : num x (L.take j) ≤ 2000 ∧ 10 ^ j ≤ 1000 := by
              have h1 := num_lt x (L.take j) HTK.out
              have h2 : (L.take j).length = j := by rw [List.length_take]; omega
              rw [h2] at h1
              have h4 : 10 ^ j ≤ 10 ^ 3 := Nat.pow_le_pow_right (by omega) (by omega)
              have h5 : (x + 1) * 10 ^ j ≤ 2 * 10 ^ 3 := Nat.mul_le_mul (by omega) h4
              have h6 : (10 : Nat) ^ 3 = 1000 := rfl
              rw [h6] at h4 h5
              exact ⟨by omega, h4⟩
            obtain ⟨hb1, hb2⟩ := hb1
            have hj3 : j ≤ 3 := by omega
            simp only [Int.natCast_add, Int.cast_ofNat_Int]
            by_cases hjl : j < L.length
            · have hjs : j + 2 < s.size := by omega
              have d9 : decide ((j : Int) + 2 < (s.size : Int)) = true := by rw [decide_eq_true_iff]; omega
              have hsd : s[j + 2] = L[j] := by
                have e0 : s[j + 2] = s.data.toList[j + 2]'(by rw [len_data]; exact hjs) := rfl
                rw [e0]
                have := HL.out
                simp only [this, List.getElem_drop]
                congr 1
                omega
              have hd : L.drop j = s[j + 2] :: L.drop (j + 1) := by rw [hsd]; exact List.drop_eq_getElem_cons hjl
              have hW := HWR.out
              rw [hd] at hW
              simp only [tailOk, List.all_cons] at hW
              have hdt := (s[j + 2]).toNat_lt
              clear hd HWR
              by_cases hlo : (s[j + 2]).toNat < 48
              · have e1 : decide (((s[j + 2]).toNat : Int) < 48) = true := by rw [decide_eq_true_iff]; omega
                have hf : isW s.data.toList = false := by rw [hW, show decide (48 ≤ (s[j + 2]).toNat ∧ (s[j + 2]).toNat ≤ UInt8.toNat 57) = false by rw [decide_eq_false_iff_not]; omega]; rfl
                have HV := Lib.hid (show qualV s.data.toList = .tuple #[.float .f64 0, .int .i64 3] by unfold qualV; rw [hf]; rfl)
                clear hW hf hlo hsd
                go_wp2_with fail
                all_goals
                  go_ret2
                  exact ⟨by rw [HV.out]; rfl, Reg.Ext.refl w⟩
              · have e1 : decide (((s[j + 2]).toNat : Int) < 48) = false := by rw [decide_eq_false_iff_not]; omega
                by_cases hhi : 57 < (s[j + 2]).toNat
                · have e2 : decide ((57 : Int) < ((s[j + 2]).toNat : Int)) = true := by rw [decide_eq_true_iff]; omega
                  have hf : isW s.data.toList = false := by rw [hW, show decide (48 ≤ (s[j + 2]).toNat ∧ (s[j + 2]).toNat ≤ UInt8.toNat 57) = false by rw [decide_eq_false_iff_not, show UInt8.toNat 57 = 57 from rfl]; omega]; rfl
                  have HV := Lib.hid (show qualV s.data.toList = .tuple #[.float .f64 0, .int .i64 3] by unfold qualV; rw [hf]; rfl)
                  clear hW hf hlo hhi hsd
                  go_wp2_with fail
                  all_goals
                    go_ret2
                    exact ⟨by rw [HV.out]; rfl, Reg.Ext.refl w⟩
                · have e2 : decide ((57 : Int) < ((s[j + 2]).toNat : Int)) = false := by rw [decide_eq_false_iff_not]; omega
                  by_cases htop : 57 < (s[j + 2]).toNat
                  · have e3 : (((s[j + 2]).toNat : Int) != 48) = true := by rw [bne_iff_ne]; omega
                    have hf : isW s.data.toList = false := by rw [hW, show decide (48 ≤ (s[j + 2]).toNat ∧ (s[j + 2]).toNat ≤ UInt8.toNat 57) = false by rw [decide_eq_false_iff_not, show UInt8.toNat 57 = 57 from rfl]; omega]; rfl
                    have HV := Lib.hid (show qualV s.data.toList = .tuple #[.float .f64 0, .int .i64 3] by unfold qualV; rw [hf]; rfl)
                    have hno : ¬ (57 : Nat) = 57 ∨ False := .inl (by omega)
                    clear hW hf hlo hsd
                    first
                      | (exfalso; omega)
                      | (clear hhi htop
                         go_wp2_with fail
                         all_goals
                           go_ret2
                           exact ⟨by rw [HV.out]; rfl, Reg.Ext.refl w⟩)
                  · have HW2 : Hid (isW s.data.toList = tailOk 57 (L.drop (j + 1))) := by
                      show _ = _
                      rw [hW, show decide (48 ≤ (s[j + 2]).toNat ∧ (s[j + 2]).toNat ≤ UInt8.toNat 57) = true by rw [decide_eq_true_iff, show UInt8.toNat 57 = 57 from rfl]; omega, Bool.true_and]
                      rfl
                    have HTK2 : Hid (tailOk 57 (L.take (j + 1)) = true) := by
                      show _ = _
                      rw [List.take_succ_eq_append_getElem hjl, tailOk, List.all_append]
                      have h1 := HTK.out
                      unfold tailOk at h1
                      rw [h1, ← hsd]
                      have h57 : (57 : UInt8).toNat = 57 := rfl
                      simp [h57]
                      omega
                    have hsn : num x (L.take (j + 1)) = num x (L.take j) * 10 + ((s[j + 2]).toNat - 48) := by
                      rw [List.take_succ_eq_append_getElem hjl, num_snoc, hsd]
                    have HS := Lib.hid hsn
                    have HP := Lib.hid (show (10 : Nat) ^ (j + 1) = 10 ^ j * 10 from Nat.pow_succ 10 j)
                    have e3 : 57 = 57 ∨ (((s[j + 2]).toNat : Int) != 48) = false := by
                      first
                        | exact .inl rfl
                        | (right
                           have h48 : (s[j + 2]).toNat = 48 := by omega
                           rw [h48]; rfl)
                    clear hsn hW hsd
                    have hdlo : 48 ≤ (s[j + 2]).toNat := by omega
                    have hdhi : (s[j + 2]).toNat ≤ 57 := by omega
                    clear hlo hhi htop
                    generalize num x (L.take j) = n at *
                    generalize 10 ^ j = p at *
                    rcases e3 with e3 | e3
                    · first
                        | (exfalso; omega)
                        | (clear e3
                           go_wp2_with fail
                           all_goals
                             go_roundw
                             case rel => exact ⟨j + 1, by omega, by go_num, by rw [HS.out, show ((n * 10 + ((s[j + 2]).toNat - 48) : Nat) : Int) = (n : Int) * 10 + (((s[j + 2]).toNat : Int) - 48) by omega], by rw [HP.out]; go_num, HW2, HTK2, trivial⟩
                             case measure => simp [intOf]; omega)
                    · go_wp2_with fail
                      all_goals
                        go_roundw
                        case rel => exact ⟨j + 1, by omega, by go_num, by rw [HS.out, show ((n * 10 + ((s[j + 2]).toNat - 48) : Nat) : Int) = (n : Int) * 10 + (((s[j + 2]).toNat : Int) - 48) by omega], by rw [HP.out]; go_num, HW2, HTK2, trivial⟩
                        case measure => simp [intOf]; omega
            · have hjs : ¬ j + 2 < s.size := by omega
              have d9 : decide ((j : Int) + 2 < (s.size : Int)) = false := by rw [decide_eq_false_iff_not]; omega
              have hje : j = L.length := by omega
              have hw : isW s.data.toList = true := by rw [HWR.out, List.drop_of_length_le (by omega)]; rfl
              obtain ⟨hle, hk3⟩ := wn_le hw
              obtain ⟨r, hq, hr, hqv, -⟩ := good_spec (good_all _ _ hk3 hle)
              have hst := still_all _ _ hk3 hle
              unfold still at hst
              rw [hq] at hst
              simp only [beq_iff_eq] at hst
              have HV := Lib.hid (show qualV s.data.toList = .tuple #[.float .f64 r, .int .i64 0] by unfold qualV; rw [hw, hqv, hst]; rfl)
              obtain ⟨h0', hc', ht', hn', hk'⟩ := isW_spec hw
              have hxx : (s[0]).toNat - 48 = x := by omega
              rw [hxx, ← HL.out] at hn'
              rw [← HL.out] at hk'
              have hqq : quo ((num x (L.take j) : Nat) : Int) ((10 ^ j : Nat) : Int) = some r := by
                rw [List.take_of_length_le (by omega), hje, ← hk', ← hn']; exact hq
              have hdv : ∀ W, (binOp .quo 23 (.float .f64 (floatOfInt .f64 ((num x (L.take j) : Nat) : Int))) (.float .f64 (floatOfInt .f64 ((10 ^ j : Nat) : Int)))).run Try.prog W = .ok (.float .f64 r) W := fun W => run_float_arith W .quo 23 .f64 _ _ r hqq
              clear hqq hn' hk' ht' hc' hst hqv hq hw hje HWR hle hk3
              generalize num x (L.take j) = n at *
              generalize 10 ^ j = p at *
              go_wp2_with fail
              go_ret2
              exact ⟨by rw [HV.out]; rfl, Reg.Ext.refl w⟩
      · have t48 : (((s[0]).toNat : Int) != 48) = true := by
          rw [bne_iff_ne]
          intro e
          exact hc (UInt8.toNat_inj.1 (by rw [show (48 : UInt8).toNat = 48 from rfl]; omega))
        have hc48 := hc
        clear hc
        by_cases hc : s[0] = 49
        · have t49 : (((s[0]).toNat : Int) != 49) = false := by rw [hc]; rfl
          have t49' : (((s[0]).toNat : Int) == 49) = true := by rw [hc]; rfl
          obtain ⟨x, hx0⟩ : ∃ x : Nat, x = 1 := ⟨_, rfl⟩
          have hxc : (s[0]).toNat = 48 + x := by rw [hc, hx0]; rfl
          have hxi : ((s[0]).toNat : Int) - 48 = (x : Int) := by omega
          clear hc48
          by_cases h1 : 1 < s.size
          · have d1 : decide ((1 : Int) < (s.size : Int)) = true := by rw [decide_eq_true_iff]; omega
            obtain ⟨l, hl⟩ := two_bytes s h1
            have hl3 : l.length ≤ 3 := by have := len_data s; rw [hl] at this; simp at this; omega
            by_cases hp : s[1] = 46
            · have t46 : (((s[1]).toNat : Int) != 46) = false := by rw [hp]; rfl
              have HW : Hid (isW s.data.toList = tailOk 48 (L.drop 0)) := by
                show _ = _
                rw [HL.out, List.drop_drop, hl, hp, hc]
                simp [isW, hl3, topOf]
              clear hl hp
              go_wp2_with fail
              have hx9 : x ≤ 1 := by omega
              have hLs : L.length ≤ 3 := by omega
              go_loopw [4, 5, 6] (fun n p i wr => ∃ j : Nat, j ≤ L.length ∧ i = .int .i64 ((j + 2 : Nat) : Int) ∧ n = .int .i64 (num x (L.take j) : Nat) ∧ p = .int .i64 (10 ^ j : Nat) ∧ Hid (isW s.data.toList = tailOk 48 (L.drop j)) ∧ Hid (tailOk 57 (L.take j) = true) ∧ w = wr) (fun _ _ i _ => 60 - (intOf i).toNat)
              case atStart => exact ⟨0, Nat.zero_le _, rfl, by first | rfl | (show Value.int _ _ = Value.int _ _; congr 1; simp [num]; omega), rfl, HW, rfl, rfl⟩
              case round =>
                obtain ⟨j, hj, rfl, rfl, rfl, HWR, HTK, rfl⟩ := hrel
                clear HW
                have hb1 : num x (L.take j) ≤ 2000 ∧ 10 ^ j ≤ 1000 := by
                  have h1 := num_lt x (L.take j) HTK.out
                  have h2 : (L.take j).length = j := by rw [List.length_take]; omega
                  rw [h2] at h1
                  have h4 : 10 ^ j ≤ 10 ^ 3 := Nat.pow_le_pow_right (by omega) (by omega)
                  have h5 : (x + 1) * 10 ^ j ≤ 2 * 10 ^ 3 := Nat.mul_le_mul (by omega) h4
                  have h6 : (10 : Nat) ^ 3 = 1000 := rfl
                  rw [h6] at h4 h5
                  exact ⟨by omega, h4⟩
                obtain ⟨hb1, hb2⟩ := hb1
                have hj3 : j ≤ 3 := by omega
                simp only [Int.natCast_add, Int.cast_ofNat_Int]
                by_cases hjl : j < L.length
                · have hjs : j + 2 < s.size := by omega
                  have d9 : decide ((j : Int) + 2 < (s.size : Int)) = true := by rw [decide_eq_true_iff]; omega
                  have hsd : s[j + 2] = L[j] := by
                    have e0 : s[j + 2] = s.data.toList[j + 2]'(by rw [len_data]; exact hjs) := rfl
                    rw [e0]
                    have := HL.out
                    simp only [this, List.getElem_drop]
                    congr 1
                    omega
                  have hd : L.drop j = s[j + 2] :: L.drop (j + 1) := by rw [hsd]; exact List.drop_eq_getElem_cons hjl
                  have hW := HWR.out
                  rw [hd] at hW
                  simp only [tailOk, List.all_cons] at hW
                  have hdt := (s[j + 2]).toNat_lt
                  clear hd HWR
                  by_cases hlo : (s[j + 2]).toNat < 48
                  · have e1 : decide (((s[j + 2]).toNat : Int) < 48) = true := by rw [decide_eq_true_iff]; omega
                    have hf : isW s.data.toList = false := by rw [hW, show decide (48 ≤ (s[j + 2]).toNat ∧ (s[j + 2]).toNat ≤ UInt8.toNat 48) = false by rw [decide_eq_false_iff_not]; omega]; rfl
                    have HV := Lib.hid (show qualV s.data.toList = .tuple #[.float .f64 0, .int .i64 3] by unfold qualV; rw [hf]; rfl)
                    clear hW hf hlo hsd
                    go_wp2_with fail
                    all_goals
                      go_ret2
                      exact ⟨by rw [HV.out]; rfl, Reg.Ext.refl w⟩
                  · have e1 : decide (((s[j + 2]).toNat : Int) < 48) = false := by rw [decide_eq_false_iff_not]; omega
                    by_cases hhi : 57 < (s[j + 2]).toNat
                    · have e2 : decide ((57 : Int) < ((s[j + 2]).toNat : Int)) = true := by rw [decide_eq_true_iff]; omega
                      have hf : isW s.data.toList = false := by rw [hW, show decide (48 ≤ (s[j + 2]).toNat ∧ (s[j + 2]).toNat ≤ UInt8.toNat 48) = false by rw [decide_eq_false_iff_not, show UInt8.toNat 48 = 48 from rfl]; omega]; rfl
                      have HV := Lib.hid (show qualV s.data.toList = .tuple #[.float .f64 0, .int .i64 3] by unfold qualV; rw [hf]; rfl)
                      clear hW hf hlo hhi hsd
                      go_wp2_with fail
                      all_goals
                        go_ret2
                        exact ⟨by rw [HV.out]; rfl, Reg.Ext.refl w⟩
                    · have e2 : decide ((57 : Int) < ((s[j + 2]).toNat : Int)) = false := by rw [decide_eq_false_iff_not]; omega
                      by_cases htop : 48 < (s[j + 2]).toNat
                      · have e3 : (((s[j + 2]).toNat : Int) != 48) = true := by rw [bne_iff_ne]; omega
                        have hf : isW s.data.toList = false := by rw [hW, show decide (48 ≤ (s[j + 2]).toNat ∧ (s[j + 2]).toNat ≤ UInt8.toNat 48) = false by rw [decide_eq_false_iff_not, show UInt8.toNat 48 = 48 from rfl]; omega]; rfl
                        have HV := Lib.hid (show qualV s.data.toList = .tuple #[.float .f64 0, .int .i64 3] by unfold qualV; rw [hf]; rfl)
                        have hno : ¬ (48 : Nat) = 57 ∨ False := .inl (by omega)
                        clear hW hf hlo hsd
                        first
                          | (exfalso; omega)
                          | (clear hhi htop
                             go_wp2_with fail
                             all_goals
                               go_ret2
                               exact ⟨by rw [HV.out]; rfl, Reg.Ext.refl w⟩)
                      · have HW2 : Hid (isW s.data.toList = tailOk 48 (L.drop (j + 1))) := by
                          show _ = _
                          rw [hW, show decide (48 ≤ (s[j + 2]).toNat ∧ (s[j + 2]).toNat ≤ UInt8.toNat 48) = true by rw [decide_eq_true_iff, show UInt8.toNat 48 = 48 from rfl]; omega, Bool.true_and]
                          rfl
                        have HTK2 : Hid (tailOk 57 (L.take (j + 1)) = true) := by
                          show _ = _
                          rw [List.take_succ_eq_append_getElem hjl, tailOk, List.all_append]
                          have h1 := HTK.out
                          unfold tailOk at h1
                          rw [h1, ← hsd]
                          have h57 : (57 : UInt8).toNat = 57 := rfl
                          simp [h57]
                          omega
                        have hsn : num x (L.take (j + 1)) = num x (L.take j) * 10 + ((s[j + 2]).toNat - 48) := by
                          rw [List.take_succ_eq_append_getElem hjl, num_snoc, hsd]
                        have HS := Lib.hid hsn
                        have HP := Lib.hid (show (10 : Nat) ^ (j + 1) = 10 ^ j * 10 from Nat.pow_succ 10 j)
                        have e3 : 48 = 57 ∨ (((s[j + 2]).toNat : Int) != 48) = false := by
                          first
                            | exact .inl rfl
                            | (right
                               have h48 : (s[j + 2]).toNat = 48 := by omega
                               rw [h48]; rfl)
                        clear hsn hW hsd
                        have hdlo : 48 ≤ (s[j + 2]).toNat := by omega
                        have hdhi : (s[j + 2]).toNat ≤ 57 := by omega
                        clear hlo hhi htop
                        generalize num x (L.take j) = n at *
                        generalize 10 ^ j = p at *
                        rcases e3 with e3 | e3
                        · first
                            | (exfalso; omega)
                            | (clear e3
                               go_wp2_with fail
                               all_goals
                                 go_roundw
                                 case rel => exact ⟨j + 1, by omega, by go_num, by rw [HS.out, show ((n * 10 + ((s[j + 2]).toNat - 48) : Nat) : Int) = (n : Int) * 10 + (((s[j + 2]).toNat : Int) - 48) by omega], by rw [HP.out]; go_num, HW2, HTK2, trivial⟩
                                 case measure => simp [intOf]; omega)
                        · go_wp2_with fail
                          all_goals
                            go_roundw
                            case rel => exact ⟨j + 1, by omega, by go_num, by rw [HS.out, show ((n * 10 + ((s[j + 2]).toNat - 48) : Nat) : Int) = (n : Int) * 10 + (((s[j + 2]).toNat : Int) - 48) by omega], by rw [HP.out]; go_num, HW2, HTK2, trivial⟩
                            case measure => simp [intOf]; omega
                · have hjs : ¬ j + 2 < s.size := by omega
                  have d9 : decide ((j : Int) + 2 < (s.size : Int)) = false := by rw [decide_eq_false_iff_not]; omega
                  have hje : j = L.length := by omega
                  have hw : isW s.data.toList = true := by rw [HWR.out, List.drop_of_length_le (by omega)]; rfl
                  obtain ⟨hle, hk3⟩ := wn_le hw
                  obtain ⟨r, hq, hr, hqv, -⟩ := good_spec (good_all _ _ hk3 hle)
                  have hst := still_all _ _ hk3 hle
                  unfold still at hst
                  rw [hq] at hst
                  simp only [beq_iff_eq] at hst
                  have HV := Lib.hid (show qualV s.data.toList = .tuple #[.float .f64 r, .int .i64 0] by unfold qualV; rw [hw, hqv, hst]; rfl)
                  obtain ⟨h0', hc', ht', hn', hk'⟩ := isW_spec hw
                  have hxx : (s[0]).toNat - 48 = x := by omega
                  rw [hxx, ← HL.out] at hn'
                  rw [← HL.out] at hk'
                  have hqq : quo ((num x (L.take j) : Nat) : Int) ((10 ^ j : Nat) : Int) = some r := by
                    rw [List.take_of_length_le (by omega), hje, ← hk', ← hn']; exact hq
                  have hdv : ∀ W, (binOp .quo 23 (.float .f64 (floatOfInt .f64 ((num x (L.take j) : Nat) : Int))) (.float .f64 (floatOfInt .f64 ((10 ^ j : Nat) : Int)))).run Try.prog W = .ok (.float .f64 r) W := fun W => run_float_arith W .quo 23 .f64 _ _ r hqq
                  clear hqq hn' hk' ht' hc' hst hqv hq hw hje HWR hle hk3
                  generalize num x (L.take j) = n at *
                  generalize 10 ^ j = p at *
                  go_wp2_with fail
                  go_ret2
                  exact ⟨by rw [HV.out]; rfl, Reg.Ext.refl w⟩
            · have t46 : (((s[1]).toNat : Int) != 46) = true := by
                rw [bne_iff_ne]
                intro e
                exact hp (UInt8.toNat_inj.1 (by rw [show (46 : UInt8).toNat = 46 from rfl]; omega))
              have hf : isW s.data.toList = false := by rw [hl]; simp [isW, hp]
              have HV := Lib.hid (show qualV s.data.toList = .tuple #[.float .f64 0, .int .i64 3] by unfold qualV; rw [hf]; rfl)
              clear hl hp hf
              go_wp2_with fail
              all_goals
                go_ret2
                exact ⟨by rw [HV.out]; rfl, Reg.Ext.refl w⟩
          · have d1 : decide ((1 : Int) < (s.size : Int)) = false := by rw [decide_eq_false_iff_not]; omega
            obtain ⟨l, hl⟩ := first_byte s (by omega)
            have hl0 : l = [] := List.eq_nil_of_length_eq_zero (by have := len_data s; rw [hl] at this; simp at this; omega)
            have HW : Hid (isW s.data.toList = tailOk 48 (L.drop 0)) := by
              show _ = _
              rw [HL.out, List.drop_drop, hl, hl0, hc]
              rfl
            clear hl
            go_wp2_with fail
            have hx9 : x ≤ 1 := by omega
            have hLs : L.length ≤ 3 := by omega
            go_loopw [4, 5, 6] (fun n p i wr => ∃ j : Nat, j ≤ L.length ∧ i = .int .i64 ((j + 2 : Nat) : Int) ∧ n = .int .i64 (num x (L.take j) : Nat) ∧ p = .int .i64 (10 ^ j : Nat) ∧ Hid (isW s.data.toList = tailOk 48 (L.drop j)) ∧ Hid (tailOk 57 (L.take j) = true) ∧ w = wr) (fun _ _ i _ => 60 - (intOf i).toNat)
            case atStart => exact ⟨0, Nat.zero_le _, rfl, by first | rfl | (show Value.int _ _ = Value.int _ _; congr 1; simp [num]; omega), rfl, HW, rfl, rfl⟩
            case round =>
              obtain ⟨j, hj, rfl, rfl, rfl, HWR, HTK, rfl⟩ := hrel
              clear HW
              have hb1 : num x (L.take j) ≤ 2000 ∧ 10 ^ j ≤ 1000 := by
                have h1 := num_lt x (L.take j) HTK.out
                have h2 : (L.take j).length = j := by rw [List.length_take]; omega
                rw [h2] at h1
                have h4 : 10 ^ j ≤ 10 ^ 3 := Nat.pow_le_pow_right (by omega) (by omega)
                have h5 : (x + 1) * 10 ^ j ≤ 2 * 10 ^ 3 := Nat.mul_le_mul (by omega) h4
                have h6 : (10 : Nat) ^ 3 = 1000 := rfl
                rw [h6] at h4 h5
                exact ⟨by omega, h4⟩
              obtain ⟨hb1, hb2⟩ := hb1
              have hj3 : j ≤ 3 := by omega
              simp only [Int.natCast_add, Int.cast_ofNat_Int]
              by_cases hjl : j < L.length
              · have hjs : j + 2 < s.size := by omega
                have d9 : decide ((j : Int) + 2 < (s.size : Int)) = true := by rw [decide_eq_true_iff]; omega
                have hsd : s[j + 2] = L[j] := by
                  have e0 : s[j + 2] = s.data.toList[j + 2]'(by rw [len_data]; exact hjs) := rfl
                  rw [e0]
                  have := HL.out
                  simp only [this, List.getElem_drop]
                  congr 1
                  omega
                have hd : L.drop j = s[j + 2] :: L.drop (j + 1) := by rw [hsd]; exact List.drop_eq_getElem_cons hjl
                have hW := HWR.out
                rw [hd] at hW
                simp only [tailOk, List.all_cons] at hW
                have hdt := (s[j + 2]).toNat_lt
                clear hd HWR
                by_cases hlo : (s[j + 2]).toNat < 48
                · have e1 : decide (((s[j + 2]).toNat : Int) < 48) = true := by rw [decide_eq_true_iff]; omega
                  have hf : isW s.data.toList = false := by rw [hW, show decide (48 ≤ (s[j + 2]).toNat ∧ (s[j + 2]).toNat ≤ UInt8.toNat 48) = false by rw [decide_eq_false_iff_not]; omega]; rfl
                  have HV := Lib.hid (show qualV s.data.toList = .tuple #[.float .f64 0, .int .i64 3] by unfold qualV; rw [hf]; rfl)
                  clear hW hf hlo hsd
                  go_wp2_with fail
                  all_goals
                    go_ret2
                    exact ⟨by rw [HV.out]; rfl, Reg.Ext.refl w⟩
                · have e1 : decide (((s[j + 2]).toNat : Int) < 48) = false := by rw [decide_eq_false_iff_not]; omega
                  by_cases hhi : 57 < (s[j + 2]).toNat
                  · have e2 : decide ((57 : Int) < ((s[j + 2]).toNat : Int)) = true := by rw [decide_eq_true_iff]; omega
                    have hf : isW s.data.toList = false := by rw [hW, show decide (48 ≤ (s[j + 2]).toNat ∧ (s[j + 2]).toNat ≤ UInt8.toNat 48) = false by rw [decide_eq_false_iff_not, show UInt8.toNat 48 = 48 from rfl]; omega]; rfl
                    have HV := Lib.hid (show qualV s.data.toList = .tuple #[.float .f64 0, .int .i64 3] by unfold qualV; rw [hf]; rfl)
                    clear hW hf hlo hhi hsd
                    go_wp2_with fail
                    all_goals
                      go_ret2
                      exact ⟨by rw [HV.out]; rfl, Reg.Ext.refl w⟩
                  · have e2 : decide ((57 : Int) < ((s[j + 2]).toNat : Int)) = false := by rw [decide_eq_false_iff_not]; omega
                    by_cases htop : 48 < (s[j + 2]).toNat
                    · have e3 : (((s[j + 2]).toNat : Int) != 48) = true := by rw [bne_iff_ne]; omega
                      have hf : isW s.data.toList = false := by rw [hW, show decide (48 ≤ (s[j + 2]).toNat ∧ (s[j + 2]).toNat ≤ UInt8.toNat 48) = false by rw [decide_eq_false_iff_not, show UInt8.toNat 48 = 48 from rfl]; omega]; rfl
                      have HV := Lib.hid (show qualV s.data.toList = .tuple #[.float .f64 0, .int .i64 3] by unfold qualV; rw [hf]; rfl)
                      have hno : ¬ (48 : Nat) = 57 ∨ False := .inl (by omega)
                      clear hW hf hlo hsd
                      first
                        | (exfalso; omega)
                        | (clear hhi htop
                           go_wp2_with fail
                           all_goals
                             go_ret2
                             exact ⟨by rw [HV.out]; rfl, Reg.Ext.refl w⟩)
                    · have HW2 : Hid (isW s.data.toList = tailOk 48 (L.drop (j + 1))) := by
                        show _ = _
                        rw [hW, show decide (48 ≤ (s[j + 2]).toNat ∧ (s[j + 2]).toNat ≤ UInt8.toNat 48) = true by rw [decide_eq_true_iff, show UInt8.toNat 48 = 48 from rfl]; omega, Bool.true_and]
                        rfl
                      have HTK2 : Hid (tailOk 57 (L.take (j + 1)) = true) := by
                        show _ = _
                        rw [List.take_succ_eq_append_getElem hjl, tailOk, List.all_append]
                        have h1 := HTK.out
                        unfold tailOk at h1
                        rw [h1, ← hsd]
                        have h57 : (57 : UInt8).toNat = 57 := rfl
                        simp [h57]
                        omega
                      have hsn : num x (L.take (j + 1)) = num x (L.take j) * 10 + ((s[j + 2]).toNat - 48) := by
                        rw [List.take_succ_eq_append_getElem hjl, num_snoc, hsd]
                      have HS := Lib.hid hsn
                      have HP := Lib.hid (show (10 : Nat) ^ (j + 1) = 10 ^ j * 10 from Nat.pow_succ 10 j)
                      have e3 : 48 = 57 ∨ (((s[j + 2]).toNat : Int) != 48) = false := by
                        first
                          | exact .inl rfl
                          | (right
                             have h48 : (s[j + 2]).toNat = 48 := by omega
                             rw [h48]; rfl)
                      clear hsn hW hsd
                      have hdlo : 48 ≤ (s[j + 2]).toNat := by omega
                      have hdhi : (s[j + 2]).toNat ≤ 57 := by omega
                      clear hlo hhi htop
                      generalize num x (L.take j) = n at *
                      generalize 10 ^ j = p at *
                      rcases e3 with e3 | e3
                      · first
                          | (exfalso; omega)
                          | (clear e3
                             go_wp2_with fail
                             all_goals
                               go_roundw
                               case rel => exact ⟨j + 1, by omega, by go_num, by rw [HS.out, show ((n * 10 + ((s[j + 2]).toNat - 48) : Nat) : Int) = (n : Int) * 10 + (((s[j + 2]).toNat : Int) - 48) by omega], by rw [HP.out]; go_num, HW2, HTK2, trivial⟩
                               case measure => simp [intOf]; omega)
                      · go_wp2_with fail
                        all_goals
                          go_roundw
                          case rel => exact ⟨j + 1, by omega, by go_num, by rw [HS.out, show ((n * 10 + ((s[j + 2]).toNat - 48) : Nat) : Int) = (n : Int) * 10 + (((s[j + 2]).toNat : Int) - 48) by omega], by rw [HP.out]; go_num, HW2, HTK2, trivial⟩
                          case measure => simp [intOf]; omega
              · have hjs : ¬ j + 2 < s.size := by omega
                have d9 : decide ((j : Int) + 2 < (s.size : Int)) = false := by rw [decide_eq_false_iff_not]; omega
                have hje : j = L.length := by omega
                have hw : isW s.data.toList = true := by rw [HWR.out, List.drop_of_length_le (by omega)]; rfl
                obtain ⟨hle, hk3⟩ := wn_le hw
                obtain ⟨r, hq, hr, hqv, -⟩ := good_spec (good_all _ _ hk3 hle)
                have hst := still_all _ _ hk3 hle
                unfold still at hst
                rw [hq] at hst
                simp only [beq_iff_eq] at hst
                have HV := Lib.hid (show qualV s.data.toList = .tuple #[.float .f64 r, .int .i64 0] by unfold qualV; rw [hw, hqv, hst]; rfl)
                obtain ⟨h0', hc', ht', hn', hk'⟩ := isW_spec hw
                have hxx : (s[0]).toNat - 48 = x := by omega
                rw [hxx, ← HL.out] at hn'
                rw [← HL.out] at hk'
                have hqq : quo ((num x (L.take j) : Nat) : Int) ((10 ^ j : Nat) : Int) = some r := by
                  rw [List.take_of_length_le (by omega), hje, ← hk', ← hn']; exact hq
                have hdv : ∀ W, (binOp .quo 23 (.float .f64 (floatOfInt .f64 ((num x (L.take j) : Nat) : Int))) (.float .f64 (floatOfInt .f64 ((10 ^ j : Nat) : Int)))).run Try.prog W = .ok (.float .f64 r) W := fun W => run_float_arith W .quo 23 .f64 _ _ r hqq
                clear hqq hn' hk' ht' hc' hst hqv hq hw hje HWR hle hk3
                generalize num x (L.take j) = n at *
                generalize 10 ^ j = p at *
                go_wp2_with fail
                go_ret2
                exact ⟨by rw [HV.out]; rfl, Reg.Ext.refl w⟩
        · have t49 : (((s[0]).toNat : Int) != 49) = true := by
            rw [bne_iff_ne]
            intro e
            exact hc (UInt8.toNat_inj.1 (by rw [show (49 : UInt8).toNat = 49 from rfl]; omega))
          obtain ⟨l, hl⟩ := first_byte s hb0
          have hf : isW s.data.toList = false := by
            rw [hl]
            cases l with
            | nil => simp [isW, hc48, hc]
            | cons p l => simp [isW, hc48, hc]
          have HV := Lib.hid (show qualV s.data.toList = .tuple #[.float .f64 0, .int .i64 3] by unfold qualV; rw [hf]; rfl)
          clear hl hc hc48 hf
          go_wp2_with fail
          all_goals
            go_ret2
            exact ⟨by rw [HV.out]; rfl, Reg.Ext.refl w⟩
set_option maxHeartbeats 4000000 in
theorem texts_law (x : Nat) (s : ByteArray) (a b : Int) (w : World) (hx : x < 18446744073709551616) (hsm : s.size ≤ maxLen) :
    Calls Try.prog 6 #[.float .f64 x, .string s, .int .i64 a, .int .i64 b] w fun e w' => e = .returned (.bool true) ∧ Reg.Ext w w' := by
  unfold maxLen at hsm
  go_enter Try.func6, Try.ntmps6
  go_wp2_with fail
  refine (awake_any w).mono ?_
  rintro e w1 ⟨rfl, x1⟩
  have X1 := Lib.hid x1
  clear x1
  by_cases hs : s.size ≤ 60
  · have d1 : decide ((60 : Int) < (s.size : Int)) = false := by rw [decide_eq_false_iff_not]; omega
    have hpv : ∃ (p : Nat) (e : Int), parseV s.data.toList = .tuple #[.float .f64 p, .int .i64 e] ∧ (e = 0 ∨ e = 3) := by
      unfold parseV
      split
      · exact ⟨_, _, rfl, .inl rfl⟩
      · exact ⟨_, _, rfl, .inr rfl⟩
    have hqv : ∃ (p : Nat) (e : Int), qualV s.data.toList = .tuple #[.float .f64 p, .int .i64 e] ∧ (e = 0 ∨ e = 3) := by
      unfold qualV
      split
      · exact ⟨_, _, rfl, .inl rfl⟩
      · exact ⟨_, _, rfl, .inr rfl⟩
    obtain ⟨p, e1, hp, -⟩ := hpv
    obtain ⟨q, e2, hq, -⟩ := hqv
    have HP := Lib.hid hp
    have HQ := Lib.hid hq
    clear hp hq
    go_wp2_with fail
    refine (parse_any s w1 hs).mono ?_
    rintro e w2 ⟨rfl, x2⟩
    rw [HP.out]
    have X2 := Lib.hid (X1.out.trans x2)
    clear x2
    go_wp2_with fail
    refine (parseR_any s w2 hs).mono ?_
    rintro e w3 ⟨rfl, x3⟩
    rw [HP.out]
    have X3 := Lib.hid (X2.out.trans x3)
    clear x3
    go_wp2_with fail
    refine (quality_any s w3 hs).mono ?_
    rintro e w4 ⟨rfl, x4⟩
    rw [HQ.out]
    have X4 := Lib.hid (X3.out.trans x4)
    clear x4
    go_wp2_with fail
    refine (qualityR_any s w4 hs).mono ?_
    rintro e w5 ⟨rfl, x5⟩
    rw [HQ.out]
    have X5 := Lib.hid (X4.out.trans x5)
    clear x5
    go_wp2_with fail
    refine (print_any x w5 hx).mono ?_
    rintro e w6 ⟨rfl, x6⟩
    have X6 := Lib.hid (X5.out.trans x6)
    clear x6
    go_wp2_with fail
    refine (printR_any x w6 hx).mono ?_
    rintro e w7 ⟨rfl, x7⟩
    have X7 := Lib.hid (X6.out.trans x7)
    clear x7
    go_wp2_with fail
    refine (alikeR_same _ _).mono ?_
    rintro e w' ⟨rfl, rfl⟩
    go_wp2_with fail
    refine (alikeR_same _ _).mono ?_
    rintro e w' ⟨rfl, rfl⟩
    go_wp2_with fail
    refine (ratio_gen a b w7).mono ?_
    rintro e w8 ⟨rfl, x8⟩
    have X8 := Lib.hid (X7.out.trans x8)
    clear x8
    go_wp2_with fail
    refine (ratioR_gen a b w8).mono ?_
    rintro e w9 ⟨rfl, x9⟩
    have X9 := Lib.hid (X8.out.trans x9)
    clear x9
    go_wp2_with fail
    refine (alikeR_same _ _).mono ?_
    rintro e w' ⟨rfl, rfl⟩
    go_wp2_with fail
    go_ret
    exact ⟨rfl, X9.out⟩
  · have d1 : decide ((60 : Int) < (s.size : Int)) = true := by rw [decide_eq_true_iff]; omega
    go_wp2_with fail
    go_ret
    exact ⟨rfl, X1.out⟩
end Flt
end Go.Proofs.Ytomfkjllkmilpaa
