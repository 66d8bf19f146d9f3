/- The document's Parse. -/
import Derived.Test.YtomfkjllkmilpaaRealRefs
set_option linter.unusedSimpArgs false
set_option linter.unusedVariables false
set_option linter.unusedSectionVars false
namespace Go.Proofs.Ytomfkjllkmilpaa
open Go.RowKit
namespace Flt
open FloatP HexP
attribute [local go_sem] call_bits call_from unary_neg_float
theorem special_len {x : Nat} (h : special x = true) : (print x).length ≤ 4 := by
  simp only [special, Bool.or_eq_true, beq_iff_eq] at h
  unfold print
  by_cases h1 : cls x = 1
  · rw [if_pos h1]; decide
  · rw [if_neg h1]
    by_cases h2 : cls x = 2
    · rw [if_pos h2]; decide
    · rw [if_neg h2]
      by_cases h7 : cls x = 7
      · rw [if_pos h7]; decide
      · omega
set_option maxHeartbeats 4000000 in
theorem parseR_any (s : ByteArray) (w : World) (hs : s.size ≤ 60) : Calls Try.prog 26 #[.string s] w fun e w' => e = .returned (parseV s.data.toList) ∧ Reg.Ext w w' := by
  go_enter Try.func26, Try.ntmps26
  by_cases h1 : s.data.toList = nanL
  · have t1 := test_lit s [110, 97, 110] true (decide_eq_true h1)
    have HV := Lib.hid (show parseV s.data.toList = .tuple #[.float .f64 9221120237041090560, .int .i64 0] by unfold parseV parse; rw [if_pos h1])
    clear h1
    go_wp2_with fail
    refine (nanR_any _).mono ?_
    rintro e w' ⟨rfl, rfl⟩
    go_wp2_with fail
    go_ret2
    exact ⟨by rw [HV.out]; rfl, Reg.Ext.refl w⟩
  · have t1 := test_lit s [110, 97, 110] false (decide_eq_false h1)
    by_cases h3 : s.data.toList = aboveL
    · have t3 := test_lit s [105, 110, 102] true (decide_eq_true h3)
      have h2 : ¬ s.data.toList = belowL := by rw [h3]; decide
      have HV := Lib.hid (show parseV s.data.toList = .tuple #[.float .f64 (ratV 1 0), .int .i64 0] by unfold parseV parse; rw [if_neg h1, if_neg h2, if_pos h3]; rfl)
      clear h1 h2 h3
      go_wp2_with fail
      refine (ratioR_gen 1 0 _).mono ?_
      rintro e w1 ⟨rfl, x1⟩
      have X1 := Lib.hid x1
      clear x1
      go_wp2_with fail
      go_ret2
      exact ⟨by rw [HV.out]; rfl, X1.out⟩
    · have t3 := test_lit s [105, 110, 102] false (decide_eq_false h3)
      by_cases h2 : s.data.toList = belowL
      · have t2 := test_lit s [45, 105, 110, 102] true (decide_eq_true h2)
        have HV := Lib.hid (show parseV s.data.toList = .tuple #[.float .f64 (ratV (-1) 0), .int .i64 0] by unfold parseV parse; rw [if_neg h1, if_pos h2]; rfl)
        clear h1 h2 h3
        go_wp2_with fail
        refine (ratioR_gen (-1) 0 _).mono ?_
        rintro e w1 ⟨rfl, x1⟩
        have X1 := Lib.hid x1
        clear x1
        go_wp2_with fail
        go_ret2
        exact ⟨by rw [HV.out]; rfl, X1.out⟩
      · have t2 := test_lit s [45, 105, 110, 102] false (decide_eq_false h2)
        have hp : parse s.data.toList = digits s.data.toList := by unfold parse; rw [if_neg h1, if_neg h2, if_neg h3]
        clear h1 h2 h3
        go_wp2_with fail
        refine (Hex.unhexR_any s w (by omega)).mono ?_
        rintro e w1 ⟨rfl, x1⟩
        have X1 := Lib.hid x1
        clear x1
        cases hu : unhex s.data.toList with
        | none =>
          have hv : Hex.unhexV s.data.toList = .tuple #[.string ⟨#[]⟩, .int .i64 3] := by unfold Hex.unhexV; rw [hu]
          have HV := Lib.hid (show parseV s.data.toList = .tuple #[.float .f64 0, .int .i64 3] by unfold parseV; rw [hp]; unfold digits; rw [hu])
          rw [hv]
          clear hu hv hp
          go_wp2_with fail
          go_ret2
          exact ⟨by rw [HV.out]; rfl, X1.out⟩
        | some m =>
          have hv : Hex.unhexV s.data.toList = .tuple #[.string ⟨m.toArray⟩, .int .i64 0] := by unfold Hex.unhexV; rw [hu]
          rw [hv]
          have hml := unhex_length hu
          rw [len_data] at hml
          have hhm := hex_unhex hu
          obtain ⟨t, ht⟩ : ∃ t : ByteArray, t = ⟨m.toArray⟩ := ⟨_, rfl⟩
          have htl : t.data.toList = m := by rw [ht]
          have hts : t.size = m.length := by rw [← htl, len_data]
          rw [← ht]
          by_cases h8 : m.length = 8
          · have d8 : ((t.size : Int) != 8) = false := by rw [hts, h8]; rfl
            have ht8 : t.size = 8 := by rw [hts, h8]
            have hx64 : fromB m < 18446744073709551616 := by
              have h1 := fromB_lt m
              rw [h8] at h1
              exact h1
            have hdig : digits s.data.toList = if special (fromB m) = false then some (fromB m) else none := by
              unfold digits; rw [hu]; simp only [h8, true_and]
            have hprs : special (fromB m) = false → print (fromB m) = s.data.toList := fun hs => by
              simp only [special, Bool.or_eq_false_iff, beq_eq_false_iff_ne] at hs
              unfold print
              rw [if_neg hs.1.1, if_neg hs.1.2, if_neg hs.2, b8_fromB h8]
              exact hhm
            have HDIG := Lib.hid hdig
            have HPRS := Lib.hid hprs
            have HP := Lib.hid hp
            have HTL := Lib.hid htl
            have H8 := Lib.hid h8
            have hs16 : s.size = 16 := by omega
            have HS16 := Lib.hid hs16
            clear hu hv hml ht htl hts h8 hdig hprs hp hhm hs16
            go_wp2_with fail
            go_loopw [6, 7] (fun n i wr => ∃ k : Nat, k ≤ 8 ∧ i = .int .i64 k ∧ n = .int .u64 (fromB (m.take k) : Nat) ∧ w1 = wr) (fun _ i _ => 8 - (intOf i).toNat)
            case atStart => exact ⟨0, by omega, rfl, rfl, rfl⟩
            case round =>
              obtain ⟨k, hk, rfl, rfl, rfl⟩ := hrel
              by_cases hk8 : k < 8
              · have hkl : k < m.length := by rw [H8.out]; exact hk8
                have hkt : k < t.size := by rw [ht8]; exact hk8
                have hbyte : t[k] = m[k] := by
                  have e0 : t[k] = t.data.toList[k]'(by rw [len_data, ht8]; exact hk8) := rfl
                  rw [e0]
                  have := HTL.out
                  simp only [this]
                have hsn : fromB (m.take (k + 1)) = fromB (m.take k) * 256 + (m[k]).toNat := by
                  rw [List.take_succ_eq_append_getElem hkl, fromB_snoc]
                have hlt : fromB (m.take k) < 72057594037927936 := by
                  have h1 := fromB_lt (m.take k)
                  rw [List.length_take, Nat.min_eq_left (by omega)] at h1
                  have h2 : 256 ^ k ≤ 256 ^ 7 := Nat.pow_le_pow_right (by omega) (by omega)
                  have h3 : (256 : Nat) ^ 7 = 72057594037927936 := rfl
                  omega
                have hcl := (t[k]).toNat_lt
                have hor := or_low (fromB (m.take k)) (t[k]).toNat hlt hcl
                have hd9 : decide ((k : Int) < 8) = true := by rw [decide_eq_true_iff]; omega
                rw [← hbyte] at hsn
                have HS := Lib.hid hsn
                clear hsn hbyte
                generalize fromB (m.take k) = n at *
                go_wp2_with fail
                go_roundw
                case rel => exact ⟨k + 1, by omega, by go_num, by rw [HS.out]; go_num, trivial⟩
                case measure => simp [intOf]; omega
              · have hke : k = 8 := by omega
                subst hke
                have hall : m.take 8 = m := List.take_of_length_le (by rw [H8.out]; exact Nat.le_refl _)
                rw [hall]
                clear hall
                generalize fromB m = x at *
                cases hsp : special x with
                | true =>
                  have HV := Lib.hid (show parseV s.data.toList = .tuple #[.float .f64 0, .int .i64 3] by unfold parseV; rw [HP.out, HDIG.out, hsp]; rfl)
                  have hl4 := special_len hsp
                  have hne : (print x == s.toList) = false := by
                    rw [ByteArray.toList_eq, beq_eq_false_iff_ne]
                    intro e
                    have := len_data s
                    rw [← e, HS16.out] at this
                    omega
                  have HNE := Lib.hid hne
                  clear hsp hl4 hne
                  go_wp2_with fail
                  refine (printR_any x _ hx64).mono ?_
                  rintro e w3 ⟨rfl, x3⟩
                  have X3 := Lib.hid (X1.out.trans x3)
                  clear x3
                  have hne := HNE.out
                  generalize print x = px at *
                  go_wp2_with fail
                  go_ret2
                  exact ⟨by rw [HV.out]; rfl, X3.out⟩
                | false =>
                  have HV := Lib.hid (show parseV s.data.toList = .tuple #[.float .f64 x, .int .i64 0] by unfold parseV; rw [HP.out, HDIG.out, hsp]; rfl)
                  have HEQ := Lib.hid (show (⟨(print x).toArray⟩ : ByteArray) = s by (rw [HPRS.out hsp] <;> exact ba_data s))
                  clear hsp
                  go_wp2_with fail
                  refine (printR_any x _ hx64).mono ?_
                  rintro e w3 ⟨rfl, x3⟩
                  rw [HEQ.out]
                  have X3 := Lib.hid (X1.out.trans x3)
                  clear x3
                  go_wp2_with fail
                  go_ret2
                  exact ⟨by rw [HV.out]; rfl, X3.out⟩
          · have HV := Lib.hid (show parseV s.data.toList = .tuple #[.float .f64 0, .int .i64 3] by unfold parseV; rw [hp]; unfold digits; rw [hu]; simp only; rw [if_neg (fun h => h8 h.1)])
            have d8 : ((t.size : Int) != 8) = true := by rw [bne_iff_ne]; omega
            clear hu hv ht htl h8 hts hml hp hhm
            go_wp2_with fail
            go_ret2
            exact ⟨by rw [HV.out]; rfl, X1.out⟩
end Flt
end Go.Proofs.Ytomfkjllkmilpaa
