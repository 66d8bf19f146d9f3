/- The walks of Parse and of the law RealBack. -/
import Derived.Test.YtomfkjllkmilpaaRealParse
set_option linter.unusedSimpArgs false
set_option linter.unusedVariables false
set_option linter.unusedSectionVars false
namespace Go.Proofs.Ytomfkjllkmilpaa
open Go.RowKit
namespace Flt
open FloatP HexP
attribute [local go_sem] call_bits call_from unary_neg_float
theorem or_low (n c : Nat) (hn : n < 72057594037927936) (hc : c < 256) : Go.bits .or .u64 ((n : Int) * 256) (c : Int) = (n : Int) * 256 + (c : Int) := by
  have h := u64_or_nat (n * 256) c (by omega) (by omega)
  have e : n * 256 ||| c = n * 256 + c := by
    have := Nat.shiftLeft_add_eq_or_of_lt (show c < 2 ^ 8 by omega) n
    rw [Nat.shiftLeft_eq, show (2 : Nat) ^ 8 = 256 from rfl] at this
    exact this.symm
  rw [e] at h
  simpa using h
def digV (l : List UInt8) : Value := match unhex l with
  | some m => if m.length = 8 then .tuple #[.float .f64 (fromB m), .bool (!special (fromB m))] else .tuple #[.float .f64 0, .bool false]
  | none => .tuple #[.float .f64 0, .bool false]
set_option maxHeartbeats 2000000 in
theorem digits_any (s : ByteArray) (w : World) (hs : s.size ≤ 60) : Calls Try.prog 42 #[.string s] w fun e w' => e = .returned (digV s.data.toList) ∧ Reg.Ext w w' := by
  go_enter Try.func42, Try.ntmps42
  go_wp2_with fail
  refine (Hex.unhex_any s w (by omega)).mono ?_
  rintro e w1 ⟨rfl, x1⟩
  have X1 := Lib.hid x1
  clear x1
  cases hu : unhex s.data.toList with
  | none =>
    have hv : Hex.unhexV s.data.toList = .tuple #[.string ⟨#[]⟩, .int .i64 3] := by unfold Hex.unhexV; rw [hu]
    have HV := Lib.hid (show digV s.data.toList = .tuple #[.float .f64 0, .bool false] by unfold digV; rw [hu])
    rw [hv]
    clear hu hv
    go_wp2_with fail
    go_ret2
    exact ⟨by rw [HV.out]; rfl, X1.out⟩
  | some m =>
    have hv : Hex.unhexV s.data.toList = .tuple #[.string ⟨m.toArray⟩, .int .i64 0] := by unfold Hex.unhexV; rw [hu]
    rw [hv]
    have hml := unhex_length hu
    rw [len_data] at hml
    obtain ⟨t, ht⟩ : ∃ t : ByteArray, t = ⟨m.toArray⟩ := ⟨_, rfl⟩
    have htl : t.data.toList = m := by rw [ht]
    have hts : t.size = m.length := by rw [← htl, len_data]
    rw [← ht]
    by_cases h8 : m.length = 8
    · have HV := Lib.hid (show digV s.data.toList = .tuple #[.float .f64 (fromB m), .bool (!special (fromB m))] by unfold digV; rw [hu]; simp only; rw [if_pos h8])
      have d8 : ((t.size : Int) != 8) = false := by rw [hts, h8]; rfl
      have ht8 : t.size = 8 := by rw [hts, h8]
      have HTL := Lib.hid htl
      have H8 := Lib.hid h8
      obtain ⟨cap, w2, hcv, hby, hx2⟩ := BytesAt.of t w1
      have HBY := Lib.hid hby
      have X2 := Lib.hid (X1.out.trans hx2)
      clear hu hv hml ht htl hts h8 hby hx2
      rw [ht8] at hcv
      go_wp2_with fail
      clear hcv
      go_loopw [6, 8, 25] (fun n _ i wr => ∃ k : Nat, k ≤ 8 ∧ i = .int .i64 k ∧ n = .int .u64 (fromB (m.take k) : Nat) ∧ Hid (Reg.Ext w2 wr)) (fun _ _ i _ => 8 - (intOf i).toNat)
      case atStart => exact ⟨0, by omega, rfl, rfl, Reg.Ext.refl w2⟩
      case round =>
        obtain ⟨k, hk, rfl, rfl, HXR⟩ := hrel
        by_cases hk8 : k < 8
        · have hkl : k < m.length := by rw [H8.out]; exact hk8
          have cb := HXR.out.at_ (HBY.out.cell k (by rw [ht8]; exact hk8))
          have hbyte : (t.data.toList[k]'(by rw [len_data, ht8]; exact hk8)) = m[k] := by
            have := HTL.out
            simp only [this]
          rw [hbyte] at cb
          have hsn : fromB (m.take (k + 1)) = fromB (m.take k) * 256 + (m[k]).toNat := by
            rw [List.take_succ_eq_append_getElem hkl, fromB_snoc]
          have hlt : fromB (m.take k) < 72057594037927936 := by
            have h1 := fromB_lt (m.take k)
            rw [List.length_take, Nat.min_eq_left (by omega)] at h1
            have h2 : 256 ^ k ≤ 256 ^ 7 := Nat.pow_le_pow_right (by omega) (by omega)
            have h3 : (256 : Nat) ^ 7 = 72057594037927936 := rfl
            omega
          have hcl := (m[k]).toNat_lt
          have hor := or_low (fromB (m.take k)) (m[k]).toNat hlt hcl
          have hd9 : decide ((k : Int) < 8) = true := by rw [decide_eq_true_iff]; omega
          generalize m[k] = c at *
          have HS := Lib.hid hsn
          clear hsn hbyte
          generalize fromB (m.take k) = n at *
          go_wp2_with fail
          go_roundw
          case rel => exact ⟨k + 1, by omega, by go_num, by rw [HS.out]; go_num, HXR⟩
          case measure => simp [intOf]; omega
        · have hke : k = 8 := by omega
          subst hke
          have hall : m.take 8 = m := List.take_of_length_le (by rw [H8.out]; exact Nat.le_refl _)
          rw [hall]
          have hlt : fromB m < 18446744073709551616 := by
            have h1 := fromB_lt m
            rw [H8.out] at h1
            exact h1
          have X3 := Lib.hid (X2.out.trans HXR.out)
          clear hall
          generalize fromB m = x at *
          go_wp2_with fail
          refine (class_any x _ hlt).mono ?_
          rintro e w' ⟨rfl, rfl⟩
          by_cases c1 : cls x = 1
          · have HSP := Lib.hid (show (!special x) = false by simp [special, c1])
            have e1 : ((cls x : Int) != 1) = false := by rw [c1]; rfl
            clear c1
            go_wp2_with fail
            go_ret2
            exact ⟨by rw [HV.out, HSP.out]; rfl, X3.out⟩
          · have e1 : ((cls x : Int) != 1) = true := by rw [bne_iff_ne]; omega
            go_wp2_with fail
            refine (class_any x _ hlt).mono ?_
            rintro e w' ⟨rfl, rfl⟩
            by_cases c2 : cls x = 2
            · have HSP := Lib.hid (show (!special x) = false by simp [special, c2])
              have e2 : ((cls x : Int) != 2) = false := by rw [c2]; rfl
              clear c1 c2
              go_wp2_with fail
              go_ret2
              exact ⟨by rw [HV.out, HSP.out]; rfl, X3.out⟩
            · have e2 : ((cls x : Int) != 2) = true := by rw [bne_iff_ne]; omega
              go_wp2_with fail
              refine (class_any x _ hlt).mono ?_
              rintro e w' ⟨rfl, rfl⟩
              by_cases c7 : cls x = 7
              · have HSP := Lib.hid (show (!special x) = false by simp [special, c7])
                have e7 : ((cls x : Int) != 7) = false := by rw [c7]; rfl
                clear c1 c2 c7
                go_wp2_with fail
                go_ret2
                exact ⟨by rw [HV.out, HSP.out]; rfl, X3.out⟩
              · have HSP := Lib.hid (show (!special x) = true by simp [special, c1, c2, c7])
                have e7 : ((cls x : Int) != 7) = true := by rw [bne_iff_ne]; omega
                clear c1 c2 c7
                go_wp2_with fail
                go_ret2
                exact ⟨by rw [HV.out, HSP.out]; rfl, X3.out⟩
    · have HV := Lib.hid (show digV s.data.toList = .tuple #[.float .f64 0, .bool false] by unfold digV; rw [hu]; simp only; rw [if_neg h8])
      have d8 : ((t.size : Int) != 8) = true := by rw [bne_iff_ne]; omega
      clear hu hv ht htl h8 hts hml
      go_wp2_with fail
      go_ret2
      exact ⟨by rw [HV.out]; rfl, X1.out⟩
def parseV (l : List UInt8) : Value := match parse l with
  | some b => .tuple #[.float .f64 b, .int .i64 0]
  | none => .tuple #[.float .f64 0, .int .i64 3]
theorem test_lit (s : ByteArray) (l : List UInt8) (v : Bool) (h : decide (s.data.toList = l) = v) : (s.toList == l) = v := by
  rw [ByteArray.toList_eq, ← h, Bool.eq_iff_iff, beq_iff_eq, decide_eq_true_iff]
set_option maxHeartbeats 2000000 in
theorem parse_any (s : ByteArray) (w : World) (hs : s.size ≤ 60) : Calls Try.prog 25 #[.string s] w fun e w' => e = .returned (parseV s.data.toList) ∧ Reg.Ext w w' := by
  go_enter Try.func25, Try.ntmps25
  by_cases h1 : s.data.toList = nanL
  · have t1 := test_lit s [110, 97, 110] true (decide_eq_true h1)
    have HV := Lib.hid (show parseV s.data.toList = .tuple #[.float .f64 9221120237041090560, .int .i64 0] by unfold parseV parse; rw [if_pos h1])
    clear h1
    go_wp2_with fail
    refine (nan_any _).mono ?_
    rintro e w' ⟨rfl, rfl⟩
    go_wp2_with fail
    refine (clean_any _ _ (by decide)).mono ?_
    rintro e w' ⟨rfl, rfl⟩
    rw [clean_nan]
    go_wp2_with fail
    go_ret2
    exact ⟨by rw [HV.out]; rfl, Reg.Ext.refl w⟩
  · have t1 := test_lit s [110, 97, 110] false (decide_eq_false h1)
    by_cases h2 : s.data.toList = belowL
    · have t2 := test_lit s [45, 105, 110, 102] true (decide_eq_true h2)
      have HV := Lib.hid (show parseV s.data.toList = .tuple #[.float .f64 (infOf (-1)), .int .i64 0] by unfold parseV parse; rw [if_neg h1, if_pos h2]; rfl)
      clear h1 h2
      go_wp2_with fail
      refine (inf_any (-1) _).mono ?_
      rintro e w' ⟨rfl, rfl⟩
      go_wp2_with fail
      go_ret2
      exact ⟨by rw [HV.out]; rfl, Reg.Ext.refl w⟩
    · have t2 := test_lit s [45, 105, 110, 102] false (decide_eq_false h2)
      by_cases h3 : s.data.toList = aboveL
      · have t3 := test_lit s [105, 110, 102] true (decide_eq_true h3)
        have HV := Lib.hid (show parseV s.data.toList = .tuple #[.float .f64 (infOf 1), .int .i64 0] by unfold parseV parse; rw [if_neg h1, if_neg h2, if_pos h3]; rfl)
        clear h1 h2 h3
        go_wp2_with fail
        refine (inf_any 1 _).mono ?_
        rintro e w' ⟨rfl, rfl⟩
        go_wp2_with fail
        go_ret2
        exact ⟨by rw [HV.out]; rfl, Reg.Ext.refl w⟩
      · have t3 := test_lit s [105, 110, 102] false (decide_eq_false h3)
        have hp : parse s.data.toList = digits s.data.toList := by unfold parse; rw [if_neg h1, if_neg h2, if_neg h3]
        clear h1 h2 h3
        go_wp2_with fail
        refine (digits_any s w hs).mono ?_
        rintro e w1 ⟨rfl, x1⟩
        have X1 := Lib.hid x1
        clear x1
        cases hd : digits s.data.toList with
        | some b =>
          have hg : digV s.data.toList = .tuple #[.float .f64 b, .bool true] := by
            unfold digits at hd
            unfold digV
            split at hd
            · rename_i m hm
              split at hd
              · rename_i hc
                injection hd with hd
                rw [hm]
                simp only
                rw [if_pos hc.1, hc.2, hd]; rfl
              · cases hd
            · cases hd
          have HV := Lib.hid (show parseV s.data.toList = .tuple #[.float .f64 b, .int .i64 0] by unfold parseV; rw [hp, hd])
          rw [hg]
          clear hp hd hg
          go_wp2_with fail
          go_ret2
          exact ⟨by rw [HV.out]; rfl, X1.out⟩
        | none =>
          have hg : ∃ b, digV s.data.toList = .tuple #[.float .f64 b, .bool false] := by
            unfold digits at hd
            unfold digV
            split at hd
            · rename_i m hm
              split at hd
              · cases hd
              · rename_i hc
                rw [hm]
                simp only
                by_cases h8 : m.length = 8
                · rw [if_pos h8]
                  have : special (fromB m) = true := by
                    cases hsp : special (fromB m) with
                    | true => rfl
                    | false => exact absurd ⟨h8, hsp⟩ hc
                  exact ⟨_, by rw [this]; rfl⟩
                · rw [if_neg h8]; exact ⟨_, rfl⟩
            · rename_i hm
              rw [hm]
              exact ⟨_, rfl⟩
          obtain ⟨b, hg⟩ := hg
          have HV := Lib.hid (show parseV s.data.toList = .tuple #[.float .f64 0, .int .i64 3] by unfold parseV; rw [hp, hd])
          rw [hg]
          clear hp hd hg
          go_wp2_with fail
          go_ret2
          exact ⟨by rw [HV.out]; rfl, X1.out⟩
theorem print_len (x : Nat) : (print x).length ≤ 16 := by
  unfold print
  split
  · decide
  · split
    · decide
    · split
      · decide
      · rw [hex_len16]; exact Nat.le_refl _
theorem print_same {x y : Nat} (hx : x < 18446744073709551616) (hy : y < 18446744073709551616) : decide (print x = print y) = same x y := by
  rw [same_canon hx hy, decide_eq_decide]
  constructor
  · intro h
    have := congrArg parse h
    rw [parse_print hx, parse_print hy] at this
    injection this
  · intro h
    have e1 := (print_parse (parse_print hx)).1
    have e2 := (print_parse (parse_print hy)).1
    rw [← e1, ← e2, h]
theorem same_self (x : Nat) (hx : x < 18446744073709551616) : same (canon x) x = true := by
  have hc := (print_parse (parse_print hx)).2
  rw [same_canon hc hx, decide_eq_true_iff]
  unfold canon
  by_cases h : cls x = 1
  · rw [if_pos h]; rfl
  · rw [if_neg h, if_neg h]
set_option maxHeartbeats 4000000 in
theorem back_law (x y : Nat) (s : ByteArray) (w : World) (hx : x < 18446744073709551616) (hy : y < 18446744073709551616) (hsm : s.size ≤ maxLen) :
    Calls Try.prog 7 #[.float .f64 x, .float .f64 y, .string s] w fun e w' => e = .returned (.bool true) ∧ Reg.Ext w w' := by
  unfold maxLen at hsm
  have HPX := Lib.hid (show parseV (print x) = .tuple #[.float .f64 (canon x), .int .i64 0] by unfold parseV; rw [parse_print hx])
  have hcx := (print_parse (parse_print hx)).2
  have HSS := Lib.hid (same_self x hx)
  go_enter Try.func7, Try.ntmps7
  go_wp2_with fail
  refine (awake_any w).mono ?_
  rintro e w1 ⟨rfl, x1⟩
  have X1 := Lib.hid x1
  clear x1
  by_cases hs : s.size ≤ 60
  · have d1 : decide ((60 : Int) < (s.size : Int)) = false := by rw [decide_eq_false_iff_not]; omega
    have hps := print_same hx hy
    generalize hsv : same x y = sv at *
    have hpt : (print x == print y) = sv := by
      rw [← hps, Bool.eq_iff_iff, beq_iff_eq, decide_eq_true_iff]
    have HSXY := Lib.hid hsv
    clear hps hsv
    by_cases hn : cls x = 1
    · have HN := Lib.hid (show isNan x = true by
        rcases cls_spec x with ⟨ca, na⟩ | ⟨ca, _⟩ | ⟨ca, _⟩ | ⟨ca, _⟩ | ⟨ca, _⟩ | ⟨ca, _⟩ | ⟨ca, _⟩
        · exact na
        all_goals omega)
      clear hn
      cases sv
      · have hpb : ∀ b, parse s.data.toList = some b → print b = s.data.toList ∧ b < 18446744073709551616 := fun b h => print_parse h
        cases hq : parse s.data.toList with
        | some b =>
          obtain ⟨hb1, hb2⟩ := hpb b hq
          have HQ := Lib.hid (show parseV s.data.toList = .tuple #[.float .f64 b, .int .i64 0] by unfold parseV; rw [hq])
          have HPS := Lib.hid (show (⟨(print b).toArray⟩ : ByteArray) = s by (rw [hb1] <;> exact ba_data s))
          clear hpb hq hb1
          as_aux_lemma =>
            go_wp2_with fail
            refine (print_any x w1 hx).mono ?_
            rintro e w2 ⟨rfl, x2⟩
            have X2 := Lib.hid (X1.out.trans x2)
            clear x2
            go_wp2_with fail
            refine (parse_any ⟨(print x).toArray⟩ w2 (by have := print_len x; show (print x).toArray.size ≤ 60; rw [List.size_toArray]; omega)).mono ?_
            rintro e w3 ⟨rfl, x3⟩
            rw [show (⟨(print x).toArray⟩ : ByteArray).data.toList = print x from rfl, HPX.out]
            have X3 := Lib.hid (X2.out.trans x3)
            clear x3
            go_wp2_with fail
            refine (parse_any s w3 hs).mono ?_
            rintro e w4 ⟨rfl, x4⟩
            rw [HQ.out]
            have X4 := Lib.hid (X3.out.trans x4)
            clear x4
            go_wp2_with fail
            refine (same_any _ _ _ (by assumption) (by assumption)).mono ?_
            rintro e w' ⟨rfl, rfl⟩
            rw [HSS.out]
            go_wp2_with fail
            refine (print_any x w4 hx).mono ?_
            rintro e w5 ⟨rfl, x5⟩
            have X5 := Lib.hid (X4.out.trans x5)
            clear x5
            go_wp2_with fail
            refine (print_any y w5 hy).mono ?_
            rintro e w6 ⟨rfl, x6⟩
            have XL := Lib.hid (X5.out.trans x6)
            clear x6
            go_wp2_with fail
            refine (same_any _ _ _ (by assumption) (by assumption)).mono ?_
            rintro e w' ⟨rfl, rfl⟩
            rw [HSXY.out]
            go_wp2_with fail
            refine (isnan_any x _).mono ?_
            rintro e w' ⟨rfl, rfl⟩
            rw [HN.out]
            go_wp2_with fail
            refine (print_any b _ hb2).mono ?_
            rintro e w9 ⟨rfl, x9⟩
            rw [HPS.out]
            have X9 := Lib.hid (XL.out.trans x9)
            clear x9
            go_wp2_with fail
            go_ret
            exact ⟨rfl, X9.out⟩
        | none =>
          have HQ := Lib.hid (show parseV s.data.toList = .tuple #[.float .f64 0, .int .i64 3] by unfold parseV; rw [hq])
          clear hpb hq
          as_aux_lemma =>
            go_wp2_with fail
            refine (print_any x w1 hx).mono ?_
            rintro e w2 ⟨rfl, x2⟩
            have X2 := Lib.hid (X1.out.trans x2)
            clear x2
            go_wp2_with fail
            refine (parse_any ⟨(print x).toArray⟩ w2 (by have := print_len x; show (print x).toArray.size ≤ 60; rw [List.size_toArray]; omega)).mono ?_
            rintro e w3 ⟨rfl, x3⟩
            rw [show (⟨(print x).toArray⟩ : ByteArray).data.toList = print x from rfl, HPX.out]
            have X3 := Lib.hid (X2.out.trans x3)
            clear x3
            go_wp2_with fail
            refine (parse_any s w3 hs).mono ?_
            rintro e w4 ⟨rfl, x4⟩
            rw [HQ.out]
            have X4 := Lib.hid (X3.out.trans x4)
            clear x4
            go_wp2_with fail
            refine (same_any _ _ _ (by assumption) (by assumption)).mono ?_
            rintro e w' ⟨rfl, rfl⟩
            rw [HSS.out]
            go_wp2_with fail
            refine (print_any x w4 hx).mono ?_
            rintro e w5 ⟨rfl, x5⟩
            have X5 := Lib.hid (X4.out.trans x5)
            clear x5
            go_wp2_with fail
            refine (print_any y w5 hy).mono ?_
            rintro e w6 ⟨rfl, x6⟩
            have XL := Lib.hid (X5.out.trans x6)
            clear x6
            go_wp2_with fail
            refine (same_any _ _ _ (by assumption) (by assumption)).mono ?_
            rintro e w' ⟨rfl, rfl⟩
            rw [HSXY.out]
            go_wp2_with fail
            refine (isnan_any x _).mono ?_
            rintro e w' ⟨rfl, rfl⟩
            rw [HN.out]
            go_wp2_with fail
            go_ret
            exact ⟨rfl, XL.out⟩
      · have hpb : ∀ b, parse s.data.toList = some b → print b = s.data.toList ∧ b < 18446744073709551616 := fun b h => print_parse h
        cases hq : parse s.data.toList with
        | some b =>
          obtain ⟨hb1, hb2⟩ := hpb b hq
          have HQ := Lib.hid (show parseV s.data.toList = .tuple #[.float .f64 b, .int .i64 0] by unfold parseV; rw [hq])
          have HPS := Lib.hid (show (⟨(print b).toArray⟩ : ByteArray) = s by (rw [hb1] <;> exact ba_data s))
          clear hpb hq hb1
          as_aux_lemma =>
            go_wp2_with fail
            refine (print_any x w1 hx).mono ?_
            rintro e w2 ⟨rfl, x2⟩
            have X2 := Lib.hid (X1.out.trans x2)
            clear x2
            go_wp2_with fail
            refine (parse_any ⟨(print x).toArray⟩ w2 (by have := print_len x; show (print x).toArray.size ≤ 60; rw [List.size_toArray]; omega)).mono ?_
            rintro e w3 ⟨rfl, x3⟩
            rw [show (⟨(print x).toArray⟩ : ByteArray).data.toList = print x from rfl, HPX.out]
            have X3 := Lib.hid (X2.out.trans x3)
            clear x3
            go_wp2_with fail
            refine (parse_any s w3 hs).mono ?_
            rintro e w4 ⟨rfl, x4⟩
            rw [HQ.out]
            have X4 := Lib.hid (X3.out.trans x4)
            clear x4
            go_wp2_with fail
            refine (same_any _ _ _ (by assumption) (by assumption)).mono ?_
            rintro e w' ⟨rfl, rfl⟩
            rw [HSS.out]
            go_wp2_with fail
            refine (print_any x w4 hx).mono ?_
            rintro e w5 ⟨rfl, x5⟩
            have X5 := Lib.hid (X4.out.trans x5)
            clear x5
            go_wp2_with fail
            refine (print_any y w5 hy).mono ?_
            rintro e w6 ⟨rfl, x6⟩
            have XL := Lib.hid (X5.out.trans x6)
            clear x6
            go_wp2_with fail
            refine (same_any _ _ _ (by assumption) (by assumption)).mono ?_
            rintro e w' ⟨rfl, rfl⟩
            rw [HSXY.out]
            go_wp2_with fail
            refine (isnan_any x _).mono ?_
            rintro e w' ⟨rfl, rfl⟩
            rw [HN.out]
            go_wp2_with fail
            refine (print_any b _ hb2).mono ?_
            rintro e w9 ⟨rfl, x9⟩
            rw [HPS.out]
            have X9 := Lib.hid (XL.out.trans x9)
            clear x9
            go_wp2_with fail
            go_ret
            exact ⟨rfl, X9.out⟩
        | none =>
          have HQ := Lib.hid (show parseV s.data.toList = .tuple #[.float .f64 0, .int .i64 3] by unfold parseV; rw [hq])
          clear hpb hq
          as_aux_lemma =>
            go_wp2_with fail
            refine (print_any x w1 hx).mono ?_
            rintro e w2 ⟨rfl, x2⟩
            have X2 := Lib.hid (X1.out.trans x2)
            clear x2
            go_wp2_with fail
            refine (parse_any ⟨(print x).toArray⟩ w2 (by have := print_len x; show (print x).toArray.size ≤ 60; rw [List.size_toArray]; omega)).mono ?_
            rintro e w3 ⟨rfl, x3⟩
            rw [show (⟨(print x).toArray⟩ : ByteArray).data.toList = print x from rfl, HPX.out]
            have X3 := Lib.hid (X2.out.trans x3)
            clear x3
            go_wp2_with fail
            refine (parse_any s w3 hs).mono ?_
            rintro e w4 ⟨rfl, x4⟩
            rw [HQ.out]
            have X4 := Lib.hid (X3.out.trans x4)
            clear x4
            go_wp2_with fail
            refine (same_any _ _ _ (by assumption) (by assumption)).mono ?_
            rintro e w' ⟨rfl, rfl⟩
            rw [HSS.out]
            go_wp2_with fail
            refine (print_any x w4 hx).mono ?_
            rintro e w5 ⟨rfl, x5⟩
            have X5 := Lib.hid (X4.out.trans x5)
            clear x5
            go_wp2_with fail
            refine (print_any y w5 hy).mono ?_
            rintro e w6 ⟨rfl, x6⟩
            have XL := Lib.hid (X5.out.trans x6)
            clear x6
            go_wp2_with fail
            refine (same_any _ _ _ (by assumption) (by assumption)).mono ?_
            rintro e w' ⟨rfl, rfl⟩
            rw [HSXY.out]
            go_wp2_with fail
            refine (isnan_any x _).mono ?_
            rintro e w' ⟨rfl, rfl⟩
            rw [HN.out]
            go_wp2_with fail
            go_ret
            exact ⟨rfl, XL.out⟩
    · have HN := Lib.hid (show isNan x = false by
        rcases cls_spec x with ⟨ca, na⟩ | ⟨ca, na, _⟩ | ⟨ca, na, _⟩ | ⟨ca, na, _⟩ | ⟨ca, na, _⟩ | ⟨ca, na, _⟩ | ⟨ca, na, _⟩ <;> first | exact na | omega)
      have hcn : canon x = x := by unfold canon; rw [if_neg hn]
      have HSS := Lib.hid (show same x x = true by have := same_self x hx; rw [hcn] at this; exact this)
      clear hn
      cases sv
      · have hpb : ∀ b, parse s.data.toList = some b → print b = s.data.toList ∧ b < 18446744073709551616 := fun b h => print_parse h
        cases hq : parse s.data.toList with
        | some b =>
          obtain ⟨hb1, hb2⟩ := hpb b hq
          have HQ := Lib.hid (show parseV s.data.toList = .tuple #[.float .f64 b, .int .i64 0] by unfold parseV; rw [hq])
          have HPS := Lib.hid (show (⟨(print b).toArray⟩ : ByteArray) = s by (rw [hb1] <;> exact ba_data s))
          clear hpb hq hb1
          as_aux_lemma =>
            go_wp2_with fail
            refine (print_any x w1 hx).mono ?_
            rintro e w2 ⟨rfl, x2⟩
            have X2 := Lib.hid (X1.out.trans x2)
            clear x2
            go_wp2_with fail
            refine (parse_any ⟨(print x).toArray⟩ w2 (by have := print_len x; show (print x).toArray.size ≤ 60; rw [List.size_toArray]; omega)).mono ?_
            rintro e w3 ⟨rfl, x3⟩
            rw [show (⟨(print x).toArray⟩ : ByteArray).data.toList = print x from rfl, HPX.out]
            have X3 := Lib.hid (X2.out.trans x3)
            clear x3
            go_wp2_with fail
            refine (parse_any s w3 hs).mono ?_
            rintro e w4 ⟨rfl, x4⟩
            rw [HQ.out]
            have X4 := Lib.hid (X3.out.trans x4)
            clear x4
            go_wp2_with fail
            refine (same_any _ _ _ (by assumption) (by assumption)).mono ?_
            rintro e w' ⟨rfl, rfl⟩
            rw [HSS.out]
            go_wp2_with fail
            refine (print_any x w4 hx).mono ?_
            rintro e w5 ⟨rfl, x5⟩
            have X5 := Lib.hid (X4.out.trans x5)
            clear x5
            go_wp2_with fail
            refine (print_any y w5 hy).mono ?_
            rintro e w6 ⟨rfl, x6⟩
            have XL := Lib.hid (X5.out.trans x6)
            clear x6
            go_wp2_with fail
            refine (same_any _ _ _ (by assumption) (by assumption)).mono ?_
            rintro e w' ⟨rfl, rfl⟩
            rw [HSXY.out]
            go_wp2_with fail
            refine (isnan_any x _).mono ?_
            rintro e w' ⟨rfl, rfl⟩
            rw [HN.out]
            go_wp2_with fail
            refine (print_any b _ hb2).mono ?_
            rintro e w9 ⟨rfl, x9⟩
            rw [HPS.out]
            have X9 := Lib.hid (XL.out.trans x9)
            clear x9
            go_wp2_with fail
            go_ret
            exact ⟨rfl, X9.out⟩
        | none =>
          have HQ := Lib.hid (show parseV s.data.toList = .tuple #[.float .f64 0, .int .i64 3] by unfold parseV; rw [hq])
          clear hpb hq
          as_aux_lemma =>
            go_wp2_with fail
            refine (print_any x w1 hx).mono ?_
            rintro e w2 ⟨rfl, x2⟩
            have X2 := Lib.hid (X1.out.trans x2)
            clear x2
            go_wp2_with fail
            refine (parse_any ⟨(print x).toArray⟩ w2 (by have := print_len x; show (print x).toArray.size ≤ 60; rw [List.size_toArray]; omega)).mono ?_
            rintro e w3 ⟨rfl, x3⟩
            rw [show (⟨(print x).toArray⟩ : ByteArray).data.toList = print x from rfl, HPX.out]
            have X3 := Lib.hid (X2.out.trans x3)
            clear x3
            go_wp2_with fail
            refine (parse_any s w3 hs).mono ?_
            rintro e w4 ⟨rfl, x4⟩
            rw [HQ.out]
            have X4 := Lib.hid (X3.out.trans x4)
            clear x4
            go_wp2_with fail
            refine (same_any _ _ _ (by assumption) (by assumption)).mono ?_
            rintro e w' ⟨rfl, rfl⟩
            rw [HSS.out]
            go_wp2_with fail
            refine (print_any x w4 hx).mono ?_
            rintro e w5 ⟨rfl, x5⟩
            have X5 := Lib.hid (X4.out.trans x5)
            clear x5
            go_wp2_with fail
            refine (print_any y w5 hy).mono ?_
            rintro e w6 ⟨rfl, x6⟩
            have XL := Lib.hid (X5.out.trans x6)
            clear x6
            go_wp2_with fail
            refine (same_any _ _ _ (by assumption) (by assumption)).mono ?_
            rintro e w' ⟨rfl, rfl⟩
            rw [HSXY.out]
            go_wp2_with fail
            refine (isnan_any x _).mono ?_
            rintro e w' ⟨rfl, rfl⟩
            rw [HN.out]
            go_wp2_with fail
            go_ret
            exact ⟨rfl, XL.out⟩
      · have hpb : ∀ b, parse s.data.toList = some b → print b = s.data.toList ∧ b < 18446744073709551616 := fun b h => print_parse h
        cases hq : parse s.data.toList with
        | some b =>
          obtain ⟨hb1, hb2⟩ := hpb b hq
          have HQ := Lib.hid (show parseV s.data.toList = .tuple #[.float .f64 b, .int .i64 0] by unfold parseV; rw [hq])
          have HPS := Lib.hid (show (⟨(print b).toArray⟩ : ByteArray) = s by (rw [hb1] <;> exact ba_data s))
          clear hpb hq hb1
          as_aux_lemma =>
            go_wp2_with fail
            refine (print_any x w1 hx).mono ?_
            rintro e w2 ⟨rfl, x2⟩
            have X2 := Lib.hid (X1.out.trans x2)
            clear x2
            go_wp2_with fail
            refine (parse_any ⟨(print x).toArray⟩ w2 (by have := print_len x; show (print x).toArray.size ≤ 60; rw [List.size_toArray]; omega)).mono ?_
            rintro e w3 ⟨rfl, x3⟩
            rw [show (⟨(print x).toArray⟩ : ByteArray).data.toList = print x from rfl, HPX.out]
            have X3 := Lib.hid (X2.out.trans x3)
            clear x3
            go_wp2_with fail
            refine (parse_any s w3 hs).mono ?_
            rintro e w4 ⟨rfl, x4⟩
            rw [HQ.out]
            have X4 := Lib.hid (X3.out.trans x4)
            clear x4
            go_wp2_with fail
            refine (same_any _ _ _ (by assumption) (by assumption)).mono ?_
            rintro e w' ⟨rfl, rfl⟩
            rw [HSS.out]
            go_wp2_with fail
            refine (print_any x w4 hx).mono ?_
            rintro e w5 ⟨rfl, x5⟩
            have X5 := Lib.hid (X4.out.trans x5)
            clear x5
            go_wp2_with fail
            refine (print_any y w5 hy).mono ?_
            rintro e w6 ⟨rfl, x6⟩
            have XL := Lib.hid (X5.out.trans x6)
            clear x6
            go_wp2_with fail
            refine (same_any _ _ _ (by assumption) (by assumption)).mono ?_
            rintro e w' ⟨rfl, rfl⟩
            rw [HSXY.out]
            go_wp2_with fail
            refine (isnan_any x _).mono ?_
            rintro e w' ⟨rfl, rfl⟩
            rw [HN.out]
            go_wp2_with fail
            refine (print_any b _ hb2).mono ?_
            rintro e w9 ⟨rfl, x9⟩
            rw [HPS.out]
            have X9 := Lib.hid (XL.out.trans x9)
            clear x9
            go_wp2_with fail
            go_ret
            exact ⟨rfl, X9.out⟩
        | none =>
          have HQ := Lib.hid (show parseV s.data.toList = .tuple #[.float .f64 0, .int .i64 3] by unfold parseV; rw [hq])
          clear hpb hq
          as_aux_lemma =>
            go_wp2_with fail
            refine (print_any x w1 hx).mono ?_
            rintro e w2 ⟨rfl, x2⟩
            have X2 := Lib.hid (X1.out.trans x2)
            clear x2
            go_wp2_with fail
            refine (parse_any ⟨(print x).toArray⟩ w2 (by have := print_len x; show (print x).toArray.size ≤ 60; rw [List.size_toArray]; omega)).mono ?_
            rintro e w3 ⟨rfl, x3⟩
            rw [show (⟨(print x).toArray⟩ : ByteArray).data.toList = print x from rfl, HPX.out]
            have X3 := Lib.hid (X2.out.trans x3)
            clear x3
            go_wp2_with fail
            refine (parse_any s w3 hs).mono ?_
            rintro e w4 ⟨rfl, x4⟩
            rw [HQ.out]
            have X4 := Lib.hid (X3.out.trans x4)
            clear x4
            go_wp2_with fail
            refine (same_any _ _ _ (by assumption) (by assumption)).mono ?_
            rintro e w' ⟨rfl, rfl⟩
            rw [HSS.out]
            go_wp2_with fail
            refine (print_any x w4 hx).mono ?_
            rintro e w5 ⟨rfl, x5⟩
            have X5 := Lib.hid (X4.out.trans x5)
            clear x5
            go_wp2_with fail
            refine (print_any y w5 hy).mono ?_
            rintro e w6 ⟨rfl, x6⟩
            have XL := Lib.hid (X5.out.trans x6)
            clear x6
            go_wp2_with fail
            refine (same_any _ _ _ (by assumption) (by assumption)).mono ?_
            rintro e w' ⟨rfl, rfl⟩
            rw [HSXY.out]
            go_wp2_with fail
            refine (isnan_any x _).mono ?_
            rintro e w' ⟨rfl, rfl⟩
            rw [HN.out]
            go_wp2_with fail
            go_ret
            exact ⟨rfl, XL.out⟩
  · have d1 : decide ((60 : Int) < (s.size : Int)) = true := by rw [decide_eq_true_iff]; omega
    go_wp2_with fail
    go_ret
    exact ⟨rfl, X1.out⟩
end Flt
end Go.Proofs.Ytomfkjllkmilpaa
