/- Numbers there and back: the plain law; the walk of HexaCounts. -/
import Derived.Test.YthnkllnfdnbckaaDoorHexaFmt
import Derived.Test.YthnkllnfdnbckaaDoorHexaLaws
set_option linter.unusedSimpArgs false
set_option linter.unusedVariables false
set_option linter.unusedSectionVars false
namespace Go.Proofs.YthnkllnfdnbckaaDoor
open Go.RowKit
namespace Hex
open HexP
theorem gat_append (b : Nat) : ∀ (l m : List UInt8) (n : Nat), gat b n (l ++ m) = (gat b n l).bind fun k => gat b k m
  | [], m, n => rfl
  | c :: l, m, n => by
    simp only [List.cons_append, gat]
    split
    · rfl
    · exact gat_append b l m _
theorem dv_dig (n : Nat) (h : n < 16) : dv (dig n) = n := by
  have : ∀ k : Fin 16, dv (dig k.val) = k.val := by decide
  exact this ⟨n, h⟩
theorem dv_dec (n : Nat) (h : n < 10) : dv (UInt8.ofNat (48 + n)) = n := by
  have : ∀ k : Fin 10, dv (UInt8.ofNat (48 + k.val)) = k.val := by decide
  exact this ⟨n, h⟩
theorem gat_hex (a : Nat) (h : a ≤ 4611686018427387904) : gat 16 0 (hexDigits a) = some a := by
  induction a using Nat.strongRecOn with
  | ind a ih =>
    by_cases h16 : a < 16
    · rw [hexDigits_small h16]
      simp only [gat, dv_dig a h16]
      rw [if_neg (by omega)]; simp
    · rw [hexDigits_big h16, gat_append, ih (a / 16) (by omega) (by omega)]
      simp only [Option.bind_some, gat, dv_dig (a % 16) (by omega)]
      rw [if_neg (by omega)]
      congr 1; omega
theorem dec_small {u : Nat} (h : u < 10) : Lib.decDigits u = [UInt8.ofNat (48 + u)] := by rw [Lib.decDigits, dif_pos h]
theorem dec_big {u : Nat} (h : ¬ u < 10) : Lib.decDigits u = Lib.decDigits (u / 10) ++ [UInt8.ofNat (48 + u % 10)] := by rw [Lib.decDigits, dif_neg h]
theorem gat_dec (a : Nat) (h : a ≤ 4611686018427387904) : gat 10 0 (Lib.decDigits a) = some a := by
  induction a using Nat.strongRecOn with
  | ind a ih =>
    by_cases h16 : a < 10
    · rw [dec_small h16]
      simp only [gat, dv_dec a h16]
      rw [if_neg (by omega)]; simp
    · rw [dec_big h16, gat_append, ih (a / 10) (by omega) (by omega)]
      simp only [Option.bind_some, gat, dv_dec (a % 10) (by omega)]
      rw [if_neg (by omega)]
      congr 1; omega
theorem dig10 (n : Nat) (h : n < 10) : 48 ≤ (UInt8.ofNat (48 + n)).toNat ∧ (UInt8.ofNat (48 + n)).toNat ≤ 57 ∧ (1 ≤ n → UInt8.ofNat (48 + n) ≠ 48) := by
  have : ∀ k : Fin 10, 48 ≤ (UInt8.ofNat (48 + k.val)).toNat ∧ (UInt8.ofNat (48 + k.val)).toNat ≤ 57 ∧ (1 ≤ k.val → UInt8.ofNat (48 + k.val) ≠ 48) := by decide
  exact this ⟨n, h⟩
theorem dec_all (a : Nat) : ((Lib.decDigits a).all fun c => decide (48 ≤ c.toNat ∧ c.toNat ≤ 57)) = true := by
  induction a using Nat.strongRecOn with
  | ind a ih =>
    by_cases h16 : a < 10
    · have := dig10 a h16
      rw [dec_small h16, List.all_cons, decide_eq_true ⟨this.1, this.2.1⟩]; rfl
    · have := dig10 (a % 10) (by omega)
      rw [dec_big h16, List.all_append, ih (a / 10) (by omega), List.all_cons, decide_eq_true ⟨this.1, this.2.1⟩]; rfl
theorem dec_head (a : Nat) : ∃ c l, Lib.decDigits a = c :: l ∧ (1 ≤ a → c ≠ 48) ∧ (l ≠ [] → 1 ≤ a) := by
  induction a using Nat.strongRecOn with
  | ind a ih =>
    by_cases h16 : a < 10
    · exact ⟨_, _, dec_small h16, (dig10 a h16).2.2, fun h => absurd rfl h⟩
    · obtain ⟨c, l, e, hc, hl⟩ := ih (a / 10) (by omega)
      exact ⟨c, l ++ [UInt8.ofNat (48 + a % 10)], by rw [dec_big h16, e]; rfl, fun _ => hc (by omega), fun _ => by omega⟩
theorem isDec_dec (a : Nat) : isDecL (Lib.decDigits a) = true := by
  unfold isDecL
  rw [dec_all, Bool.true_and]
  obtain ⟨c, l, e, hc, hl⟩ := dec_head a
  rw [e]
  cases l with
  | nil => rfl
  | cons d l => simp only; exact decide_eq_true (hc (hl (by simp)))
theorem hex_all (a : Nat) : ((hexDigits a).all fun c => (valR c).isSome) = true := by
  induction a using Nat.strongRecOn with
  | ind a ih =>
    by_cases h16 : a < 16
    · rw [hexDigits_small h16, List.all_cons, valR_dig a h16]; rfl
    · rw [hexDigits_big h16, List.all_append, ih (a / 16) (by omega), List.all_cons, valR_dig (a % 16) (by omega)]; rfl
theorem hex_len (k : Nat) : ∀ a, a < 16 ^ (k + 1) → 1 ≤ (hexDigits a).length ∧ (hexDigits a).length ≤ k + 1 := by
  induction k with
  | zero => intro a h; rw [hexDigits_small (by simpa using h)]; simp
  | succ k ih =>
    intro a h
    by_cases h16 : a < 16
    · rw [hexDigits_small h16]; simp
    · rw [Nat.pow_succ] at h
      have := ih (a / 16) (Nat.div_lt_of_lt_mul (by omega))
      rw [hexDigits_big h16, List.length_append, List.length_singleton]; omega
theorem numOk_hex (a : Nat) (h : a ≤ 4611686018427387904) : numOk (hexDigits a) = true := by
  unfold numOk
  have := hex_len 15 a (by simp; omega)
  rw [hex_all, Bool.and_true]
  exact decide_eq_true (by omega)
theorem undec_dec (a : Nat) (most : Int) (h : a ≤ 4611686018427387904) : undecV most (Lib.decDigits a) = if most < (a : Int) then .tuple #[.int .i64 0, .int .i64 14] else .tuple #[.int .i64 (a : Int), .int .i64 0] := by
  unfold undecV
  rw [isDec_dec, if_pos rfl]
  unfold bndV10
  rw [gat_dec a h]
theorem unnum_hex (a : Nat) (most : Int) (h : a ≤ 4611686018427387904) : unnumV most (hexDigits a) = if most < (a : Int) then .tuple #[.int .i64 0, .int .i64 14] else .tuple #[.int .i64 (a : Int), .int .i64 0] := by
  unfold unnumV
  rw [numOk_hex a h, if_pos rfl]
  unfold bndV16
  rw [gat_hex a h]
theorem dec_inj {a b : Nat} (ha : a ≤ 4611686018427387904) (hb : b ≤ 4611686018427387904) (h : Lib.decDigits a = Lib.decDigits b) : a = b := by
  have h1 := gat_dec a ha
  rw [h, gat_dec b hb] at h1
  injection h1 with h1; exact h1.symm
theorem hexd_inj {a b : Nat} (ha : a ≤ 4611686018427387904) (hb : b ≤ 4611686018427387904) (h : hexDigits a = hexDigits b) : a = b := by
  have h1 := gat_hex a ha
  rw [h, gat_hex b hb] at h1
  injection h1 with h1; exact h1.symm
def decS (a : Nat) : ByteArray := ⟨(Lib.decDigits a).toArray⟩
def hexS (a : Nat) : ByteArray := ⟨(hexDigits a).toArray⟩
theorem decS_size (a : Nat) (ha : a ≤ 4611686018427387904) : (decS a).size ≤ 274877906944 := by
  have h1 : (decS a).size = Lib.nDigits a := by rw [← len_data]; show (Lib.decDigits a).length = _; exact Lib.decDigits_length a
  have : ∀ k a, a < 10 ^ (k + 1) → Lib.nDigits a ≤ k + 1 := by
    intro k
    induction k with
    | zero => intro a h; rw [Lib.nDigits_small (by simpa using h)]; omega
    | succ k ih =>
      intro a h
      by_cases h10 : a < 10
      · rw [Lib.nDigits_small h10]; omega
      · rw [Nat.pow_succ] at h
        have := ih (a / 10) (Nat.div_lt_of_lt_mul (by omega))
        rw [Lib.nDigits_big h10]; omega
  have := this 19 a (by simp; omega)
  omega
theorem hexS_size (a : Nat) (ha : a ≤ 4611686018427387904) : (hexS a).size ≤ 274877906944 := by
  have := hex_len 15 a (by simp; omega)
  have h1 : (hexS a).size = (hexDigits a).length := by rw [← len_data]; rfl
  omega
theorem undecS (a : Nat) (most : Int) (w : World) (ha : a ≤ 4611686018427387904) : Calls Tryd.prog 8 #[.string (decS a), .int .i64 most] w fun e w' => e = .returned (if most < (a : Int) then .tuple #[.int .i64 0, .int .i64 14] else .tuple #[.int .i64 (a : Int), .int .i64 0]) ∧ Reg.Ext w w' := by
  have := undec_any (decS a) most w (decS_size a ha)
  rw [show (decS a).data.toList = Lib.decDigits a from rfl, undec_dec a most ha] at this
  exact this
theorem unnumS (a : Nat) (most : Int) (w : World) (ha : a ≤ 4611686018427387904) : Calls Tryd.prog 10 #[.string (hexS a), .int .i64 most] w fun e w' => e = .returned (if most < (a : Int) then .tuple #[.int .i64 0, .int .i64 14] else .tuple #[.int .i64 (a : Int), .int .i64 0]) ∧ Reg.Ext w w' := by
  have := unnum_any (hexS a) most w (hexS_size a ha)
  rw [show (hexS a).data.toList = hexDigits a from rfl, unnum_hex a most ha] at this
  exact this
theorem decN (a : Nat) (w : World) (ha : a ≤ 4611686018427387904) (ht : Tab10 w) : Calls Tryd.prog 12 #[.int .i64 (a : Int)] w fun e w' => e = .returned (.string (decS a)) ∧ Reg.Ext w w' := by
  have := dec_any (a : Int) w (by omega) (by omega) ht
  rw [Lib.itoa_nonneg] at this
  exact this
theorem hexN (a : Nat) (w : World) (ha : a ≤ 4611686018427387904) (ht : Tz w) : Calls Tryd.prog 14 #[.int .i64 (a : Int)] w fun e w' => e = .returned (.string (hexS a)) ∧ Reg.Ext w w' := by
  have := hexnum_any (a : Int) w (by omega) (by omega) ht
  rw [Int.toNat_natCast] at this
  exact this
theorem undec_ok (a : Nat) (w : World) (ha : a ≤ 4611686018427387904) : Calls Tryd.prog 8 #[.string (decS a), .int .i64 (a : Int)] w fun e w' => e = .returned (.tuple #[.int .i64 (a : Int), .int .i64 0]) ∧ Reg.Ext w w' := by
  have := undecS a (a : Int) w ha
  rw [if_neg (by omega)] at this; exact this
theorem undec_no (a : Nat) (w : World) (ha : a ≤ 4611686018427387904) : Calls Tryd.prog 8 #[.string (decS a), .int .i64 ((a : Int) - 1)] w fun e w' => e = .returned (.tuple #[.int .i64 0, .int .i64 14]) ∧ Reg.Ext w w' := by
  have := undecS a ((a : Int) - 1) w ha
  rw [if_pos (by omega)] at this; exact this
theorem unnum_ok (a : Nat) (w : World) (ha : a ≤ 4611686018427387904) : Calls Tryd.prog 10 #[.string (hexS a), .int .i64 (a : Int)] w fun e w' => e = .returned (.tuple #[.int .i64 (a : Int), .int .i64 0]) ∧ Reg.Ext w w' := by
  have := unnumS a (a : Int) w ha
  rw [if_neg (by omega)] at this; exact this
theorem unnum_no (a : Nat) (w : World) (ha : a ≤ 4611686018427387904) : Calls Tryd.prog 10 #[.string (hexS a), .int .i64 ((a : Int) - 1)] w fun e w' => e = .returned (.tuple #[.int .i64 0, .int .i64 14]) ∧ Reg.Ext w w' := by
  have := unnumS a ((a : Int) - 1) w ha
  rw [if_pos (by omega)] at this; exact this
set_option maxHeartbeats 4000000 in
theorem counts_law (a b : Int) (w : World) (ht : Tab10 w) (hz : Tz w) :
    Calls Tryd.prog 4 #[.int .i64 a, .int .i64 b] w fun e w' => e = .returned (.bool true) ∧ Reg.Ext w w' := by
  have HT := Lib.hid ht
  have HZ := Lib.hid hz
  clear ht hz
  obtain ⟨k, hk, ek⟩ := umod a 4611686018427387904 (by omega)
  obtain ⟨j, hj, ej⟩ := umod b 4611686018427387904 (by omega)
  rw [show (((4611686018427387904 : Nat) : Int) + 1) = 4611686018427387905 from rfl] at ek ej
  have hD : ((decS k).toList == (decS j).toList) = decide (k = j) := by
    rw [Bool.eq_iff_iff, beq_iff_eq, decide_eq_true_iff]
    constructor
    · intro h
      rw [ByteArray.toList_eq, ByteArray.toList_eq] at h
      exact dec_inj hk hj h
    · rintro rfl; rfl
  have hH : ((hexS k).toList == (hexS j).toList) = decide (k = j) := by
    rw [Bool.eq_iff_iff, beq_iff_eq, decide_eq_true_iff]
    constructor
    · intro h
      rw [ByteArray.toList_eq, ByteArray.toList_eq] at h
      exact hexd_inj hk hj h
    · rintro rfl; rfl
  have hK : ((k : Int) == (j : Int)) = decide (k = j) := by
    rw [Bool.eq_iff_iff, beq_iff_eq, decide_eq_true_iff]; omega
  generalize decide (k = j) = q at *
  have hqq : (q == q) = true := by simp
  by_cases h0 : 0 < k
  have d0 : decide (0 < (k : Int)) = true := by rw [decide_eq_true_iff]; omega
  go_enter Tryd.func4, Tryd.ntmps4
  go_wp2_with fail
  refine (awake_any w HT.out).mono ?_
  rintro e w1 ⟨rfl, x1⟩
  have X1 := Lib.hid x1
  clear x1
  go_wp2_with fail
  refine (decN k w1 hk (HT.out.ext X1.out)).mono ?_
  rintro e w2 ⟨rfl, x2⟩
  have X2 := Lib.hid (X1.out.trans x2)
  clear x2
  go_wp2_with fail
  refine (undec_ok k w2 hk).mono ?_
  rintro e w3 ⟨rfl, x3⟩
  have X3 := Lib.hid (X2.out.trans x3)
  clear x3
  go_wp2_with fail
  refine (hexN k w3 hk (HZ.out.ext X3.out)).mono ?_
  rintro e w4 ⟨rfl, x4⟩
  have X4 := Lib.hid (X3.out.trans x4)
  clear x4
  go_wp2_with fail
  refine (unnum_ok k w4 hk).mono ?_
  rintro e w5 ⟨rfl, x5⟩
  have X5 := Lib.hid (X4.out.trans x5)
  clear x5
  go_wp2_with fail
  refine (decN k w5 hk (HT.out.ext X5.out)).mono ?_
  rintro e w6 ⟨rfl, x6⟩
  have X6 := Lib.hid (X5.out.trans x6)
  clear x6
  go_wp2_with fail
  refine (undec_no k w6 hk).mono ?_
  rintro e w7 ⟨rfl, x7⟩
  have X7 := Lib.hid (X6.out.trans x7)
  clear x7
  go_wp2_with fail
  refine (hexN k w7 hk (HZ.out.ext X7.out)).mono ?_
  rintro e w8 ⟨rfl, x8⟩
  have X8 := Lib.hid (X7.out.trans x8)
  clear x8
  go_wp2_with fail
  refine (unnum_no k w8 hk).mono ?_
  rintro e w9 ⟨rfl, x9⟩
  have X9 := Lib.hid (X8.out.trans x9)
  clear x9
  go_wp2_with fail
  refine (decN k w9 hk (HT.out.ext X9.out)).mono ?_
  rintro e w10 ⟨rfl, x10⟩
  have X10 := Lib.hid (X9.out.trans x10)
  clear x10
  go_wp2_with fail
  refine (decN j w10 hj (HT.out.ext X10.out)).mono ?_
  rintro e w11 ⟨rfl, x11⟩
  have X11 := Lib.hid (X10.out.trans x11)
  clear x11
  go_wp2_with fail
  refine (hexN k w11 hk (HZ.out.ext X11.out)).mono ?_
  rintro e w12 ⟨rfl, x12⟩
  have X12 := Lib.hid (X11.out.trans x12)
  clear x12
  go_wp2_with fail
  refine (hexN j w12 hj (HZ.out.ext X12.out)).mono ?_
  rintro e w13 ⟨rfl, x13⟩
  have X13 := Lib.hid (X12.out.trans x13)
  clear x13
  go_wp2_with fail
  go_ret
  exact ⟨by simp, X13.out⟩
  have d0 : decide (0 < (k : Int)) = false := by rw [decide_eq_false_iff_not]; omega
  go_enter Tryd.func4, Tryd.ntmps4
  go_wp2_with fail
  refine (awake_any w HT.out).mono ?_
  rintro e w1 ⟨rfl, x1⟩
  have X1 := Lib.hid x1
  clear x1
  go_wp2_with fail
  refine (decN k w1 hk (HT.out.ext X1.out)).mono ?_
  rintro e w2 ⟨rfl, x2⟩
  have X2 := Lib.hid (X1.out.trans x2)
  clear x2
  go_wp2_with fail
  refine (undec_ok k w2 hk).mono ?_
  rintro e w3 ⟨rfl, x3⟩
  have X3 := Lib.hid (X2.out.trans x3)
  clear x3
  go_wp2_with fail
  refine (hexN k w3 hk (HZ.out.ext X3.out)).mono ?_
  rintro e w4 ⟨rfl, x4⟩
  have X4 := Lib.hid (X3.out.trans x4)
  clear x4
  go_wp2_with fail
  refine (unnum_ok k w4 hk).mono ?_
  rintro e w5 ⟨rfl, x5⟩
  have X5 := Lib.hid (X4.out.trans x5)
  clear x5
  go_wp2_with fail
  refine (decN k w5 hk (HT.out.ext X5.out)).mono ?_
  rintro e w6 ⟨rfl, x6⟩
  have X6 := Lib.hid (X5.out.trans x6)
  clear x6
  go_wp2_with fail
  refine (decN j w6 hj (HT.out.ext X6.out)).mono ?_
  rintro e w7 ⟨rfl, x7⟩
  have X7 := Lib.hid (X6.out.trans x7)
  clear x7
  go_wp2_with fail
  refine (hexN k w7 hk (HZ.out.ext X7.out)).mono ?_
  rintro e w8 ⟨rfl, x8⟩
  have X8 := Lib.hid (X7.out.trans x8)
  clear x8
  go_wp2_with fail
  refine (hexN j w8 hj (HZ.out.ext X8.out)).mono ?_
  rintro e w9 ⟨rfl, x9⟩
  have X9 := Lib.hid (X8.out.trans x9)
  clear x9
  go_wp2_with fail
  go_ret
  exact ⟨by simp, X9.out⟩
end Hex
end Go.Proofs.YthnkllnfdnbckaaDoor
