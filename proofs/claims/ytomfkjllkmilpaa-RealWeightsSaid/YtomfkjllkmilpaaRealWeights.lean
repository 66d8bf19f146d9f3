/- The walk of the law RealWeights. -/
import Derived.Test.YtomfkjllkmilpaaRealPrint
set_option linter.unusedSimpArgs false
set_option linter.unusedVariables false
set_option linter.unusedSectionVars false
namespace Go.Proofs.Ytomfkjllkmilpaa
open Go.RowKit
namespace FloatP
open Ieee
def down (k : Nat) : Bool := (double.order (qv k 3) (qv (k / 10) 2) == some .gt || double.order (qv k 3) (qv (k / 10) 2) == some .eq) && (double.order (qv k 3) 4607182418800017408 == some .lt)
def allDown : Nat → Bool
  | 0 => true
  | n + 1 => down n && allDown n
theorem allDown_of : ∀ m, allDown m = true → ∀ n, n < m → down n = true
  | 0, _, n, h => by omega
  | m + 1, ha, n, h => by
    simp only [allDown, Bool.and_eq_true] at ha
    by_cases e : n = m
    · subst e; exact ha.1
    · exact allDown_of m ha.2 n (by omega)
theorem down1000 : allDown 1000 = true := by decide +kernel
def dg (n : Nat) : UInt8 := UInt8.ofNat (48 + n)
theorem dg_nat {n : Nat} (h : n < 10) : (dg n).toNat = 48 + n := UInt8.toNat_ofNat_of_lt' (by show _ < 256; omega)
theorem isW3 {a b c : Nat} (ha : a < 10) (hb : b < 10) (hc : c < 10) : isW [48, 46, dg a, dg b, dg c] = true ∧ wn [48, 46, dg a, dg b, dg c] = (a * 10 + b) * 10 + c ∧ wk [48, 46, dg a, dg b, dg c] = 3 := by
  have h1 := dg_nat ha
  have h2 := dg_nat hb
  have h3 := dg_nat hc
  have h9 : (57 : UInt8).toNat = 57 := rfl
  have ht : topOf 48 = 57 := rfl
  refine ⟨?_, ?_, rfl⟩
  · simp [isW, tailOk, ht, h1, h2, h3]; omega
  · show num 0 [dg a, dg b, dg c] = _
    simp only [num, List.foldl_cons, List.foldl_nil, h1, h2, h3]; omega
theorem isW2 {a b : Nat} (ha : a < 10) (hb : b < 10) : isW [48, 46, dg a, dg b] = true ∧ wn [48, 46, dg a, dg b] = a * 10 + b ∧ wk [48, 46, dg a, dg b] = 2 := by
  have h1 := dg_nat ha
  have h2 := dg_nat hb
  have h9 : (57 : UInt8).toNat = 57 := rfl
  have ht : topOf 48 = 57 := rfl
  refine ⟨?_, ?_, rfl⟩
  · simp [isW, tailOk, ht, h1, h2]; omega
  · show num 0 [dg a, dg b] = _
    simp only [num, List.foldl_cons, List.foldl_nil, h1, h2]; omega
end FloatP
namespace Flt
open FloatP
attribute [local go_sem] call_bits call_from unary_neg_float
theorem isW_len {l : List UInt8} (h : isW l = true) : l.length ≤ 5 := by
  match l, h with
  | [c], _ => simp
  | c :: p :: l, h =>
    simp only [isW, Bool.and_eq_true, decide_eq_true_eq] at h
    have := h.1.1.1
    simp only [List.length_cons]; omega
theorem order_self {a : Nat} (h : isNan a = false) : Ieee.double.order a a = some .eq := by
  have := @eq_iff a a
  rw [beq_iff_eq] at this
  exact this.2 ⟨h, h, rfl⟩
theorem digit_slice (j : Nat) (h : j < 10) : (⟨#[48, 49, 50, 51, 52, 53, 54, 55, 56, 57]⟩ : ByteArray).extract j (j + 1) = ⟨#[dg j]⟩ := by
  rcases (by omega : j = 0 ∨ j = 1 ∨ j = 2 ∨ j = 3 ∨ j = 4 ∨ j = 5 ∨ j = 6 ∨ j = 7 ∨ j = 8 ∨ j = 9) with rfl | rfl | rfl | rfl | rfl | rfl | rfl | rfl | rfl | rfl <;> decide
theorem join3 (a b c : UInt8) : ((⟨#[48, 46]⟩ : ByteArray) ++ ⟨#[a]⟩ ++ ⟨#[b]⟩ ++ ⟨#[c]⟩) = ⟨#[48, 46, a, b, c]⟩ := by
  apply ba_ext
  simp
theorem cut4 (a b c : UInt8) : (⟨#[48, 46, a, b, c]⟩ : ByteArray).extract 0 4 = ⟨#[48, 46, a, b]⟩ := by
  apply ba_ext
  rw [ext_to]
  rfl
set_option maxHeartbeats 2000000 in
theorem weights_law (n : Int) (s : ByteArray) (w : World) (hs : s.size ≤ maxLen) (h1 : -9223372036854775808 ≤ n) (h2 : n ≤ 9223372036854775807) :
    Calls Try.prog 3 #[.int .i64 n, .string s] w fun e w' => e = .returned (.bool true) ∧ Reg.Ext w w' := by
  unfold maxLen at hs
  go_enter Try.func3, Try.ntmps3
  go_wp2_with fail
  refine (awake_any w).mono ?_
  rintro e w1 ⟨rfl, x1⟩
  have X1 := Lib.hid x1
  clear x1
  by_cases hl : s.size ≤ 60
  · have d1 : decide ((60 : Int) < (s.size : Int)) = false := by rw [decide_eq_false_iff_not]; omega
    obtain ⟨k, hk, ek⟩ := umod n 999 (by omega)
    rw [show (((999 : Nat) : Int) + 1) = 1000 from rfl] at ek
    have hq : ∃ (q : Nat) (e : Int), qualV s.data.toList = .tuple #[.float .f64 q, .int .i64 e] ∧ ((e = 0 ∧ lt q 0 = false ∧ (Ieee.double.order q 4607182418800017408 == some .gt) = false ∧ s.size ≤ 5) ∨ (e = 3 ∧ q = 0)) := by
      unfold qualV
      cases hw : isW s.data.toList with
      | true =>
        obtain ⟨hle, hk3⟩ := wn_le hw
        obtain ⟨r, -, -, -, hz, ho, -, -⟩ := good_spec (good_all _ _ hk3 hle)
        have := isW_len hw
        rw [len_data] at this
        exact ⟨_, _, if_pos rfl, .inl ⟨rfl, hz, ho, this⟩⟩
      | false => exact ⟨0, 3, if_neg (by simp), .inr ⟨rfl, rfl⟩⟩
    obtain ⟨q, e, hqv, hqe⟩ := hq
    have HQV := Lib.hid hqv
    clear hqv
    go_wp2_with fail
    refine (quality_any s w1 hl).mono ?_
    rintro e1 w2 ⟨rfl, x2⟩
    rw [HQV.out]
    have X2 := Lib.hid (X1.out.trans x2)
    clear x2
    rcases hqe with ⟨rfl, hz, ho, h5⟩ | ⟨rfl, rfl⟩
    · have hz' : (FloatKind.f64.format.order q 0 == some .lt) = false := hz
      have ho' : (FloatKind.f64.format.order q 4607182418800017408 == some .gt) = false := ho
      have d5 : decide ((5 : Int) < (s.size : Int)) = false := by rw [decide_eq_false_iff_not]; omega
      clear hz ho
      go_wp2_with fail
      go_quiet (fail)
      have hk2 : k < 1000 := by omega
      have hg3 := good_spec (good_all k 3 (by omega) (by omega))
      have hg2 := good_spec (good_all (k / 10) 2 (by omega) (by omega))
      have hdn := allDown_of 1000 down1000 k hk2
      have hw3 := @isW3 (k / 100) (k / 10 % 10) (k % 10) (by omega) (by omega) (by omega)
      have hw2 := @isW2 (k / 100) (k / 10 % 10) (by omega) (by omega)
      rw [show (k / 100 * 10 + k / 10 % 10) * 10 + k % 10 = k by omega] at hw3
      rw [show k / 100 * 10 + k / 10 % 10 = k / 10 by omega] at hw2
      have hq3 : qualV [48, 46, dg (k / 100), dg (k / 10 % 10), dg (k % 10)] = .tuple #[.float .f64 (qv k 3), .int .i64 0] := by
        unfold qualV; rw [hw3.1, hw3.2.1, hw3.2.2]; rfl
      have hq2 : qualV [48, 46, dg (k / 100), dg (k / 10 % 10)] = .tuple #[.float .f64 (qv (k / 10) 2), .int .i64 0] := by
        unfold qualV; rw [hw2.1, hw2.2.1, hw2.2.2]; rfl
      obtain ⟨r, hr, hrl, hrc, -, -, hn3, -⟩ := hg3
      unfold down at hdn
      simp only [Bool.and_eq_true] at hdn
      obtain ⟨hge, hlt1⟩ := hdn
      have hself := order_self hn3
      rw [show ((10 ^ 3 : Nat) : Int) = 1000 from rfl] at hr
      have hge' : (FloatKind.f64.format.order (qv k 3) (qv (k / 10) 2) == some .gt || FloatKind.f64.format.order (qv k 3) (qv (k / 10) 2) == some .eq) = true := hge
      have hlt' : (FloatKind.f64.format.order (qv k 3) 4607182418800017408 == some .lt) = true := hlt1
      have hself' : FloatKind.f64.format.order (qv k 3) (qv k 3) = some .eq := hself
      have HQ3 := Lib.hid hq3
      have HQ2 := Lib.hid hq2
      have HR := Lib.hid hr
      have HRC := Lib.hid hrc
      clear hg2 hw3 hw2 hq3 hq2 hr hrc hn3 hge hlt1 hself
      rw [digit_slice (k / 100) (by omega), digit_slice (k / 10 % 10) (by omega), digit_slice (k % 10) (by omega), join3]
      have HC4 := Lib.hid (cut4 (dg (k / 100)) (dg (k / 10 % 10)) (dg (k % 10)))
      generalize dg (k / 100) = c1 at *
      generalize dg (k / 10 % 10) = c2 at *
      generalize dg (k % 10) = c3 at *
      generalize qv k 3 = a at *
      generalize qv (k / 10) 2 = b at *
      have X3 := Lib.hid (X2.out.trans (Reg.Ext.drewN w2 nq))
      generalize w2.drewN nq = w3 at *
      go_wp2_with fail
      refine (quality_any ⟨#[48, 46, c1, c2, c3]⟩ w3 (by show 5 ≤ 60; omega)).mono ?_
      rintro e1 w4 ⟨rfl, x4⟩
      rw [show (⟨#[48, 46, c1, c2, c3]⟩ : ByteArray).data.toList = [48, 46, c1, c2, c3] from rfl, HQ3.out]
      have X4 := Lib.hid (X3.out.trans x4)
      clear x4
      go_wp2_with fail
      try rw [HC4.out]
      refine (quality_any ⟨#[48, 46, c1, c2]⟩ w4 (by show 4 ≤ 60; omega)).mono ?_
      rintro e1 w5 ⟨rfl, x5⟩
      rw [show (⟨#[48, 46, c1, c2]⟩ : ByteArray).data.toList = [48, 46, c1, c2] from rfl, HQ2.out]
      have X5 := Lib.hid (X4.out.trans x5)
      clear x5
      go_wp2_with fail
      refine (ratio_any (k : Int) 1000 r w5 (by decide) HR.out hrl).mono ?_
      rintro e1 w' ⟨rfl, rfl⟩
      rw [← HRC.out]
      go_wp2_with fail
      go_ret
      exact ⟨rfl, X5.out⟩
    · have hz0 : (FloatKind.f64.format.order 0 0 != some .eq) = false := by decide +kernel
      go_wp2_with fail
      go_quiet (fail)
      have hk2 : k < 1000 := by omega
      have hg3 := good_spec (good_all k 3 (by omega) (by omega))
      have hg2 := good_spec (good_all (k / 10) 2 (by omega) (by omega))
      have hdn := allDown_of 1000 down1000 k hk2
      have hw3 := @isW3 (k / 100) (k / 10 % 10) (k % 10) (by omega) (by omega) (by omega)
      have hw2 := @isW2 (k / 100) (k / 10 % 10) (by omega) (by omega)
      rw [show (k / 100 * 10 + k / 10 % 10) * 10 + k % 10 = k by omega] at hw3
      rw [show k / 100 * 10 + k / 10 % 10 = k / 10 by omega] at hw2
      have hq3 : qualV [48, 46, dg (k / 100), dg (k / 10 % 10), dg (k % 10)] = .tuple #[.float .f64 (qv k 3), .int .i64 0] := by
        unfold qualV; rw [hw3.1, hw3.2.1, hw3.2.2]; rfl
      have hq2 : qualV [48, 46, dg (k / 100), dg (k / 10 % 10)] = .tuple #[.float .f64 (qv (k / 10) 2), .int .i64 0] := by
        unfold qualV; rw [hw2.1, hw2.2.1, hw2.2.2]; rfl
      obtain ⟨r, hr, hrl, hrc, -, -, hn3, -⟩ := hg3
      unfold down at hdn
      simp only [Bool.and_eq_true] at hdn
      obtain ⟨hge, hlt1⟩ := hdn
      have hself := order_self hn3
      rw [show ((10 ^ 3 : Nat) : Int) = 1000 from rfl] at hr
      have hge' : (FloatKind.f64.format.order (qv k 3) (qv (k / 10) 2) == some .gt || FloatKind.f64.format.order (qv k 3) (qv (k / 10) 2) == some .eq) = true := hge
      have hlt' : (FloatKind.f64.format.order (qv k 3) 4607182418800017408 == some .lt) = true := hlt1
      have hself' : FloatKind.f64.format.order (qv k 3) (qv k 3) = some .eq := hself
      have HQ3 := Lib.hid hq3
      have HQ2 := Lib.hid hq2
      have HR := Lib.hid hr
      have HRC := Lib.hid hrc
      clear hg2 hw3 hw2 hq3 hq2 hr hrc hn3 hge hlt1 hself
      rw [digit_slice (k / 100) (by omega), digit_slice (k / 10 % 10) (by omega), digit_slice (k % 10) (by omega), join3]
      have HC4 := Lib.hid (cut4 (dg (k / 100)) (dg (k / 10 % 10)) (dg (k % 10)))
      generalize dg (k / 100) = c1 at *
      generalize dg (k / 10 % 10) = c2 at *
      generalize dg (k % 10) = c3 at *
      generalize qv k 3 = a at *
      generalize qv (k / 10) 2 = b at *
      have X3 := Lib.hid (X2.out.trans (Reg.Ext.drewN w2 nq))
      generalize w2.drewN nq = w3 at *
      go_wp2_with fail
      refine (quality_any ⟨#[48, 46, c1, c2, c3]⟩ w3 (by show 5 ≤ 60; omega)).mono ?_
      rintro e1 w4 ⟨rfl, x4⟩
      rw [show (⟨#[48, 46, c1, c2, c3]⟩ : ByteArray).data.toList = [48, 46, c1, c2, c3] from rfl, HQ3.out]
      have X4 := Lib.hid (X3.out.trans x4)
      clear x4
      go_wp2_with fail
      try rw [HC4.out]
      refine (quality_any ⟨#[48, 46, c1, c2]⟩ w4 (by show 4 ≤ 60; omega)).mono ?_
      rintro e1 w5 ⟨rfl, x5⟩
      rw [show (⟨#[48, 46, c1, c2]⟩ : ByteArray).data.toList = [48, 46, c1, c2] from rfl, HQ2.out]
      have X5 := Lib.hid (X4.out.trans x5)
      clear x5
      go_wp2_with fail
      refine (ratio_any (k : Int) 1000 r w5 (by decide) HR.out hrl).mono ?_
      rintro e1 w' ⟨rfl, rfl⟩
      rw [← HRC.out]
      go_wp2_with fail
      go_ret
      exact ⟨rfl, X5.out⟩
  · have d1 : decide ((60 : Int) < (s.size : Int)) = true := by rw [decide_eq_true_iff]; omega
    go_wp2_with fail
    go_ret
    exact ⟨rfl, X1.out⟩
end Flt
end Go.Proofs.Ytomfkjllkmilpaa
