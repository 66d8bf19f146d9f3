/- The document's Print, Parse, Ratio. -/
import Derived.Test.YtomfkjllkmilpaaRealBack
import Derived.Test.YtomfkjllkmilpaaRealOrders
import Derived.Test.YtomfkjllkmilpaaHexRef2
set_option linter.unusedSimpArgs false
set_option linter.unusedVariables false
set_option linter.unusedSectionVars false
namespace Go.Proofs.Ytomfkjllkmilpaa
open Go.RowKit
namespace Flt
open FloatP HexP
attribute [local go_sem] call_bits call_from unary_neg_float
def ratV (a b : Int) : Nat := if b = 0 then (if a = 0 then 9221120237041090560 else infOf a) else ((quo a b).map clean).getD 9221120237041090560
theorem ratV_gives {a b : Int} {r : Nat} (hb : b ≠ 0) (h : Gives .quo (floatOfInt .f64 a) (floatOfInt .f64 b) r) : ratV a b = clean r := by
  unfold ratV
  rw [if_neg hb]
  rcases h.2 with h1 | ⟨h1, h2⟩
  · rw [show quo a b = some r from h1]; rfl
  · rw [show quo a b = none from h1]
    show 9221120237041090560 = clean r
    unfold clean
    rw [if_pos h2]
set_option maxHeartbeats 1000000 in
theorem ratio_gen (a b : Int) (w : World) : Calls Try.prog 11 #[.int .i64 a, .int .i64 b] w fun e w' => e = .returned (.float .f64 (ratV a b)) ∧ Reg.Ext w w' := by
  by_cases hb : b = 0
  · subst hb
    by_cases ha : a = 0
    · subst ha
      exact (ratio_none w).mono fun e w' ⟨h1, h2⟩ => ⟨h1, h2 ▸ Reg.Ext.refl w⟩
    · refine (ratio_inf a ha w).mono fun e w' ⟨h1, h2⟩ => ⟨?_, h2 ▸ Reg.Ext.refl w⟩
      rw [h1]; unfold ratV; rw [if_pos rfl, if_neg ha]
  · obtain ⟨r, w1, hr, hG, hx⟩ := arith_any .quo (.inr (.inr (.inr rfl))) 23 (floatOfInt .f64 a) (floatOfInt .f64 b) w
    have HV := Lib.hid (ratV_gives hb hG)
    have d1 : (b != 0) = true := by rw [bne_iff_ne]; exact hb
    have HL := Lib.hid hG.1
    have HX := Lib.hid hx
    clear hG hx
    go_enter Try.func11, Try.ntmps11
    go_wp2_with fail
    refine (clean_any r w1 HL.out).mono ?_
    rintro e w' ⟨rfl, rfl⟩
    go_wp2_with fail
    go_ret
    exact ⟨by rw [HV.out]; rfl, HX.out⟩
set_option maxHeartbeats 1000000 in
theorem ratioR_gen (a b : Int) (w : World) : Calls Try.prog 30 #[.int .i64 a, .int .i64 b] w fun e w' => e = .returned (.float .f64 (ratV a b)) ∧ Reg.Ext w w' := by
  go_enter Try.func30, Try.ntmps30
  by_cases hb : b = 0
  · have d1 : (b != 0) = false := by rw [hb]; rfl
    by_cases ha : a = 0
    · have d2 : (a == 0) = true := by rw [beq_iff_eq]; exact ha
      have HV := Lib.hid (show ratV a b = 9221120237041090560 by unfold ratV; rw [if_pos hb, if_pos ha])
      clear ha hb
      go_wp2_with fail
      refine (nanR_any w).mono ?_
      rintro e w' ⟨rfl, rfl⟩
      go_wp2_with fail
      go_ret
      exact ⟨by rw [HV.out]; rfl, Reg.Ext.refl w⟩
    · have d2 : (a == 0) = false := by rw [beq_eq_false_iff_ne]; exact ha
      by_cases hn : a < 0
      · have d3 : decide (a < 0) = true := decide_eq_true hn
        have HV := Lib.hid (show ratV a b = 18442240474082181120 by unfold ratV; rw [if_pos hb, if_neg ha]; unfold infOf; rw [if_pos hn])
        clear ha hb hn
        go_wp2_with fail
        go_ret
        exact ⟨by rw [HV.out]; rfl, Reg.Ext.refl w⟩
      · have d3 : decide (a < 0) = false := decide_eq_false hn
        have HV := Lib.hid (show ratV a b = 9218868437227405312 by unfold ratV; rw [if_pos hb, if_neg ha]; unfold infOf; rw [if_neg hn])
        clear ha hb hn
        go_wp2_with fail
        go_ret
        exact ⟨by rw [HV.out]; rfl, Reg.Ext.refl w⟩
  · obtain ⟨r, w1, hr, hG, hx⟩ := arith_any .quo (.inr (.inr (.inr rfl))) 23 (floatOfInt .f64 a) (floatOfInt .f64 b) w
    have HV := Lib.hid (ratV_gives hb hG)
    have d1 : (b != 0) = true := by rw [bne_iff_ne]; exact hb
    have HL := Lib.hid hG.1
    have HX := Lib.hid hx
    clear hG hx hb
    go_wp2_with fail
    refine (cleanR_any r w1 HL.out).mono ?_
    rintro e w' ⟨rfl, rfl⟩
    go_wp2_with fail
    go_ret
    exact ⟨by rw [HV.out]; rfl, HX.out⟩
set_option maxHeartbeats 4000000 in
theorem printR_any (b : Nat) (w : World) (hb : b < 18446744073709551616) : Calls Try.prog 29 #[.float .f64 b] w fun e w' => e = .returned (.string ⟨(print b).toArray⟩) ∧ Reg.Ext w w' := by
  go_enter Try.func29, Try.ntmps29
  go_wp2_with fail
  refine (classR_any b w hb).mono ?_
  rintro e w' ⟨rfl, rfl⟩
  by_cases h1 : cls b = 1
  · have HV := Lib.hid (show print b = [110, 97, 110] by unfold print; rw [if_pos h1])
    rw [h1]
    clear h1
    go_wp2_with fail
    go_ret
    exact ⟨by rw [HV.out]; rfl, Reg.Ext.refl w⟩
  · have d1 : ((cls b : Int) == 1) = false := by rw [beq_eq_false_iff_ne]; omega
    by_cases h2 : cls b = 2
    · have HV := Lib.hid (show print b = [45, 105, 110, 102] by unfold print; rw [if_neg h1, if_pos h2])
      rw [h2]
      clear h2 h1 d1
      go_wp2_with fail
      go_ret
      exact ⟨by rw [HV.out]; rfl, Reg.Ext.refl w⟩
    · have d2 : ((cls b : Int) == 2) = false := by rw [beq_eq_false_iff_ne]; omega
      by_cases h7 : cls b = 7
      · have HV := Lib.hid (show print b = [105, 110, 102] by unfold print; rw [if_neg h1, if_neg h2, if_pos h7])
        rw [h7]
        clear h7 h2 h1 d1 d2
        go_wp2_with fail
        go_ret
        exact ⟨by rw [HV.out]; rfl, Reg.Ext.refl w⟩
      · have d7 : ((cls b : Int) == 7) = false := by rw [beq_eq_false_iff_ne]; omega
        have HV := Lib.hid (show print b = hex (b8 b) by unfold print; rw [if_neg h1, if_neg h2, if_neg h7])
        clear h7 h2 h1
        generalize cls b = c at *
        have HBUF := Lib.hid (Hex.made0 w w (Reg.Ext.refl w))
        go_wp2_with fail
        go_loopw [4, 5] (fun v i wr => ∃ k : Nat, k ≤ 8 ∧ i = .int .i64 (7 - (k : Int)) ∧ Hid (Buf w wr v ((b8 b).take k))) (fun _ i _ => (intOf i + 1).toNat)
        case atStart => exact ⟨0, by omega, rfl, HBUF⟩
        case round =>
          obtain ⟨k, hk, rfl, HB⟩ := hrel
          clear HBUF
          rcases (by omega : k = 0 ∨ k = 1 ∨ k = 2 ∨ k = 3 ∨ k = 4 ∨ k = 5 ∨ k = 6 ∨ k = 7 ∨ k = 8) with rfl | rfl | rfl | rfl | rfl | rfl | rfl | rfl | rfl
          · simp only [Int.cast_ofNat_Int, Int.reduceSub, Int.natCast_zero, Int.natCast_one, Int.sub_zero]
            have hb8 : (b8 b).take (0 + 1) = (b8 b).take 0 ++ [UInt8.ofNat (b / 256 ^ (7 - 0) % 256)] := rfl
            have hln : ((b8 b).take 0).length = 0 := rfl
            go_wp2_with (refine Buf.push1 rfl (.tmp 21) (.tmp 27) rfl u4 ((b8 b).take 0) rfl w wr _ (UInt8.ofNat (b / 256 ^ (7 - 0) % 256)) (by rw [UInt8.toNat_ofNat_of_lt' (show _ < 256 by omega)]; simp only [Nat.reducePow, Nat.reduceSub, Nat.sub_zero, Nat.sub_self]; omega) HB.out rfl (by rw [hln]; omega) ?_; intro v4 w4 hb4 hg4; rw [← hb8] at hb4; have HB4 := Lib.hid hb4; clear hb4 hg4)
            go_roundw
            case rel => exact ⟨0 + 1, by omega, rfl, HB4⟩
            case measure => simp [intOf]
          · simp only [Int.cast_ofNat_Int, Int.reduceSub, Int.natCast_zero, Int.natCast_one, Int.sub_zero]
            have hb8 : (b8 b).take (1 + 1) = (b8 b).take 1 ++ [UInt8.ofNat (b / 256 ^ (7 - 1) % 256)] := rfl
            have hln : ((b8 b).take 1).length = 1 := rfl
            go_wp2_with (refine Buf.push1 rfl (.tmp 21) (.tmp 27) rfl u4 ((b8 b).take 1) rfl w wr _ (UInt8.ofNat (b / 256 ^ (7 - 1) % 256)) (by rw [UInt8.toNat_ofNat_of_lt' (show _ < 256 by omega)]; simp only [Nat.reducePow, Nat.reduceSub, Nat.sub_zero, Nat.sub_self]; omega) HB.out rfl (by rw [hln]; omega) ?_; intro v4 w4 hb4 hg4; rw [← hb8] at hb4; have HB4 := Lib.hid hb4; clear hb4 hg4)
            go_roundw
            case rel => exact ⟨1 + 1, by omega, rfl, HB4⟩
            case measure => simp [intOf]
          · simp only [Int.cast_ofNat_Int, Int.reduceSub, Int.natCast_zero, Int.natCast_one, Int.sub_zero]
            have hb8 : (b8 b).take (2 + 1) = (b8 b).take 2 ++ [UInt8.ofNat (b / 256 ^ (7 - 2) % 256)] := rfl
            have hln : ((b8 b).take 2).length = 2 := rfl
            go_wp2_with (refine Buf.push1 rfl (.tmp 21) (.tmp 27) rfl u4 ((b8 b).take 2) rfl w wr _ (UInt8.ofNat (b / 256 ^ (7 - 2) % 256)) (by rw [UInt8.toNat_ofNat_of_lt' (show _ < 256 by omega)]; simp only [Nat.reducePow, Nat.reduceSub, Nat.sub_zero, Nat.sub_self]; omega) HB.out rfl (by rw [hln]; omega) ?_; intro v4 w4 hb4 hg4; rw [← hb8] at hb4; have HB4 := Lib.hid hb4; clear hb4 hg4)
            go_roundw
            case rel => exact ⟨2 + 1, by omega, rfl, HB4⟩
            case measure => simp [intOf]
          · simp only [Int.cast_ofNat_Int, Int.reduceSub, Int.natCast_zero, Int.natCast_one, Int.sub_zero]
            have hb8 : (b8 b).take (3 + 1) = (b8 b).take 3 ++ [UInt8.ofNat (b / 256 ^ (7 - 3) % 256)] := rfl
            have hln : ((b8 b).take 3).length = 3 := rfl
            go_wp2_with (refine Buf.push1 rfl (.tmp 21) (.tmp 27) rfl u4 ((b8 b).take 3) rfl w wr _ (UInt8.ofNat (b / 256 ^ (7 - 3) % 256)) (by rw [UInt8.toNat_ofNat_of_lt' (show _ < 256 by omega)]; simp only [Nat.reducePow, Nat.reduceSub, Nat.sub_zero, Nat.sub_self]; omega) HB.out rfl (by rw [hln]; omega) ?_; intro v4 w4 hb4 hg4; rw [← hb8] at hb4; have HB4 := Lib.hid hb4; clear hb4 hg4)
            go_roundw
            case rel => exact ⟨3 + 1, by omega, rfl, HB4⟩
            case measure => simp [intOf]
          · simp only [Int.cast_ofNat_Int, Int.reduceSub, Int.natCast_zero, Int.natCast_one, Int.sub_zero]
            have hb8 : (b8 b).take (4 + 1) = (b8 b).take 4 ++ [UInt8.ofNat (b / 256 ^ (7 - 4) % 256)] := rfl
            have hln : ((b8 b).take 4).length = 4 := rfl
            go_wp2_with (refine Buf.push1 rfl (.tmp 21) (.tmp 27) rfl u4 ((b8 b).take 4) rfl w wr _ (UInt8.ofNat (b / 256 ^ (7 - 4) % 256)) (by rw [UInt8.toNat_ofNat_of_lt' (show _ < 256 by omega)]; simp only [Nat.reducePow, Nat.reduceSub, Nat.sub_zero, Nat.sub_self]; omega) HB.out rfl (by rw [hln]; omega) ?_; intro v4 w4 hb4 hg4; rw [← hb8] at hb4; have HB4 := Lib.hid hb4; clear hb4 hg4)
            go_roundw
            case rel => exact ⟨4 + 1, by omega, rfl, HB4⟩
            case measure => simp [intOf]
          · simp only [Int.cast_ofNat_Int, Int.reduceSub, Int.natCast_zero, Int.natCast_one, Int.sub_zero]
            have hb8 : (b8 b).take (5 + 1) = (b8 b).take 5 ++ [UInt8.ofNat (b / 256 ^ (7 - 5) % 256)] := rfl
            have hln : ((b8 b).take 5).length = 5 := rfl
            go_wp2_with (refine Buf.push1 rfl (.tmp 21) (.tmp 27) rfl u4 ((b8 b).take 5) rfl w wr _ (UInt8.ofNat (b / 256 ^ (7 - 5) % 256)) (by rw [UInt8.toNat_ofNat_of_lt' (show _ < 256 by omega)]; simp only [Nat.reducePow, Nat.reduceSub, Nat.sub_zero, Nat.sub_self]; omega) HB.out rfl (by rw [hln]; omega) ?_; intro v4 w4 hb4 hg4; rw [← hb8] at hb4; have HB4 := Lib.hid hb4; clear hb4 hg4)
            go_roundw
            case rel => exact ⟨5 + 1, by omega, rfl, HB4⟩
            case measure => simp [intOf]
          · simp only [Int.cast_ofNat_Int, Int.reduceSub, Int.natCast_zero, Int.natCast_one, Int.sub_zero]
            have hb8 : (b8 b).take (6 + 1) = (b8 b).take 6 ++ [UInt8.ofNat (b / 256 ^ (7 - 6) % 256)] := rfl
            have hln : ((b8 b).take 6).length = 6 := rfl
            go_wp2_with (refine Buf.push1 rfl (.tmp 21) (.tmp 27) rfl u4 ((b8 b).take 6) rfl w wr _ (UInt8.ofNat (b / 256 ^ (7 - 6) % 256)) (by rw [UInt8.toNat_ofNat_of_lt' (show _ < 256 by omega)]; simp only [Nat.reducePow, Nat.reduceSub, Nat.sub_zero, Nat.sub_self]; omega) HB.out rfl (by rw [hln]; omega) ?_; intro v4 w4 hb4 hg4; rw [← hb8] at hb4; have HB4 := Lib.hid hb4; clear hb4 hg4)
            go_roundw
            case rel => exact ⟨6 + 1, by omega, rfl, HB4⟩
            case measure => simp [intOf]
          · simp only [Int.cast_ofNat_Int, Int.reduceSub, Int.natCast_zero, Int.natCast_one, Int.sub_zero]
            have hb8 : (b8 b).take (7 + 1) = (b8 b).take 7 ++ [UInt8.ofNat (b / 256 ^ (7 - 7) % 256)] := rfl
            have hln : ((b8 b).take 7).length = 7 := rfl
            go_wp2_with (refine Buf.push1 rfl (.tmp 21) (.tmp 27) rfl u4 ((b8 b).take 7) rfl w wr _ (UInt8.ofNat (b / 256 ^ (7 - 7) % 256)) (by rw [UInt8.toNat_ofNat_of_lt' (show _ < 256 by omega)]; simp only [Nat.reducePow, Nat.reduceSub, Nat.sub_zero, Nat.sub_self]; omega) HB.out rfl (by rw [hln]; omega) ?_; intro v4 w4 hb4 hg4; rw [← hb8] at hb4; have HB4 := Lib.hid hb4; clear hb4 hg4)
            go_roundw
            case rel => exact ⟨7 + 1, by omega, rfl, HB4⟩
            case measure => simp [intOf]
          · simp only [Int.cast_ofNat_Int, Int.reduceSub]
            have hcs := HB.out.str
            have HX := Lib.hid HB.out.ext
            rw [show (b8 b).take 8 = b8 b from rfl] at hcs
            go_wp2_with fail
            refine (Hex.hexR_any ⟨(b8 b).toArray⟩ wr (by show 8 ≤ _; omega)).mono ?_
            rintro e w5 ⟨rfl, hx5⟩
            have HX5 := Lib.hid (HX.out.trans hx5)
            clear hx5 hcs
            go_wp2_with fail
            go_ret
            exact ⟨by rw [HV.out]; rfl, HX5.out⟩
end Flt
end Go.Proofs.Ytomfkjllkmilpaa
