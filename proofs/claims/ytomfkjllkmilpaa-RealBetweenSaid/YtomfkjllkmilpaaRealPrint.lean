/- The walks of package real: Print; the law awake. -/
import Derived.Test.YtomfkjllkmilpaaRealQual
import Derived.Deep.OwnRows
set_option linter.unusedSimpArgs false
set_option linter.unusedVariables false
set_option linter.unusedSectionVars false
namespace Go.Proofs.Ytomfkjllkmilpaa
open Go.RowKit
namespace Flt
open FloatP HexP
attribute [local go_sem] call_bits call_from unary_neg_float
/-- eight bytes, the greatest first -/
def b8 (n : Nat) : List UInt8 := (List.range 8).map fun i => UInt8.ofNat (n / 256 ^ (7 - i) % 256)
/-- k of them are laid, from the end -/
def p8 (n k : Nat) : List Value := (List.replicate (8 - k) 0 ++ (b8 n).drop (8 - k)).map byteV
theorem p8_zero (n : Nat) : p8 n 0 = List.replicate 8 (Value.int .u8 0) := rfl
theorem p8_end (n : Nat) : p8 n 8 = (b8 n).map byteV := rfl
theorem p8_length (n k : Nat) (hk : k ≤ 8) : (p8 n k).length = 8 := by
  have h8 : (b8 n).length = 8 := rfl
  rw [p8, List.length_map, List.length_append, List.length_replicate, List.length_drop, h8]; omega
theorem p8_set (n k : Nat) (hk : k < 8) : (p8 n k).set (7 - k) (.int .u8 ((n : Int) / 2 ^ (8 * k) % 256)) = p8 n (k + 1) := by
  rw [p8, List.map_append, List.set_append_left _ _ (by simp; omega)]
  have e1 : (List.map byteV (List.replicate (8 - k) 0)).set (7 - k) (.int .u8 ((n : Int) / 2 ^ (8 * k) % 256)) = List.map byteV (List.replicate (8 - (k + 1)) 0) ++ [.int .u8 ((n : Int) / 2 ^ (8 * k) % 256)] := by
    rw [show 8 - k = (7 - k) + 1 by omega, List.replicate_succ', List.map_append, List.set_append_right _ _ (by simp)]
    simp [show 8 - (k + 1) = 7 - k by omega]
  have e2 : (b8 n).drop (8 - (k + 1)) = UInt8.ofNat (n / 256 ^ k % 256) :: (b8 n).drop (8 - k) := by
    rcases (by omega : k = 0 ∨ k = 1 ∨ k = 2 ∨ k = 3 ∨ k = 4 ∨ k = 5 ∨ k = 6 ∨ k = 7) with rfl | rfl | rfl | rfl | rfl | rfl | rfl | rfl <;> rfl
  have e3 : (Value.int .u8 ((n : Int) / 2 ^ (8 * k) % 256)) = byteV (UInt8.ofNat (n / 256 ^ k % 256)) := by
    have e4 : (2 : Int) ^ (8 * k) = ((256 ^ k : Nat) : Int) := by rw [Int.pow_mul]; norm_cast
    unfold byteV
    have e5 : (UInt8.ofNat (n / 256 ^ k % 256)).toNat = n / 256 ^ k % 256 := UInt8.toNat_ofNat_of_lt' (by show _ < 256; omega)
    rw [e4, e5]
    have e6 : ((n / 256 ^ k % 256 : Nat) : Int) = (n : Int) / ((256 ^ k : Nat) : Int) % 256 := by
      rw [Int.natCast_emod, Int.natCast_ediv]; rfl
    rw [e6]
  rw [e1, e3, p8, e2]
  simp
theorem made8 : madeCells #[Value.int IntKind.u8 0] 8 = #[.int .u8 0, .int .u8 0, .int .u8 0, .int .u8 0, .int .u8 0, .int .u8 0, .int .u8 0, .int .u8 0] := by
  apply Array.ext
  · simp [madeCells]
  · intro i h1 h2
    simp [madeCells] at h1
    rcases (by omega : i = 0 ∨ i = 1 ∨ i = 2 ∨ i = 3 ∨ i = 4 ∨ i = 5 ∨ i = 6 ∨ i = 7) with rfl | rfl | rfl | rfl | rfl | rfl | rfl | rfl <;> simp [madeCells]
theorem make8 (w : World) : (Instr.makeSlice 47 (.int .i64 8) (.int .i64 8)).run Try.prog w = .ok (.slice (some ⟨w.heap.size, 0, none⟩) 8 8) (w.alloc (.cells #[.int .u8 0, .int .u8 0, .int .u8 0, .int .u8 0, .int .u8 0, .int .u8 0, .int .u8 0, .int .u8 0] 5)) := by
  rw [← made8]
  exact run_make_row' (P := Try.prog) 47 5 (.int .u8 0) 1 Try.underlying47 Try.byteInfo rfl .i64 .i64 8 (by omega) (by omega) w
def print (b : Nat) : List UInt8 := if cls b = 1 then [110, 97, 110] else if cls b = 2 then [45, 105, 110, 102] else if cls b = 7 then [105, 110, 102] else hex (b8 b)
set_option maxHeartbeats 2000000 in
theorem print_any (b : Nat) (w : World) (hb : b < 18446744073709551616) : Calls Try.prog 28 #[.float .f64 b] w fun e w' => e = .returned (.string ⟨(print b).toArray⟩) ∧ Reg.Ext w w' := by
  go_enter Try.func28, Try.ntmps28
  go_wp2_with fail
  refine (class_any b w hb).mono ?_
  rintro e w' ⟨rfl, rfl⟩
  by_cases h1 : cls b = 1
  · have HV := Lib.hid (show print b = [110, 97, 110] by unfold print; rw [if_pos h1])
    rw [h1]
    clear h1
    go_wp2_with fail
    go_ret
    exact ⟨by rw [HV.out]; rfl, Reg.Ext.refl w⟩
  · have d1 : ((cls b : Int) == 1) = false := by rw [beq_eq_false_iff_ne]; omega
    by_cases h2 : cls b = 2
    · have HV := Lib.hid (show print b = [45, 105, 110, 102] by unfold print; rw [if_neg h1, if_pos h2])
      rw [h2]
      clear h2 h1 d1
      go_wp2_with fail
      go_ret
      exact ⟨by rw [HV.out]; rfl, Reg.Ext.refl w⟩
    · have d2 : ((cls b : Int) == 2) = false := by rw [beq_eq_false_iff_ne]; omega
      by_cases h7 : cls b = 7
      · have HV := Lib.hid (show print b = [105, 110, 102] by unfold print; rw [if_neg h1, if_neg h2, if_pos h7])
        rw [h7]
        clear h7 h2 h1 d1 d2
        go_wp2_with fail
        go_ret
        exact ⟨by rw [HV.out]; rfl, Reg.Ext.refl w⟩
      · have d7 : ((cls b : Int) == 7) = false := by rw [beq_eq_false_iff_ne]; omega
        have HV := Lib.hid (show print b = hex (b8 b) by unfold print; rw [if_neg h1, if_neg h2, if_neg h7])
        clear h7 h2 h1
        generalize cls b = c at *
        have hmk := make8 w
        have hb0 : Blk (w.alloc (Obj.cells #[Value.int .u8 0, Value.int .u8 0, Value.int .u8 0, Value.int .u8 0, Value.int .u8 0, Value.int .u8 0, Value.int .u8 0, Value.int .u8 0] 5)) w.heap.size 5 (p8 b 0) := Blk.new w 5 #[Value.int .u8 0, Value.int .u8 0, Value.int .u8 0, Value.int .u8 0, Value.int .u8 0, Value.int .u8 0, Value.int .u8 0, Value.int .u8 0]
        have hx0 := Reg.Ext.alloc w (Obj.cells #[Value.int .u8 0, Value.int .u8 0, Value.int .u8 0, Value.int .u8 0, Value.int .u8 0, Value.int .u8 0, Value.int .u8 0, Value.int .u8 0] 5)
        generalize w.alloc (Obj.cells #[Value.int .u8 0, Value.int .u8 0, Value.int .u8 0, Value.int .u8 0, Value.int .u8 0, Value.int .u8 0, Value.int .u8 0, Value.int .u8 0] 5) = w1 at *
        have HB0 := Lib.hid hb0
        have HX0 := Lib.hid hx0
        clear hb0 hx0
        go_wp2_with fail
        clear hmk
        generalize hg : w.heap.size = g at *
        have HG := Lib.hid hg
        clear hg
        go_loopw [4, 16] (fun _ i wr => ∃ k : Nat, k ≤ 8 ∧ i = .int .i64 k ∧ Hid (Blk wr g 5 (p8 b k)) ∧ Hid (Reg.Ext w wr)) (fun _ i _ => 8 - (intOf i).toNat)
        case atStart => exact ⟨0, by omega, rfl, HB0, HX0⟩
        case round =>
          obtain ⟨k, hk, rfl, HB, HX⟩ := hrel
          clear HB0 HX0
          by_cases hk8 : k < 8
          · have d9 : decide ((k : Int) < 8) = true := by rw [decide_eq_true_iff]; omega
            have ci : ∃ v, wr.cell? ⟨g, 7 - k, none⟩ = some v := ⟨_, HB.out.cellAt (by rw [p8_length _ _ hk]; omega)⟩
            obtain ⟨v0, ci⟩ := ci
            have fi := HB.out.frozen (7 - k)
            have hs := HB.out.set_ (7 - k) (.int .u8 ((b : Int) / 2 ^ (8 * k) % 256))
            rw [p8_set b k hk8] at hs
            have HS := Lib.hid hs
            have HX2 := Lib.hid (HX.out.trans_but (But.set_ g wr (7 - k) (.int .u8 ((b : Int) / 2 ^ (8 * k) % 256))) (by rw [HG.out]; exact Nat.le_refl _))
            clear hs
            go_wp2_with fail
            go_roundw
            case rel => exact ⟨k + 1, by omega, by go_num, HS, HX2⟩
            case measure => simp [intOf]; omega
          · have hk' : k = 8 := by omega
            subst hk'
            have hcv := conv_bytes (P := Try.prog) wr 47 9 5 Try.underlying47 Try.underlying5 Try.underlying9 g 0 8 8 (b8 b) rfl (fun j hj => by
              rw [Nat.zero_add, HB.out.cell, p8_end, List.getElem?_map, List.getElem?_eq_getElem hj]; rfl)
            go_wp2_with fail
            refine (Hex.hex_any ⟨(b8 b).toArray⟩ wr (by show 8 ≤ _; omega)).mono ?_
            rintro e w5 ⟨rfl, hx5⟩
            have HX5 := Lib.hid (HX.out.trans hx5)
            clear hx5 hcv
            go_wp2_with fail
            go_ret
            exact ⟨by rw [HV.out]; rfl, HX5.out⟩
theorem qual_half : qualV [48, 46, 53] = .tuple #[.float .f64 4602678819172646912, .int .i64 0] := by
  have h1 : isW [48, 46, 53] = true := by decide
  have h2 : qv (wn [48, 46, 53]) (wk [48, 46, 53]) = 4602678819172646912 := by decide +kernel
  unfold qualV
  rw [h1, h2]
  rfl
theorem qual_bad : qualV [49, 46, 49] = .tuple #[.float .f64 0, .int .i64 3] := by
  have h1 : isW [49, 46, 49] = false := by decide
  unfold qualV
  rw [h1]
  rfl
theorem quo14 : quo 1 4 = some 4598175219545276416 := by decide +kernel
set_option maxHeartbeats 2000000 in
theorem awake_any (w : World) : Calls Try.prog 9 #[] w fun e w' => e = .returned (.bool true) ∧ Reg.Ext w w' := by
  have o1 : FloatKind.f64.format.order 4602678819172646912 4602678819172646912 = some .eq := by decide +kernel
  have o2 : FloatKind.f64.format.order 4598175219545276416 4598175219545276416 = some .eq := by decide +kernel
  have hc1 : cls 9221120237041090560 = 1 := by decide
  have hc2 : cls (infOf (-3)) = 2 := by decide
  have hcl : clean 4598175219545276416 = 4598175219545276416 := by decide
  have hpr : print 4607182418800017408 = [51, 102, 102, 48, 48, 48, 48, 48, 48, 48, 48, 48, 48, 48, 48, 48] := by decide
  have HC1 := Lib.hid hc1
  have HC2 := Lib.hid hc2
  have HCL := Lib.hid hcl
  have HPR := Lib.hid hpr
  clear hc1 hc2 hcl hpr
  go_enter Try.func9, Try.ntmps9
  go_wp2_with fail
  refine (quality_any ⟨#[48, 46, 53]⟩ w (by decide)).mono ?_
  rintro e w1 ⟨rfl, x1⟩
  rw [show (⟨#[48, 46, 53]⟩ : ByteArray).data.toList = [48, 46, 53] from rfl, qual_half]
  go_wp2_with fail
  refine (quality_any ⟨#[49, 46, 49]⟩ w1 (by decide)).mono ?_
  rintro e w2 ⟨rfl, x2⟩
  rw [show (⟨#[49, 46, 49]⟩ : ByteArray).data.toList = [49, 46, 49] from rfl, qual_bad]
  have X2 := Lib.hid (x1.trans x2)
  clear x1 x2
  go_wp2_with fail
  refine (ratio_none w2).mono ?_
  rintro e w' ⟨rfl, rfl⟩
  go_wp2_with fail
  refine (class_any 9221120237041090560 w2 (by decide)).mono ?_
  rintro e w' ⟨rfl, rfl⟩
  rw [HC1.out]
  go_wp2_with fail
  refine (ratio_inf (-3) (by decide) w2).mono ?_
  rintro e w' ⟨rfl, rfl⟩
  go_wp2_with fail
  refine (class_any (infOf (-3)) w2 (by decide)).mono ?_
  rintro e w' ⟨rfl, rfl⟩
  rw [HC2.out]
  go_wp2_with fail
  refine (print_any 4607182418800017408 w2 (by decide)).mono ?_
  rintro e w3 ⟨rfl, x3⟩
  rw [HPR.out]
  have X3 := Lib.hid (X2.out.trans x3)
  clear x3 X2
  go_wp2_with fail
  refine (ratio_any 1 4 4598175219545276416 w3 (by decide) quo14 (by decide)).mono ?_
  rintro e w' ⟨rfl, rfl⟩
  rw [HCL.out]
  go_wp2_with fail
  go_ret
  exact ⟨rfl, X3.out⟩
end Flt
end Go.Proofs.Ytomfkjllkmilpaa
