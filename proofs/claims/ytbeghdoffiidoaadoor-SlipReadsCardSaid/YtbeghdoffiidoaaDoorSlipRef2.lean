/- The reference's functions of chapter 8: number, Framed, Body. -/
import Derived.Test.YtbeghdoffiidoaaDoorSlipRef
import Derived.Test.YtbeghdoffiidoaaDoorSlipWrite2
import Derived.Test.YtbeghdoffiidoaaDoorBuf
set_option linter.unusedSimpArgs false
set_option linter.unusedVariables false
set_option linter.unusedSectionVars false
namespace Go.Proofs.YtbeghdoffiidoaaDoor
open Go.RowKit
namespace Slp
open Bld (len1 be8)
open CrcP (more tail)
set_option maxHeartbeats 4000000 in
theorem numberR_any (n : Nat) (w : World) (hn : n < 9223372036854775808) :
    Calls Tryd.prog 31 #[.int .i64 (n : Int)] w fun e w' => e = .returned (.string ⟨(be8 n).toArray⟩) ∧ Reg.Ext w w' := by
  go_enter Tryd.func31, Tryd.ntmps31
  go_wp2_with fail
  have hb0 := Buf.empty w w (Reg.Ext.refl w)
  generalize w.alloc (.cells #[] 5) = w1 at *
  have HB0 : Hid (Buf w w1 (.slice (some ⟨w.heap.size, 0, none⟩) 0 0) ((be8 n).take 0)) := hb0
  clear hb0
  go_loopw [3, 4] (fun v i wr => ∃ k : Nat, k ≤ 8 ∧ i = .int .i64 (7 - (k : Int)) ∧ Hid (Buf w wr v ((be8 n).take k))) (fun _ i _ => (intOf i + 1).toNat)
  case atStart => exact ⟨0, by omega, by simp, HB0⟩
  case round =>
    obtain ⟨k, hk, hi, HB⟩ := hrel
    clear HB0
    by_cases hk8 : k < 8
    · rcases (by omega : k = 0 ∨ k = 1 ∨ k = 2 ∨ k = 3 ∨ k = 4 ∨ k = 5 ∨ k = 6 ∨ k = 7) with rfl | rfl | rfl | rfl | rfl | rfl | rfl | rfl
      · have hi' := hi
        rw [show (7 - ((0 : Nat) : Int)) = 7 by decide] at hi'
        subst hi'
        have HE := Lib.hid (show ((be8 n).take 0) ++ [UInt8.ofNat (n / 72057594037927936 % 256)] = (be8 n).take (0 + 1) from rfl)
        have hlb : ((be8 n).take 0).length + 1 ≤ 1099511627776 := by rw [List.length_take]; omega
        have hbn : ((n / 72057594037927936 % 256 : Nat) : Int) = ((UInt8.ofNat (n / 72057594037927936 % 256)).toNat : Int) := by rw [UInt8.toNat_ofNat_of_lt' (by show _ < 256; omega)]
        have HBN := Lib.hid hbn
        generalize ((be8 n).take 0) = ll at *
        clear hbn
        have hnn := hn
        go_wp2_with (refine Buf.push1 rfl (.tmp 10) (.tmp 17) rfl u3 ll rfl w wr _ (UInt8.ofNat (n / 72057594037927936 % 256)) (by rw [← HBN.out]; omega) HB.out rfl hlb ?_; intro v4 w4 hb4 hg4; rw [HE.out] at hb4; have HB4 := Lib.hid hb4; clear hb4 hg4)
        go_roundw
        case rel => exact ⟨0 + 1, by omega, by simp, HB4⟩
        case measure => simp [intOf]
      · have hi' := hi
        rw [show (7 - ((1 : Nat) : Int)) = 6 by decide] at hi'
        subst hi'
        have HE := Lib.hid (show ((be8 n).take 1) ++ [UInt8.ofNat (n / 281474976710656 % 256)] = (be8 n).take (1 + 1) from rfl)
        have hlb : ((be8 n).take 1).length + 1 ≤ 1099511627776 := by rw [List.length_take]; omega
        have hbn : ((n / 281474976710656 % 256 : Nat) : Int) = ((UInt8.ofNat (n / 281474976710656 % 256)).toNat : Int) := by rw [UInt8.toNat_ofNat_of_lt' (by show _ < 256; omega)]
        have HBN := Lib.hid hbn
        generalize ((be8 n).take 1) = ll at *
        clear hbn
        have hnn := hn
        go_wp2_with (refine Buf.push1 rfl (.tmp 10) (.tmp 17) rfl u3 ll rfl w wr _ (UInt8.ofNat (n / 281474976710656 % 256)) (by rw [← HBN.out]; omega) HB.out rfl hlb ?_; intro v4 w4 hb4 hg4; rw [HE.out] at hb4; have HB4 := Lib.hid hb4; clear hb4 hg4)
        go_roundw
        case rel => exact ⟨1 + 1, by omega, by simp, HB4⟩
        case measure => simp [intOf]
      · have hi' := hi
        rw [show (7 - ((2 : Nat) : Int)) = 5 by decide] at hi'
        subst hi'
        have HE := Lib.hid (show ((be8 n).take 2) ++ [UInt8.ofNat (n / 1099511627776 % 256)] = (be8 n).take (2 + 1) from rfl)
        have hlb : ((be8 n).take 2).length + 1 ≤ 1099511627776 := by rw [List.length_take]; omega
        have hbn : ((n / 1099511627776 % 256 : Nat) : Int) = ((UInt8.ofNat (n / 1099511627776 % 256)).toNat : Int) := by rw [UInt8.toNat_ofNat_of_lt' (by show _ < 256; omega)]
        have HBN := Lib.hid hbn
        generalize ((be8 n).take 2) = ll at *
        clear hbn
        have hnn := hn
        go_wp2_with (refine Buf.push1 rfl (.tmp 10) (.tmp 17) rfl u3 ll rfl w wr _ (UInt8.ofNat (n / 1099511627776 % 256)) (by rw [← HBN.out]; omega) HB.out rfl hlb ?_; intro v4 w4 hb4 hg4; rw [HE.out] at hb4; have HB4 := Lib.hid hb4; clear hb4 hg4)
        go_roundw
        case rel => exact ⟨2 + 1, by omega, by simp, HB4⟩
        case measure => simp [intOf]
      · have hi' := hi
        rw [show (7 - ((3 : Nat) : Int)) = 4 by decide] at hi'
        subst hi'
        have HE := Lib.hid (show ((be8 n).take 3) ++ [UInt8.ofNat (n / 4294967296 % 256)] = (be8 n).take (3 + 1) from rfl)
        have hlb : ((be8 n).take 3).length + 1 ≤ 1099511627776 := by rw [List.length_take]; omega
        have hbn : ((n / 4294967296 % 256 : Nat) : Int) = ((UInt8.ofNat (n / 4294967296 % 256)).toNat : Int) := by rw [UInt8.toNat_ofNat_of_lt' (by show _ < 256; omega)]
        have HBN := Lib.hid hbn
        generalize ((be8 n).take 3) = ll at *
        clear hbn
        have hnn := hn
        go_wp2_with (refine Buf.push1 rfl (.tmp 10) (.tmp 17) rfl u3 ll rfl w wr _ (UInt8.ofNat (n / 4294967296 % 256)) (by rw [← HBN.out]; omega) HB.out rfl hlb ?_; intro v4 w4 hb4 hg4; rw [HE.out] at hb4; have HB4 := Lib.hid hb4; clear hb4 hg4)
        go_roundw
        case rel => exact ⟨3 + 1, by omega, by simp, HB4⟩
        case measure => simp [intOf]
      · have hi' := hi
        rw [show (7 - ((4 : Nat) : Int)) = 3 by decide] at hi'
        subst hi'
        have HE := Lib.hid (show ((be8 n).take 4) ++ [UInt8.ofNat (n / 16777216 % 256)] = (be8 n).take (4 + 1) from rfl)
        have hlb : ((be8 n).take 4).length + 1 ≤ 1099511627776 := by rw [List.length_take]; omega
        have hbn : ((n / 16777216 % 256 : Nat) : Int) = ((UInt8.ofNat (n / 16777216 % 256)).toNat : Int) := by rw [UInt8.toNat_ofNat_of_lt' (by show _ < 256; omega)]
        have HBN := Lib.hid hbn
        generalize ((be8 n).take 4) = ll at *
        clear hbn
        have hnn := hn
        go_wp2_with (refine Buf.push1 rfl (.tmp 10) (.tmp 17) rfl u3 ll rfl w wr _ (UInt8.ofNat (n / 16777216 % 256)) (by rw [← HBN.out]; omega) HB.out rfl hlb ?_; intro v4 w4 hb4 hg4; rw [HE.out] at hb4; have HB4 := Lib.hid hb4; clear hb4 hg4)
        go_roundw
        case rel => exact ⟨4 + 1, by omega, by simp, HB4⟩
        case measure => simp [intOf]
      · have hi' := hi
        rw [show (7 - ((5 : Nat) : Int)) = 2 by decide] at hi'
        subst hi'
        have HE := Lib.hid (show ((be8 n).take 5) ++ [UInt8.ofNat (n / 65536 % 256)] = (be8 n).take (5 + 1) from rfl)
        have hlb : ((be8 n).take 5).length + 1 ≤ 1099511627776 := by rw [List.length_take]; omega
        have hbn : ((n / 65536 % 256 : Nat) : Int) = ((UInt8.ofNat (n / 65536 % 256)).toNat : Int) := by rw [UInt8.toNat_ofNat_of_lt' (by show _ < 256; omega)]
        have HBN := Lib.hid hbn
        generalize ((be8 n).take 5) = ll at *
        clear hbn
        have hnn := hn
        go_wp2_with (refine Buf.push1 rfl (.tmp 10) (.tmp 17) rfl u3 ll rfl w wr _ (UInt8.ofNat (n / 65536 % 256)) (by rw [← HBN.out]; omega) HB.out rfl hlb ?_; intro v4 w4 hb4 hg4; rw [HE.out] at hb4; have HB4 := Lib.hid hb4; clear hb4 hg4)
        go_roundw
        case rel => exact ⟨5 + 1, by omega, by simp, HB4⟩
        case measure => simp [intOf]
      · have hi' := hi
        rw [show (7 - ((6 : Nat) : Int)) = 1 by decide] at hi'
        subst hi'
        have HE := Lib.hid (show ((be8 n).take 6) ++ [UInt8.ofNat (n / 256 % 256)] = (be8 n).take (6 + 1) from rfl)
        have hlb : ((be8 n).take 6).length + 1 ≤ 1099511627776 := by rw [List.length_take]; omega
        have hbn : ((n / 256 % 256 : Nat) : Int) = ((UInt8.ofNat (n / 256 % 256)).toNat : Int) := by rw [UInt8.toNat_ofNat_of_lt' (by show _ < 256; omega)]
        have HBN := Lib.hid hbn
        generalize ((be8 n).take 6) = ll at *
        clear hbn
        have hnn := hn
        go_wp2_with (refine Buf.push1 rfl (.tmp 10) (.tmp 17) rfl u3 ll rfl w wr _ (UInt8.ofNat (n / 256 % 256)) (by rw [← HBN.out]; omega) HB.out rfl hlb ?_; intro v4 w4 hb4 hg4; rw [HE.out] at hb4; have HB4 := Lib.hid hb4; clear hb4 hg4)
        go_roundw
        case rel => exact ⟨6 + 1, by omega, by simp, HB4⟩
        case measure => simp [intOf]
      · have hi' := hi
        rw [show (7 - ((7 : Nat) : Int)) = 0 by decide] at hi'
        subst hi'
        have HE := Lib.hid (show ((be8 n).take 7) ++ [UInt8.ofNat (n / 1 % 256)] = (be8 n).take (7 + 1) from rfl)
        have hlb : ((be8 n).take 7).length + 1 ≤ 1099511627776 := by rw [List.length_take]; omega
        have hbn : ((n / 1 % 256 : Nat) : Int) = ((UInt8.ofNat (n / 1 % 256)).toNat : Int) := by rw [UInt8.toNat_ofNat_of_lt' (by show _ < 256; omega)]
        have HBN := Lib.hid hbn
        generalize ((be8 n).take 7) = ll at *
        clear hbn
        have hnn := hn
        go_wp2_with (refine Buf.push1 rfl (.tmp 10) (.tmp 17) rfl u3 ll rfl w wr _ (UInt8.ofNat (n / 1 % 256)) (by rw [← HBN.out]; omega) HB.out rfl hlb ?_; intro v4 w4 hb4 hg4; rw [HE.out] at hb4; have HB4 := Lib.hid hb4; clear hb4 hg4)
        go_roundw
        case rel => exact ⟨7 + 1, by omega, by simp, HB4⟩
        case measure => simp [intOf]
    · have hk' : k = 8 := by omega
      subst hk'
      have hi' := hi
      rw [show (7 - ((8 : Nat) : Int)) = -1 by decide] at hi'
      subst hi'
      have he : (be8 n).take 8 = be8 n := List.take_of_length_le (by simp [be8])
      have hb := HB.out
      rw [he] at hb
      have hcs := hb.str
      have HX := Lib.hid hb.ext
      obtain ⟨q, hq⟩ : ∃ q, q = be8 n := ⟨_, rfl⟩
      rw [← hq] at hcs
      have HQ := Lib.hid hq
      clear hb HB he hq
      go_wp2_with fail
      go_ret
      exact ⟨by rw [← HQ.out]; rfl, HX.out⟩
end Slp
end Go.Proofs.YtbeghdoffiidoaaDoor
