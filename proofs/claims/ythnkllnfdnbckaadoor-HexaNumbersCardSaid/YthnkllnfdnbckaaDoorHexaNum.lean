/- The walks of package hexa: numbers that are read. -/
import Derived.Test.YthnkllnfdnbckaaDoorHexRef2
set_option linter.unusedSimpArgs false
set_option linter.unusedVariables false
set_option linter.unusedSectionVars false
namespace Go.Proofs.YthnkllnfdnbckaaDoor
open Go.RowKit
namespace Hex
open HexP
def dv (c : UInt8) : Nat := (valR c).getD 0
def digitV (c : UInt8) : Value := match valR c with
  | some n => .tuple #[.int .i64 (n : Int), .bool true]
  | none => .tuple #[.int .i64 0, .bool false]
theorem dv_lt (c : UInt8) : dv c < 16 := by
  unfold dv
  cases h : valR c with
  | none => simp
  | some n => exact valR_lt h
set_option maxHeartbeats 1000000 in
theorem digit_any (c : UInt8) (w : World) : Calls Tryd.prog 22 #[.int .u8 (c.toNat : Int)] w fun e w' => e = .returned (digitV c) ∧ w = w' := by
  have hc := c.toNat_lt
  go_enter Tryd.func22, Tryd.ntmps22
  by_cases h1 : 65 ≤ c.toNat ∧ c.toNat ≤ 70
  · have d1 : decide ((65 : Int) ≤ (c.toNat : Int)) = true := by rw [decide_eq_true_iff]; omega
    have d2 : decide ((c.toNat : Int) ≤ 70) = true := by rw [decide_eq_true_iff]; omega
    have hv : valR c = some (c.toNat - 55) := by
      unfold valR
      rw [if_neg (by omega), if_neg (by omega), if_pos h1]
    have hu : (UInt8.ofNat (c.toNat + 32)).toNat = c.toNat + 32 := UInt8.toNat_ofNat_of_lt' (by show _ < 256; omega)
    have hsm : small (UInt8.ofNat (c.toNat + 32)) = some (c.toNat - 55) := by
      unfold small
      rw [hu, if_neg (by omega), if_pos (by omega)]
      congr 1
    have hsv : smallV (UInt8.ofNat (c.toNat + 32)) = .tuple #[.int .i64 ((c.toNat - 55 : Nat) : Int), .bool true] := by unfold smallV; rw [hsm]
    have HV := Lib.hid (show digitV c = .tuple #[.int .i64 ((c.toNat - 55 : Nat) : Int), .bool true] by unfold digitV; rw [hv])
    have hcall : ∀ W, Calls Tryd.prog 26 #[.int .u8 ((c.toNat : Int) + 32)] W fun e w' => e = .returned (.tuple #[.int .i64 ((c.toNat - 55 : Nat) : Int), .bool true]) ∧ W = w' := fun W => by
      have := small_any (UInt8.ofNat (c.toNat + 32)) W
      rw [hu, hsv] at this
      simpa using this
    have HC := Lib.hid hcall
    have hi1 : 65 ≤ c.toNat := h1.1
    have hi2 : c.toNat ≤ 70 := h1.2
    clear hcall hsv hsm hu hv h1
    go_wp2_with fail
    refine (HC.out _).mono ?_
    rintro e w' ⟨rfl, rfl⟩
    go_wp2_with fail
    go_ret2
    exact ⟨by rw [HV.out]; rfl, rfl⟩
  · have hv : digitV c = smallV c := by
      unfold digitV smallV valR small
      by_cases a1 : 48 ≤ c.toNat ∧ c.toNat ≤ 57
      · rw [if_pos a1, if_pos a1]
      · rw [if_neg a1, if_neg a1]
        by_cases a2 : 97 ≤ c.toNat ∧ c.toNat ≤ 102
        · rw [if_pos a2, if_pos a2]
        · rw [if_neg a2, if_neg a2, if_neg h1]
    have HV := Lib.hid hv
    have htwo : ∃ n b, smallV c = .tuple #[.int .i64 n, .bool b] := by
      unfold smallV
      split
      · exact ⟨_, _, rfl⟩
      · exact ⟨_, _, rfl⟩
    obtain ⟨n, b, h2⟩ := htwo
    have H2 := Lib.hid h2
    clear hv h2
    by_cases a1 : 65 ≤ c.toNat
    · have d1 : decide ((65 : Int) ≤ (c.toNat : Int)) = true := by rw [decide_eq_true_iff]; omega
      have d2 : decide ((c.toNat : Int) ≤ 70) = false := by rw [decide_eq_false_iff_not]; omega
      clear h1 a1
      go_wp2_with fail
      refine (small_any c w).mono ?_
      rintro e w' ⟨rfl, rfl⟩
      rw [H2.out]
      go_wp2_with fail
      go_ret2
      exact ⟨by rw [HV.out, H2.out]; rfl, rfl⟩
    · have d1 : decide ((65 : Int) ≤ (c.toNat : Int)) = false := by rw [decide_eq_false_iff_not]; omega
      clear h1 a1
      go_wp2_with fail
      refine (small_any c w).mono ?_
      rintro e w' ⟨rfl, rfl⟩
      rw [H2.out]
      go_wp2_with fail
      go_ret2
      exact ⟨by rw [HV.out, H2.out]; rfl, rfl⟩
/-! ### the number of digits -/
def gat (b : Nat) : Nat → List UInt8 → Option Nat
  | n, [] => some n
  | n, c :: l => if (4611686018427387904 - dv c) / b < n then none else gat b (n * b + dv c) l
def gatV (b : Nat) (l : List UInt8) : Value := match gat b 0 l with
  | some n => .tuple #[.int .i64 (n : Int), .bool true]
  | none => .tuple #[.int .i64 0, .bool false]
set_option maxHeartbeats 2000000 in
theorem gather10 (s : ByteArray) (w : World) (hs : s.size ≤ 274877906944) : Calls Tryd.prog 27 #[.string s, .int .i64 10] w fun e w' => e = .returned (gatV 10 s.data.toList) ∧ Reg.Ext w w' := by
  go_enter Tryd.func27, Tryd.ntmps27
  obtain ⟨cap, w2, hcv, hby, hx2⟩ := BytesAt.of s w
  have HBY := Lib.hid hby
  have HX2 := Lib.hid hx2
  clear hby hx2
  go_wp2_with fail
  clear hcv
  go_loopw [4, 7, 8, 9, 13] (fun n _ _ _ i wr => ∃ k : Nat, k ≤ s.size ∧ i = .int .i64 k ∧ ∃ m : Nat, n = .int .i64 (m : Int) ∧ m ≤ 4611686018427387904 ∧ Hid (gat 10 0 s.data.toList = gat 10 m (s.data.toList.drop k)) ∧ w2 = wr) (fun _ _ _ _ i _ => s.size - (intOf i).toNat)
  case atStart => exact ⟨0, Nat.zero_le _, rfl, 0, rfl, by omega, rfl, rfl⟩
  case round =>
    obtain ⟨k, hk, rfl, m, rfl, hm, HG, rfl⟩ := hrel
    by_cases hks : k < s.size
    · have cb := HBY.out.cell k hks
      have d1 : decide ((k : Int) < (s.size : Int)) = true := by rw [decide_eq_true_iff]; omega
      have hd : s.data.toList.drop k = (s.data.toList[k]'(by rw [len_data]; exact hks)) :: s.data.toList.drop (k + 1) := List.drop_eq_getElem_cons (by rw [len_data]; exact hks)
      have hG := HG.out
      rw [hd] at hG
      generalize (s.data.toList[k]'(by rw [len_data]; exact hks)) = c at *
      have hc := c.toNat_lt
      have hdl := dv_lt c
      simp only [gat] at hG
      have htwo : ∃ b, digitV c = .tuple #[.int .i64 (dv c : Int), .bool b] := by
        unfold digitV dv
        cases valR c with
        | none => exact ⟨_, rfl⟩
        | some n => exact ⟨_, rfl⟩
      obtain ⟨bb, h2⟩ := htwo
      have H2 := Lib.hid h2
      clear h2 hd HG
      generalize dv c = v at *
      by_cases hgt : (4611686018427387904 - v) / 10 < m
      · have HV := Lib.hid (show gatV 10 s.data.toList = .tuple #[.int .i64 0, .bool false] by unfold gatV; rw [hG, if_pos hgt])
        have d2 : decide ((4611686018427387904 - (v : Int)) / 10 < (m : Int)) = true := by rw [decide_eq_true_iff]; omega
        clear hG hgt
        go_wp2_with fail
        refine (digit_any c _).mono ?_
        rintro e w' ⟨rfl, rfl⟩
        rw [H2.out]
        go_wp2_with fail
        go_ret2
        exact ⟨by rw [HV.out]; rfl, HX2.out⟩
      · have hmb : m * 10 + v ≤ 4611686018427387904 := by omega
        have HG2 : Hid (gat 10 0 s.data.toList = gat 10 (m * 10 + v) (s.data.toList.drop (k + 1))) := by
          show _ = _
          rw [hG, if_neg hgt]
        have d2 : decide ((4611686018427387904 - (v : Int)) / 10 < (m : Int)) = false := by rw [decide_eq_false_iff_not]; omega
        clear hG hgt
        go_wp2_with fail
        refine (digit_any c _).mono ?_
        rintro e w' ⟨rfl, rfl⟩
        rw [H2.out]
        go_wp2_with fail
        go_roundw
        case rel => exact ⟨k + 1, by omega, by go_num, m * 10 + v, by go_num, hmb, HG2, trivial⟩
        case measure => simp [intOf]; omega
    · have d1 : decide ((k : Int) < (s.size : Int)) = false := by rw [decide_eq_false_iff_not]; omega
      have hd : s.data.toList.drop k = [] := List.drop_of_length_le (by rw [len_data]; omega)
      have HV := Lib.hid (show gatV 10 s.data.toList = .tuple #[.int .i64 (m : Int), .bool true] by unfold gatV; rw [HG.out, hd]; rfl)
      clear hd HG
      go_wp2_with fail
      go_ret2
      exact ⟨by rw [HV.out]; rfl, HX2.out⟩
def bndV10 (most : Int) (l : List UInt8) : Value := match gat 10 0 l with
  | some n => if most < (n : Int) then .tuple #[.int .i64 0, .int .i64 14] else .tuple #[.int .i64 (n : Int), .int .i64 0]
  | none => .tuple #[.int .i64 0, .int .i64 14]
set_option maxHeartbeats 2000000 in
theorem bounded10 (s : ByteArray) (most : Int) (w : World) (hs : s.size ≤ 274877906944) : Calls Tryd.prog 21 #[.string s, .int .i64 10, .int .i64 most] w fun e w' => e = .returned (bndV10 most s.data.toList) ∧ Reg.Ext w w' := by
  go_enter Tryd.func21, Tryd.ntmps21
  go_wp2_with fail
  refine (gather10 s w hs).mono ?_
  rintro e w1 ⟨rfl, x1⟩
  have X1 := Lib.hid x1
  clear x1
  cases hg : gat 10 0 s.data.toList with
  | none =>
    have hv : gatV 10 s.data.toList = .tuple #[.int .i64 0, .bool false] := by unfold gatV; rw [hg]
    have HV := Lib.hid (show bndV10 most s.data.toList = .tuple #[.int .i64 0, .int .i64 14] by unfold bndV10; rw [hg])
    rw [hv]
    clear hg hv
    go_wp2_with fail
    go_ret2
    exact ⟨by rw [HV.out]; rfl, X1.out⟩
  | some n =>
    have hv : gatV 10 s.data.toList = .tuple #[.int .i64 (n : Int), .bool true] := by unfold gatV; rw [hg]
    rw [hv]
    by_cases hm : most < (n : Int)
    · have d1 : decide (most < (n : Int)) = true := decide_eq_true hm
      have HV := Lib.hid (show bndV10 most s.data.toList = .tuple #[.int .i64 0, .int .i64 14] by unfold bndV10; rw [hg]; simp only; rw [if_pos hm])
      clear hg hv hm
      go_wp2_with fail
      go_ret2
      exact ⟨by rw [HV.out]; rfl, X1.out⟩
    · have d1 : decide (most < (n : Int)) = false := decide_eq_false hm
      have HV := Lib.hid (show bndV10 most s.data.toList = .tuple #[.int .i64 (n : Int), .int .i64 0] by unfold bndV10; rw [hg]; simp only; rw [if_neg hm])
      clear hg hv hm
      go_wp2_with fail
      go_ret2
      exact ⟨by rw [HV.out]; rfl, X1.out⟩
set_option maxHeartbeats 2000000 in
theorem gather16 (s : ByteArray) (w : World) (hs : s.size ≤ 274877906944) : Calls Tryd.prog 27 #[.string s, .int .i64 16] w fun e w' => e = .returned (gatV 16 s.data.toList) ∧ Reg.Ext w w' := by
  go_enter Tryd.func27, Tryd.ntmps27
  obtain ⟨cap, w2, hcv, hby, hx2⟩ := BytesAt.of s w
  have HBY := Lib.hid hby
  have HX2 := Lib.hid hx2
  clear hby hx2
  go_wp2_with fail
  clear hcv
  go_loopw [4, 7, 8, 9, 13] (fun n _ _ _ i wr => ∃ k : Nat, k ≤ s.size ∧ i = .int .i64 k ∧ ∃ m : Nat, n = .int .i64 (m : Int) ∧ m ≤ 4611686018427387904 ∧ Hid (gat 16 0 s.data.toList = gat 16 m (s.data.toList.drop k)) ∧ w2 = wr) (fun _ _ _ _ i _ => s.size - (intOf i).toNat)
  case atStart => exact ⟨0, Nat.zero_le _, rfl, 0, rfl, by omega, rfl, rfl⟩
  case round =>
    obtain ⟨k, hk, rfl, m, rfl, hm, HG, rfl⟩ := hrel
    by_cases hks : k < s.size
    · have cb := HBY.out.cell k hks
      have d1 : decide ((k : Int) < (s.size : Int)) = true := by rw [decide_eq_true_iff]; omega
      have hd : s.data.toList.drop k = (s.data.toList[k]'(by rw [len_data]; exact hks)) :: s.data.toList.drop (k + 1) := List.drop_eq_getElem_cons (by rw [len_data]; exact hks)
      have hG := HG.out
      rw [hd] at hG
      generalize (s.data.toList[k]'(by rw [len_data]; exact hks)) = c at *
      have hc := c.toNat_lt
      have hdl := dv_lt c
      simp only [gat] at hG
      have htwo : ∃ b, digitV c = .tuple #[.int .i64 (dv c : Int), .bool b] := by
        unfold digitV dv
        cases valR c with
        | none => exact ⟨_, rfl⟩
        | some n => exact ⟨_, rfl⟩
      obtain ⟨bb, h2⟩ := htwo
      have H2 := Lib.hid h2
      clear h2 hd HG
      generalize dv c = v at *
      by_cases hgt : (4611686018427387904 - v) / 16 < m
      · have HV := Lib.hid (show gatV 16 s.data.toList = .tuple #[.int .i64 0, .bool false] by unfold gatV; rw [hG, if_pos hgt])
        have d2 : decide ((4611686018427387904 - (v : Int)) / 16 < (m : Int)) = true := by rw [decide_eq_true_iff]; omega
        clear hG hgt
        go_wp2_with fail
        refine (digit_any c _).mono ?_
        rintro e w' ⟨rfl, rfl⟩
        rw [H2.out]
        go_wp2_with fail
        go_ret2
        exact ⟨by rw [HV.out]; rfl, HX2.out⟩
      · have hmb : m * 16 + v ≤ 4611686018427387904 := by omega
        have HG2 : Hid (gat 16 0 s.data.toList = gat 16 (m * 16 + v) (s.data.toList.drop (k + 1))) := by
          show _ = _
          rw [hG, if_neg hgt]
        have d2 : decide ((4611686018427387904 - (v : Int)) / 16 < (m : Int)) = false := by rw [decide_eq_false_iff_not]; omega
        clear hG hgt
        go_wp2_with fail
        refine (digit_any c _).mono ?_
        rintro e w' ⟨rfl, rfl⟩
        rw [H2.out]
        go_wp2_with fail
        go_roundw
        case rel => exact ⟨k + 1, by omega, by go_num, m * 16 + v, by go_num, hmb, HG2, trivial⟩
        case measure => simp [intOf]; omega
    · have d1 : decide ((k : Int) < (s.size : Int)) = false := by rw [decide_eq_false_iff_not]; omega
      have hd : s.data.toList.drop k = [] := List.drop_of_length_le (by rw [len_data]; omega)
      have HV := Lib.hid (show gatV 16 s.data.toList = .tuple #[.int .i64 (m : Int), .bool true] by unfold gatV; rw [HG.out, hd]; rfl)
      clear hd HG
      go_wp2_with fail
      go_ret2
      exact ⟨by rw [HV.out]; rfl, HX2.out⟩
def bndV16 (most : Int) (l : List UInt8) : Value := match gat 16 0 l with
  | some n => if most < (n : Int) then .tuple #[.int .i64 0, .int .i64 14] else .tuple #[.int .i64 (n : Int), .int .i64 0]
  | none => .tuple #[.int .i64 0, .int .i64 14]
set_option maxHeartbeats 2000000 in
theorem bounded16 (s : ByteArray) (most : Int) (w : World) (hs : s.size ≤ 274877906944) : Calls Tryd.prog 21 #[.string s, .int .i64 16, .int .i64 most] w fun e w' => e = .returned (bndV16 most s.data.toList) ∧ Reg.Ext w w' := by
  go_enter Tryd.func21, Tryd.ntmps21
  go_wp2_with fail
  refine (gather16 s w hs).mono ?_
  rintro e w1 ⟨rfl, x1⟩
  have X1 := Lib.hid x1
  clear x1
  cases hg : gat 16 0 s.data.toList with
  | none =>
    have hv : gatV 16 s.data.toList = .tuple #[.int .i64 0, .bool false] := by unfold gatV; rw [hg]
    have HV := Lib.hid (show bndV16 most s.data.toList = .tuple #[.int .i64 0, .int .i64 14] by unfold bndV16; rw [hg])
    rw [hv]
    clear hg hv
    go_wp2_with fail
    go_ret2
    exact ⟨by rw [HV.out]; rfl, X1.out⟩
  | some n =>
    have hv : gatV 16 s.data.toList = .tuple #[.int .i64 (n : Int), .bool true] := by unfold gatV; rw [hg]
    rw [hv]
    by_cases hm : most < (n : Int)
    · have d1 : decide (most < (n : Int)) = true := decide_eq_true hm
      have HV := Lib.hid (show bndV16 most s.data.toList = .tuple #[.int .i64 0, .int .i64 14] by unfold bndV16; rw [hg]; simp only; rw [if_pos hm])
      clear hg hv hm
      go_wp2_with fail
      go_ret2
      exact ⟨by rw [HV.out]; rfl, X1.out⟩
    · have d1 : decide (most < (n : Int)) = false := decide_eq_false hm
      have HV := Lib.hid (show bndV16 most s.data.toList = .tuple #[.int .i64 (n : Int), .int .i64 0] by unfold bndV16; rw [hg]; simp only; rw [if_neg hm])
      clear hg hv hm
      go_wp2_with fail
      go_ret2
      exact ⟨by rw [HV.out]; rfl, X1.out⟩
end Hex
end Go.Proofs.YthnkllnfdnbckaaDoor
