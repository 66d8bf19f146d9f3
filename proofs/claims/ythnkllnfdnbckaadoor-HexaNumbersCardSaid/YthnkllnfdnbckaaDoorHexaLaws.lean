/- The walks of the laws awake, HexaBytes, HexaBack. -/
import Derived.Test.YthnkllnfdnbckaaDoorHexaDec
set_option linter.unusedSimpArgs false
set_option linter.unusedVariables false
set_option linter.unusedSectionVars false
namespace Go.Proofs.YthnkllnfdnbckaaDoor
open Go.RowKit
namespace Hex
open HexP
theorem gPow : Tryd.prog.globalNamed "internal/strconv.uint64pow10" = some 0 := by kernel_rfl
theorem Tab10.ext {w w' : World} (h : Tab10 w) (hx : Reg.Ext w w') : Tab10 w' := by
  have hlt : 0 < w.heap.size := World.block_lt_of_cell? w _ (Lib.TabIs.cell h gPow 0 (by rw [Lib.pow10Tab_length]; omega))
  unfold Tab10 Lib.TabIs at *
  rw [← h]
  simp only [World.var?, gPow, Option.bind_some, hx.block _ hlt]
theorem itoa_min : Lib.itoa (-9223372036854775808) = [45, 57, 50, 50, 51, 51, 55, 50, 48, 51, 54, 56, 53, 52, 55, 55, 53, 56, 48, 56] := by
  simp [Lib.itoa, Lib.decDigits]
theorem und1 : undecV 9 [48, 48, 55] = .tuple #[.int .i64 0, .int .i64 3] := by
  have h : isDecL [48, 48, 55] = false := by decide
  unfold undecV; rw [h]; rfl
theorem und2 : undecV 9 [49, 48] = .tuple #[.int .i64 0, .int .i64 14] := by
  have h : isDecL [49, 48] = true := by decide
  have hg : gat 10 0 [49, 48] = some 10 := by decide
  unfold undecV; rw [h]
  simp only [if_true]
  unfold bndV10; rw [hg]; rfl
theorem unn1 : unnumV 300 [48, 48, 102, 70] = .tuple #[.int .i64 255, .int .i64 0] := by
  have h : numOk [48, 48, 102, 70] = true := by decide
  have hg : gat 16 0 [48, 48, 102, 70] = some 255 := by decide
  unfold unnumV; rw [h]
  simp only [if_true]
  unfold bndV16; rw [hg]; rfl
set_option maxHeartbeats 2000000 in
theorem awake_any (w : World) (ht : Tab10 w) : Calls Tryd.prog 7 #[] w fun e w' => e = .returned (.bool true) ∧ Reg.Ext w w' := by
  have HT := Lib.hid ht
  clear ht
  have HH := Lib.hid (show hex [10, 255] = [48, 97, 102, 102] by decide)
  have HI := Lib.hid itoa_min
  go_enter Tryd.func7, Tryd.ntmps7
  go_wp2_with fail
  refine (undec_any ⟨#[48, 48, 55]⟩ 9 w (by decide)).mono ?_
  rintro e w1 ⟨rfl, x1⟩
  rw [show (⟨#[48, 48, 55]⟩ : ByteArray).data.toList = [48, 48, 55] from rfl, und1]
  have X1 := Lib.hid x1
  clear x1
  go_wp2_with fail
  refine (undec_any ⟨#[49, 48]⟩ 9 w1 (by decide)).mono ?_
  rintro e w2 ⟨rfl, x2⟩
  rw [show (⟨#[49, 48]⟩ : ByteArray).data.toList = [49, 48] from rfl, und2]
  have X2 := Lib.hid (X1.out.trans x2)
  clear x2
  go_wp2_with fail
  refine (unnum_any ⟨#[48, 48, 102, 70]⟩ 300 w2 (by decide)).mono ?_
  rintro e w3 ⟨rfl, x3⟩
  rw [show (⟨#[48, 48, 102, 70]⟩ : ByteArray).data.toList = [48, 48, 102, 70] from rfl, unn1]
  have X3 := Lib.hid (X2.out.trans x3)
  clear x3
  go_wp2_with fail
  refine (hex_any ⟨#[10, 255]⟩ w3 (by decide)).mono ?_
  rintro e w4 ⟨rfl, x4⟩
  rw [show (⟨#[10, 255]⟩ : ByteArray).data.toList = [10, 255] from rfl, HH.out]
  have X4 := Lib.hid (X3.out.trans x4)
  clear x4
  go_wp2_with fail
  refine (dec_any (-9223372036854775808) w4 (by omega) (by omega) (HT.out.ext X4.out)).mono ?_
  rintro e w5 ⟨rfl, x5⟩
  rw [HI.out]
  have X5 := Lib.hid (X4.out.trans x5)
  clear x5
  go_wp2_with fail
  go_ret
  exact ⟨rfl, X5.out⟩
theorem unhexV_two (l : List UInt8) : ∃ (a : ByteArray) (b : Int), unhexV l = .tuple #[.string a, .int .i64 b] := by
  unfold unhexV
  split
  · exact ⟨_, _, rfl⟩
  · exact ⟨_, _, rfl⟩
set_option maxHeartbeats 2000000 in
theorem bytes_law (s : ByteArray) (w : World) (hsm : s.size ≤ maxLen) (ht : Tab10 w) :
    Calls Tryd.prog 5 #[.string s] w fun e w' => e = .returned (.bool true) ∧ Reg.Ext w w' := by
  unfold maxLen at hsm
  have HT := Lib.hid ht
  clear ht
  go_enter Tryd.func5, Tryd.ntmps5
  go_wp2_with fail
  refine (awake_any w HT.out).mono ?_
  rintro e w1 ⟨rfl, x1⟩
  have X1 := Lib.hid x1
  clear x1
  by_cases hs : s.size ≤ 4096
  · have d1 : decide ((4096 : Int) < (s.size : Int)) = false := by rw [decide_eq_false_iff_not]; omega
    obtain ⟨a, b, hab⟩ := unhexV_two s.data.toList
    have HAB := Lib.hid hab
    clear hab
    go_wp2_with fail
    refine (unhex_any s w1 (by omega)).mono ?_
    rintro e w2 ⟨rfl, x2⟩
    rw [HAB.out]
    have X2 := Lib.hid (X1.out.trans x2)
    clear x2
    go_wp2_with fail
    refine (unhexR_any s w2 (by omega)).mono ?_
    rintro e w3 ⟨rfl, x3⟩
    rw [HAB.out]
    have X3 := Lib.hid (X2.out.trans x3)
    clear x3
    go_wp2_with fail
    refine (hex_any s w3 (by omega)).mono ?_
    rintro e w4 ⟨rfl, x4⟩
    have X4 := Lib.hid (X3.out.trans x4)
    clear x4
    go_wp2_with fail
    refine (hexR_any s w4 (by omega)).mono ?_
    rintro e w5 ⟨rfl, x5⟩
    have X5 := Lib.hid (X4.out.trans x5)
    clear x5
    go_wp2_with fail
    go_ret
    exact ⟨rfl, X5.out⟩
  · have d1 : decide ((4096 : Int) < (s.size : Int)) = true := by rw [decide_eq_true_iff]; omega
    go_wp2_with fail
    go_ret
    exact ⟨rfl, X1.out⟩
set_option maxHeartbeats 2000000 in
theorem back_law (s : ByteArray) (w : World) (hsm : s.size ≤ maxLen) (ht : Tab10 w) :
    Calls Tryd.prog 6 #[.string s] w fun e w' => e = .returned (.bool true) ∧ Reg.Ext w w' := by
  unfold maxLen at hsm
  have HT := Lib.hid ht
  clear ht
  go_enter Tryd.func6, Tryd.ntmps6
  go_wp2_with fail
  refine (awake_any w HT.out).mono ?_
  rintro e w1 ⟨rfl, x1⟩
  have X1 := Lib.hid x1
  clear x1
  by_cases hs : s.size ≤ 4096
  · have d1 : decide ((4096 : Int) < (s.size : Int)) = false := by rw [decide_eq_false_iff_not]; omega
    obtain ⟨H, hH⟩ : ∃ H : ByteArray, H = ⟨(hex s.data.toList).toArray⟩ := ⟨_, rfl⟩
    have hHl : H.data.toList = hex s.data.toList := by rw [hH]
    have hHs : H.size = 2 * s.size := by rw [← len_data, hHl, hex_length, len_data]
    have hUH : unhexV H.data.toList = .tuple #[.string s, .int .i64 0] := by
      unfold unhexV
      rw [hHl, unhex_hex]
    have HH := Lib.hid hH
    have HUH := Lib.hid hUH
    have HAB := Lib.hid (show unhexV [65, 66] = .tuple #[.string ⟨#[]⟩, .int .i64 3] by
      have : unhex [65, 66] = none := by decide
      unfold unhexV; rw [this])
    clear hH hHl hUH
    cases hu : unhex s.data.toList with
    | none =>
      have HU := Lib.hid (show unhexV s.data.toList = .tuple #[.string ⟨#[]⟩, .int .i64 3] by unfold unhexV; rw [hu])
      clear hu
      go_wp2_with fail
      refine (hex_any s w1 (by omega)).mono ?_
      rintro e w2 ⟨rfl, x2⟩
      rw [← HH.out]
      have X2 := Lib.hid (X1.out.trans x2)
      clear x2
      go_wp2_with fail
      refine (unhex_any H w2 (by omega)).mono ?_
      rintro e w3 ⟨rfl, x3⟩
      rw [HUH.out]
      have X3 := Lib.hid (X2.out.trans x3)
      clear x3
      go_wp2_with fail
      refine (unhex_any s w3 (by omega)).mono ?_
      rintro e w4 ⟨rfl, x4⟩
      rw [HU.out]
      have X4 := Lib.hid (X3.out.trans x4)
      clear x4
      go_wp2_with fail
      refine (unhex_any ⟨#[65, 66]⟩ w4 (by decide)).mono ?_
      rintro e w5 ⟨rfl, x5⟩
      rw [show (⟨#[65, 66]⟩ : ByteArray).data.toList = [65, 66] from rfl, HAB.out]
      have X5 := Lib.hid (X4.out.trans x5)
      clear x5
      go_wp2_with fail
      refine (hex_any s w5 (by omega)).mono ?_
      rintro e w6 ⟨rfl, x6⟩
      rw [← HH.out]
      have X6 := Lib.hid (X5.out.trans x6)
      clear x6
      go_wp2_with fail
      go_ret
      exact ⟨rfl, X6.out⟩
    | some m =>
      have hm := hex_unhex hu
      have hml := unhex_length hu
      rw [len_data] at hml
      obtain ⟨M, hM⟩ : ∃ M : ByteArray, M = ⟨m.toArray⟩ := ⟨_, rfl⟩
      have hMl : M.data.toList = m := by rw [hM]
      have hMs : M.size ≤ 4096 := by rw [← len_data, hMl]; omega
      have HU := Lib.hid (show unhexV s.data.toList = .tuple #[.string M, .int .i64 0] by unfold unhexV; rw [hu, hM])
      have HMH := Lib.hid (show (⟨(hex M.data.toList).toArray⟩ : ByteArray) = s by (rw [hMl, hm] <;> exact ba_data s))
      clear hu hm hml hM hMl
      go_wp2_with fail
      refine (hex_any s w1 (by omega)).mono ?_
      rintro e w2 ⟨rfl, x2⟩
      rw [← HH.out]
      have X2 := Lib.hid (X1.out.trans x2)
      clear x2
      go_wp2_with fail
      refine (unhex_any H w2 (by omega)).mono ?_
      rintro e w3 ⟨rfl, x3⟩
      rw [HUH.out]
      have X3 := Lib.hid (X2.out.trans x3)
      clear x3
      go_wp2_with fail
      refine (unhex_any s w3 (by omega)).mono ?_
      rintro e w4 ⟨rfl, x4⟩
      rw [HU.out]
      have X4 := Lib.hid (X3.out.trans x4)
      clear x4
      go_wp2_with fail
      refine (unhex_any ⟨#[65, 66]⟩ w4 (by decide)).mono ?_
      rintro e w5 ⟨rfl, x5⟩
      rw [show (⟨#[65, 66]⟩ : ByteArray).data.toList = [65, 66] from rfl, HAB.out]
      have X5 := Lib.hid (X4.out.trans x5)
      clear x5
      go_wp2_with fail
      refine (hex_any s w5 (by omega)).mono ?_
      rintro e w6 ⟨rfl, x6⟩
      rw [← HH.out]
      have X6 := Lib.hid (X5.out.trans x6)
      clear x6
      go_wp2_with fail
      refine (hex_any M w6 (by omega)).mono ?_
      rintro e w7 ⟨rfl, x7⟩
      rw [HMH.out]
      have X7 := Lib.hid (X6.out.trans x7)
      clear x7
      go_wp2_with fail
      go_ret
      exact ⟨rfl, X7.out⟩
  · have d1 : decide ((4096 : Int) < (s.size : Int)) = true := by rw [decide_eq_true_iff]; omega
    go_wp2_with fail
    go_ret
    exact ⟨rfl, X1.out⟩
end Hex
end Go.Proofs.YthnkllnfdnbckaaDoor
