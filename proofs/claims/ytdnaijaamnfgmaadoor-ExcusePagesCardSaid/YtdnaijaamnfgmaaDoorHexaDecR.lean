/- The document's Dec. -/
import Derived.Test.YtdnaijaamnfgmaaDoorHexaDecP
set_option linter.unusedSimpArgs false
set_option linter.unusedVariables false
set_option linter.unusedSectionVars false
namespace Go.Proofs.YtdnaijaamnfgmaaDoor
open Go.RowKit
namespace Hex
open HexP
theorem slice_dig (n : Nat) (m : Int) (h : n < 16) (hm : m = (n : Int)) : ∀ W, (Instr.sliceAt 9 (.string ⟨#[48, 49, 50, 51, 52, 53, 54, 55, 56, 57, 97, 98, 99, 100, 101, 102]⟩) (some (.int .i64 m)) (some (.int .i64 (m + 1))) none).run Tryd.prog W = .ok (.string ⟨#[dig n]⟩) W := by
  intro W
  subst hm
  rcases (by omega : n = 0 ∨ n = 1 ∨ n = 2 ∨ n = 3 ∨ n = 4 ∨ n = 5 ∨ n = 6 ∨ n = 7 ∨ n = 8 ∨ n = 9 ∨ n = 10 ∨ n = 11 ∨ n = 12 ∨ n = 13 ∨ n = 14 ∨ n = 15) with
    rfl | rfl | rfl | rfl | rfl | rfl | rfl | rfl | rfl | rfl | rfl | rfl | rfl | rfl | rfl | rfl <;> as_aux_lemma => kernel_rfl
theorem app_list (a b : ByteArray) : (a ++ b).data.toList = a.data.toList ++ b.data.toList := by simp
set_option maxHeartbeats 2000000 in
theorem decRN (u : Nat) (w : World) (hub : u < 9223372036854775808) : Calls Tryd.prog 25 #[.int .i64 (u : Int)] w fun e w' => e = .returned (.string ⟨(Lib.decDigits u).toArray⟩) ∧ Reg.Ext w w' := by
  have hs := slice_dig (u % 10) ((u : Int) % 10) (by omega) (by omega)
  have d1 : ((u : Int) == -9223372036854775808) = false := by rw [beq_eq_false_iff_ne]; omega
  have d2 : decide ((u : Int) < 0) = false := by rw [decide_eq_false_iff_not]; omega
  go_enter Tryd.func25, Tryd.ntmps25
  go_wp2_with fail
  go_loopw [0, 3] (fun a b wr => ∃ (v : Nat) (s : ByteArray), a = .int .i64 (v : Int) ∧ v < 9223372036854775808 ∧ b = .string s ∧ Hid (Lib.decDigits u = dd0 v ++ s.data.toList) ∧ w = wr) (fun a _ _ => (intOf a).toNat)
  case atStart => exact ⟨u / 10, ⟨#[dig (u % 10)]⟩, by go_num, by omega, rfl, dd_first u, rfl⟩
  case round =>
    obtain ⟨v, s, rfl, hv, rfl, HS, rfl⟩ := hrel
    clear hs
    by_cases hv0 : 0 < v
    · have hsz : s.size ≤ 100 := by
        have h1 := decLen100 u (by omega)
        rw [HS.out, List.length_append, len_data] at h1
        omega
      have hs := slice_dig (v % 10) ((v : Int) % 10) (by omega) (by omega)
      have HS2 : Hid (Lib.decDigits u = dd0 (v / 10) ++ (⟨#[dig (v % 10)]⟩ ++ s : ByteArray).data.toList) := by
        show _ = _
        rw [HS.out, dd0_step v hv0, app_list]; simp
      go_wp2_with fail
      exact ⟨⟨v / 10, _, by go_num, by omega, rfl, HS2, trivial⟩, by simp [intOf]; omega⟩
    · have hv1 : v = 0 := by omega
      subst hv1
      have HV := Lib.hid (show Lib.decDigits u = s.data.toList by rw [HS.out]; rfl)
      go_wp2_with fail
      go_ret
      exact ⟨by rw [HV.out, ba_data]; rfl, Reg.Ext.refl _⟩
set_option maxHeartbeats 2000000 in
theorem decR_any (n : Int) (w : World) (h0 : -9223372036854775808 ≤ n) (h1 : n ≤ 9223372036854775807) : Calls Tryd.prog 25 #[.int .i64 n] w fun e w' => e = .returned (.string ⟨(Lib.itoa n).toArray⟩) ∧ Reg.Ext w w' := by
  by_cases hn : n < 0
  · by_cases hm : n = -9223372036854775808
    · subst hm
      have HV := Lib.hid itoa_min
      go_enter Tryd.func25, Tryd.ntmps25
      go_wp2_with fail
      go_ret
      exact ⟨by rw [HV.out]; rfl, Reg.Ext.refl _⟩
    · obtain ⟨u, rfl, hu1, hu⟩ : ∃ u : Nat, n = -(u : Int) ∧ 1 ≤ u ∧ u < 9223372036854775808 := ⟨n.natAbs, by omega, by omega, by omega⟩
      have HV := Lib.hid (Lib.itoa_neg u hu1)
      have d1 : (-(u : Int) == -9223372036854775808) = false := by rw [beq_eq_false_iff_ne]; omega
      have d2 : decide (-(u : Int) < 0) = true := by rw [decide_eq_true_iff]; omega
      go_enter Tryd.func25, Tryd.ntmps25
      go_wp2_with fail
      refine (decRN u w hu).mono ?_
      rintro e w1 ⟨rfl, x1⟩
      have X1 := Lib.hid x1
      clear x1
      have hsz := decLen100 u hu
      obtain ⟨D, hD⟩ : ∃ D : ByteArray, D = ⟨(Lib.decDigits u).toArray⟩ := ⟨_, rfl⟩
      rw [← hD]
      have hDl : D.data.toList = Lib.decDigits u := by rw [hD]
      rw [← hDl] at HV
      rw [← hDl, len_data] at hsz
      clear hD hDl
      go_wp2_with fail
      go_ret
      exact ⟨by rw [HV.out]; exact ret_str (ba_ext (by simp)), X1.out⟩
  · obtain ⟨u, rfl, hu⟩ : ∃ u : Nat, n = (u : Int) ∧ u < 9223372036854775808 := ⟨n.toNat, by omega, by omega⟩
    rw [Lib.itoa_nonneg]
    exact decRN u w hu
end Hex
end Go.Proofs.YtdnaijaamnfgmaaDoor
