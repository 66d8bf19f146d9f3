/- The document's Dec, Hexnum. -/
import Derived.Test.YthnkllnfdnbckaaDoorHexaCount
set_option linter.unusedSimpArgs false
set_option linter.unusedVariables false
set_option linter.unusedSectionVars false
namespace Go.Proofs.YthnkllnfdnbckaaDoor
open Go.RowKit
namespace Hex
open HexP
def hd0 (n : Nat) : List UInt8 := if n = 0 then [] else hexDigits n
def dd0 (n : Nat) : List UInt8 := if n = 0 then [] else Lib.decDigits n
theorem hd0_step (n : Nat) (h : 0 < n) : hd0 n = hd0 (n / 16) ++ [dig (n % 16)] := by
  unfold hd0
  rw [if_neg (by omega)]
  by_cases h16 : n < 16
  · rw [if_pos (by omega), hexDigits_small h16, Nat.mod_eq_of_lt h16]; rfl
  · rw [if_neg (by omega), hexDigits_big h16]
theorem hd_first (n : Nat) : hexDigits n = hd0 (n / 16) ++ [dig (n % 16)] := by
  by_cases h0 : n = 0
  · subst h0; rw [hexDigits_small (by omega)]; rfl
  · rw [← hd0_step n (by omega)]; unfold hd0; rw [if_neg h0]
theorem dig_dec (n : Nat) (h : n < 10) : UInt8.ofNat (48 + n) = dig n := by
  have : ∀ k : Fin 10, UInt8.ofNat (48 + k.val) = dig k.val := by decide
  exact this ⟨n, h⟩
theorem dd0_step (n : Nat) (h : 0 < n) : dd0 n = dd0 (n / 10) ++ [dig (n % 10)] := by
  unfold dd0
  rw [if_neg (by omega), ← dig_dec (n % 10) (by omega)]
  by_cases h16 : n < 10
  · rw [if_pos (by omega), dec_small h16, Nat.mod_eq_of_lt h16]; rfl
  · rw [if_neg (by omega), dec_big h16]
theorem dd_first (n : Nat) : Lib.decDigits n = dd0 (n / 10) ++ [dig (n % 10)] := by
  by_cases h0 : n = 0
  · subst h0; rw [dec_small (by omega)]; rfl
  · rw [← dd0_step n (by omega)]; unfold dd0; rw [if_neg h0]
theorem slice_dig (n : Nat) (m : Int) (h : n < 16) (hm : m = (n : Int)) : ∀ W, (Instr.sliceAt 9 (.string ⟨#[48, 49, 50, 51, 52, 53, 54, 55, 56, 57, 97, 98, 99, 100, 101, 102]⟩) (some (.int .i64 m)) (some (.int .i64 (m + 1))) none).run Tryd.prog W = .ok (.string ⟨#[dig n]⟩) W := by
  intro W
  subst hm
  rcases (by omega : n = 0 ∨ n = 1 ∨ n = 2 ∨ n = 3 ∨ n = 4 ∨ n = 5 ∨ n = 6 ∨ n = 7 ∨ n = 8 ∨ n = 9 ∨ n = 10 ∨ n = 11 ∨ n = 12 ∨ n = 13 ∨ n = 14 ∨ n = 15) with
    rfl | rfl | rfl | rfl | rfl | rfl | rfl | rfl | rfl | rfl | rfl | rfl | rfl | rfl | rfl | rfl <;> as_aux_lemma => kernel_rfl
theorem app_list (a b : ByteArray) : (a ++ b).data.toList = a.data.toList ++ b.data.toList := by simp
theorem hexLen100 (u : Nat) (h : u < 9223372036854775808) : (hexDigits u).length ≤ 100 := by
  have := hex_len 15 u (by simp; omega)
  omega
theorem decLen100 (u : Nat) (h : u < 9223372036854775808) : (Lib.decDigits u).length ≤ 100 := by
  have : ∀ k a, a < 10 ^ (k + 1) → (Lib.decDigits a).length ≤ k + 1 := by
    intro k
    induction k with
    | zero => intro a h; rw [dec_small (by simpa using h)]; simp
    | succ k ih =>
      intro a h
      by_cases h10 : a < 10
      · rw [dec_small h10]; simp
      · rw [Nat.pow_succ] at h
        have := ih (a / 10) (Nat.div_lt_of_lt_mul (by omega))
        rw [dec_big h10, List.length_append, List.length_singleton]; omega
  have := this 19 u (by simp; omega)
  omega
set_option maxHeartbeats 2000000 in
theorem hexnumR_any (n : Int) (w : World) (h0 : -9223372036854775808 ≤ n) (h1 : n ≤ 9223372036854775807) : Calls Tryd.prog 15 #[.int .i64 n] w fun e w' => e = .returned (.string ⟨(hexDigits n.toNat).toArray⟩) ∧ Reg.Ext w w' := by
  obtain ⟨u, hu, hmx⟩ : ∃ u : Nat, n.toNat = u ∧ max n 0 = (u : Int) := ⟨n.toNat, rfl, by omega⟩
  have hub : u < 9223372036854775808 := by omega
  rw [hu]
  have hs := slice_dig (u % 16) ((u : Int) % 16) (by omega) (by omega)
  go_enter Tryd.func15, Tryd.ntmps15
  go_wp2_with fail
  clear hmx hu h0 h1
  go_loopw [0, 3] (fun a b wr => ∃ (v : Nat) (s : ByteArray), a = .int .i64 (v : Int) ∧ v < 9223372036854775808 ∧ b = .string s ∧ Hid (hexDigits u = hd0 v ++ s.data.toList) ∧ w = wr) (fun a _ _ => (intOf a).toNat)
  case atStart => exact ⟨u / 16, ⟨#[dig (u % 16)]⟩, by go_num, by omega, rfl, hd_first u, rfl⟩
  case round =>
    obtain ⟨v, s, rfl, hv, rfl, HS, rfl⟩ := hrel
    clear hs
    by_cases hv0 : 0 < v
    · have hsz : s.size ≤ 100 := by
        have h1 := hexLen100 u (by omega)
        rw [HS.out, List.length_append, len_data] at h1
        omega
      have hs := slice_dig (v % 16) ((v : Int) % 16) (by omega) (by omega)
      have HS2 : Hid (hexDigits u = hd0 (v / 16) ++ (⟨#[dig (v % 16)]⟩ ++ s : ByteArray).data.toList) := by
        show _ = _
        rw [HS.out, hd0_step v hv0, app_list]; simp
      go_wp2_with fail
      exact ⟨⟨v / 16, _, by go_num, by omega, rfl, HS2, trivial⟩, by simp [intOf]; omega⟩
    · have hv1 : v = 0 := by omega
      subst hv1
      have HV := Lib.hid (show hexDigits u = s.data.toList by rw [HS.out]; rfl)
      go_wp2_with fail
      go_ret
      exact ⟨by rw [HV.out, ba_data]; rfl, Reg.Ext.refl _⟩
set_option maxHeartbeats 2000000 in
theorem decRN (u : Nat) (w : World) (hub : u < 9223372036854775808) : Calls Tryd.prog 13 #[.int .i64 (u : Int)] w fun e w' => e = .returned (.string ⟨(Lib.decDigits u).toArray⟩) ∧ Reg.Ext w w' := by
  have hs := slice_dig (u % 10) ((u : Int) % 10) (by omega) (by omega)
  have d1 : ((u : Int) == -9223372036854775808) = false := by rw [beq_eq_false_iff_ne]; omega
  have d2 : decide ((u : Int) < 0) = false := by rw [decide_eq_false_iff_not]; omega
  go_enter Tryd.func13, Tryd.ntmps13
  go_wp2_with fail
  go_loopw [0, 3] (fun a b wr => ∃ (v : Nat) (s : ByteArray), a = .int .i64 (v : Int) ∧ v < 9223372036854775808 ∧ b = .string s ∧ Hid (Lib.decDigits u = dd0 v ++ s.data.toList) ∧ w = wr) (fun a _ _ => (intOf a).toNat)
  case atStart => exact ⟨u / 10, ⟨#[dig (u % 10)]⟩, by go_num, by omega, rfl, dd_first u, rfl⟩
  case round =>
    obtain ⟨v, s, rfl, hv, rfl, HS, rfl⟩ := hrel
    clear hs
    by_cases hv0 : 0 < v
    · have hsz : s.size ≤ 100 := by
        have h1 := decLen100 u (by omega)
        rw [HS.out, List.length_append, len_data] at h1
        omega
      have hs := slice_dig (v % 10) ((v : Int) % 10) (by omega) (by omega)
      have HS2 : Hid (Lib.decDigits u = dd0 (v / 10) ++ (⟨#[dig (v % 10)]⟩ ++ s : ByteArray).data.toList) := by
        show _ = _
        rw [HS.out, dd0_step v hv0, app_list]; simp
      go_wp2_with fail
      exact ⟨⟨v / 10, _, by go_num, by omega, rfl, HS2, trivial⟩, by simp [intOf]; omega⟩
    · have hv1 : v = 0 := by omega
      subst hv1
      have HV := Lib.hid (show Lib.decDigits u = s.data.toList by rw [HS.out]; rfl)
      go_wp2_with fail
      go_ret
      exact ⟨by rw [HV.out, ba_data]; rfl, Reg.Ext.refl _⟩
set_option maxHeartbeats 2000000 in
theorem decR_any (n : Int) (w : World) (h0 : -9223372036854775808 ≤ n) (h1 : n ≤ 9223372036854775807) : Calls Tryd.prog 13 #[.int .i64 n] w fun e w' => e = .returned (.string ⟨(Lib.itoa n).toArray⟩) ∧ Reg.Ext w w' := by
  by_cases hn : n < 0
  · by_cases hm : n = -9223372036854775808
    · subst hm
      have HV := Lib.hid itoa_min
      go_enter Tryd.func13, Tryd.ntmps13
      go_wp2_with fail
      go_ret
      exact ⟨by rw [HV.out]; rfl, Reg.Ext.refl _⟩
    · obtain ⟨u, rfl, hu1, hu⟩ : ∃ u : Nat, n = -(u : Int) ∧ 1 ≤ u ∧ u < 9223372036854775808 := ⟨n.natAbs, by omega, by omega, by omega⟩
      have HV := Lib.hid (Lib.itoa_neg u hu1)
      have d1 : (-(u : Int) == -9223372036854775808) = false := by rw [beq_eq_false_iff_ne]; omega
      have d2 : decide (-(u : Int) < 0) = true := by rw [decide_eq_true_iff]; omega
      go_enter Tryd.func13, Tryd.ntmps13
      go_wp2_with fail
      refine (decRN u w hu).mono ?_
      rintro e w1 ⟨rfl, x1⟩
      have X1 := Lib.hid x1
      clear x1
      have hsz := decLen100 u hu
      obtain ⟨D, hD⟩ : ∃ D : ByteArray, D = ⟨(Lib.decDigits u).toArray⟩ := ⟨_, rfl⟩
      rw [← hD]
      have hDl : D.data.toList = Lib.decDigits u := by rw [hD]
      rw [← hDl] at HV
      rw [← hDl, len_data] at hsz
      clear hD hDl
      go_wp2_with fail
      go_ret
      exact ⟨by rw [HV.out]; exact ret_str (ba_ext (by simp)), X1.out⟩
  · obtain ⟨u, rfl, hu⟩ : ∃ u : Nat, n = (u : Int) ∧ u < 9223372036854775808 := ⟨n.toNat, by omega, by omega⟩
    rw [Lib.itoa_nonneg]
    exact decRN u w hu
end Hex
end Go.Proofs.YthnkllnfdnbckaaDoor
