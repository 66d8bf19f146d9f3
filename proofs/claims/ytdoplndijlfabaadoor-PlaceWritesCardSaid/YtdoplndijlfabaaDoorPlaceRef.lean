/- Chapter 15, the reference: low, Last. -/
import Derived.Test.YtdoplndijlfabaaDoorPlaceLaws
set_option linter.unusedSimpArgs false
set_option linter.unusedVariables false
set_option linter.unusedSectionVars false
namespace Go.Proofs.YtdoplndijlfabaaDoor
open Go.RowKit
namespace Pl
theorem low_dec (c : UInt8) : low c = ((decide ((97 : Int) ≤ (c.toNat : Int)) && decide ((c.toNat : Int) ≤ 122)) || (decide ((48 : Int) ≤ (c.toNat : Int)) && decide ((c.toNat : Int) ≤ 57))) := by
  unfold low
  have h1 : decide ((97 : Int) ≤ (c.toNat : Int)) = decide (97 ≤ c.toNat) := decide_eq_decide.2 (by omega)
  have h2 : decide ((c.toNat : Int) ≤ 122) = decide (c.toNat ≤ 122) := decide_eq_decide.2 (by omega)
  have h3 : decide ((48 : Int) ≤ (c.toNat : Int)) = decide (48 ≤ c.toNat) := decide_eq_decide.2 (by omega)
  have h4 : decide ((c.toNat : Int) ≤ 57) = decide (c.toNat ≤ 57) := decide_eq_decide.2 (by omega)
  rw [h1, h2, h3, h4]
set_option maxHeartbeats 2000000 in
theorem low_any (c : UInt8) (w : World) : Calls Tryd.prog 28 #[.int .u8 (c.toNat : Int)] w fun e w' => e = .returned (.bool (low c)) ∧ w = w' := by
  have hc := c.toNat_lt
  have hl := low_dec c
  go_enter Tryd.func28, Tryd.ntmps28
  cases d1 : decide ((97 : Int) ≤ (c.toNat : Int)) with
  | true =>
    cases d2 : decide ((c.toNat : Int) ≤ 122) with
    | true =>
      rw [d1, d2] at hl
      have HV := Lib.hid hl
      clear hl
      go_wp2_with fail
      go_ret
      exact ⟨by rw [HV.out]; rfl, rfl⟩
    | false =>
      have d3 : decide ((48 : Int) ≤ (c.toNat : Int)) = true := by rw [decide_eq_true_iff] at d1 ⊢; omega
      have d4 : decide ((c.toNat : Int) ≤ 57) = false := by rw [decide_eq_true_iff] at d1; rw [decide_eq_false_iff_not]; omega
      rw [d1, d2, d3, d4] at hl
      have HV := Lib.hid hl
      clear hl
      go_wp2_with fail
      go_ret
      exact ⟨by rw [HV.out]; rfl, rfl⟩
  | false =>
    cases d3 : decide ((48 : Int) ≤ (c.toNat : Int)) with
    | true =>
      cases d4 : decide ((c.toNat : Int) ≤ 57) with
      | true =>
        rw [d1, d3, d4, Bool.false_and] at hl
        have HV := Lib.hid hl
        clear hl
        go_wp2_with fail
        go_ret
        exact ⟨by rw [HV.out]; rfl, rfl⟩
      | false =>
        rw [d1, d3, d4, Bool.false_and] at hl
        have HV := Lib.hid hl
        clear hl
        go_wp2_with fail
        go_ret
        exact ⟨by rw [HV.out]; rfl, rfl⟩
    | false =>
      rw [d1, d3, Bool.false_and, Bool.false_and] at hl
      have HV := Lib.hid hl
      clear hl
      go_wp2_with fail
      go_ret
      exact ⟨by rw [HV.out]; rfl, rfl⟩
/-- the place of the last slash -/
def lastZ (l : List UInt8) : Int := match cutL l with
  | some p => (p.1.length : Int)
  | none => -1
set_option maxHeartbeats 2000000 in
theorem last_any (s : ByteArray) (w : World) (hs : s.size ≤ 274877906944) :
    Calls Tryd.prog 22 #[.string s] w fun e w' => e = .returned (.int .i64 (lastZ s.data.toList)) ∧ w = w' := by
  go_enter Tryd.func22, Tryd.ntmps22
  go_wp2_with fail
  go_loopw [3] (fun i wr => ∃ k : Nat, k ≤ s.size ∧ i = .int .i64 ((k : Int) - 1) ∧ Hid (47 ∉ s.data.toList.drop k) ∧ w = wr) (fun i _ => (intOf i + 1).toNat)
  case atStart => exact ⟨s.size, Nat.le_refl _, rfl, Lib.hid (by rw [List.drop_of_length_le (by rw [len_data]; exact Nat.le_refl _)]; exact List.not_mem_nil), rfl⟩
  case round =>
    obtain ⟨k, hk, rfl, HN, rfl⟩ := hrel
    cases k with
    | zero =>
      have HV := Lib.hid (show lastZ s.data.toList = -1 by unfold lastZ; rw [cutL_none.2 (by have := HN.out; rwa [List.drop_zero] at this)])
      simp only [Int.ofNat_zero, Int.cast_ofNat_Int, Int.natCast_zero, Int.zero_sub]
      go_wp2_with fail
      go_ret
      exact ⟨by rw [HV.out]; rfl, rfl⟩
    | succ j =>
      have hj : j < s.size := by omega
      have e : ((j + 1 : Nat) : Int) - 1 = (j : Int) := by omega
      rw [e]
      have d0 : decide ((0 : Int) ≤ (j : Int)) = true := by rw [decide_eq_true_iff]; omega
      have hd : s.data.toList.drop j = s[j] :: s.data.toList.drop (j + 1) := List.drop_eq_getElem_cons (by rw [len_data]; exact hj)
      by_cases hc : s[j] = 47
      · have hcut : cutL s.data.toList = some (s.data.toList.take j, s.data.toList.drop (j + 1)) := cutL_some.2 ⟨by rw [← hc, ← hd, List.take_append_drop], HN.out⟩
        have HV := Lib.hid (show lastZ s.data.toList = (j : Int) by unfold lastZ; rw [hcut]; simp only; rw [List.length_take, len_data, Nat.min_eq_left (by omega)])
        have d1 : ((s[j].toNat : Int) == 47) = true := by rw [hc]; rfl
        clear hd hcut hc e
        go_wp2_with fail
        go_ret
        exact ⟨by rw [HV.out]; rfl, rfl⟩
      · have HN2 : Hid (47 ∉ s.data.toList.drop j) := by
          show _
          rw [hd, List.mem_cons, not_or]
          exact ⟨fun h => hc h.symm, HN.out⟩
        have d1 : ((s[j].toNat : Int) == 47) = false := by
          rw [beq_eq_false_iff_ne]; intro h; exact hc (UInt8.toNat_inj.1 (by show s[j].toNat = 47; omega))
        clear hd hc e HN
        go_wp2_with fail
        go_roundw
        case rel => exact ⟨j, by omega, by go_num, HN2, trivial⟩
        case measure => simp [intOf]
end Pl
end Go.Proofs.YtdoplndijlfabaaDoor
