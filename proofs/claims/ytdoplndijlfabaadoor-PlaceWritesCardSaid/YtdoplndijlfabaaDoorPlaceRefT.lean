/- Chapter 15, the reference: IsTag. -/
import Derived.Test.YtdoplndijlfabaaDoorPlaceRef
set_option linter.unusedSimpArgs false
set_option linter.unusedVariables false
set_option linter.unusedSectionVars false
namespace Go.Proofs.YtdoplndijlfabaaDoor
open Go.RowKit
namespace Pl
def okC (first : Bool) (c : UInt8) : Bool := low c || (decide ((65 : Int) ≤ (c.toNat : Int)) && decide ((c.toNat : Int) ≤ 90)) || !((c.toNat : Int) != 95) || (!first && (!((c.toNat : Int) != 46) || !((c.toNat : Int) != 45)))
theorem okC_late (c : UInt8) : okC false c = tagc c := by
  have := all256 (fun c => okC false c == tagc c) (by decide +kernel) c
  simpa using this
theorem okC_first (c : UInt8) : okC true c = ((c != 46) && (c != 45) && tagc c) := by
  have := all256 (fun c => okC true c == ((c != 46) && (c != 45) && tagc c)) (by decide +kernel) c
  simpa using this
/-- the document's tag -/
def tagAll (l : List UInt8) : Prop := ∀ (k : Nat) (h : k < l.length), okC (decide (k = 0)) l[k] = true
theorem tag_iff (l : List UInt8) : tagP l = true ↔ tagAll l ∧ 1 ≤ l.length ∧ l.length ≤ 128 := by
  cases l with
  | nil => simp [tagP]
  | cons c l =>
    unfold tagP tagAll
    simp only [Bool.and_eq_true, decide_eq_true_iff, List.all_eq_true]
    constructor
    · rintro ⟨⟨⟨h1, h2⟩, h3⟩, h4⟩
      refine ⟨fun k hk => ?_, by simp, h1⟩
      cases k with
      | zero =>
        rw [show decide (0 = 0) = true from rfl, okC_first, List.getElem_cons_zero, h2, h3, h4 c (by simp)]; rfl
      | succ k =>
        rw [decide_eq_false (by omega), okC_late]
        exact h4 _ (List.getElem_mem _)
    · rintro ⟨h1, _, h3⟩
      have h0 := h1 0 (by simp)
      rw [show decide (0 = 0) = true from rfl, okC_first, List.getElem_cons_zero, Bool.and_eq_true, Bool.and_eq_true] at h0
      refine ⟨⟨⟨h3, h0.1.1⟩, h0.1.2⟩, fun x hx => ?_⟩
      rcases List.mem_cons.1 hx with rfl | hx
      · exact h0.2
      · obtain ⟨i, hi, rfl⟩ := List.mem_iff_getElem.1 hx
        have := h1 (i + 1) (by simp; omega)
        rw [decide_eq_false (by omega), okC_late, List.getElem_cons_succ] at this
        exact this
set_option maxHeartbeats 4000000 in
theorem tagR_any (s : ByteArray) (w : World) (hs : s.size ≤ 274877906944) :
    Calls Tryd.prog 14 #[.string s] w fun e w' => e = .returned (.bool (tagP s.data.toList)) ∧ w = w' := by
  have HT := Lib.hid (tag_iff s.data.toList)
  go_enter Tryd.func14, Tryd.ntmps14
  go_wp2_with fail
  go_loopw [3] (fun i wr => ∃ k : Nat, k ≤ s.size ∧ i = .int .i64 k ∧ Hid (∀ (j : Nat) (h : j < s.data.toList.length), j < k → okC (decide (j = 0)) s.data.toList[j] = true) ∧ w = wr) (fun i _ => s.size - (intOf i).toNat)
  case atStart => exact ⟨0, Nat.zero_le _, rfl, Lib.hid (fun j _ hj => by omega), rfl⟩
  case round =>
    obtain ⟨k, hk, rfl, HK, rfl⟩ := hrel
    by_cases hks : k < s.size
    · have d0 : decide ((k : Int) < (s.size : Int)) = true := by rw [decide_eq_true_iff]; omega
      have hkl : k < s.data.toList.length := by rw [len_data]; exact hks
      have e : s.data.toList[k]'hkl = s[k] := rfl
      have HBAD : Hid (okC (decide (k = 0)) s[k] = false → tagP s.data.toList = false) := fun h => by
        cases ht : tagP s.data.toList with
        | false => rfl
        | true =>
          have := ((HT.out).1 ht).1 k hkl
          rw [e, h] at this; cases this
      have HGO : Hid (okC (decide (k = 0)) s[k] = true → ∀ (j : Nat) (h : j < s.data.toList.length), j < k + 1 → okC (decide (j = 0)) s.data.toList[j] = true) := fun h j hj hjk => by
        by_cases hjk2 : j < k
        · exact HK.out j hj hjk2
        · have : j = k := by omega
          subst this
          exact h
      have hk0 : ((k : Int) == 0) = decide (k = 0) := by rw [Bool.eq_iff_iff, beq_iff_eq, decide_eq_true_iff]; omega
      have HL := Lib.hid (low_any s[k])
      unfold okC at HBAD HGO
      clear e HT
      go_wp2_with fail
      refine (HL.out w).mono ?_
      rintro e w' ⟨rfl, rfl⟩
      clear HL HK
      cases hlw : low s[k] with
      | true =>
        have HK2 := Lib.hid (HGO.out (by rw [hlw]; rfl))
        clear HBAD HGO
        go_wp2_with fail
        go_roundw
        case rel => exact ⟨k + 1, by omega, by go_num, HK2, trivial⟩
        case measure => simp [intOf]; omega
      | false =>
        cases d65 : decide ((65 : Int) ≤ (s[k].toNat : Int)) with
        | true =>
          cases d90 : decide ((s[k].toNat : Int) ≤ 90) with
          | true =>
            have HK2 := Lib.hid (HGO.out (by rw [hlw, d65, d90]; rfl))
            clear HBAD HGO
            go_wp2_with fail
            go_roundw
            case rel => exact ⟨k + 1, by omega, by go_num, HK2, trivial⟩
            case measure => simp [intOf]; omega
          | false =>
            cases d95 : ((s[k].toNat : Int) != 95) with
            | false =>
              have HK2 := Lib.hid (HGO.out (by rw [hlw, d65, d90, d95]; rfl))
              clear HBAD HGO
              go_wp2_with fail
              go_roundw
              case rel => exact ⟨k + 1, by omega, by go_num, HK2, trivial⟩
              case measure => simp [intOf]; omega
            | true =>
              cases hz : decide (k = 0) with
              | true =>
                rw [hz] at hk0
                have HV := Lib.hid (HBAD.out (by rw [hlw, d65, d90, d95, hz]; rfl))
                clear HBAD HGO
                go_wp2_with fail
                go_ret
                exact ⟨by rw [HV.out]; rfl, rfl⟩
              | false =>
                rw [hz] at hk0
                cases d46 : ((s[k].toNat : Int) != 46) with
                | false =>
                  have HK2 := Lib.hid (HGO.out (by rw [hlw, d65, d90, d95, hz, d46]; rfl))
                  clear HBAD HGO
                  go_wp2_with fail
                  go_roundw
                  case rel => exact ⟨k + 1, by omega, by go_num, HK2, trivial⟩
                  case measure => simp [intOf]; omega
                | true =>
                  cases d45 : ((s[k].toNat : Int) != 45) with
                  | false =>
                    have HK2 := Lib.hid (HGO.out (by rw [hlw, d65, d90, d95, hz, d46, d45]; rfl))
                    clear HBAD HGO
                    go_wp2_with fail
                    go_roundw
                    case rel => exact ⟨k + 1, by omega, by go_num, HK2, trivial⟩
                    case measure => simp [intOf]; omega
                  | true =>
                    have HV := Lib.hid (HBAD.out (by rw [hlw, d65, d90, d95, hz, d46, d45]; rfl))
                    clear HBAD HGO
                    go_wp2_with fail
                    go_ret
                    exact ⟨by rw [HV.out]; rfl, rfl⟩
        | false =>
          cases d95 : ((s[k].toNat : Int) != 95) with
          | false =>
            have HK2 := Lib.hid (HGO.out (by rw [hlw, d65, d95]; rfl))
            clear HBAD HGO
            go_wp2_with fail
            go_roundw
            case rel => exact ⟨k + 1, by omega, by go_num, HK2, trivial⟩
            case measure => simp [intOf]; omega
          | true =>
            cases hz : decide (k = 0) with
            | true =>
              rw [hz] at hk0
              have HV := Lib.hid (HBAD.out (by rw [hlw, d65, d95, hz]; rfl))
              clear HBAD HGO
              go_wp2_with fail
              go_ret
              exact ⟨by rw [HV.out]; rfl, rfl⟩
            | false =>
              rw [hz] at hk0
              cases d46 : ((s[k].toNat : Int) != 46) with
              | false =>
                have HK2 := Lib.hid (HGO.out (by rw [hlw, d65, d95, hz, d46]; rfl))
                clear HBAD HGO
                go_wp2_with fail
                go_roundw
                case rel => exact ⟨k + 1, by omega, by go_num, HK2, trivial⟩
                case measure => simp [intOf]; omega
              | true =>
                cases d45 : ((s[k].toNat : Int) != 45) with
                | false =>
                  have HK2 := Lib.hid (HGO.out (by rw [hlw, d65, d95, hz, d46, d45]; rfl))
                  clear HBAD HGO
                  go_wp2_with fail
                  go_roundw
                  case rel => exact ⟨k + 1, by omega, by go_num, HK2, trivial⟩
                  case measure => simp [intOf]; omega
                | true =>
                  have HV := Lib.hid (HBAD.out (by rw [hlw, d65, d95, hz, d46, d45]; rfl))
                  clear HBAD HGO
                  go_wp2_with fail
                  go_ret
                  exact ⟨by rw [HV.out]; rfl, rfl⟩
    · have d0 : decide ((k : Int) < (s.size : Int)) = false := by rw [decide_eq_false_iff_not]; omega
      have hall : tagAll s.data.toList := fun j hj => HK.out j hj (by rw [len_data] at hj; omega)
      have hv : tagP s.data.toList = (decide ((1 : Int) ≤ (s.size : Int)) && decide ((s.size : Int) ≤ 128)) := by
        rw [Bool.eq_iff_iff, HT.out, Bool.and_eq_true, decide_eq_true_iff, decide_eq_true_iff, len_data]
        constructor
        · rintro ⟨_, h1, h2⟩; omega
        · rintro ⟨h1, h2⟩; exact ⟨hall, by omega, by omega⟩
      clear HT HK hall
      cases d1 : decide ((1 : Int) ≤ (s.size : Int)) with
      | true =>
        have HV := Lib.hid (show tagP s.data.toList = decide ((s.size : Int) ≤ 128) by rw [hv, d1]; rfl)
        clear hv
        go_wp2_with fail
        go_ret
        exact ⟨by rw [HV.out]; rfl, rfl⟩
      | false =>
        have HV := Lib.hid (show tagP s.data.toList = false by rw [hv, d1]; rfl)
        clear hv
        go_wp2_with fail
        go_ret
        exact ⟨by rw [HV.out]; rfl, rfl⟩
end Pl
end Go.Proofs.YtdoplndijlfabaaDoor
