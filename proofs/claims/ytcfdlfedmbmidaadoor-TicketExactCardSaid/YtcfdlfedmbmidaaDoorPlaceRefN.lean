/- Chapter 15, the document's IsRepo and IsTag, where no route is reached. -/
import Derived.Test.YtcfdlfedmbmidaaDoorPlaceRepo2
import Derived.Test.YtcfdlfedmbmidaaDoorPlacePart
set_option linter.unusedSimpArgs false
set_option linter.unusedVariables false
set_option linter.unusedSectionVars false
namespace Go.Proofs.YtcfdlfedmbmidaaDoor
open Go.RowKit
namespace Pl
/-- cut at the last slash -/
def cutL : List UInt8 → Option (List UInt8 × List UInt8)
  | [] => none
  | c :: l => match cutL l with
    | some (a, b) => some (c :: a, b)
    | none => if c = 47 then some ([], l) else none
theorem cutL_none : ∀ {l : List UInt8}, cutL l = none ↔ 47 ∉ l
  | [] => by simp [cutL]
  | c :: l => by
    unfold cutL
    cases h : cutL l with
    | some p =>
      have : ¬ (47 ∉ l) := fun hn => by rw [cutL_none.2 hn] at h; cases h
      simp only [List.mem_cons, reduceCtorEq, false_iff]
      intro hn
      exact this fun hm => hn (.inr hm)
    | none =>
      have := cutL_none.1 h
      by_cases hc : c = 47
      · subst hc; simp
      · simp only [hc, if_false, List.mem_cons, true_iff]
        rintro (h | h)
        · exact hc h.symm
        · exact this h
theorem cutL_some : ∀ {l a b : List UInt8}, cutL l = some (a, b) ↔ l = a ++ 47 :: b ∧ 47 ∉ b
  | [], a, b => by simp [cutL]
  | c :: l, a, b => by
    unfold cutL
    cases h : cutL l with
    | some p =>
      obtain ⟨x, y⟩ := p
      obtain ⟨e, hn⟩ := cutL_some.1 h
      simp only [Option.some.injEq, Prod.mk.injEq]
      constructor
      · rintro ⟨rfl, rfl⟩
        exact ⟨by rw [e]; rfl, hn⟩
      · rintro ⟨e2, hn2⟩
        cases a with
        | nil =>
          exfalso
          rw [List.nil_append] at e2
          injection e2 with _ e2
          apply hn2
          rw [← e2, e]; simp
        | cons d a =>
          rw [List.cons_append] at e2
          injection e2 with e3 e2
          subst e3
          have := cutL_some.2 ⟨e2, hn2⟩
          rw [h] at this
          injection this with this
          injection this with e4 e5
          subst e4 e5
          exact ⟨rfl, rfl⟩
    | none =>
      have hm := cutL_none.1 h
      by_cases hc : c = 47
      · subst hc
        simp only [if_true, Option.some.injEq, Prod.mk.injEq]
        constructor
        · rintro ⟨rfl, rfl⟩; exact ⟨rfl, hm⟩
        · rintro ⟨e2, hn2⟩
          cases a with
          | nil =>
            rw [List.nil_append] at e2
            injection e2 with _ e2
            exact ⟨rfl, e2⟩
          | cons d a =>
            rw [List.cons_append] at e2
            injection e2 with e3 e2
            exact absurd (by rw [e2]; simp) hm
      · simp only [hc, if_false, reduceCtorEq, false_iff]
        rintro ⟨e2, _⟩
        cases a with
        | nil => rw [List.nil_append] at e2; injection e2 with e3 _; exact hc e3
        | cons d a =>
          rw [List.cons_append] at e2
          injection e2 with e3 e2
          exact absurd (by rw [e2]; simp) hm
theorem splitP_cat : ∀ (a b : List UInt8), splitP (a ++ 47 :: b) = splitP a ++ splitP b
  | [], b => by simp [splitP]
  | c :: a, b => by
    rw [List.cons_append, splitP, splitP_cat a b, splitP]
    by_cases hc : c = 47
    · rw [if_pos hc, if_pos hc]; rfl
    · rw [if_neg hc, if_neg hc]
      cases h : splitP a with
      | nil => exact absurd h (splitP_ne a)
      | cons p ps => rfl
theorem low_dec (c : UInt8) : low c = ((decide ((97 : Int) ≤ (c.toNat : Int)) && decide ((c.toNat : Int) ≤ 122)) || (decide ((48 : Int) ≤ (c.toNat : Int)) && decide ((c.toNat : Int) ≤ 57))) := by
  unfold low
  have h1 : decide ((97 : Int) ≤ (c.toNat : Int)) = decide (97 ≤ c.toNat) := decide_eq_decide.2 (by omega)
  have h2 : decide ((c.toNat : Int) ≤ 122) = decide (c.toNat ≤ 122) := decide_eq_decide.2 (by omega)
  have h3 : decide ((48 : Int) ≤ (c.toNat : Int)) = decide (48 ≤ c.toNat) := decide_eq_decide.2 (by omega)
  have h4 : decide ((c.toNat : Int) ≤ 57) = decide (c.toNat ≤ 57) := decide_eq_decide.2 (by omega)
  rw [h1, h2, h3, h4]
set_option maxHeartbeats 2000000 in
theorem low_any (c : UInt8) (w : World) : Calls Tryd.prog 43 #[.int .u8 (c.toNat : Int)] w fun e w' => e = .returned (.bool (low c)) ∧ w = w' := by
  have hc := c.toNat_lt
  have hl := low_dec c
  go_enter Tryd.func43, Tryd.ntmps43
  cases d1 : decide ((97 : Int) ≤ (c.toNat : Int)) with
  | true =>
    cases d2 : decide ((c.toNat : Int) ≤ 122) with
    | true =>
      rw [d1, d2] at hl
      have HV := Lib.hid hl
      clear hl
      go_wp2_with fail
      go_ret
      exact ⟨by rw [HV.out]; rfl, rfl⟩
    | false =>
      have d3 : decide ((48 : Int) ≤ (c.toNat : Int)) = true := by rw [decide_eq_true_iff] at d1 ⊢; omega
      have d4 : decide ((c.toNat : Int) ≤ 57) = false := by rw [decide_eq_true_iff] at d1; rw [decide_eq_false_iff_not]; omega
      rw [d1, d2, d3, d4] at hl
      have HV := Lib.hid hl
      clear hl
      go_wp2_with fail
      go_ret
      exact ⟨by rw [HV.out]; rfl, rfl⟩
  | false =>
    cases d3 : decide ((48 : Int) ≤ (c.toNat : Int)) with
    | true =>
      cases d4 : decide ((c.toNat : Int) ≤ 57) with
      | true =>
        rw [d1, d3, d4, Bool.false_and] at hl
        have HV := Lib.hid hl
        clear hl
        go_wp2_with fail
        go_ret
        exact ⟨by rw [HV.out]; rfl, rfl⟩
      | false =>
        rw [d1, d3, d4, Bool.false_and] at hl
        have HV := Lib.hid hl
        clear hl
        go_wp2_with fail
        go_ret
        exact ⟨by rw [HV.out]; rfl, rfl⟩
    | false =>
      rw [d1, d3, Bool.false_and, Bool.false_and] at hl
      have HV := Lib.hid hl
      clear hl
      go_wp2_with fail
      go_ret
      exact ⟨by rw [HV.out]; rfl, rfl⟩
/-- the place of the last slash -/
def lastZ (l : List UInt8) : Int := match cutL l with
  | some p => (p.1.length : Int)
  | none => -1
set_option maxHeartbeats 2000000 in
theorem last_any (s : ByteArray) (w : World) (hs : s.size ≤ 9223372036854775807) :
    Calls Tryd.prog 41 #[.string s] w fun e w' => e = .returned (.int .i64 (lastZ s.data.toList)) ∧ w = w' := by
  go_enter Tryd.func41, Tryd.ntmps41
  go_wp2_with fail
  go_loopw [3] (fun i wr => ∃ k : Nat, k ≤ s.size ∧ i = .int .i64 ((k : Int) - 1) ∧ Hid (47 ∉ s.data.toList.drop k) ∧ w = wr) (fun i _ => (intOf i + 1).toNat)
  case atStart => exact ⟨s.size, Nat.le_refl _, rfl, Lib.hid (by rw [List.drop_of_length_le (by rw [len_data]; exact Nat.le_refl _)]; exact List.not_mem_nil), rfl⟩
  case round =>
    obtain ⟨k, hk, rfl, HN, rfl⟩ := hrel
    cases k with
    | zero =>
      have HV := Lib.hid (show lastZ s.data.toList = -1 by unfold lastZ; rw [cutL_none.2 (by have := HN.out; rwa [List.drop_zero] at this)])
      simp only [Int.ofNat_zero, Int.cast_ofNat_Int, Int.natCast_zero, Int.zero_sub]
      go_wp2_with fail
      go_ret
      exact ⟨by rw [HV.out]; rfl, rfl⟩
    | succ j =>
      have hj : j < s.size := by omega
      have e : ((j + 1 : Nat) : Int) - 1 = (j : Int) := by omega
      rw [e]
      have d0 : decide ((0 : Int) ≤ (j : Int)) = true := by rw [decide_eq_true_iff]; omega
      have hd : s.data.toList.drop j = s[j] :: s.data.toList.drop (j + 1) := List.drop_eq_getElem_cons (by rw [len_data]; exact hj)
      by_cases hc : s[j] = 47
      · have hcut : cutL s.data.toList = some (s.data.toList.take j, s.data.toList.drop (j + 1)) := cutL_some.2 ⟨by rw [← hc, ← hd, List.take_append_drop], HN.out⟩
        have HV := Lib.hid (show lastZ s.data.toList = (j : Int) by unfold lastZ; rw [hcut]; simp only; rw [List.length_take, len_data, Nat.min_eq_left (by omega)])
        have d1 : ((s[j].toNat : Int) == 47) = true := by rw [hc]; rfl
        clear hd hcut hc e
        go_wp2_with fail
        go_ret
        exact ⟨by rw [HV.out]; rfl, rfl⟩
      · have HN2 : Hid (47 ∉ s.data.toList.drop j) := by
          show _
          rw [hd, List.mem_cons, not_or]
          exact ⟨fun h => hc h.symm, HN.out⟩
        have d1 : ((s[j].toNat : Int) == 47) = false := by
          rw [beq_eq_false_iff_ne]; intro h; exact hc (UInt8.toNat_inj.1 (by show s[j].toNat = 47; omega))
        clear hd hc e HN
        go_wp2_with fail
        go_roundw
        case rel => exact ⟨j, by omega, by go_num, HN2, trivial⟩
        case measure => simp [intOf]
def okC (first : Bool) (c : UInt8) : Bool := low c || (decide ((65 : Int) ≤ (c.toNat : Int)) && decide ((c.toNat : Int) ≤ 90)) || !((c.toNat : Int) != 95) || (!first && (!((c.toNat : Int) != 46) || !((c.toNat : Int) != 45)))
theorem okC_late (c : UInt8) : okC false c = tagc c := by
  have := all256 (fun c => okC false c == tagc c) (by decide +kernel) c
  simpa using this
theorem okC_first (c : UInt8) : okC true c = ((c != 46) && (c != 45) && tagc c) := by
  have := all256 (fun c => okC true c == ((c != 46) && (c != 45) && tagc c)) (by decide +kernel) c
  simpa using this
/-- the document's tag -/
def tagAll (l : List UInt8) : Prop := ∀ (k : Nat) (h : k < l.length), okC (decide (k = 0)) l[k] = true
theorem tag_iff (l : List UInt8) : tagP l = true ↔ tagAll l ∧ 1 ≤ l.length ∧ l.length ≤ 128 := by
  cases l with
  | nil => simp [tagP]
  | cons c l =>
    unfold tagP tagAll
    simp only [Bool.and_eq_true, decide_eq_true_iff, List.all_eq_true]
    constructor
    · rintro ⟨⟨⟨h1, h2⟩, h3⟩, h4⟩
      refine ⟨fun k hk => ?_, by simp, h1⟩
      cases k with
      | zero =>
        rw [show decide (0 = 0) = true from rfl, okC_first, List.getElem_cons_zero, h2, h3, h4 c (by simp)]; rfl
      | succ k =>
        rw [decide_eq_false (by omega), okC_late]
        exact h4 _ (List.getElem_mem _)
    · rintro ⟨h1, _, h3⟩
      have h0 := h1 0 (by simp)
      rw [show decide (0 = 0) = true from rfl, okC_first, List.getElem_cons_zero, Bool.and_eq_true, Bool.and_eq_true] at h0
      refine ⟨⟨⟨h3, h0.1.1⟩, h0.1.2⟩, fun x hx => ?_⟩
      rcases List.mem_cons.1 hx with rfl | hx
      · exact h0.2
      · obtain ⟨i, hi, rfl⟩ := List.mem_iff_getElem.1 hx
        have := h1 (i + 1) (by simp; omega)
        rw [decide_eq_false (by omega), okC_late, List.getElem_cons_succ] at this
        exact this
set_option maxHeartbeats 4000000 in
theorem tagR_any (s : ByteArray) (w : World) (hs : s.size ≤ 9223372036854775807) :
    Calls Tryd.prog 28 #[.string s] w fun e w' => e = .returned (.bool (tagP s.data.toList)) ∧ w = w' := by
  have HT := Lib.hid (tag_iff s.data.toList)
  go_enter Tryd.func28, Tryd.ntmps28
  go_wp2_with fail
  go_loopw [3] (fun i wr => ∃ k : Nat, k ≤ s.size ∧ i = .int .i64 k ∧ Hid (∀ (j : Nat) (h : j < s.data.toList.length), j < k → okC (decide (j = 0)) s.data.toList[j] = true) ∧ w = wr) (fun i _ => s.size - (intOf i).toNat)
  case atStart => exact ⟨0, Nat.zero_le _, rfl, Lib.hid (fun j _ hj => by omega), rfl⟩
  case round =>
    obtain ⟨k, hk, rfl, HK, rfl⟩ := hrel
    by_cases hks : k < s.size
    · have d0 : decide ((k : Int) < (s.size : Int)) = true := by rw [decide_eq_true_iff]; omega
      have hkl : k < s.data.toList.length := by rw [len_data]; exact hks
      have e : s.data.toList[k]'hkl = s[k] := rfl
      have HBAD : Hid (okC (decide (k = 0)) s[k] = false → tagP s.data.toList = false) := fun h => by
        cases ht : tagP s.data.toList with
        | false => rfl
        | true =>
          have := ((HT.out).1 ht).1 k hkl
          rw [e, h] at this; cases this
      have HGO : Hid (okC (decide (k = 0)) s[k] = true → ∀ (j : Nat) (h : j < s.data.toList.length), j < k + 1 → okC (decide (j = 0)) s.data.toList[j] = true) := fun h j hj hjk => by
        by_cases hjk2 : j < k
        · exact HK.out j hj hjk2
        · have : j = k := by omega
          subst this
          exact h
      have hk0 : ((k : Int) == 0) = decide (k = 0) := by rw [Bool.eq_iff_iff, beq_iff_eq, decide_eq_true_iff]; omega
      have HL := Lib.hid (low_any s[k])
      unfold okC at HBAD HGO
      clear e HT
      go_wp2_with fail
      refine (HL.out w).mono ?_
      rintro e w' ⟨rfl, rfl⟩
      clear HL HK
      cases hlw : low s[k] with
      | true =>
        have HK2 := Lib.hid (HGO.out (by rw [hlw]; rfl))
        clear HBAD HGO
        go_wp2_with fail
        go_roundw
        case rel => exact ⟨k + 1, by omega, by go_num, HK2, trivial⟩
        case measure => simp [intOf]; omega
      | false =>
        cases d65 : decide ((65 : Int) ≤ (s[k].toNat : Int)) with
        | true =>
          cases d90 : decide ((s[k].toNat : Int) ≤ 90) with
          | true =>
            have HK2 := Lib.hid (HGO.out (by rw [hlw, d65, d90]; rfl))
            clear HBAD HGO
            go_wp2_with fail
            go_roundw
            case rel => exact ⟨k + 1, by omega, by go_num, HK2, trivial⟩
            case measure => simp [intOf]; omega
          | false =>
            cases d95 : ((s[k].toNat : Int) != 95) with
            | false =>
              have HK2 := Lib.hid (HGO.out (by rw [hlw, d65, d90, d95]; rfl))
              clear HBAD HGO
              go_wp2_with fail
              go_roundw
              case rel => exact ⟨k + 1, by omega, by go_num, HK2, trivial⟩
              case measure => simp [intOf]; omega
            | true =>
              cases hz : decide (k = 0) with
              | true =>
                rw [hz] at hk0
                have HV := Lib.hid (HBAD.out (by rw [hlw, d65, d90, d95, hz]; rfl))
                clear HBAD HGO
                go_wp2_with fail
                go_ret
                exact ⟨by rw [HV.out]; rfl, rfl⟩
              | false =>
                rw [hz] at hk0
                cases d46 : ((s[k].toNat : Int) != 46) with
                | false =>
                  have HK2 := Lib.hid (HGO.out (by rw [hlw, d65, d90, d95, hz, d46]; rfl))
                  clear HBAD HGO
                  go_wp2_with fail
                  go_roundw
                  case rel => exact ⟨k + 1, by omega, by go_num, HK2, trivial⟩
                  case measure => simp [intOf]; omega
                | true =>
                  cases d45 : ((s[k].toNat : Int) != 45) with
                  | false =>
                    have HK2 := Lib.hid (HGO.out (by rw [hlw, d65, d90, d95, hz, d46, d45]; rfl))
                    clear HBAD HGO
                    go_wp2_with fail
                    go_roundw
                    case rel => exact ⟨k + 1, by omega, by go_num, HK2, trivial⟩
                    case measure => simp [intOf]; omega
                  | true =>
                    have HV := Lib.hid (HBAD.out (by rw [hlw, d65, d90, d95, hz, d46, d45]; rfl))
                    clear HBAD HGO
                    go_wp2_with fail
                    go_ret
                    exact ⟨by rw [HV.out]; rfl, rfl⟩
        | false =>
          cases d95 : ((s[k].toNat : Int) != 95) with
          | false =>
            have HK2 := Lib.hid (HGO.out (by rw [hlw, d65, d95]; rfl))
            clear HBAD HGO
            go_wp2_with fail
            go_roundw
            case rel => exact ⟨k + 1, by omega, by go_num, HK2, trivial⟩
            case measure => simp [intOf]; omega
          | true =>
            cases hz : decide (k = 0) with
            | true =>
              rw [hz] at hk0
              have HV := Lib.hid (HBAD.out (by rw [hlw, d65, d95, hz]; rfl))
              clear HBAD HGO
              go_wp2_with fail
              go_ret
              exact ⟨by rw [HV.out]; rfl, rfl⟩
            | false =>
              rw [hz] at hk0
              cases d46 : ((s[k].toNat : Int) != 46) with
              | false =>
                have HK2 := Lib.hid (HGO.out (by rw [hlw, d65, d95, hz, d46]; rfl))
                clear HBAD HGO
                go_wp2_with fail
                go_roundw
                case rel => exact ⟨k + 1, by omega, by go_num, HK2, trivial⟩
                case measure => simp [intOf]; omega
              | true =>
                cases d45 : ((s[k].toNat : Int) != 45) with
                | false =>
                  have HK2 := Lib.hid (HGO.out (by rw [hlw, d65, d95, hz, d46, d45]; rfl))
                  clear HBAD HGO
                  go_wp2_with fail
                  go_roundw
                  case rel => exact ⟨k + 1, by omega, by go_num, HK2, trivial⟩
                  case measure => simp [intOf]; omega
                | true =>
                  have HV := Lib.hid (HBAD.out (by rw [hlw, d65, d95, hz, d46, d45]; rfl))
                  clear HBAD HGO
                  go_wp2_with fail
                  go_ret
                  exact ⟨by rw [HV.out]; rfl, rfl⟩
    · have d0 : decide ((k : Int) < (s.size : Int)) = false := by rw [decide_eq_false_iff_not]; omega
      have hall : tagAll s.data.toList := fun j hj => HK.out j hj (by rw [len_data] at hj; omega)
      have hv : tagP s.data.toList = (decide ((1 : Int) ≤ (s.size : Int)) && decide ((s.size : Int) ≤ 128)) := by
        rw [Bool.eq_iff_iff, HT.out, Bool.and_eq_true, decide_eq_true_iff, decide_eq_true_iff, len_data]
        constructor
        · rintro ⟨_, h1, h2⟩; omega
        · rintro ⟨h1, h2⟩; exact ⟨hall, by omega, by omega⟩
      clear HT HK hall
      cases d1 : decide ((1 : Int) ≤ (s.size : Int)) with
      | true =>
        have HV := Lib.hid (show tagP s.data.toList = decide ((s.size : Int) ≤ 128) by rw [hv, d1]; rfl)
        clear hv
        go_wp2_with fail
        go_ret
        exact ⟨by rw [HV.out]; rfl, rfl⟩
      | false =>
        have HV := Lib.hid (show tagP s.data.toList = false by rw [hv, d1]; rfl)
        clear hv
        go_wp2_with fail
        go_ret
        exact ⟨by rw [HV.out]; rfl, rfl⟩
theorem bq (c n : UInt8) : ((c.toNat : Int) == (n.toNat : Int)) = (c == n) := by
  rw [Bool.eq_iff_iff, beq_iff_eq, beq_iff_eq]
  exact ⟨fun h => UInt8.toNat_inj.1 (by omega), fun h => by rw [h]⟩
theorem partP_rs (l : List UInt8) : partP l = if (l.dropWhile low).length = l.length then false else match l.dropWhile low with
    | [] => true
    | c :: r => if okSep c (runR c (c :: r)) = true then partP ((c :: r).drop (runR c (c :: r))) else false := by
  rw [← partRF_eq (l.length + 1) l (by omega)]
  conv => lhs; unfold partRF
  by_cases hl : (l.dropWhile low).length = l.length
  · rw [if_pos hl, if_pos hl]
  · rw [if_neg hl, if_neg hl]
    have hle := drop_le low l
    cases hr : l.dropWhile low with
    | nil => rfl
    | cons c r =>
      rw [hr] at hle hl
      simp only
      have hn1 : 1 ≤ runR c (c :: r) := by unfold runR; rw [List.takeWhile_cons]; simp
      rw [partRF_eq _ _ (by rw [List.length_drop]; simp only [List.length_cons] at *; omega)]
set_option maxRecDepth 100000 in
set_option maxHeartbeats 4000000 in
theorem partR_any (s : ByteArray) (w : World) (hs : s.size ≤ 9223372036854775807) :
    Calls Tryd.prog 42 #[.string s] w fun e w' => e = .returned (.bool (partP s.data.toList)) ∧ Reg.Ext w w' := by
  go_enter Tryd.func42, Tryd.ntmps42
  go_wp2_with fail
  go_loopw [3, 4, 5, 6] (fun i _ _ _ wr => ∃ k : Nat, k ≤ s.size ∧ i = .int .i64 k ∧ Hid (partP s.data.toList = partP (s.data.toList.drop k)) ∧ Hid (Reg.Ext w wr)) (fun i _ _ _ _ => s.size - (intOf i).toNat)
  case atStart => exact ⟨0, Nat.zero_le _, rfl, rfl, Reg.Ext.refl w⟩
  case round =>
    obtain ⟨k, hk, rfl, HP, HX⟩ := hrel
    go_wp2_with fail
    go_loopw [3] (fun i wz => ∃ j : Nat, k ≤ j ∧ j ≤ s.size ∧ i = .int .i64 j ∧ Hid ((s.data.toList.drop k).dropWhile low = (s.data.toList.drop j).dropWhile low) ∧ wr = wz) (fun i _ => s.size - (intOf i).toNat)
    case atStart => exact ⟨k, Nat.le_refl _, hk, rfl, rfl, rfl⟩
    case round =>
      obtain ⟨j, hkj, hj, rfl, HD, rfl⟩ := hrel
      by_cases hjs : j < s.size
      · have d0 : decide ((j : Int) < (s.size : Int)) = true := by rw [decide_eq_true_iff]; omega
        have hd : s.data.toList.drop j = s[j] :: s.data.toList.drop (j + 1) := List.drop_eq_getElem_cons (by rw [len_data]; exact hjs)
        have HL := Lib.hid (low_any s[j] wr)
        cases hlw : low s[j] with
        | true =>
          rw [hlw] at HL
          have HD2 : Hid ((s.data.toList.drop k).dropWhile low = (s.data.toList.drop (j + 1)).dropWhile low) := by
            show _ = _
            rw [HD.out, hd, List.dropWhile_cons, hlw]; rfl
          clear hlw hd HD
          go_wp2_with fail
          refine HL.out.mono ?_
          rintro e w' ⟨rfl, rfl⟩
          go_wp2_with fail
          go_roundw
          case rel => exact ⟨j + 1, by omega, by omega, by go_num, HD2, trivial⟩
          case measure => simp [intOf]; omega
        | false =>
          rw [hlw] at HL
          have HD2 : Hid ((s.data.toList.drop k).dropWhile low = s[j] :: s.data.toList.drop (j + 1)) := by
            show _ = _
            rw [HD.out, hd, List.dropWhile_cons, hlw]; rfl
          clear hd HD
          go_wp2_with fail
          refine HL.out.mono ?_
          rintro e w' ⟨rfl, rfl⟩
          clear HL
          by_cases hjk : j = k
          · have HV := Lib.hid (show partP s.data.toList = false by
              rw [HP.out, partP_rs, if_pos]
              rw [HD2.out, List.length_cons, List.length_drop, List.length_drop, len_data]; omega)
            subst hjk
            clear HP HD2
            go_wp2_with fail
            go_ret
            exact ⟨by rw [HV.out]; rfl, HX.out⟩
          have dk : ((j : Int) == (k : Int)) = false := by rw [beq_eq_false_iff_ne]; omega
          have de : ((j : Int) == (s.size : Int)) = false := by rw [beq_eq_false_iff_ne]; omega
          have hlen : ¬ ((s.data.toList.drop k).dropWhile low).length = (s.data.toList.drop k).length := by
            rw [HD2.out, List.length_cons, List.length_drop, List.length_drop, len_data]; omega
          have hp := HP.out
          rw [partP_rs (s.data.toList.drop k), if_neg hlen, HD2.out] at hp
          simp only at hp
          have hdj : s.data.toList.drop j = s[j] :: s.data.toList.drop (j + 1) := List.drop_eq_getElem_cons (by rw [len_data]; exact hjs)
          rw [← hdj] at hp
          have HP2 := Lib.hid hp
          have HLW := Lib.hid hlw
          clear hp hdj hlen HP HD2 d0 hlw
          go_wp2_with fail
          go_loopw [3] (fun i wz => ∃ m : Nat, j ≤ m ∧ m ≤ s.size ∧ i = .int .i64 m ∧ Hid (runR s[j] (s.data.toList.drop j) = m - j + runR s[j] (s.data.toList.drop m)) ∧ (j = m ∨ s[j] ≠ 47) ∧ Hid (Reg.Ext w wz)) (fun i _ => s.size - (intOf i).toNat)
          case atStart => exact ⟨j, Nat.le_refl _, hj, rfl, Lib.hid (by simp), .inl rfl, HX⟩
          case round =>
            obtain ⟨m, hjm, hm, rfl, HR, hc, HXm⟩ := hrel
            by_cases hms : m < s.size
            · have d0 : decide ((m : Int) < (s.size : Int)) = true := by rw [decide_eq_true_iff]; omega
              have hdm : s.data.toList.drop m = s[m] :: s.data.toList.drop (m + 1) := List.drop_eq_getElem_cons (by rw [len_data]; exact hms)
              by_cases hx : s[m] = s[j]
              · have dx : ((s[m].toNat : Int) == (s[j].toNat : Int)) = true := by rw [hx]; exact beq_self_eq_true _
                by_cases h47 : s[j] = 47
                · have d47 : ((s[j].toNat : Int) != 47) = false := by rw [h47]; rfl
                  have HE : Hid (partP s.data.toList = if okSep s[j] (m - j) = true then partP (s.data.toList.drop m) else false) := by
                    show _ = _
                    rw [HP2.out, h47]; rfl
                  clear hdm hx h47 HR hc HP2 HLW
                  go_wp2_with fail
                  apply Reg.wp_tab Reg.Ext (by kernel_rfl) (by kernel_rfl) Reg.Ext.refl (fun _ _ _ => Reg.Ext.trans) (Reg.Ext.drew _)
                  case' h =>
                    intro O
                    repeat (first
                      | (apply Reg.TW.move_ Reg.Ext.refl _ rfl rfl
                         · simp only [Act.put, Act.eval, List.setIfInBounds_toArray, List.set_cons_zero, List.set_cons_succ, Nat.reduceAdd, Array.getD_eq_getD_getElem?, List.getElem?_toArray, List.getElem?_cons_succ, List.getElem?_cons_zero, Option.getD_some]
                           rfl)
                      | (apply Reg.TW.assign_ Reg.Ext.refl _ rfl rfl
                         · simp only [Act.put, Act.eval, List.setIfInBounds_toArray, List.set_cons_zero, List.set_cons_succ, Nat.reduceAdd, Array.getD_eq_getD_getElem?, List.getElem?_toArray, List.getElem?_cons_succ, List.getElem?_cons_zero, Option.getD_some]
                           rfl)
                      | (apply Reg.TW.skip_ rfl
                         · simp only [Act.put, Act.eval, List.setIfInBounds_toArray, List.set_cons_zero, List.set_cons_succ, Nat.reduceAdd, Array.getD_eq_getD_getElem?, List.getElem?_toArray, List.getElem?_cons_succ, List.getElem?_cons_zero, Option.getD_some]
                           rfl)
                      | (apply Reg.TW.pure_ rfl
                         · intro w1 hw1 hf K hK
                           simp only [Act.put, List.setIfInBounds_toArray, List.set_cons_zero, List.set_cons_succ] at hK
                           have HK := Lib.hid hK
                           clear hf hK
                           skip
                           unfold Reg.One; dsimp only
                           go_wp2_with fail
                           exact HK.out _ (Reg.Ext.refl _)
                         · simp only [Act.put, Act.eval, List.setIfInBounds_toArray, List.set_cons_zero, List.set_cons_succ, Nat.reduceAdd, Array.getD_eq_getD_getElem?, List.getElem?_toArray, List.getElem?_cons_succ, List.getElem?_cons_zero, Option.getD_some]
                           rfl))
                    refine Reg.TW.nil_ ?_
                    intro wa hwa _
                    have HXA := Lib.hid (HXm.out.trans hwa)
                    clear hwa HXm
                    have hE := HE.out
                    clear HE
                    have d46 : ((s[j].toNat : Int) == 46) = (s[j] == 46) := bq s[j] 46
                    have d95 : ((s[j].toNat : Int) == 95) = (s[j] == 95) := bq s[j] 95
                    have d45 : ((s[j].toNat : Int) == 45) = (s[j] == 45) := bq s[j] 45
                    have dn1 : (((m : Int) - (j : Int)) == 1) = (m - j == 1) := by rw [Bool.eq_iff_iff, beq_iff_eq, beq_iff_eq]; omega
                    have dn2 : (((m : Int) - (j : Int)) == 2) = (m - j == 2) := by rw [Bool.eq_iff_iff, beq_iff_eq, beq_iff_eq]; omega
                    have dg1 : decide ((1 : Int) ≤ ((m : Int) - (j : Int))) = decide (1 ≤ m - j) := decide_eq_decide.2 (by omega)
                    unfold okSep at hE
                    cases c46 : s[j] == 46 with
                    | true =>
                      have c95 : (s[j] == 95) = false := by rw [show s[j] = 46 by simpa using c46]; rfl
                      have c45 : (s[j] == 45) = false := by rw [show s[j] = 46 by simpa using c46]; rfl
                      rw [c46] at d46
                      rw [c95] at d95
                      rw [c45] at d45
                      rw [c46, c95, c45] at hE
                      clear c46 c95 c45
                      cases n1 : m - j == 1 with
                      | true =>
                        rw [n1] at dn1 hE
                        clear n1
                        have HG := Lib.hid hE
                        clear hE
                        go_wp2_with fail
                        exact ⟨⟨m, hm, rfl, HG, HXA⟩, by simp only [intOf]; omega⟩
                      | false =>
                        rw [n1] at dn1 hE
                        clear n1
                        have HG := Lib.hid hE
                        clear hE
                        go_wp2_with fail
                        go_ret
                        exact ⟨by rw [HG.out]; rfl, HXA.out⟩
                    | false =>
                      rw [c46] at d46
                      cases c95 : s[j] == 95 with
                      | true =>
                        have c45 : (s[j] == 45) = false := by rw [show s[j] = 95 by simpa using c95]; rfl
                        rw [c95] at d95
                        rw [c45] at d45
                        rw [c46, c95, c45] at hE
                        clear c46 c95 c45
                        cases n1 : m - j == 1 with
                        | true =>
                          rw [n1] at dn1 hE
                          clear n1
                          have HG := Lib.hid hE
                          clear hE
                          go_wp2_with fail
                          exact ⟨⟨m, hm, rfl, HG, HXA⟩, by simp only [intOf]; omega⟩
                        | false =>
                          cases n2 : m - j == 2 with
                          | true =>
                            rw [n1] at dn1 hE
                            rw [n2] at dn2 hE
                            clear n1 n2
                            have HG := Lib.hid hE
                            clear hE
                            go_wp2_with fail
                            exact ⟨⟨m, hm, rfl, HG, HXA⟩, by simp only [intOf]; omega⟩
                          | false =>
                            rw [n1] at dn1 hE
                            rw [n2] at dn2 hE
                            clear n1 n2
                            have HG := Lib.hid hE
                            clear hE
                            go_wp2_with fail
                            go_ret
                            exact ⟨by rw [HG.out]; rfl, HXA.out⟩
                      | false =>
                        cases c45 : s[j] == 45 with
                        | true =>
                          rw [c95] at d95
                          rw [c45] at d45
                          rw [c46, c95, c45] at hE
                          clear c46 c95 c45
                          cases g1 : decide (1 ≤ m - j) with
                          | true =>
                            rw [g1] at dg1 hE
                            clear g1
                            have HG := Lib.hid hE
                            clear hE
                            go_wp2_with fail
                            exact ⟨⟨m, hm, rfl, HG, HXA⟩, by simp only [intOf]; omega⟩
                          | false =>
                            rw [g1] at dg1 hE
                            clear g1
                            have HG := Lib.hid hE
                            clear hE
                            go_wp2_with fail
                            go_ret
                            exact ⟨by rw [HG.out]; rfl, HXA.out⟩
                        | false =>
                          rw [c95] at d95
                          rw [c45] at d45
                          rw [c46, c95, c45] at hE
                          clear c46 c95 c45
                          have HG := Lib.hid hE
                          clear hE
                          go_wp2_with fail
                          go_ret
                          exact ⟨by rw [HG.out]; rfl, HXA.out⟩
                  all_goals rfl
                · have d47 : ((s[j].toNat : Int) != 47) = true := by
                    rw [bne_iff_ne]; intro e; exact h47 (UInt8.toNat_inj.1 (by show s[j].toNat = 47; omega))
                  have HR2 : Hid (runR s[j] (s.data.toList.drop j) = (m + 1) - j + runR s[j] (s.data.toList.drop (m + 1))) := by
                    show _ = _
                    rw [HR.out, hdm]
                    have : runR s[j] (s[m] :: s.data.toList.drop (m + 1)) = runR s[j] (s.data.toList.drop (m + 1)) + 1 := by
                      unfold runR
                      rw [List.takeWhile_cons, hx]; simp
                    rw [this]; omega
                  have HL : Hid (∀ w, Calls Tryd.prog 43 #[.int .u8 (s[m].toNat : Int)] w fun e w' => e = .returned (.bool false) ∧ Reg.Ext w w') := fun w => by
                    refine (low_any s[m] w).mono ?_
                    rintro e w' ⟨rfl, rfl⟩
                    rw [hx, HLW.out]
                    exact ⟨rfl, Reg.Ext.refl _⟩
                  clear hdm hx HR
                  go_wp2_with fail
                  apply Reg.wp_tab Reg.Ext (by kernel_rfl) (by kernel_rfl) Reg.Ext.refl (fun _ _ _ => Reg.Ext.trans) (Reg.Ext.drew _)
                  case' h =>
                    intro O
                    repeat (first
                      | (apply Reg.TW.move_ Reg.Ext.refl _ rfl rfl
                         · simp only [Act.put, Act.eval, List.setIfInBounds_toArray, List.set_cons_zero, List.set_cons_succ, Nat.reduceAdd, Array.getD_eq_getD_getElem?, List.getElem?_toArray, List.getElem?_cons_succ, List.getElem?_cons_zero, Option.getD_some]
                           rfl)
                      | (apply Reg.TW.assign_ Reg.Ext.refl _ rfl rfl
                         · simp only [Act.put, Act.eval, List.setIfInBounds_toArray, List.set_cons_zero, List.set_cons_succ, Nat.reduceAdd, Array.getD_eq_getD_getElem?, List.getElem?_toArray, List.getElem?_cons_succ, List.getElem?_cons_zero, Option.getD_some]
                           rfl)
                      | (apply Reg.TW.skip_ rfl
                         · simp only [Act.put, Act.eval, List.setIfInBounds_toArray, List.set_cons_zero, List.set_cons_succ, Nat.reduceAdd, Array.getD_eq_getD_getElem?, List.getElem?_toArray, List.getElem?_cons_succ, List.getElem?_cons_zero, Option.getD_some]
                           rfl)
                      | (apply Reg.TW.pure_ rfl
                         · intro w1 hw1 hf K hK
                           simp only [Act.put, List.setIfInBounds_toArray, List.set_cons_zero, List.set_cons_succ] at hK
                           have HK := Lib.hid hK
                           clear hf hK
                           skip
                           unfold Reg.One; dsimp only
                           go_wp2_with fail
                           exact HK.out _ (Reg.Ext.refl _)
                         · simp only [Act.put, Act.eval, List.setIfInBounds_toArray, List.set_cons_zero, List.set_cons_succ, Nat.reduceAdd, Array.getD_eq_getD_getElem?, List.getElem?_toArray, List.getElem?_cons_succ, List.getElem?_cons_zero, Option.getD_some]
                           rfl))
                    apply Reg.TW.call_ (c := .bool false) (fun _ => True) rfl (fun _ _ _ h => h)
                    · intro w1 hw1 hf K hK
                      simp only [Act.put, List.setIfInBounds_toArray, List.set_cons_zero, List.set_cons_succ] at hK
                      have HK := Lib.hid hK
                      clear hK
                      unfold Reg.One; dsimp only
                      skip
                      go_wp2_with fail
                      refine (HL.out _).mono ?_
                      rintro e w' ⟨rfl, hx⟩
                      go_wp2_with fail
                      exact HK.out _ hx trivial
                    · simp only [Act.put, Act.eval, List.setIfInBounds_toArray, List.set_cons_zero, List.set_cons_succ, Nat.reduceAdd, Array.getD_eq_getD_getElem?, List.getElem?_toArray, List.getElem?_cons_succ, List.getElem?_cons_zero, Option.getD_some]
                      rfl
                    repeat (first
                      | (apply Reg.TW.move_ Reg.Ext.refl _ rfl rfl
                         · simp only [Act.put, Act.eval, List.setIfInBounds_toArray, List.set_cons_zero, List.set_cons_succ, Nat.reduceAdd, Array.getD_eq_getD_getElem?, List.getElem?_toArray, List.getElem?_cons_succ, List.getElem?_cons_zero, Option.getD_some]
                           rfl)
                      | (apply Reg.TW.assign_ Reg.Ext.refl _ rfl rfl
                         · simp only [Act.put, Act.eval, List.setIfInBounds_toArray, List.set_cons_zero, List.set_cons_succ, Nat.reduceAdd, Array.getD_eq_getD_getElem?, List.getElem?_toArray, List.getElem?_cons_succ, List.getElem?_cons_zero, Option.getD_some]
                           rfl)
                      | (apply Reg.TW.skip_ rfl
                         · simp only [Act.put, Act.eval, List.setIfInBounds_toArray, List.set_cons_zero, List.set_cons_succ, Nat.reduceAdd, Array.getD_eq_getD_getElem?, List.getElem?_toArray, List.getElem?_cons_succ, List.getElem?_cons_zero, Option.getD_some]
                           rfl)
                      | (apply Reg.TW.pure_ rfl
                         · intro w1 hw1 hf K hK
                           simp only [Act.put, List.setIfInBounds_toArray, List.set_cons_zero, List.set_cons_succ] at hK
                           have HK := Lib.hid hK
                           clear hf hK
                           skip
                           unfold Reg.One; dsimp only
                           go_wp2_with fail
                           exact HK.out _ (Reg.Ext.refl _)
                         · simp only [Act.put, Act.eval, List.setIfInBounds_toArray, List.set_cons_zero, List.set_cons_succ, Nat.reduceAdd, Array.getD_eq_getD_getElem?, List.getElem?_toArray, List.getElem?_cons_succ, List.getElem?_cons_zero, Option.getD_some]
                           rfl))
                    refine Reg.TW.nil_ ?_
                    intro wa hwa _
                    have HXA := Lib.hid (HXm.out.trans hwa)
                    clear hwa HXm
                    go_wp2_with fail
                    exact ⟨⟨m + 1, by omega, by omega, by go_num, HR2, .inr h47, HXA⟩, by simp only [intOf]; omega⟩
                  all_goals rfl
              · have dx : ((s[m].toNat : Int) == (s[j].toNat : Int)) = false := by
                  rw [beq_eq_false_iff_ne]; intro e; exact hx (UInt8.toNat_inj.1 (by omega))
                have hz : runR s[j] (s.data.toList.drop m) = 0 := by
                  rw [hdm]; unfold runR
                  rw [List.takeWhile_cons, show (s[m] == s[j]) = false by rw [beq_eq_false_iff_ne]; exact hx]; rfl
                have HE : Hid (partP s.data.toList = if okSep s[j] (m - j) = true then partP (s.data.toList.drop m) else false) := by
                  have h1 := HP2.out
                  rw [HR.out, hz, Nat.add_zero, List.drop_drop, show j + (m - j) = m by omega] at h1
                  exact h1
                clear hz hdm hx HR hc HP2 HLW
                go_wp2_with fail
                apply Reg.wp_tab Reg.Ext (by kernel_rfl) (by kernel_rfl) Reg.Ext.refl (fun _ _ _ => Reg.Ext.trans) (Reg.Ext.drew _)
                case' h =>
                  intro O
                  repeat (first
                    | (apply Reg.TW.move_ Reg.Ext.refl _ rfl rfl
                       · simp only [Act.put, Act.eval, List.setIfInBounds_toArray, List.set_cons_zero, List.set_cons_succ, Nat.reduceAdd, Array.getD_eq_getD_getElem?, List.getElem?_toArray, List.getElem?_cons_succ, List.getElem?_cons_zero, Option.getD_some]
                         rfl)
                    | (apply Reg.TW.assign_ Reg.Ext.refl _ rfl rfl
                       · simp only [Act.put, Act.eval, List.setIfInBounds_toArray, List.set_cons_zero, List.set_cons_succ, Nat.reduceAdd, Array.getD_eq_getD_getElem?, List.getElem?_toArray, List.getElem?_cons_succ, List.getElem?_cons_zero, Option.getD_some]
                         rfl)
                    | (apply Reg.TW.skip_ rfl
                       · simp only [Act.put, Act.eval, List.setIfInBounds_toArray, List.set_cons_zero, List.set_cons_succ, Nat.reduceAdd, Array.getD_eq_getD_getElem?, List.getElem?_toArray, List.getElem?_cons_succ, List.getElem?_cons_zero, Option.getD_some]
                         rfl)
                    | (apply Reg.TW.pure_ rfl
                       · intro w1 hw1 hf K hK
                         simp only [Act.put, List.setIfInBounds_toArray, List.set_cons_zero, List.set_cons_succ] at hK
                         have HK := Lib.hid hK
                         clear hf hK
                         skip
                         unfold Reg.One; dsimp only
                         go_wp2_with fail
                         exact HK.out _ (Reg.Ext.refl _)
                       · simp only [Act.put, Act.eval, List.setIfInBounds_toArray, List.set_cons_zero, List.set_cons_succ, Nat.reduceAdd, Array.getD_eq_getD_getElem?, List.getElem?_toArray, List.getElem?_cons_succ, List.getElem?_cons_zero, Option.getD_some]
                         rfl))
                  refine Reg.TW.nil_ ?_
                  intro wa hwa _
                  have HXA := Lib.hid (HXm.out.trans hwa)
                  clear hwa HXm
                  have hE := HE.out
                  clear HE
                  have d46 : ((s[j].toNat : Int) == 46) = (s[j] == 46) := bq s[j] 46
                  have d95 : ((s[j].toNat : Int) == 95) = (s[j] == 95) := bq s[j] 95
                  have d45 : ((s[j].toNat : Int) == 45) = (s[j] == 45) := bq s[j] 45
                  have dn1 : (((m : Int) - (j : Int)) == 1) = (m - j == 1) := by rw [Bool.eq_iff_iff, beq_iff_eq, beq_iff_eq]; omega
                  have dn2 : (((m : Int) - (j : Int)) == 2) = (m - j == 2) := by rw [Bool.eq_iff_iff, beq_iff_eq, beq_iff_eq]; omega
                  have dg1 : decide ((1 : Int) ≤ ((m : Int) - (j : Int))) = decide (1 ≤ m - j) := decide_eq_decide.2 (by omega)
                  unfold okSep at hE
                  cases c46 : s[j] == 46 with
                  | true =>
                    have c95 : (s[j] == 95) = false := by rw [show s[j] = 46 by simpa using c46]; rfl
                    have c45 : (s[j] == 45) = false := by rw [show s[j] = 46 by simpa using c46]; rfl
                    rw [c46] at d46
                    rw [c95] at d95
                    rw [c45] at d45
                    rw [c46, c95, c45] at hE
                    clear c46 c95 c45
                    cases n1 : m - j == 1 with
                    | true =>
                      rw [n1] at dn1 hE
                      clear n1
                      have HG := Lib.hid hE
                      clear hE
                      go_wp2_with fail
                      exact ⟨⟨m, hm, rfl, HG, HXA⟩, by simp only [intOf]; omega⟩
                    | false =>
                      rw [n1] at dn1 hE
                      clear n1
                      have HG := Lib.hid hE
                      clear hE
                      go_wp2_with fail
                      go_ret
                      exact ⟨by rw [HG.out]; rfl, HXA.out⟩
                  | false =>
                    rw [c46] at d46
                    cases c95 : s[j] == 95 with
                    | true =>
                      have c45 : (s[j] == 45) = false := by rw [show s[j] = 95 by simpa using c95]; rfl
                      rw [c95] at d95
                      rw [c45] at d45
                      rw [c46, c95, c45] at hE
                      clear c46 c95 c45
                      cases n1 : m - j == 1 with
                      | true =>
                        rw [n1] at dn1 hE
                        clear n1
                        have HG := Lib.hid hE
                        clear hE
                        go_wp2_with fail
                        exact ⟨⟨m, hm, rfl, HG, HXA⟩, by simp only [intOf]; omega⟩
                      | false =>
                        cases n2 : m - j == 2 with
                        | true =>
                          rw [n1] at dn1 hE
                          rw [n2] at dn2 hE
                          clear n1 n2
                          have HG := Lib.hid hE
                          clear hE
                          go_wp2_with fail
                          exact ⟨⟨m, hm, rfl, HG, HXA⟩, by simp only [intOf]; omega⟩
                        | false =>
                          rw [n1] at dn1 hE
                          rw [n2] at dn2 hE
                          clear n1 n2
                          have HG := Lib.hid hE
                          clear hE
                          go_wp2_with fail
                          go_ret
                          exact ⟨by rw [HG.out]; rfl, HXA.out⟩
                    | false =>
                      cases c45 : s[j] == 45 with
                      | true =>
                        rw [c95] at d95
                        rw [c45] at d45
                        rw [c46, c95, c45] at hE
                        clear c46 c95 c45
                        cases g1 : decide (1 ≤ m - j) with
                        | true =>
                          rw [g1] at dg1 hE
                          clear g1
                          have HG := Lib.hid hE
                          clear hE
                          go_wp2_with fail
                          exact ⟨⟨m, hm, rfl, HG, HXA⟩, by simp only [intOf]; omega⟩
                        | false =>
                          rw [g1] at dg1 hE
                          clear g1
                          have HG := Lib.hid hE
                          clear hE
                          go_wp2_with fail
                          go_ret
                          exact ⟨by rw [HG.out]; rfl, HXA.out⟩
                      | false =>
                        rw [c95] at d95
                        rw [c45] at d45
                        rw [c46, c95, c45] at hE
                        clear c46 c95 c45
                        have HG := Lib.hid hE
                        clear hE
                        go_wp2_with fail
                        go_ret
                        exact ⟨by rw [HG.out]; rfl, HXA.out⟩
                all_goals rfl
            · have d0 : decide ((m : Int) < (s.size : Int)) = false := by rw [decide_eq_false_iff_not]; omega
              have hz : runR s[j] (s.data.toList.drop m) = 0 := by
                rw [List.drop_of_length_le (by rw [len_data]; omega)]; rfl
              have HE : Hid (partP s.data.toList = if okSep s[j] (m - j) = true then partP (s.data.toList.drop m) else false) := by
                have h1 := HP2.out
                rw [HR.out, hz, Nat.add_zero, List.drop_drop, show j + (m - j) = m by omega] at h1
                exact h1
              clear hz HR hc HP2 HLW
              go_wp2_with fail
              apply Reg.wp_tab Reg.Ext (by kernel_rfl) (by kernel_rfl) Reg.Ext.refl (fun _ _ _ => Reg.Ext.trans) (Reg.Ext.drew _)
              case' h =>
                intro O
                repeat (first
                  | (apply Reg.TW.move_ Reg.Ext.refl _ rfl rfl
                     · simp only [Act.put, Act.eval, List.setIfInBounds_toArray, List.set_cons_zero, List.set_cons_succ, Nat.reduceAdd, Array.getD_eq_getD_getElem?, List.getElem?_toArray, List.getElem?_cons_succ, List.getElem?_cons_zero, Option.getD_some]
                       rfl)
                  | (apply Reg.TW.assign_ Reg.Ext.refl _ rfl rfl
                     · simp only [Act.put, Act.eval, List.setIfInBounds_toArray, List.set_cons_zero, List.set_cons_succ, Nat.reduceAdd, Array.getD_eq_getD_getElem?, List.getElem?_toArray, List.getElem?_cons_succ, List.getElem?_cons_zero, Option.getD_some]
                       rfl)
                  | (apply Reg.TW.skip_ rfl
                     · simp only [Act.put, Act.eval, List.setIfInBounds_toArray, List.set_cons_zero, List.set_cons_succ, Nat.reduceAdd, Array.getD_eq_getD_getElem?, List.getElem?_toArray, List.getElem?_cons_succ, List.getElem?_cons_zero, Option.getD_some]
                       rfl)
                  | (apply Reg.TW.pure_ rfl
                     · intro w1 hw1 hf K hK
                       simp only [Act.put, List.setIfInBounds_toArray, List.set_cons_zero, List.set_cons_succ] at hK
                       have HK := Lib.hid hK
                       clear hf hK
                       skip
                       unfold Reg.One; dsimp only
                       go_wp2_with fail
                       exact HK.out _ (Reg.Ext.refl _)
                     · simp only [Act.put, Act.eval, List.setIfInBounds_toArray, List.set_cons_zero, List.set_cons_succ, Nat.reduceAdd, Array.getD_eq_getD_getElem?, List.getElem?_toArray, List.getElem?_cons_succ, List.getElem?_cons_zero, Option.getD_some]
                       rfl))
                refine Reg.TW.nil_ ?_
                intro wa hwa _
                have HXA := Lib.hid (HXm.out.trans hwa)
                clear hwa HXm
                have hE := HE.out
                clear HE
                have d46 : ((s[j].toNat : Int) == 46) = (s[j] == 46) := bq s[j] 46
                have d95 : ((s[j].toNat : Int) == 95) = (s[j] == 95) := bq s[j] 95
                have d45 : ((s[j].toNat : Int) == 45) = (s[j] == 45) := bq s[j] 45
                have dn1 : (((m : Int) - (j : Int)) == 1) = (m - j == 1) := by rw [Bool.eq_iff_iff, beq_iff_eq, beq_iff_eq]; omega
                have dn2 : (((m : Int) - (j : Int)) == 2) = (m - j == 2) := by rw [Bool.eq_iff_iff, beq_iff_eq, beq_iff_eq]; omega
                have dg1 : decide ((1 : Int) ≤ ((m : Int) - (j : Int))) = decide (1 ≤ m - j) := decide_eq_decide.2 (by omega)
                unfold okSep at hE
                cases c46 : s[j] == 46 with
                | true =>
                  have c95 : (s[j] == 95) = false := by rw [show s[j] = 46 by simpa using c46]; rfl
                  have c45 : (s[j] == 45) = false := by rw [show s[j] = 46 by simpa using c46]; rfl
                  rw [c46] at d46
                  rw [c95] at d95
                  rw [c45] at d45
                  rw [c46, c95, c45] at hE
                  clear c46 c95 c45
                  cases n1 : m - j == 1 with
                  | true =>
                    rw [n1] at dn1 hE
                    clear n1
                    have HG := Lib.hid hE
                    clear hE
                    go_wp2_with fail
                    exact ⟨⟨m, hm, rfl, HG, HXA⟩, by simp only [intOf]; omega⟩
                  | false =>
                    rw [n1] at dn1 hE
                    clear n1
                    have HG := Lib.hid hE
                    clear hE
                    go_wp2_with fail
                    go_ret
                    exact ⟨by rw [HG.out]; rfl, HXA.out⟩
                | false =>
                  rw [c46] at d46
                  cases c95 : s[j] == 95 with
                  | true =>
                    have c45 : (s[j] == 45) = false := by rw [show s[j] = 95 by simpa using c95]; rfl
                    rw [c95] at d95
                    rw [c45] at d45
                    rw [c46, c95, c45] at hE
                    clear c46 c95 c45
                    cases n1 : m - j == 1 with
                    | true =>
                      rw [n1] at dn1 hE
                      clear n1
                      have HG := Lib.hid hE
                      clear hE
                      go_wp2_with fail
                      exact ⟨⟨m, hm, rfl, HG, HXA⟩, by simp only [intOf]; omega⟩
                    | false =>
                      cases n2 : m - j == 2 with
                      | true =>
                        rw [n1] at dn1 hE
                        rw [n2] at dn2 hE
                        clear n1 n2
                        have HG := Lib.hid hE
                        clear hE
                        go_wp2_with fail
                        exact ⟨⟨m, hm, rfl, HG, HXA⟩, by simp only [intOf]; omega⟩
                      | false =>
                        rw [n1] at dn1 hE
                        rw [n2] at dn2 hE
                        clear n1 n2
                        have HG := Lib.hid hE
                        clear hE
                        go_wp2_with fail
                        go_ret
                        exact ⟨by rw [HG.out]; rfl, HXA.out⟩
                  | false =>
                    cases c45 : s[j] == 45 with
                    | true =>
                      rw [c95] at d95
                      rw [c45] at d45
                      rw [c46, c95, c45] at hE
                      clear c46 c95 c45
                      cases g1 : decide (1 ≤ m - j) with
                      | true =>
                        rw [g1] at dg1 hE
                        clear g1
                        have HG := Lib.hid hE
                        clear hE
                        go_wp2_with fail
                        exact ⟨⟨m, hm, rfl, HG, HXA⟩, by simp only [intOf]; omega⟩
                      | false =>
                        rw [g1] at dg1 hE
                        clear g1
                        have HG := Lib.hid hE
                        clear hE
                        go_wp2_with fail
                        go_ret
                        exact ⟨by rw [HG.out]; rfl, HXA.out⟩
                    | false =>
                      rw [c95] at d95
                      rw [c45] at d45
                      rw [c46, c95, c45] at hE
                      clear c46 c95 c45
                      have HG := Lib.hid hE
                      clear hE
                      go_wp2_with fail
                      go_ret
                      exact ⟨by rw [HG.out]; rfl, HXA.out⟩
              all_goals rfl
      · have d0 : decide ((j : Int) < (s.size : Int)) = false := by rw [decide_eq_false_iff_not]; omega
        have hje : j = s.size := by omega
        subst hje
        have HD2 : Hid ((s.data.toList.drop k).dropWhile low = []) := by
          show _ = _
          rw [HD.out, List.drop_of_length_le (by rw [len_data]; exact Nat.le_refl _)]; rfl
        clear HD
        by_cases hkk : k = s.size
        · have HV := Lib.hid (show partP s.data.toList = false by
            rw [HP.out, hkk, List.drop_of_length_le (by rw [len_data]; exact Nat.le_refl _)]; rfl)
          subst hkk
          clear HP HD2
          go_wp2_with fail
          go_ret
          exact ⟨by rw [HV.out]; rfl, HX.out⟩
        · have dk : ((s.size : Int) == (k : Int)) = false := by rw [beq_eq_false_iff_ne]; omega
          have HV := Lib.hid (show partP s.data.toList = true by
            rw [HP.out, partP_rs, HD2.out, if_neg (by rw [List.length_drop, len_data, List.length_nil]; omega)])
          clear HP HD2
          go_wp2_with fail
          go_ret
          exact ⟨by rw [HV.out]; rfl, HX.out⟩
def strSz : Value → Nat
  | .string t => t.size
  | _ => 0
theorem split_one : ∀ {l : List UInt8}, 47 ∉ l → splitP l = [l]
  | [], _ => rfl
  | c :: l, h => by
    rw [List.mem_cons, not_or] at h
    unfold splitP
    rw [if_neg (Ne.symm h.1), split_one h.2]
theorem split_cut {l a b : List UInt8} (h : cutL l = some (a, b)) : (splitP l).all partP = ((splitP a).all partP && partP b) := by
  obtain ⟨rfl, hb⟩ := cutL_some.1 h
  rw [splitP_cat, List.all_append, split_one hb]
  simp
theorem split_none {l : List UInt8} (h : cutL l = none) : (splitP l).all partP = partP l := by
  rw [split_one (cutL_none.1 h)]
  simp
set_option maxHeartbeats 4000000 in
theorem repoR_any (s : ByteArray) (w : World) :
    Calls Tryd.prog 27 #[.string s] w fun e w' => e = .returned (.bool (repoP s.data.toList)) ∧ Reg.Ext w w' := by
  go_enter Tryd.func27, Tryd.ntmps27
  by_cases h128 : 128 < s.size
  · have d1 : decide ((128 : Int) < (s.size : Int)) = true := by rw [decide_eq_true_iff]; omega
    have HV := Lib.hid (show repoP s.data.toList = false by unfold repoP; rw [len_data, decide_eq_false (by omega)]; rfl)
    go_wp2_with fail
    go_ret
    exact ⟨by rw [HV.out]; rfl, Reg.Ext.refl _⟩
  have d1 : decide ((128 : Int) < (s.size : Int)) = false := by rw [decide_eq_false_iff_not]; omega
  have HV0 := Lib.hid (show repoP s.data.toList = (splitP s.data.toList).all partP by unfold repoP; rw [len_data, decide_eq_true (by omega)]; rfl)
  go_wp2_with fail
  go_loopw [0, 3] (fun v _ wr => ∃ t : ByteArray, v = .string t ∧ t.size ≤ 128 ∧ Hid ((splitP s.data.toList).all partP = (splitP t.data.toList).all partP) ∧ Hid (Reg.Ext w wr)) (fun v _ _ => strSz v)
  case atStart => exact ⟨s, rfl, by omega, rfl, Reg.Ext.refl w⟩
  case round =>
    obtain ⟨t, rfl, ht, HP, HX⟩ := hrel
    have HL := Lib.hid (last_any t wr (by omega))
    go_wp2_with fail
    refine HL.out.mono ?_
    rintro e w' ⟨rfl, rfl⟩
    clear HL
    cases hc : cutL t.data.toList with
    | none =>
      have HV := Lib.hid (show repoP s.data.toList = partP t.data.toList by rw [HV0.out, HP.out, split_none hc])
      rw [show lastZ t.data.toList = -1 by unfold lastZ; rw [hc]]
      clear hc
      go_wp2_with fail
      refine (partR_any t wr (by omega)).mono ?_
      rintro e w2 ⟨rfl, x2⟩
      have HX2 := Lib.hid (HX.out.trans x2)
      clear x2
      go_wp2_with fail
      go_ret
      exact ⟨by rw [HV.out]; rfl, HX2.out⟩
    | some p =>
      obtain ⟨a, b⟩ := p
      have hs := split_cut hc
      obtain ⟨he, _⟩ := cutL_some.1 hc
      rw [show lastZ t.data.toList = (a.length : Int) by unfold lastZ; rw [hc]]
      have hlen := congrArg List.length he
      rw [List.length_append, List.length_cons, len_data] at hlen
      have ha : (t.extract 0 a.length).data.toList = a := by rw [ext_data, he]; simp
      have hb : (t.extract (a.length + 1) t.size).data.toList = b := by
        rw [ext_from, he, ← List.drop_drop, List.drop_left]; rfl
      have HS := Lib.hid (show (splitP s.data.toList).all partP = ((splitP (t.extract 0 a.length).data.toList).all partP && partP (t.extract (a.length + 1) t.size).data.toList) by rw [HP.out, hs, ha, hb])
      have HPT := fun w => Lib.hid (partR_any (t.extract (a.length + 1) t.size) w (by rw [ByteArray.size_extract]; omega))
      have hsz : (t.extract 0 a.length).size = a.length := by rw [← len_data, ha]
      have hkt : a.length < t.size := by omega
      clear hc hs he ha hb HP hlen
      generalize a.length = k at *
      have d2 : decide ((k : Int) < 0) = false := by rw [decide_eq_false_iff_not]; omega
      have HSZ := Lib.hid hsz
      clear hsz
      go_wp2_with fail
      refine (HPT wr).out.mono ?_
      rintro e w2 ⟨rfl, x2⟩
      have HX2 := Lib.hid (HX.out.trans x2)
      clear x2 HPT
      cases hq : partP (t.extract (k + 1) t.size).data.toList with
      | true =>
        have HP2 : Hid ((splitP s.data.toList).all partP = (splitP (t.extract 0 k).data.toList).all partP) := by
          show _ = _
          rw [HS.out, hq, Bool.and_true]
        clear hq HS
        go_wp2_with fail
        go_roundw
        case rel => exact ⟨t.extract 0 k, rfl, by rw [HSZ.out]; omega, HP2, HX2⟩
        case measure => simp only [strSz]; rw [HSZ.out]; exact hkt
      | false =>
        have HV := Lib.hid (show repoP s.data.toList = false by rw [HV0.out, HS.out, hq, Bool.and_false])
        clear hq HS
        go_wp2_with fail
        go_ret
        exact ⟨by rw [HV.out]; rfl, HX2.out⟩
end Pl
end Go.Proofs.YtcfdlfedmbmidaaDoor
