/- Chapter 15, the reference: IsRepo. -/
import Derived.Test.YtdoplndijlfabaaDoorPlaceRefP
set_option linter.unusedSimpArgs false
set_option linter.unusedVariables false
set_option linter.unusedSectionVars false
namespace Go.Proofs.YtdoplndijlfabaaDoor
open Go.RowKit
namespace Pl
def strSz : Value → Nat
  | .string t => t.size
  | _ => 0
theorem split_one : ∀ {l : List UInt8}, 47 ∉ l → splitP l = [l]
  | [], _ => rfl
  | c :: l, h => by
    rw [List.mem_cons, not_or] at h
    unfold splitP
    rw [if_neg (Ne.symm h.1), split_one h.2]
theorem split_cut {l a b : List UInt8} (h : cutL l = some (a, b)) : (splitP l).all partP = ((splitP a).all partP && partP b) := by
  obtain ⟨rfl, hb⟩ := cutL_some.1 h
  rw [splitP_cat, List.all_append, split_one hb]
  simp
theorem split_none {l : List UInt8} (h : cutL l = none) : (splitP l).all partP = partP l := by
  rw [split_one (cutL_none.1 h)]
  simp
set_option maxHeartbeats 4000000 in
theorem repoR_any (s : ByteArray) (w : World) :
    Calls Tryd.prog 12 #[.string s] w fun e w' => e = .returned (.bool (repoP s.data.toList)) ∧ Reg.Ext w w' := by
  go_enter Tryd.func12, Tryd.ntmps12
  by_cases h128 : 128 < s.size
  · have d1 : decide ((128 : Int) < (s.size : Int)) = true := by rw [decide_eq_true_iff]; omega
    have HV := Lib.hid (show repoP s.data.toList = false by unfold repoP; rw [len_data, decide_eq_false (by omega)]; rfl)
    go_wp2_with fail
    go_ret
    exact ⟨by rw [HV.out]; rfl, Reg.Ext.refl _⟩
  have d1 : decide ((128 : Int) < (s.size : Int)) = false := by rw [decide_eq_false_iff_not]; omega
  have HV0 := Lib.hid (show repoP s.data.toList = (splitP s.data.toList).all partP by unfold repoP; rw [len_data, decide_eq_true (by omega)]; rfl)
  go_wp2_with fail
  go_loopw [0, 3] (fun v _ wr => ∃ t : ByteArray, v = .string t ∧ t.size ≤ 128 ∧ Hid ((splitP s.data.toList).all partP = (splitP t.data.toList).all partP) ∧ Hid (Reg.Ext w wr)) (fun v _ _ => strSz v)
  case atStart => exact ⟨s, rfl, by omega, rfl, Reg.Ext.refl w⟩
  case round =>
    obtain ⟨t, rfl, ht, HP, HX⟩ := hrel
    have HL := Lib.hid (last_any t wr (by omega))
    go_wp2_with fail
    refine HL.out.mono ?_
    rintro e w' ⟨rfl, rfl⟩
    clear HL
    cases hc : cutL t.data.toList with
    | none =>
      have HV := Lib.hid (show repoP s.data.toList = partP t.data.toList by rw [HV0.out, HP.out, split_none hc])
      rw [show lastZ t.data.toList = -1 by unfold lastZ; rw [hc]]
      clear hc
      go_wp2_with fail
      refine (partR_any t wr (by omega)).mono ?_
      rintro e w2 ⟨rfl, x2⟩
      have HX2 := Lib.hid (HX.out.trans x2)
      clear x2
      go_wp2_with fail
      go_ret
      exact ⟨by rw [HV.out]; rfl, HX2.out⟩
    | some p =>
      obtain ⟨a, b⟩ := p
      have hs := split_cut hc
      obtain ⟨he, _⟩ := cutL_some.1 hc
      rw [show lastZ t.data.toList = (a.length : Int) by unfold lastZ; rw [hc]]
      have hlen := congrArg List.length he
      rw [List.length_append, List.length_cons, len_data] at hlen
      have ha : (t.extract 0 a.length).data.toList = a := by rw [ext_data, he]; simp
      have hb : (t.extract (a.length + 1) t.size).data.toList = b := by
        rw [ext_from, he, ← List.drop_drop, List.drop_left]; rfl
      have HS := Lib.hid (show (splitP s.data.toList).all partP = ((splitP (t.extract 0 a.length).data.toList).all partP && partP (t.extract (a.length + 1) t.size).data.toList) by rw [HP.out, hs, ha, hb])
      have HPT := fun w => Lib.hid (partR_any (t.extract (a.length + 1) t.size) w (by rw [ByteArray.size_extract]; omega))
      have hsz : (t.extract 0 a.length).size = a.length := by rw [← len_data, ha]
      have hkt : a.length < t.size := by omega
      clear hc hs he ha hb HP hlen
      generalize a.length = k at *
      have d2 : decide ((k : Int) < 0) = false := by rw [decide_eq_false_iff_not]; omega
      have HSZ := Lib.hid hsz
      clear hsz
      go_wp2_with fail
      refine (HPT wr).out.mono ?_
      rintro e w2 ⟨rfl, x2⟩
      have HX2 := Lib.hid (HX.out.trans x2)
      clear x2 HPT
      cases hq : partP (t.extract (k + 1) t.size).data.toList with
      | true =>
        have HP2 : Hid ((splitP s.data.toList).all partP = (splitP (t.extract 0 k).data.toList).all partP) := by
          show _ = _
          rw [HS.out, hq, Bool.and_true]
        clear hq HS
        go_wp2_with fail
        go_roundw
        case rel => exact ⟨t.extract 0 k, rfl, by rw [HSZ.out]; omega, HP2, HX2⟩
        case measure => simp only [strSz]; rw [HSZ.out]; exact hkt
      | false =>
        have HV := Lib.hid (show repoP s.data.toList = false by rw [HV0.out, HS.out, hq, Bool.and_false])
        clear hq HS
        go_wp2_with fail
        go_ret
        exact ⟨by rw [HV.out]; rfl, HX2.out⟩
end Pl
end Go.Proofs.YtdoplndijlfabaaDoor
