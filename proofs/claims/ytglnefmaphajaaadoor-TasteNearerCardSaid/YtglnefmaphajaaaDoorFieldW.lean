/- Package field: isTchar, IsToken. -/
import Derived.Test.YtglnefmaphajaaaDoorStrV
import Derived.Test.YtglnefmaphajaaaDoorBuf
import Derived.WalkKit
import Derived.WalkSpells
import Derived.WalkLawsBesides
import Derived.BigQuiet
import Derived.Great.Walk
import Derived.BigRegion
import Derived.Deep.DeepCutAuto
import Derived.Test.YtglnefmaphajaaaDoorFieldP
import Derived.Lib.IndexAny
set_option linter.unusedSimpArgs false
set_option linter.unusedVariables false
set_option linter.unusedSectionVars false
namespace Go.Proofs.YtglnefmaphajaaaDoor
open Go.RowKit
namespace Fld
set_option maxHeartbeats 4000000 in
theorem tchar_any (c : UInt8) (w : World) : Calls Tryd.prog 45 #[.int .u8 (c.toNat : Int)] w fun e w' => e = .returned (.bool (tchar c)) ∧ w = w' := by
  have hc := c.toNat_lt
  have ht := tchar_dec c
  have hi := Lib.contains_iff_indexByte marksL c
  have HI := Lib.hid (StrV.indexByte_any ⟨marksL.toArray⟩ c w)
  rw [lst] at HI
  go_enter Tryd.func45, Tryd.ntmps45
  rcases zones (c.toNat : Int) (by omega) with hz | ⟨hz, hz2⟩ | ⟨hz, hz2⟩ | ⟨hz, hz2⟩ | ⟨hz, hz2⟩ | ⟨hz, hz2⟩ | hz
  · have d1 : decide ((97 : Int) ≤ (c.toNat : Int)) = false := by first | exact decide_eq_true (by omega) | exact decide_eq_false (by omega)
    have d2 : decide ((c.toNat : Int) ≤ 122) = true := by first | exact decide_eq_true (by omega) | exact decide_eq_false (by omega)
    have d3 : decide ((65 : Int) ≤ (c.toNat : Int)) = false := by first | exact decide_eq_true (by omega) | exact decide_eq_false (by omega)
    have d4 : decide ((c.toNat : Int) ≤ 90) = true := by first | exact decide_eq_true (by omega) | exact decide_eq_false (by omega)
    have d5 : decide ((48 : Int) ≤ (c.toNat : Int)) = false := by first | exact decide_eq_true (by omega) | exact decide_eq_false (by omega)
    have d6 : decide ((c.toNat : Int) ≤ 57) = true := by first | exact decide_eq_true (by omega) | exact decide_eq_false (by omega)
    rw [d1, d2, d3, d4, d5, d6] at ht
    have HV := Lib.hid ((show tchar c = marksL.contains c from ht).trans hi)
    clear ht hz hi
    generalize Lib.indexByte marksL c = j at *
    go_wp2_with fail
    refine HI.out.mono ?_
    rintro e w' ⟨rfl, rfl⟩
    go_wp2_with fail
    go_ret
    exact ⟨by rw [HV.out]; rfl, rfl⟩
  · have d1 : decide ((97 : Int) ≤ (c.toNat : Int)) = false := by first | exact decide_eq_true (by omega) | exact decide_eq_false (by omega)
    have d2 : decide ((c.toNat : Int) ≤ 122) = true := by first | exact decide_eq_true (by omega) | exact decide_eq_false (by omega)
    have d3 : decide ((65 : Int) ≤ (c.toNat : Int)) = false := by first | exact decide_eq_true (by omega) | exact decide_eq_false (by omega)
    have d4 : decide ((c.toNat : Int) ≤ 90) = true := by first | exact decide_eq_true (by omega) | exact decide_eq_false (by omega)
    have d5 : decide ((48 : Int) ≤ (c.toNat : Int)) = true := by first | exact decide_eq_true (by omega) | exact decide_eq_false (by omega)
    have d6 : decide ((c.toNat : Int) ≤ 57) = true := by first | exact decide_eq_true (by omega) | exact decide_eq_false (by omega)
    rw [d1, d2, d3, d4, d5, d6] at ht
    have HV := Lib.hid (show tchar c = true from ht)
    clear ht hz hi HI
    go_wp2_with fail
    go_ret
    exact ⟨by rw [HV.out]; rfl, rfl⟩
  · have d1 : decide ((97 : Int) ≤ (c.toNat : Int)) = false := by first | exact decide_eq_true (by omega) | exact decide_eq_false (by omega)
    have d2 : decide ((c.toNat : Int) ≤ 122) = true := by first | exact decide_eq_true (by omega) | exact decide_eq_false (by omega)
    have d3 : decide ((65 : Int) ≤ (c.toNat : Int)) = false := by first | exact decide_eq_true (by omega) | exact decide_eq_false (by omega)
    have d4 : decide ((c.toNat : Int) ≤ 90) = true := by first | exact decide_eq_true (by omega) | exact decide_eq_false (by omega)
    have d5 : decide ((48 : Int) ≤ (c.toNat : Int)) = true := by first | exact decide_eq_true (by omega) | exact decide_eq_false (by omega)
    have d6 : decide ((c.toNat : Int) ≤ 57) = false := by first | exact decide_eq_true (by omega) | exact decide_eq_false (by omega)
    rw [d1, d2, d3, d4, d5, d6] at ht
    have HV := Lib.hid ((show tchar c = marksL.contains c from ht).trans hi)
    clear ht hz hi
    generalize Lib.indexByte marksL c = j at *
    go_wp2_with fail
    refine HI.out.mono ?_
    rintro e w' ⟨rfl, rfl⟩
    go_wp2_with fail
    go_ret
    exact ⟨by rw [HV.out]; rfl, rfl⟩
  · have d1 : decide ((97 : Int) ≤ (c.toNat : Int)) = false := by first | exact decide_eq_true (by omega) | exact decide_eq_false (by omega)
    have d2 : decide ((c.toNat : Int) ≤ 122) = true := by first | exact decide_eq_true (by omega) | exact decide_eq_false (by omega)
    have d3 : decide ((65 : Int) ≤ (c.toNat : Int)) = true := by first | exact decide_eq_true (by omega) | exact decide_eq_false (by omega)
    have d4 : decide ((c.toNat : Int) ≤ 90) = true := by first | exact decide_eq_true (by omega) | exact decide_eq_false (by omega)
    have d5 : decide ((48 : Int) ≤ (c.toNat : Int)) = true := by first | exact decide_eq_true (by omega) | exact decide_eq_false (by omega)
    have d6 : decide ((c.toNat : Int) ≤ 57) = false := by first | exact decide_eq_true (by omega) | exact decide_eq_false (by omega)
    rw [d1, d2, d3, d4, d5, d6] at ht
    have HV := Lib.hid (show tchar c = true from ht)
    clear ht hz hi HI
    go_wp2_with fail
    go_ret
    exact ⟨by rw [HV.out]; rfl, rfl⟩
  · have d1 : decide ((97 : Int) ≤ (c.toNat : Int)) = false := by first | exact decide_eq_true (by omega) | exact decide_eq_false (by omega)
    have d2 : decide ((c.toNat : Int) ≤ 122) = true := by first | exact decide_eq_true (by omega) | exact decide_eq_false (by omega)
    have d3 : decide ((65 : Int) ≤ (c.toNat : Int)) = true := by first | exact decide_eq_true (by omega) | exact decide_eq_false (by omega)
    have d4 : decide ((c.toNat : Int) ≤ 90) = false := by first | exact decide_eq_true (by omega) | exact decide_eq_false (by omega)
    have d5 : decide ((48 : Int) ≤ (c.toNat : Int)) = true := by first | exact decide_eq_true (by omega) | exact decide_eq_false (by omega)
    have d6 : decide ((c.toNat : Int) ≤ 57) = false := by first | exact decide_eq_true (by omega) | exact decide_eq_false (by omega)
    rw [d1, d2, d3, d4, d5, d6] at ht
    have HV := Lib.hid ((show tchar c = marksL.contains c from ht).trans hi)
    clear ht hz hi
    generalize Lib.indexByte marksL c = j at *
    go_wp2_with fail
    refine HI.out.mono ?_
    rintro e w' ⟨rfl, rfl⟩
    go_wp2_with fail
    go_ret
    exact ⟨by rw [HV.out]; rfl, rfl⟩
  · have d1 : decide ((97 : Int) ≤ (c.toNat : Int)) = true := by first | exact decide_eq_true (by omega) | exact decide_eq_false (by omega)
    have d2 : decide ((c.toNat : Int) ≤ 122) = true := by first | exact decide_eq_true (by omega) | exact decide_eq_false (by omega)
    have d3 : decide ((65 : Int) ≤ (c.toNat : Int)) = true := by first | exact decide_eq_true (by omega) | exact decide_eq_false (by omega)
    have d4 : decide ((c.toNat : Int) ≤ 90) = false := by first | exact decide_eq_true (by omega) | exact decide_eq_false (by omega)
    have d5 : decide ((48 : Int) ≤ (c.toNat : Int)) = true := by first | exact decide_eq_true (by omega) | exact decide_eq_false (by omega)
    have d6 : decide ((c.toNat : Int) ≤ 57) = false := by first | exact decide_eq_true (by omega) | exact decide_eq_false (by omega)
    rw [d1, d2, d3, d4, d5, d6] at ht
    have HV := Lib.hid (show tchar c = true from ht)
    clear ht hz hi HI
    go_wp2_with fail
    go_ret
    exact ⟨by rw [HV.out]; rfl, rfl⟩
  · have d1 : decide ((97 : Int) ≤ (c.toNat : Int)) = true := by first | exact decide_eq_true (by omega) | exact decide_eq_false (by omega)
    have d2 : decide ((c.toNat : Int) ≤ 122) = false := by first | exact decide_eq_true (by omega) | exact decide_eq_false (by omega)
    have d3 : decide ((65 : Int) ≤ (c.toNat : Int)) = true := by first | exact decide_eq_true (by omega) | exact decide_eq_false (by omega)
    have d4 : decide ((c.toNat : Int) ≤ 90) = false := by first | exact decide_eq_true (by omega) | exact decide_eq_false (by omega)
    have d5 : decide ((48 : Int) ≤ (c.toNat : Int)) = true := by first | exact decide_eq_true (by omega) | exact decide_eq_false (by omega)
    have d6 : decide ((c.toNat : Int) ≤ 57) = false := by first | exact decide_eq_true (by omega) | exact decide_eq_false (by omega)
    rw [d1, d2, d3, d4, d5, d6] at ht
    have HV := Lib.hid ((show tchar c = marksL.contains c from ht).trans hi)
    clear ht hz hi
    generalize Lib.indexByte marksL c = j at *
    go_wp2_with fail
    refine HI.out.mono ?_
    rintro e w' ⟨rfl, rfl⟩
    go_wp2_with fail
    go_ret
    exact ⟨by rw [HV.out]; rfl, rfl⟩
set_option maxHeartbeats 4000000 in
theorem token_any (s : ByteArray) (w : World) (hs : s.size ≤ 9223372036854775807) :
    Calls Tryd.prog 37 #[.string s] w fun e w' => e = .returned (.bool (tokenP s.data.toList)) ∧ Reg.Ext w w' := by
  go_enter Tryd.func37, Tryd.ntmps37
  obtain ⟨cap, w2, hcv, hby, hx2⟩ := BytesAt.of s w
  have HBY := Lib.hid hby
  have HX2 := Lib.hid hx2
  clear hby hx2
  go_wp2_with fail
  clear hcv
  go_loopw [4, 8] (fun _ i wr => ∃ k : Nat, k ≤ s.size ∧ i = .int .i64 k ∧ Hid ((s.data.toList.take k).all tchar = true) ∧ w2 = wr) (fun _ i _ => s.size - (intOf i).toNat)
  case atStart => exact ⟨0, Nat.zero_le _, rfl, rfl, rfl⟩
  case round =>
    obtain ⟨k, hk, rfl, HG, rfl⟩ := hrel
    by_cases hks : k < s.size
    · have cb := HBY.out.cell k hks
      have hkl : k < s.data.toList.length := by rw [len_data]; exact hks
      have hmem : (s.data.toList[k]'hkl) ∈ s.data.toList := List.getElem_mem hkl
      have htk : s.data.toList.take (k + 1) = s.data.toList.take k ++ [s.data.toList[k]'hkl] := List.take_succ_eq_append_getElem hkl
      generalize (s.data.toList[k]'hkl) = c at *
      have HM := Lib.hid hmem
      have HTK := Lib.hid htk
      clear hmem htk
      go_wp2_with fail
      refine (tchar_any c w2).mono ?_
      rintro e w' ⟨rfl, rfl⟩
      cases hc : tchar c with
      | false =>
        have HV := Lib.hid (show tokenP s.data.toList = false by
          unfold tokenP
          rw [List.all_eq_false.2 ⟨c, HM.out, by rw [hc]; decide⟩]; rfl)
        clear hc
        go_wp2_with fail
        go_ret
        exact ⟨by rw [HV.out]; rfl, HX2.out⟩
      | true =>
        have HG2 : Hid ((s.data.toList.take (k + 1)).all tchar = true) := by
          show _ = _
          rw [HTK.out, List.all_append, HG.out, List.all_cons, hc]; rfl
        clear hc
        go_wp2_with fail
        go_roundw
        case rel => exact ⟨k + 1, by omega, by go_num, HG2, trivial⟩
        case measure => simp [intOf]; omega
    · have hg := HG.out
      rw [List.take_of_length_le (by rw [len_data]; omega)] at hg
      have hv : tokenP s.data.toList = !s.data.toList.isEmpty := by unfold tokenP; rw [hg]; rfl
      by_cases h0 : s.size = 0
      · obtain ⟨e1, e2, e3⟩ := empty_of s h0
        have HV := Lib.hid (show tokenP s.data.toList = false by rw [hv, e1]; rfl)
        clear hg hv e1
        go_wp2_with fail
        go_ret
        exact ⟨by rw [HV.out]; rfl, HX2.out⟩
      · obtain ⟨e2, e3⟩ := full_of s (by omega)
        have HV := Lib.hid (show tokenP s.data.toList = true by rw [hv, ← ByteArray.toList_eq, e2]; rfl)
        clear hg hv
        go_wp2_with fail
        go_ret
        exact ⟨by rw [HV.out]; rfl, HX2.out⟩
end Fld
end Go.Proofs.YtglnefmaphajaaaDoor
