/- strings.Cut at a separator of one byte. -/
import Derived.Test.YtglnefmaphajaaaDoorStrV
import Derived.Test.YtglnefmaphajaaaDoorCut1
import Derived.WalkKit
import Derived.WalkSpells
import Derived.WalkLawsBesides
import Derived.BigQuiet
import Derived.Great.Walk
import Derived.BigRegion
import Derived.Deep.DeepCutAuto
import Derived.Test.YtglnefmaphajaaaDoorStrIdx9
set_option linter.unusedSimpArgs false
set_option linter.unusedVariables false
set_option linter.unusedSectionVars false
namespace Go.Proofs.YtglnefmaphajaaaDoor
open Go.RowKit
namespace Str
def cutV (c : UInt8) (l : List UInt8) : Value := .tuple #[.string ⟨(cut1 c l).1.toArray⟩, .string ⟨(cut1 c l).2.1.toArray⟩, .bool (cut1 c l).2.2]
set_option maxHeartbeats 2000000 in
theorem cut_lite (s : ByteArray) (c : UInt8) (w : World) (hs : s.size ≤ 9223372036854775807) :
    Calls Tryd.prog 44 #[.string s, .string ⟨#[c]⟩] w fun e w' => e = .returned (cutV c s.data.toList) ∧ Reg.Ext w w' := by
  have HI := Lib.hid (Go.Proofs.Any.stringslite_Index_one Go.Proofs.Tryd.laysC219 s c w)
  go_enter Tryd.func44, Tryd.ntmps44
  go_wp2_with fail
  rcases cut1_cases c s.data.toList with ⟨a, b, e1, e2, e3, e4⟩ | ⟨e1, e2, e3⟩
  · have hal : a.length < s.size := by rw [← len_data, e3, List.length_append, List.length_cons]; omega
    have hv : cutV c s.data.toList = .tuple #[.string (s.extract 0 a.length), .string (s.extract (a.length + 1) s.size), .bool true] := by
      unfold cutV
      rw [e1]
      have x1 : s.extract 0 a.length = ⟨a.toArray⟩ := ba_ext (by rw [ext_to, e3]; simp)
      have x2 : s.extract (a.length + 1) s.size = ⟨b.toArray⟩ := ba_ext (by rw [ext_from, e3]; simp)
      rw [x1, x2]
    have HV := Lib.hid hv
    have hi := HI.out
    rw [e2] at hi
    have HJ := Lib.hid hi
    generalize a.length = n at *
    clear hv e1 e2 e3 e4 hi HI
    refine HJ.out.mono ?_
    rintro e w' ⟨rfl, rfl⟩
    go_wp2_with fail
    go_quiet (fail)
    go_wp2_with fail
    go_ret3
    exact ⟨by rw [HV.out]; rfl, Reg.Ext.drewN w' nq⟩
  · have HV := Lib.hid (show cutV c s.data.toList = .tuple #[.string s, .string ⟨#[]⟩, .bool false] by unfold cutV; rw [e1, ba_data])
    have hi := HI.out
    rw [e2] at hi
    have HJ := Lib.hid hi
    clear e1 e2 e3 hi HI
    refine HJ.out.mono ?_
    rintro e w' ⟨rfl, rfl⟩
    go_wp2_with fail
    go_ret3
    exact ⟨by rw [HV.out]; rfl, Reg.Ext.refl _⟩
theorem cut_any (s : ByteArray) (c : UInt8) (w : World) (hs : s.size ≤ 9223372036854775807) :
    Calls Tryd.prog 35 #[.string s, .string ⟨#[c]⟩] w fun e w' => e = .returned (cutV c s.data.toList) ∧ Reg.Ext w w' := by
  have HC := Lib.hid (cut_lite s c w hs)
  go_enter Tryd.func35, Tryd.ntmps35
  go_wp2_with fail
  refine HC.out.mono ?_
  rintro e w' ⟨rfl, x1⟩
  have HX := Lib.hid x1
  clear x1
  unfold cutV
  go_wp2_with fail
  go_ret3
  exact ⟨rfl, HX.out⟩
end Str
end Go.Proofs.YtglnefmaphajaaaDoor
