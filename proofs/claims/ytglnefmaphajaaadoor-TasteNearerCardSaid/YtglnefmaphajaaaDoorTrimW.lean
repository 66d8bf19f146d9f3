/- Package field: trim. -/
import Derived.Test.YtglnefmaphajaaaDoorFieldW
set_option linter.unusedSimpArgs false
set_option linter.unusedVariables false
set_option linter.unusedSectionVars false
namespace Go.Proofs.YtglnefmaphajaaaDoor
open Go.RowKit
namespace Fld
set_option maxHeartbeats 2000000 in
theorem trim_any (s : ByteArray) (w : World) (hs : s.size ≤ 274877906944) :
    Calls Tryd.prog 38 #[.string s] w fun e w' => e = .returned (.string ⟨(Lib.trimS s.data.toList [32, 9]).toArray⟩) ∧ Reg.Ext w w' := by
  have HT := Lib.hid (StrV.trim_any s [32, 9] w (by omega) (by decide) (by decide))
  go_enter Tryd.func38, Tryd.ntmps38
  go_wp2_with fail
  refine HT.out.mono ?_
  rintro e w1 ⟨rfl, x1⟩
  have HX := Lib.hid x1
  clear x1
  go_wp2_with fail
  go_ret
  exact ⟨rfl, HX.out⟩
end Fld
end Go.Proofs.YtglnefmaphajaaaDoor
