/- strings.HasPrefix, strings.CutPrefix. -/
import Derived.Test.YtglnefmaphajaaaDoorRows
import Derived.Test.YtglnefmaphajaaaDoorReg
import Derived.Test.YtglnefmaphajaaaDoorWords
import Derived.WalkKit
import Derived.WalkSpells
import Derived.WalkLawsBesides
import Derived.Great.Walk
import Derived.BigQuiet
import Derived.Lib.Hide
set_option linter.unusedSimpArgs false
set_option linter.unusedVariables false
set_option linter.unusedSectionVars false
namespace Go.Proofs.YtglnefmaphajaaaDoor
open Go.RowKit
namespace Pre
def has (p l : List UInt8) : Bool := p.isPrefixOf l
theorem ext_pre (s p : ByteArray) (h : p.size ≤ s.size) : ((s.extract 0 p.size).toList == p.toList) = has p.data.toList s.data.toList := by
  rw [ByteArray.toList_eq, ByteArray.toList_eq, ext_to, Bool.eq_iff_iff, beq_iff_eq]
  unfold has
  rw [List.isPrefixOf_iff_prefix, List.prefix_iff_eq_take, len_data]
  exact eq_comm
theorem has_short (s p : ByteArray) (h : s.size < p.size) : has p.data.toList s.data.toList = false := by
  unfold has
  rw [Bool.eq_false_iff, ne_eq, List.isPrefixOf_iff_prefix]
  intro hp
  have := hp.length_le
  rw [len_data, len_data] at this
  omega
set_option maxHeartbeats 1000000 in
theorem hasI_any (s p : ByteArray) (w : World) (hs : s.size ≤ 4611686018427387904) (hp : p.size ≤ 4611686018427387904) :
    Calls Tryd.prog 43 #[.string s, .string p] w fun e w' => e = .returned (.bool (has p.data.toList s.data.toList)) ∧ w = w' := by
  go_enter Tryd.func43, Tryd.ntmps43
  by_cases h : p.size ≤ s.size
  · have d1 : decide ((p.size : Int) ≤ (s.size : Int)) = true := by rw [decide_eq_true_iff]; omega
    have hx := ext_pre s p h
    go_wp2_with fail
    go_ret
    exact ⟨rfl, rfl⟩
  · have d1 : decide ((p.size : Int) ≤ (s.size : Int)) = false := by rw [decide_eq_false_iff_not]; omega
    have HV := Lib.hid (has_short s p (by omega))
    go_wp2_with fail
    go_ret
    exact ⟨by rw [HV.out]; rfl, rfl⟩
end Pre
end Go.Proofs.YtglnefmaphajaaaDoor
