/- Package term: what the document fixes by number. -/
import Derived.Test.YtbppjbheennphaaTermWait
set_option linter.unusedSimpArgs false
set_option linter.unusedVariables false
set_option linter.unusedSectionVars false
namespace Go.Proofs.Ytbppjbheennphaa
open Go.RowKit
namespace FloatP
theorem aw1 : endsV 100 4621537642612260864 = .tuple #[.int .i64 110, .bool true] := by
  have h : endsP 100 4621537642612260864 = (110, true) := by decide +kernel
  unfold endsV; rw [h]
theorem aw2 : endsV 100 9218868437227405312 = .tuple #[.int .i64 0, .bool false] := by
  have h : endsP 100 9218868437227405312 = (0, false) := by decide +kernel
  unfold endsV; rw [h]
theorem aw3 : withinP 9 4621537642612260864 = true := by decide +kernel
theorem aw4 : withinP 10 4621537642612260864 = false := by decide +kernel
theorem aw5 : waitP 4609434218613702656 3 = 6 := by decide +kernel
theorem aw6 : withinP 1 9218868437227405312 = true := by decide +kernel
theorem aw7 : good 9221120237041090560 = false := by decide +kernel
end FloatP
namespace Trm
open FloatP Flt
theorem ratio_top (w : World) : Calls Try.prog 14 #[.int .i64 1, .int .i64 0] w fun e w' => e = .returned (.float .f64 9218868437227405312) ∧ w = w' := ratio_inf 1 (by decide) w
set_option maxHeartbeats 2000000 in
theorem awake_any (w : World) : Calls Try.prog 9 #[] w fun e w' => e = .returned (.bool true) ∧ Reg.Ext w w' := by
  go_enter Try.func9, Try.ntmps9
  go_wp2_with fail
  refine (ends_any 100 4621537642612260864 w (by decide)).mono ?_
  rintro e w' ⟨rfl, rfl⟩
  rw [aw1]
  go_wp2_with fail
  refine (ratio_top w).mono ?_
  rintro e w' ⟨rfl, rfl⟩
  go_wp2_with fail
  refine (ends_any 100 9218868437227405312 w (by decide)).mono ?_
  rintro e w' ⟨rfl, rfl⟩
  rw [aw2]
  go_wp2_with fail
  refine (within_any 9 4621537642612260864 w (by decide)).mono ?_
  rintro e w' ⟨rfl, rfl⟩
  rw [aw3]
  go_wp2_with fail
  refine (within_any 10 4621537642612260864 w (by decide)).mono ?_
  rintro e w' ⟨rfl, rfl⟩
  rw [aw4]
  go_wp2_with fail
  refine (wait_any 4609434218613702656 3 w (by decide) (by decide)).mono ?_
  rintro e w' ⟨rfl, HX⟩
  rw [aw5]
  go_wp2_with fail
  refine (ratio_top w').mono ?_
  rintro e w'' ⟨rfl, rfl⟩
  go_wp2_with fail
  refine (within_any 1 9218868437227405312 w' (by decide)).mono ?_
  rintro e w'' ⟨rfl, rfl⟩
  rw [aw6]
  go_wp2_with fail
  refine (ratio_none w').mono ?_
  rintro e w'' ⟨rfl, rfl⟩
  go_wp2_with fail
  refine (good_any 9221120237041090560 w' (by decide)).mono ?_
  rintro e w'' ⟨rfl, rfl⟩
  rw [aw7]
  go_wp2_with fail
  go_ret
  exact ⟨rfl, HX⟩
end Trm
end Go.Proofs.Ytbppjbheennphaa
