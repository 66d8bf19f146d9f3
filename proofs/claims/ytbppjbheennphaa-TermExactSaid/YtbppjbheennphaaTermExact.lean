/- The walk of the law TermExact. -/
import Derived.Test.YtbppjbheennphaaTermRef
set_option linter.unusedSimpArgs false
set_option linter.unusedVariables false
set_option linter.unusedSectionVars false
namespace Go.Proofs.Ytbppjbheennphaa
open Go.RowKit
namespace Trm
open FloatP Flt
set_option maxHeartbeats 4000000 in
theorem exact_law (a : Int) (b : Nat) (t : Int) (w : World) (hb : b < 18446744073709551616) (ht : t < 9223372036854775808) :
    Calls Try.prog 6 #[.int .i64 a, .float .f64 b, .int .i64 t] w fun e w' => e = .returned (.bool true) ∧ Reg.Ext w w' := by
  obtain ⟨n, is, he⟩ : ∃ n is, endsV a b = .tuple #[.int .i64 n, .bool is] := ⟨_, _, rfl⟩
  obtain ⟨g, hg⟩ : ∃ g, good b = g := ⟨_, rfl⟩
  obtain ⟨v, hv⟩ : ∃ v, withinP a b = v := ⟨_, rfl⟩
  obtain ⟨u, hu⟩ : ∃ u, waitP b t = u := ⟨_, rfl⟩
  have HE := Lib.hid he
  have HG := Lib.hid hg
  have HV := Lib.hid hv
  have HU := Lib.hid hu
  have q1 : (g == g) = true := by simp
  have q2 : (v == v) = true := by simp
  have q3 : (is == is) = true := by simp
  have q4 : (u == u) = true := by simp
  have q5 : (n == n) = true := by simp
  clear he hg hv hu
  go_enter Try.func6, Try.ntmps6
  go_wp2_with fail
  refine (awake_any w).mono ?_
  rintro e w1 ⟨rfl, x1⟩
  have X1 := Lib.hid x1
  clear x1
  go_wp2_with fail
  refine (ends_any a b w1 hb).mono ?_
  rintro e w2 ⟨rfl, rfl⟩
  rw [HE.out]
  go_wp2_with fail
  refine (endsR_any a b w1 hb).mono ?_
  rintro e w2 ⟨rfl, rfl⟩
  rw [HE.out]
  go_wp2_with fail
  refine (good_any b w1 hb).mono ?_
  rintro e w2 ⟨rfl, rfl⟩
  rw [HG.out]
  go_wp2_with fail
  refine (goodR_any b w1 hb).mono ?_
  rintro e w2 ⟨rfl, rfl⟩
  rw [HG.out]
  go_wp2_with fail
  refine (within_any a b w1 hb).mono ?_
  rintro e w2 ⟨rfl, rfl⟩
  rw [HV.out]
  go_wp2_with fail
  refine (withinR_any a b w1 hb).mono ?_
  rintro e w2 ⟨rfl, rfl⟩
  rw [HV.out]
  go_wp2_with fail
  refine (wait_any b t w1 hb ht).mono ?_
  rintro e w2 ⟨rfl, x2⟩
  rw [HU.out]
  have X2 := Lib.hid (X1.out.trans x2)
  clear x2
  go_wp2_with fail
  refine (waitR_any b t w2 hb ht).mono ?_
  rintro e w3 ⟨rfl, rfl⟩
  rw [HU.out]
  go_wp2_with fail
  refine (grade_any a b w2 hb).mono ?_
  rintro e w3 ⟨rfl, rfl⟩
  go_wp2_with fail
  refine (gradeR_any a b w2 hb).mono ?_
  rintro e w3 ⟨rfl, rfl⟩
  go_wp2_with fail
  refine (alikeR_same _ w2).mono ?_
  rintro e w3 ⟨rfl, rfl⟩
  go_wp2_with fail
  go_ret
  exact ⟨by first | rfl | simp, X2.out⟩
end Trm
end Go.Proofs.Ytbppjbheennphaa
