/- Package excuse: short, Quote, long, escaped. -/
import Derived.Test.YtdnaijaamnfgmaaDoorHexWalks
import Derived.Test.YtdnaijaamnfgmaaDoorPrefix
import Derived.Test.YtdnaijaamnfgmaaDoorExcP
set_option linter.unusedSimpArgs false
set_option linter.unusedVariables false
set_option linter.unusedSectionVars false
namespace Go.Proofs.YtdnaijaamnfgmaaDoor
open Go.RowKit
namespace Exc
open ExcP HexP
theorem b_eq (c : UInt8) (n : Nat) (hn : n < 256) : ((c.toNat : Int) == (n : Int)) = decide (c = UInt8.ofNat n) := by
  rw [Bool.eq_iff_iff, beq_iff_eq, decide_eq_true_iff]
  constructor
  · intro h
    refine UInt8.toNat_inj.1 ?_
    rw [UInt8.toNat_ofNat_of_lt' (show n < 256 from hn)]; omega
  · intro h
    rw [h, UInt8.toNat_ofNat_of_lt' (show n < 256 from hn)]
set_option maxHeartbeats 1000000 in
theorem short_any (c : UInt8) (w : World) : Calls Tryd.prog 26 #[.int .u8 (c.toNat : Int)] w fun e w' => e = .returned (.int .u8 ((shortN c).toNat : Int)) ∧ w = w' := by
  have e1 : ((c.toNat : Int) == 34) = decide (c = 34) := b_eq c 34 (by decide)
  have e2 : ((c.toNat : Int) == 92) = decide (c = 92) := b_eq c 92 (by decide)
  have e3 : ((c.toNat : Int) == 10) = decide (c = 10) := b_eq c 10 (by decide)
  have e4 : ((c.toNat : Int) == 13) = decide (c = 13) := b_eq c 13 (by decide)
  have e5 : ((c.toNat : Int) == 9) = decide (c = 9) := b_eq c 9 (by decide)
  go_enter Tryd.func26, Tryd.ntmps26
  rcases short_cases c with ⟨h1, h⟩ | ⟨h1, h⟩ | ⟨h1, h⟩ | ⟨h1, h⟩ | ⟨h1, h⟩ | ⟨h1, h2, h3, h4, h5, h⟩
  · subst h1
    clear e1 e2 e3 e4 e5
    rw [h]
    go_wp2
    go_ret
    exact ⟨rfl, rfl⟩
  · subst h1
    clear e1 e2 e3 e4 e5
    rw [h]
    go_wp2
    go_ret
    exact ⟨rfl, rfl⟩
  · subst h1
    clear e1 e2 e3 e4 e5
    rw [h]
    go_wp2
    go_ret
    exact ⟨rfl, rfl⟩
  · subst h1
    clear e1 e2 e3 e4 e5
    rw [h]
    go_wp2
    go_ret
    exact ⟨rfl, rfl⟩
  · subst h1
    clear e1 e2 e3 e4 e5
    rw [h]
    go_wp2
    go_ret
    exact ⟨rfl, rfl⟩
  · rw [decide_eq_false h1] at e1
    rw [decide_eq_false h2] at e2
    rw [decide_eq_false h3] at e3
    rw [decide_eq_false h4] at e4
    rw [decide_eq_false h5] at e5
    rw [h]
    clear h h1 h2 h3 h4 h5
    go_wp2
    go_ret
    exact ⟨rfl, rfl⟩
theorem raw_tests (c : UInt8) : (raw c = true → decide ((c.toNat : Int) < 32) = false ∧ decide ((127 : Int) ≤ (c.toNat : Int)) = false) ∧ (raw c = false → decide ((c.toNat : Int) < 32) = true ∨ (decide ((c.toNat : Int) < 32) = false ∧ decide ((127 : Int) ≤ (c.toNat : Int)) = true)) := by
  unfold raw
  constructor
  · intro h
    simp at h
    exact ⟨by rw [decide_eq_false_iff_not]; omega, by rw [decide_eq_false_iff_not]; omega⟩
  · intro h
    simp at h
    by_cases h1 : c.toNat < 32
    · exact .inl (by rw [decide_eq_true_iff]; omega)
    · exact .inr ⟨by rw [decide_eq_false_iff_not]; omega, by rw [decide_eq_true_iff]; omega⟩
end Exc
end Go.Proofs.YtdnaijaamnfgmaaDoor
