/- Arm, Sync, Append. -/
import Derived.Test.YtbiikihapfpkfaaPlkG
set_option linter.unusedSimpArgs false
set_option linter.unusedVariables false
set_option linter.unusedSectionVars false
namespace Go.Proofs.Ytbiikihapfpkfaa
open Go Go.RowKit
namespace Plk
set_option maxHeartbeats 1000000 in
theorem arm_any (W : World) (d mp : Nat) (es : List E) (s : H) (hD : Dk W d mp es s) (x k m : Int) (h0 : 0 ≤ s.ops) (h1 : s.ops < 4611686018427387904) :
    Calls Try.prog 10 #[.pointer (some ⟨d, 0, none⟩), .int .i64 x, .int .i64 k, .int .i64 m] W fun e w' => e = .returned (.tuple #[]) ∧ Dk w' d mp es (s.arm x k m) ∧ But d W w' := by
  have fz := hD.blk.frozen
  have f5 := fz 5
  have f6 := fz 6
  have f7 := fz 7
  obtain ⟨c0, c1, c2, c3, c4, c5, c6, c7⟩ := hD.c
  generalize hr : s.arm x k m = r
  unfold H.arm at hr
  have hrk := Lib.hid hr
  clear hr
  obtain ⟨room, used, ops, off, ak, af, al⟩ := s
  dsimp only at hrk c1 c2 c3 c4 c5 c6 c7 h0 h1
  go_enter Try.func10, Try.ntmps10
  have hA := hD.setArm 0 0 0
  have bA := But.setArm (w := W) d 0 0 0
  by_cases t1 : x < 1
  · have hr := hrk.out
    rw [if_pos (.inl t1)] at hr
    subst hr
    go_wp2
    ((try simp only [Exit.inBlock, Exit.then]); refine bodyPost_ret (results_none rfl _ _ _) rfl ?_)
    exact ⟨rfl, hA, bA⟩
  · by_cases t2 : 1099511627776 < x
    · have hr := hrk.out
      rw [if_pos (.inr (.inl t2))] at hr
      subst hr
      go_wp2
      ((try simp only [Exit.inBlock, Exit.then]); refine bodyPost_ret (results_none rfl _ _ _) rfl ?_)
      exact ⟨rfl, hA, bA⟩
    · by_cases t3 : k = 1
      · have hr := hrk.out
        rw [if_neg (by omega)] at hr
        subst t3 hr
        go_wp2
        go_end0
        exact ⟨rfl, hA.setArm _ _ _, bA.trans (But.setArm d _ _ _)⟩
      · by_cases t4 : k = 2
        · have hr := hrk.out
          rw [if_neg (by omega)] at hr
          subst t4 hr
          go_wp2
          go_end0
          exact ⟨rfl, hA.setArm _ _ _, bA.trans (But.setArm d _ _ _)⟩
        · have hr := hrk.out
          rw [if_pos (.inr (.inr ⟨t3, t4⟩))] at hr
          subst hr
          have u1 : (k != 1) = true := bne_iff_ne.2 t3
          have u2 : (k != 2) = true := bne_iff_ne.2 t4
          clear t3 t4
          go_wp2
          ((try simp only [Exit.inBlock, Exit.then]); refine bodyPost_ret (results_none rfl _ _ _) rfl ?_)
          exact ⟨rfl, hA, bA⟩
end Plk
end Go.Proofs.Ytbiikihapfpkfaa
