/- A text that goes on: blocks and what is behind them. No program in sight. -/
import Derived.Test.YthgbhpeidngjmaaDoorShaPlain
set_option linter.unusedSimpArgs false
set_option linter.unusedVariables false
set_option linter.unusedSectionVars false
namespace Go.Proofs.YthgbhpeidngjmaaDoor
namespace ShaP
def whole (l : List UInt8) : List UInt8 := l.drop (64 * (l.length / 64))
theorem whole_length (l : List UInt8) : (whole l).length = l.length % 64 := by unfold whole; rw [List.length_drop]; omega
/-- bytes more, the block not full -/
theorem state_less (l m : List UInt8) (h : l.length % 64 + m.length < 64) : state (l ++ m) = state l ∧ (l ++ m).length % 64 = l.length % 64 + m.length ∧ whole (l ++ m) = whole l ++ m := by
  have hd : (l ++ m).length / 64 = l.length / 64 := by rw [List.length_append]; omega
  refine ⟨?_, by rw [List.length_append]; omega, ?_⟩
  · unfold state
    rw [hd, states_append _ _ _ (by omega)]
  · unfold whole
    rw [hd, List.drop_append_of_le_length (by omega)]
/-- .. and full -/
theorem state_full (l m : List UInt8) (h : l.length % 64 + m.length = 64) : state (l ++ m) = turn (state l) (whole l ++ m) ∧ (l ++ m).length % 64 = 0 ∧ whole (l ++ m) = [] := by
  have hd : (l ++ m).length / 64 = l.length / 64 + 1 := by rw [List.length_append]; omega
  refine ⟨?_, by rw [List.length_append]; omega, ?_⟩
  · unfold state
    rw [hd]
    show turn (states (l.length / 64) (l ++ m)) _ = _
    rw [states_append _ _ _ (by omega)]
    congr 1
    unfold whole
    rw [List.drop_append_of_le_length (by omega), List.take_of_length_le (by rw [List.length_append, List.length_drop]; omega)]
  · unfold whole
    rw [hd]
    exact List.drop_of_length_le (by rw [List.length_append]; omega)
end ShaP
end Go.Proofs.YthgbhpeidngjmaaDoor
