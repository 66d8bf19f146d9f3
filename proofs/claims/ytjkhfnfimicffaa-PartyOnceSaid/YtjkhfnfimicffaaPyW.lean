/- PartyWaits, plainly: one flight, who joined it, who left. -/
import Derived.Test.YtjkhfnfimicffaaPyA
set_option linter.unusedSimpArgs false
set_option linter.unusedVariables false
set_option linter.unusedSectionVars false
namespace Go.Proofs.Ytjkhfnfimicffaa
namespace Py
def on (k : Ky) (W : List Int) (l : Int) : P := ⟨if W = [] then [] else [⟨1, k, W⟩], 1, l⟩
theorem wh_on (k : Ky) (W : List Int) (l : Int) (x : Int) : wh x (on k W l).fs = if x ∈ W then some ⟨1, k, W⟩ else none := by
  unfold on wh
  by_cases hW : W = []
  · subst hW; simp
  · simp [hW]
theorem find_on (k : Ky) (W : List Int) (l : Int) : find k (on k W l).fs = if W = [] then none else some ⟨1, k, W⟩ := by
  unfold on find
  by_cases hW : W = []
  · subst hW; simp
  · simp [hW]
theorem at_on (k : Ky) (W : List Int) (l i : Int) : at_ i (on k W l).fs = if W ≠ [] ∧ i = 1 then some ⟨1, k, W⟩ else none := by
  unfold on at_
  by_cases hW : W = []
  · subst hW; simp
  · by_cases hi : i = 1
    · subst hi; simp [hW]
    · have : ¬ (1 = i) := fun e => hi e.symm
      simp [hW, hi, this]
theorem joinw_old {k : Ky} {W : List Int} {l x : Int} (h : x ∈ W) : (on k W l).join k x = ((0, false, 9), on k W l) := by
  unfold P.join
  rw [wh_on, if_pos h]
theorem joinw_new {k : Ky} {W : List Int} {l x : Int} (h : x ∉ W) (hl : l = if W = [] then 0 else 1) : (on k W l).join k x = ((1, decide (W = []), 0), on k (W ++ [x]) 1) := by
  unfold P.join
  rw [wh_on, if_neg h, find_on]
  by_cases hW : W = []
  · subst hW
    rw [if_pos rfl] at hl ⊢
    subst hl
    rfl
  · rw [if_neg hW] at hl ⊢
    subst hl
    simp [on, hW, upd]
theorem leave_on (k : Ky) (W : List Int) (l x : Int) : (on k W l).leave x = if x ∈ W then ((1, decide ((W.filter fun y => y ≠ x) = [])), on k (W.filter fun y => y ≠ x) l) else ((0, false), on k W l) := by
  unfold P.leave
  rw [wh_on]
  by_cases hx : x ∈ W
  · have hW : W ≠ [] := fun e => by rw [e] at hx; cases hx
    rw [if_pos hx, if_pos hx]
    dsimp only
    by_cases ho : (W.filter fun y => decide (y ≠ x)) = []
    · rw [if_pos ho]
      simp only [ho]
      simp [on, hW, del]
    · rw [if_neg ho]
      simp [on, hW, upd]
      simpa using ho
  · rw [if_neg hx, if_neg hx]
theorem end_on {k : Ky} {W : List Int} {l i : Int} (h : W = [] ∨ i = 1) : (on k W l).end_ i = (W, on k [] l) := by
  unfold P.end_
  rw [at_on]
  by_cases hW : W = []
  · subst hW; simp
  · have hi : i = 1 := h.resolve_left hW
    subst hi
    simp [hW, on, del]
theorem filter_lt {W : List Int} {x : Int} : decide ((W.filter fun y => decide (y ≠ x)).length < W.length) = decide (x ∈ W) := by
  by_cases hx : x ∈ W
  · rw [decide_eq_true hx]
    refine decide_eq_true ?_
    exact List.length_filter_lt_length_iff_exists.2 ⟨x, hx, by simp⟩
  · rw [decide_eq_false hx]
    refine decide_eq_false ?_
    rw [List.filter_eq_self.2 fun a ha => by simp; intro e; exact hx (e ▸ ha)]
    exact Nat.lt_irrefl _
end Py
end Go.Proofs.Ytjkhfnfimicffaa
