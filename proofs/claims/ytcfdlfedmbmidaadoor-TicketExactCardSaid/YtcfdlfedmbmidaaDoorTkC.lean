/- Where a name stands in a rising list. -/
import Derived.Test.YtcfdlfedmbmidaaDoorNamed
set_option linter.unusedSimpArgs false
set_option linter.unusedVariables false
set_option linter.unusedSectionVars false
namespace Go.Proofs.YtcfdlfedmbmidaaDoor
namespace Nmd
section
variable {α : Type} {nm : α → Nm} {l : List α} {n : Nm}
def lo (nm : α → Nm) (n : Nm) (l : List α) : Nat := l.countP fun y => decide (nm y < n)
theorem lo_le (n : Nm) (l : List α) : lo nm n l ≤ l.length := List.countP_le_length
theorem lo_cons (y : α) (l : List α) : lo nm n (y :: l) = if nm y < n then lo nm n l + 1 else lo nm n l := by
  unfold lo
  rw [List.countP_cons]
  by_cases h : nm y < n <;> simp [h]
theorem lo_zero {y : α} (h : ∀ z ∈ l, nm y < nm z) (hy : ¬ nm y < n) : lo nm n l = 0 := by
  unfold lo
  rw [List.countP_eq_zero]
  intro z hz
  simp only [decide_eq_true_eq]
  intro hzn
  exact hy (List.lt_trans (h z hz) hzn)
theorem lo_lt (h : Up nm l) (j : Nat) (hj : j < l.length) : nm l[j] < n ↔ j < lo nm n l := by
  induction l generalizing j with
  | nil => cases hj
  | cons y l ih =>
    have hp := List.pairwise_cons.1 h
    rw [lo_cons]
    by_cases hy : nm y < n
    · rw [if_pos hy]
      cases j with
      | zero => simp [hy]
      | succ j =>
        rw [List.getElem_cons_succ, ih hp.2 j (by simpa using hj)]
        omega
    · rw [if_neg hy, lo_zero hp.1 hy]
      cases j with
      | zero => simp [hy]
      | succ j =>
        rw [List.getElem_cons_succ, ih hp.2 j (by simpa using hj), lo_zero hp.1 hy]
        omega
theorem ins_lo (h : Up nm l) {x : α} (hx : ∀ y ∈ l, nm y ≠ nm x) : ins nm x l = l.take (lo nm (nm x) l) ++ x :: l.drop (lo nm (nm x) l) := by
  induction l with
  | nil => rfl
  | cons y l ih =>
    have hp := List.pairwise_cons.1 h
    rw [lo_cons]
    unfold ins
    by_cases hy : nm y < nm x
    · rw [if_pos hy, if_pos hy, List.take_succ_cons, List.drop_succ_cons, ih hp.2 fun z hz => hx z (List.mem_cons_of_mem _ hz)]
      rfl
    · rw [if_neg hy, if_neg hy, lo_zero hp.1 hy]
      rfl
theorem get_lo (h : Up nm l) : get nm n l = (l[lo nm n l]?).filter fun y => decide (nm y = n) := by
  induction l with
  | nil => rfl
  | cons y l ih =>
    have hp := List.pairwise_cons.1 h
    rw [get_cons, lo_cons]
    by_cases hy : nm y < n
    · have hne : nm y ≠ n := fun e => by rw [e] at hy; exact List.lt_irrefl _ hy
      rw [if_pos hy, if_neg hne, List.getElem?_cons_succ]
      exact ih hp.2
    · rw [if_neg hy, lo_zero hp.1 hy, List.getElem?_cons_zero]
      by_cases hne : nm y = n
      · rw [if_pos hne, Option.filter_some, if_pos (decide_eq_true hne)]
      · rw [if_neg hne]
        have : get nm n l = none := get_none_of fun z hz e => by
          have := hp.1 z hz
          rw [e] at this
          exact hy this
        rw [this, Option.filter_some, if_neg (by rw [decide_eq_false hne]; exact Bool.false_ne_true)]
theorem at_lo (h : Up nm l) {y : α} (hg : get nm n l = some y) : ∃ hl : lo nm n l < l.length, l[lo nm n l] = y ∧ nm y = n := by
  rw [get_lo h] at hg
  cases hi : l[lo nm n l]? with
  | none => rw [hi] at hg; cases hg
  | some z =>
    rw [hi] at hg
    obtain ⟨hl, he⟩ := List.getElem?_eq_some_iff.1 hi
    have hz := Option.filter_eq_some_iff.1 hg
    injection hz.1 with h1
    subst h1
    exact ⟨hl, he, by simpa using hz.2⟩
theorem no_lo (h : Up nm l) (hg : get nm n l = none) (hl : lo nm n l < l.length) : nm l[lo nm n l] ≠ n := fun e => get_none hg _ (List.getElem_mem hl) e
theorem split_lo (hl : lo nm n l < l.length) : l = l.take (lo nm n l) ++ l[lo nm n l] :: l.drop (lo nm n l + 1) := by
  rw [← List.drop_eq_getElem_cons hl, List.take_append_drop]
theorem ne_head (h : Up nm l) {k : Nat} (hl : k < l.length) : (∀ z ∈ l.take k, nm z ≠ nm l[k]) ∧ ∀ z ∈ l.drop (k + 1), nm z ≠ nm l[k] := by
  have hp := List.pairwise_iff_getElem.1 h
  constructor
  · intro z hz
    obtain ⟨j, hj, rfl⟩ := List.getElem_of_mem hz
    rw [List.length_take] at hj
    rw [List.getElem_take]
    intro e
    have := hp j k (by omega) hl (by omega)
    rw [e] at this
    exact List.lt_irrefl _ this
  · intro z hz
    obtain ⟨j, hj, rfl⟩ := List.getElem_of_mem hz
    rw [List.length_drop] at hj
    rw [List.getElem_drop]
    intro e
    have := hp k (k + 1 + j) hl (by omega) (by omega)
    rw [e] at this
    exact List.lt_irrefl _ this
theorem del_at (h : Up nm l) {k : Nat} (hl : k < l.length) : del nm (nm l[k]) l = l.take k ++ l.drop (k + 1) := by
  have e : l = l.take k ++ l[k] :: l.drop (k + 1) := by rw [← List.drop_eq_getElem_cons hl, List.take_append_drop]
  obtain ⟨h1, h2⟩ := ne_head h hl
  generalize l[k] = y at *
  unfold del
  conv => lhs; rw [e]
  rw [List.filter_append, List.filter_cons_of_neg (by simp), List.filter_eq_self.2 fun z hz => by simpa using h1 z hz, List.filter_eq_self.2 fun z hz => by simpa using h2 z hz]
theorem upd_at (h : Up nm l) {k : Nat} (hl : k < l.length) {x : α} (hx : nm l[k] = nm x) : upd nm x l = l.set k x := by
  unfold upd
  refine List.ext_getElem (by simp) fun j h1 h2 => ?_
  rw [List.getElem_map, List.getElem_set]
  have hj : j < l.length := by simpa using h1
  by_cases hjk : k = j
  · subst hjk; rw [if_pos rfl, if_pos hx]
  · rw [if_neg hjk, if_neg]
    intro e
    have e := e.trans hx.symm
    have hp := List.pairwise_iff_getElem.1 h
    rcases Nat.lt_or_gt_of_ne hjk with h3 | h3
    · have := hp k j hl hj h3; rw [e] at this; exact List.lt_irrefl _ this
    · have := hp j k hj hl h3; rw [e] at this; exact List.lt_irrefl _ this
end
end Nmd
end Go.Proofs.YtcfdlfedmbmidaaDoor
