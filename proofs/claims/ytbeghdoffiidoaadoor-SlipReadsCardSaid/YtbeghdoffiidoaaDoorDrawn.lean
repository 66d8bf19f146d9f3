/- A region that draws its order: operations that yield are taken first; behind them one order is left. -/
import Derived.Deep.RegionHeld
import Derived.Great.Walk
set_option linter.unusedSimpArgs false
set_option linter.unusedVariables false
set_option linter.unusedSectionVars false
namespace Go.Proofs.YtbeghdoffiidoaaDoor
open Go Go.RowKit
namespace Drawn
variable {P : Program} {md : Region.Mode} {ops : Array Oper} {Q : Exit → Act → World → Prop}
def One (_ : World) : Prop := True
def chain (md : Region.Mode) (ops : Array Oper) : List Nat → Array Bool → Bool
  | [], listed => (Region.ready md ops listed).isEmpty
  | i :: r, listed => (Region.ready md ops listed == [i]) && chain md ops r (listed.setIfInBounds i true)
theorem of_list (is : List Nat) (l : List Oper) : ∀ (listed : Array Bool) (a : Act) (w : World) (fuel : Nat), is.map (fun i => ops[i]?) = l.map some → chain md ops is listed = true → is.length ≤ fuel → wpList P ops Q l a w → wpAnyH P md ops Q One fuel listed a w := by
  induction is generalizing l with
  | nil =>
    intro listed a w fuel hl hc _ h
    cases l with
    | cons o l => cases hl
    | nil => exact wpAnyH_done (by simpa [chain] using hc) h fuel
  | cons i is ih =>
    intro listed a w fuel hl hc hf h
    cases l with
    | nil => cases hl
    | cons o l =>
      simp only [List.map_cons, List.cons.injEq] at hl
      simp only [chain, Bool.and_eq_true, beq_iff_eq] at hc
      cases fuel with
      | zero => simp at hf
      | succ fuel =>
        refine wpAnyH_all hc.1 (by simp) fun j hj => ?_
        rw [List.mem_singleton.1 hj]
        unfold wpList at h
        have hk : ∀ a' w', wpList P ops Q l a' w' → One w' ∧ wpAnyH P md ops Q One fuel (listed.setIfInBounds i true) a' w' := fun a' w' h' => ⟨trivial, ih l _ a' w' fuel hl.2 hc.2 (by simpa using hf) h'⟩
        unfold wpOp
        rw [hl.1]
        simp only
        split at h
        · rename_i hw
          rw [if_pos hw]
          rcases h with h | h
          · exact .inl (Oper.wp_mono hk h)
          · exact .inr h
        · rename_i hw
          rw [if_neg hw]
          exact hk _ _ h
end Drawn
end Go.Proofs.YtbeghdoffiidoaaDoor
