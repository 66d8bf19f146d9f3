/- A range over a function: one round, its end, the statement. -/
import Derived.RangeFuncNested
import Derived.RangeFuncBound
import Derived.RangeFuncCalls
import Derived.RangeFuncLeaves
import Derived.RangeFuncGives
import Derived.Shelf.Abstract
import Derived.Shelf.RegionOpen
import Derived.OwnWalkIn
import Derived.TacticsInMore
import Derived.LoopNIn
import Derived.LoopIn
import Derived.Test.YtjkhfnfimicffaaBlk
set_option linter.unusedSimpArgs false
set_option linter.unusedVariables false
set_option linter.unusedSectionVars false
namespace Go.Proofs.Ytjkhfnfimicffaa
open Go Go.RowKit
attribute [local go_sem] Oper.semAt_some
namespace Rf
abbrev Lp (fn : FuncId) (tmps : Array Value) (p : Tmp) (assign body : Code) (D : Nat) (st : LoopState) (pe : Option Code) : Obj :=
  .loop { state := st, pending := pe, fn := fn, tmps := tmps, params := #[p], assign := assign, body := body, defers := D }
/-- how a round ends -/
def RPost (l : Nat) (ready busy done : Obj) (R : Ending → World → Prop) : Exit → Act → World → Prop
  | .normal, _, W3 => W3.heap[l]? = some busy ∧ R (.returned (.bool true)) (W3.putObj l ready)
  | .ret, _, W3 => W3.heap[l]? = some busy ∧ R (.returned (.bool false)) (W3.putObj l done)
  | _, _, _ => False
theorem rf_round {P : Program} {n l D p : Nat} {fn : FuncId} {tmps : Array Value} {assign body : Code} {x : Value} {W : World} {R : Ending → World → Prop} {a1 : Act} {rec : LoopState → Option Code → Obj} (hrec : rec = fun st pe => Lp fn tmps p assign body D st pe)
    (hl : W.heap[l]? = some (rec .ready none))
    (hasg : ∀ K : Act → World → Prop, K a1 W → assign.wpIn (Fence.wide.inRound l) n P (Exit.then K (fun _ _ _ => False)) { tmps := tmps.setIfInBounds p x, defers := [] } W)
    (hbody : body.wpIn (Fence.wide.inRound l) n P (RPost l (rec .ready none) (rec .busy none) (rec .done (some .ret)) R) a1 (W.putObj l (rec .busy none))) :
    YieldAt Fence.wide n P l #[x] W R := by
  subst hrec
  refine ⟨fn, _, assign, body, run_yield hl rfl, roundIn_of_wpIn trivial ?_⟩
  have e : ((#[p].zip #[x]).foldl (fun (tmps : Array Value) (y : Tmp × Value) => tmps.setIfInBounds y.1 y.2) tmps) = tmps.setIfInBounds p x := by simp
  show assign.wpIn _ _ _ _ { tmps := (#[p].zip #[x]).foldl (fun (tmps : Array Value) (y : Tmp × Value) => tmps.setIfInBounds y.1 y.2) tmps, defers := [] } W
  rw [e]
  refine hasg _ ?_
  refine ⟨_, run_beginRound hl rfl, wpIn_mono hbody ?_⟩
  intro e a3 W3 h
  cases e with
  | normal => exact ⟨_, _, run_endRound none h.1, h.2⟩
  | ret => exact ⟨_, _, run_endRound (some .ret) h.1, h.2⟩
  | exit _ => exact h.elim
  | goto _ => exact h.elim
  | panic _ => exact h.elim
  | outgrown => exact h.elim
theorem rf_end {P : Program} {l D p : Nat} {fn : FuncId} {tmps : Array Value} {assign body : Code} {W : World} {rec : LoopState → Option Code → Obj} {st : LoopState} {pe : Option Code} (hrec : rec = fun st pe => Lp fn tmps p assign body D st pe)
    (hl : W.heap[l]? = some (rec st pe)) (hst : st ≠ .busy) : (Instr.endLoop l).run P W = .ok pe (W.putObj l (rec .exhausted pe)) := by
  subst hrec
  exact run_endLoop hl hst
theorem rf_stmt {P : Program} {n p : Nat} {g : Operand} {assign body : Code} {Q : Exit → Act → World → Prop} {a : Act} {w : World} {gf : FuncId} {lb : Array Value}
    (hg : a.eval g = .func (.func gf) #[] lb) (eg : ∀ args w, (callFunc gf args).run P w = .ok (.enter gf args) w)
    (hcall : ∀ (fn : FuncId) (rec : LoopState → Option Code → Obj), rec = (fun st pe => Lp fn a.tmps p assign body w.heap.size st pe) → CallsIn Fence.wide (n - 1) P gf (#[.func (.yield (w.heap.size + 1)) #[] #[]] ++ lb)
      ((w.alloc (.deferred (some []))).alloc (rec .ready none))
      (rangePost Fence.wide n P (w.heap.size + 1) Q { a with defers := [{ target := .collected w.heap.size, args := #[] }] ++ a.defers })) :
    (Code.rangeFunc g #[p] assign body).wpIn Fence.wide n P Q a w := by
  refine wpIn_rangeFunc ?_
  intro fn _
  have hc := hcall fn _ rfl
  obtain ⟨W1, hW1⟩ : ∃ W1, (w.alloc (.deferred (some []))).alloc (Lp fn a.tmps p assign body w.heap.size .ready none) = W1 := ⟨_, rfl⟩
  rw [hW1] at hc
  have h1 : (Instr.enterLoop fn a.tmps #[p] assign body Fence.wide.round).run P w = .ok (w.heap.size + 1, [{ target := .collected w.heap.size, args := #[] }]) W1 := by
    rw [← hW1]; exact run_enterLoop_outer _ _ _ _ _
  have h2 : (resolve a.eval (rangeCall g (w.heap.size + 1)) 0).run P W1 = .ok { target := .fn (.func gf) lb, args := #[.func (.yield (w.heap.size + 1)) #[] #[]] } W1 := by
    simp only [resolve, hg]
    simp [go_sem]
  have h3 : (invoke (Target.fn (.func gf) lb) #[.func (.yield (w.heap.size + 1)) #[] #[]]).run P W1 = .ok (.enter gf (#[.func (.yield (w.heap.size + 1)) #[] #[]] ++ lb)) W1 := by
    simp [invoke, go_sem, eg]
  refine ⟨_, _, _, _, _, _, _, _, h1, h2, ?_, h3, ?_, hc⟩
  · intro _ _; trivial
  · intro h; exact absurd h (by decide)
theorem alloc_at' (w : World) (o : Obj) (n : Nat) (h : w.heap.size = n) : (w.alloc o).heap[n]? = some o := by subst h; exact heap_alloc_new w o
theorem lt_of {W : World} {k : Nat} {o : Obj} (h : W.heap[k]? = some o) : k < W.heap.size := (Array.getElem?_eq_some_iff.1 h).1
theorem put_but (W : World) (l : Nat) (o : Obj) : But l W (W.putObj l o) := grownBy_putObj' W l o
end Rf
end Go.Proofs.Ytjkhfnfimicffaa
