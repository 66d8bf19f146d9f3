/- PartyOnce, plainly; the calls as they lie. -/
import Derived.Test.YtjkhfnfimicffaaPyO
set_option linter.unusedSimpArgs false
set_option linter.unusedVariables false
set_option linter.unusedSectionVars false
namespace Go.Proofs.Ytjkhfnfimicffaa
open Go Go.RowKit
namespace Py
/-- what the law asks of a Join's answer -/
theorem join_once {p : P} (h : Good p) (k : Ky) (x : Int) :
    ((p.join k x).1.2.1 = true → p.last < (p.join k x).1.1) ∧ ((p.join k x).1.2.2 = 0 → (p.join k x).1.2.1 = false → (p.join k x).1.1 ≤ p.last) ∧ max p.last (p.join k x).1.1 = (p.join k x).2.last ∧ (p.join k x).2.most = p.most := by
  have h0 := h.last
  unfold Py.P.join
  cases hw : wh x p.fs with
  | some f => exact ⟨fun e => (nomatch e), fun e => (nomatch e), by show max p.last 0 = p.last; omega, rfl⟩
  | none =>
    cases hf : find k p.fs with
    | some f =>
      have h1 := h.le f (find_some hf).1
      exact ⟨fun e => (nomatch e), fun _ _ => h1.2, by show max p.last f.id = p.last; omega, rfl⟩
    | none =>
      dsimp only
      split
      · exact ⟨fun e => (nomatch e), fun e => (nomatch e), by show max p.last 0 = p.last; omega, rfl⟩
      · exact ⟨fun _ => by show p.last < p.last + 1; omega, fun _ e => (nomatch e), by show max p.last (p.last + 1) = p.last + 1; omega, rfl⟩
theorem leave_once (p : P) (x : Int) : (p.leave x).2.last = p.last ∧ (p.leave x).2.most = p.most := by
  unfold Py.P.leave
  split
  · exact ⟨rfl, rfl⟩
  · dsimp only
    split <;> exact ⟨rfl, rfl⟩
theorem end_once (p : P) (i : Int) : (p.end_ i).2.last = p.last ∧ (p.end_ i).2.most = p.most := by
  unfold Py.P.end_
  split <;> exact ⟨rfl, rfl⟩
/-- a call: its kind, its key's number, who -/
structure PA where
  k : Int
  n : Int
  who : Int
def PA.cells (u : PA) : List Value := [.int .i64 u.k, .int .i64 u.n, .int .i64 u.who]
def PActs (w : World) (q : Option Addr) (us : List PA) : Prop := ∀ j (h : j < us.length), ∃ g o, q = some ⟨g, o, none⟩ ∧ g < w.heap.size ∧ w.rangeAt g (o + j * 3) us[j].cells ∧ wfI us[j].n ∧ wfI us[j].who
theorem undPA : Try.prog.underlying 48 = some (.struct (Try.prog.fieldsOf 48)) := by kernel_rfl
theorem sizePA : (Try.prog.info? 48).map (·.size) = some 3 := by kernel_rfl
end Py
end Go.Proofs.Ytjkhfnfimicffaa
