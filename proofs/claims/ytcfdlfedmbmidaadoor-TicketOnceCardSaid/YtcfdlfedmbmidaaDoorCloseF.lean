/- A float64 that came in. -/
import Derived.Test.YtcfdlfedmbmidaaDoorClose
set_option linter.unusedSimpArgs false
set_option linter.unusedVariables false
set_option linter.unusedSectionVars false
namespace Go.Proofs.YtcfdlfedmbmidaaDoor
open Go.ChangeShapes Go.WideShapes Go.ChangeAt Go.RowKit Go.WideMaps Go.WideElems
namespace Close
variable {H : Type} {enc : TypeId × Value → H}
theorem okWide_float {P : Program} {w : World} {r : Reach} {base : Nat} {t : TypeId} {v : Value} {k : FloatKind} (ht : P.underlying t = some (.float k)) (h : Value.okWide P w r base t v) : ∃ n, v = .float k n := by
  simp only [Value.okWide, ht, Cell.okWide] at h
  cases v <;> simp_all [Cell.ok]
theorem trod_float {P : Program} {w : World} {base : Nat} {spare : Nat → Bool} {held : Bool} {fuel : Nat} {t : TypeId} {cs : List Value} {x : DataW H × List MemPlace} {k : FloatKind} (ht : P.underlying t = some (.float k)) (h : DataW.trod enc P w base spare held fuel t cs = some x) :
    ∃ n, cs = [.float k n] ∧ x = (.lit (.float k n), []) ∧ (Lit.float k n).wf = true := by
  cases fuel with
  | zero => simp [DataW.trod] at h
  | succ n =>
    unfold DataW.trod at h
    rw [ht] at h
    split at h <;> simp_all
theorem open_float {P : Program} {w : World} {base b0 : Nat} {spare : Nat → Bool} {held : Bool} {r : Reach} {t : TypeId} {v : Value} {d : DataW H} {ps : List MemPlace} (ht : P.underlying t = some (.float .f64)) (hval : Value.okWide P w r b0 t v) (hd : DataW.Trod enc P w base spare held t v d ps) :
    ∃ n : Nat, v = .float .f64 n ∧ d = .lit (.float .f64 n) ∧ ps = [] ∧ n < 18446744073709551616 := by
  obtain ⟨n, rfl⟩ := okWide_float ht hval
  obtain ⟨fuel, hf⟩ := hd
  obtain ⟨n', h, hx, hw⟩ := trod_float ht hf
  simp [Value.cells] at h
  subst h
  simp only [Prod.mk.injEq] at hx
  refine ⟨n, rfl, hx.1, hx.2, ?_⟩
  simpa [Lit.wf] using hw
end Close
end Go.Proofs.YtcfdlfedmbmidaaDoor
