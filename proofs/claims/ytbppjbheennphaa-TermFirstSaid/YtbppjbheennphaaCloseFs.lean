/- A []float64 that came in. -/
import Derived.Test.YtbppjbheennphaaCloseF
import Derived.Deep.Slices
set_option linter.unusedSimpArgs false
set_option linter.unusedVariables false
set_option linter.unusedSectionVars false
namespace Go.Proofs.Ytbppjbheennphaa
open Go.ChangeShapes Go.WideShapes Go.ChangeAt Go.RowKit Go.WideMaps Go.WideElems
theorem Try.cells22 : Try.prog.cellsOf 22 = 1 := by kernel_rfl
namespace Close
variable {H : Type} {enc : TypeId × Value → H}
theorem open_floats {P : Program} {W : World} {base : Nat} {t e : TypeId} {v : Value} {d : DataW H} {p : List MemPlace}
    (ht : P.underlying t = some (.slice e)) (he : P.underlying e = some (.float .f64)) (hc : P.cellsOf e = 1) (hv : Value.okWide P W .any base t v)
    (h : DataW.Trod enc P W 0 (fun _ => true) true t v d p) :
    ∃ A n c, ∃ l : List Nat, v = .slice A n c ∧ (l.length = n ∧ n ≤ maxLen ∧ Rd W A (l.map fun b => Value.float .f64 b) ∧ ∀ b ∈ l, b < 18446744073709551616) := by
  obtain ⟨a0, len, cap, rfl⟩ := okWide_slice ht hv
  obtain ⟨fuel, hf⟩ := h
  rcases Go.Deep.open_slice1 ht hc hf with ⟨hcs, _⟩ | ⟨a, len', cap', m, n, V, D, Pl, hcs, _, hlc, hcm, hm, _, hcell⟩
  · simp only [Value.cells, List.cons.injEq, and_true] at hcs
    injection hcs with e1 e2 e3
    subst e1 e2 e3
    exact ⟨none, 0, 0, [], rfl, rfl, Nat.zero_le _, Rd.nil_ _ _, fun s h => by cases h⟩
  · simp only [Value.cells, List.cons.injEq, and_true] at hcs
    injection hcs with e1 e2 e3
    subst e1 e2 e3
    simp only [if_true] at hm
    subst hm
    have key : ∀ i, i < len → ∃ b : Nat, b < 18446744073709551616 ∧ W.cell? (a.add i) = some (.float .f64 b) := by
      intro i hi
      obtain ⟨h1, h2⟩ := hcell i (by omega)
      obtain ⟨b, hb, _, hw⟩ := trod_float he h2
      simp only [List.cons.injEq, and_true] at hb
      exact ⟨b, by simpa [Lit.wf] using hw, by rw [h1, hb]⟩
    let f : Nat → Nat := fun i => if hi : i < len then Classical.choose (key i hi) else 0
    have hfs : ∀ i (hi : i < len), f i < 18446744073709551616 ∧ W.cell? (a.add i) = some (.float .f64 (f i)) := by
      intro i hi
      show (if hi : i < len then Classical.choose (key i hi) else 0) < 18446744073709551616 ∧ W.cell? (a.add i) = some (.float .f64 (if hi : i < len then Classical.choose (key i hi) else 0))
      simp only [dif_pos hi]
      exact Classical.choose_spec (key i hi)
    refine ⟨some a, len, m, (List.range len).map f, rfl, by rw [List.length_map, List.length_range], by omega, fun k hk => ?_, ?_⟩
    · have hk' : k < len := by simpa using hk
      have hc' := (hfs k hk').2
      refine ⟨a, rfl, ?_, ?_⟩
      · have := World.block_lt_of_cell? W _ hc'
        have e : (a.add k).block = a.block := by unfold Addr.add; split <;> rfl
        rw [e] at this; exact this
      · rw [hc']
        simp
    · intro b hb
      obtain ⟨i, hi, rfl⟩ := List.mem_map.1 hb
      exact (hfs i (List.mem_range.1 hi)).1
end Close
end Go.Proofs.Ytbppjbheennphaa
