/- A []bool that came in. -/
import Derived.Test.YtafeealbdpmdkaaDoorClose
import Derived.Deep.Slices
set_option linter.unusedSimpArgs false
set_option linter.unusedVariables false
set_option linter.unusedSectionVars false
namespace Go.Proofs.YtafeealbdpmdkaaDoor
open Go.ChangeShapes Go.WideShapes Go.ChangeAt Go.RowKit Go.WideMaps Go.WideElems
theorem Tryd.cells4 : Tryd.prog.cellsOf 4 = 1 := by kernel_rfl
namespace Close
variable {H : Type} {enc : TypeId × Value → H}
theorem open_bools {P : Program} {W : World} {base : Nat} {t e : TypeId} {v : Value} {d : DataW H} {p : List MemPlace}
    (ht : P.underlying t = some (.slice e)) (he : P.underlying e = some .bool) (hc : P.cellsOf e = 1) (hv : Value.okWide P W .any base t v)
    (h : DataW.Trod enc P W 0 (fun _ => true) true t v d p) :
    ∃ A n c, ∃ l : List Bool, v = .slice A n c ∧ (l.length = n ∧ n ≤ maxLen ∧ Rd W A (l.map Value.bool)) := by
  obtain ⟨a0, len, cap, rfl⟩ := okWide_slice ht hv
  obtain ⟨fuel, hf⟩ := h
  rcases Go.Deep.open_slice1 ht hc hf with ⟨hcs, _⟩ | ⟨a, len', cap', m, n, V, D, Pl, hcs, _, hlc, hcm, hm, _, hcell⟩
  · simp only [Value.cells, List.cons.injEq, and_true] at hcs
    injection hcs with e1 e2 e3
    subst e1 e2 e3
    exact ⟨none, 0, 0, [], rfl, rfl, Nat.zero_le _, Rd.nil_ _ _⟩
  · simp only [Value.cells, List.cons.injEq, and_true] at hcs
    injection hcs with e1 e2 e3
    subst e1 e2 e3
    simp only [if_true] at hm
    subst hm
    have key : ∀ i, i < len → ∃ b : Bool, W.cell? (a.add i) = some (.bool b) := by
      intro i hi
      obtain ⟨h1, h2⟩ := hcell i (by omega)
      obtain ⟨b, hb, _⟩ := DataW.trod_bool he h2
      simp only [List.cons.injEq, and_true] at hb
      exact ⟨b, by rw [h1, hb]⟩
    let f : Nat → Bool := fun i => if hi : i < len then Classical.choose (key i hi) else false
    have hfs : ∀ i (hi : i < len), W.cell? (a.add i) = some (.bool (f i)) := by
      intro i hi
      show W.cell? (a.add i) = some (.bool (if hi : i < len then Classical.choose (key i hi) else false))
      simp only [dif_pos hi]
      exact Classical.choose_spec (key i hi)
    refine ⟨some a, len, m, (List.range len).map f, rfl, by rw [List.length_map, List.length_range], by omega, fun k hk => ?_⟩
    have hk' : k < len := by simpa using hk
    have hc' := hfs k hk'
    refine ⟨a, rfl, ?_, ?_⟩
    · have := World.block_lt_of_cell? W _ hc'
      have e : (a.add k).block = a.block := by unfold Addr.add; split <;> rfl
      rw [e] at this; exact this
    · rw [hc']
      simp
end Close
end Go.Proofs.YtafeealbdpmdkaaDoor
