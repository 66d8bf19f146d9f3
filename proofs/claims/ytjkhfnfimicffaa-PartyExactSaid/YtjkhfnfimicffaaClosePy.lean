/- A slice of numbers that came in. -/
import Derived.Test.YtjkhfnfimicffaaClose
import Derived.Test.YtjkhfnfimicffaaPyD
import Derived.Deep.Slices
import Derived.OpenShut
set_option linter.unusedSimpArgs false
set_option linter.unusedVariables false
set_option linter.unusedSectionVars false
namespace Go.Proofs.Ytjkhfnfimicffaa
open Go.ChangeShapes Go.WideShapes Go.ChangeAt Go.RowKit Go.WideMaps Go.WideElems
theorem Try.cells3 : Try.prog.cellsOf 3 = 1 := by kernel_rfl
namespace Py
variable {H : Type} {enc : TypeId × Value → H}
theorem open_ints {P : Program} {W : World} {base : Nat} {t e : TypeId} {spare : Nat → Bool} {held : Bool} {fuel : Nat} {cs : List Value} {x : DataW H × List MemPlace}
    (ht : P.underlying t = some (.slice e)) (he : P.underlying e = some (.int .i64)) (hc : P.cellsOf e = 1) (h : DataW.trod enc P W base spare held fuel t cs = some x) :
    ∃ A c, ∃ l : List Int, cs = [.slice A l.length c] ∧ l.length ≤ c ∧ c ≤ maxLen ∧ Rd W A (l.map (Value.int .i64)) ∧ ∀ x ∈ l, -9223372036854775808 ≤ x ∧ x ≤ 9223372036854775807 := by
  rcases Go.Deep.open_slice1 ht hc h with ⟨hcs, _⟩ | ⟨a, len, cap, m, n, V, D, Pl, hcs, _, hlc, hcm, hm, _, hcell⟩
  · exact ⟨none, 0, [], hcs, Nat.le_refl _, Nat.zero_le _, Rd.nil_ _ _, fun x hx => by cases hx⟩
  · have hlm : len ≤ m := by rw [hm]; split <;> omega
    have key : ∀ i, i < len → ∃ b : Int, W.cell? (a.add i) = some (.int .i64 b) ∧ (-9223372036854775808 ≤ b ∧ b ≤ 9223372036854775807) := by
      intro i hi
      obtain ⟨h1, h2⟩ := hcell i (by omega)
      obtain ⟨b, hb, _, hw⟩ := DataW.trod_int he h2
      simp only [List.cons.injEq, and_true] at hb
      exact ⟨b, by rw [h1, hb], Close.i64_lo hw, Close.i64_hi hw⟩
    let f : Nat → Int := fun i => if hi : i < len then Classical.choose (key i hi) else 0
    have hfs : ∀ i (hi : i < len), W.cell? (a.add i) = some (.int .i64 (f i)) ∧ (-9223372036854775808 ≤ f i ∧ f i ≤ 9223372036854775807) := by
      intro i hi
      have e : f i = Classical.choose (key i hi) := dif_pos hi
      rw [e]
      exact Classical.choose_spec (key i hi)
    refine ⟨some a, cap, (List.range len).map f, by rw [hcs, List.length_map, List.length_range], by rw [List.length_map, List.length_range]; exact hlc, hcm, fun k hk => ?_, fun x hx => ?_⟩
    · skip
      have hk' : k < len := by simpa using hk
      have hc' := (hfs k hk').1
      refine ⟨a, rfl, ?_, ?_⟩
      · have := World.block_lt_of_cell? W _ hc'
        have e : (a.add k).block = a.block := by unfold Addr.add; split <;> rfl
        rw [e] at this; exact this
      · rw [hc']
        simp
    · obtain ⟨i, hi, rfl⟩ := List.mem_map.1 hx
      exact (hfs i (List.mem_range.1 hi)).2
set_option maxRecDepth 100000 in
theorem open_is {W : World} {base : Nat} {v : Value} {d : DataW H} {p : List MemPlace} (hv : Value.okWide Try.prog W .any base 22 v)
    (h : DataW.Trod enc Try.prog W 0 (fun _ => true) true 22 v d p) : ∃ (q : Option Addr) (cap : Nat) (ks : List Int), v = .slice q ks.length cap ∧ ks.length ≤ maxLen ∧ Rd W q (ks.map (Value.int .i64)) ∧ ∀ x ∈ ks, wfI x := by
  obtain ⟨a0, len, cap, rfl⟩ := okWide_slice Try.underlying22 hv
  obtain ⟨fuel, hf⟩ := h
  obtain ⟨A, c, l, e, h1, h2, h3, h4⟩ := open_ints Try.underlying22 Try.underlying3 Try.cells3 hf
  simp only [Value.cells, List.cons.injEq, and_true] at e
  injection e with e1 e2 e3
  subst e1 e2 e3
  exact ⟨_, _, l, rfl, Nat.le_trans h1 h2, h3, fun x hx => wfI_of (h4 x hx).1 (h4 x hx).2⟩
end Py
end Go.Proofs.Ytjkhfnfimicffaa
