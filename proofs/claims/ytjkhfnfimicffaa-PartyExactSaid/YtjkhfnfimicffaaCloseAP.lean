/- A slice of calls that came in. -/
import Derived.Test.YtjkhfnfimicffaaClosePy
import Derived.Test.YtjkhfnfimicffaaPyQ
set_option linter.unusedSimpArgs false
set_option linter.unusedVariables false
set_option linter.unusedSectionVars false
namespace Go.Proofs.Ytjkhfnfimicffaa
open Go.ChangeShapes Go.WideShapes Go.ChangeAt Go.RowKit Go.WideMaps Go.WideElems
namespace Py
variable {H : Type} {enc : TypeId × Value → H}
theorem part {P : Program} {w : World} {base : Nat} {spare : Nat → Bool} {held : Bool} {n : Nat} {fs : Array Field} {cs : List Value} {xs : List (DataW H × List MemPlace)} (hl : xs.length = fs.size)
    (hf : ∀ (i : Nat) (f : Field), fs[i]? = some f → DataW.trod enc P w base spare held n f.type ((cs.drop f.offset).take (P.cellsOf f.type)) = xs[i]?)
    (i o m : Nat) (t : TypeId) (h : (fs[i]?).map (fun f => (f.type, f.offset, P.cellsOf f.type)) = some (t, o, m)) : ∃ y, DataW.trod enc P w base spare held n t ((cs.drop o).take m) = some y := by
  obtain ⟨f, hfi, hp⟩ := Option.map_eq_some_iff.1 h
  simp only [Prod.mk.injEq] at hp
  obtain ⟨rfl, rfl, rfl⟩ := hp
  have hi : i < xs.length := by
    rw [hl]
    exact (Array.getElem?_eq_some_iff.1 hfi).1
  exact ⟨xs[i], by rw [hf i f hfi, List.getElem?_eq_getElem hi]⟩
theorem take_split (l : List Value) (o m : Nat) : l.drop o = (l.drop o).take m ++ l.drop (o + m) := by
  rw [← List.drop_drop, List.take_append_drop]
theorem open_pa {w : World} {base : Nat} {spare : Nat → Bool} {held : Bool} {fuel : Nat} {cs : List Value} {x : DataW H × List MemPlace} (h : DataW.trod enc Try.prog w base spare held fuel 48 cs = some x) :
    ∃ u : PA, cs = u.cells ∧ wfI u.n ∧ wfI u.who := by
  obtain ⟨xs, n, _, _, hl, hx, hf⟩ := DataW.trod_struct undPA h
  have hl : cs.length = 3 := hl.trans (by kernel_rfl)
  obtain ⟨y0, h0⟩ := part hx hf 0 0 1 3 (by kernel_rfl)
  obtain ⟨y1, h1⟩ := part hx hf 1 1 1 3 (by kernel_rfl)
  obtain ⟨y2, h2⟩ := part hx hf 2 2 1 3 (by kernel_rfl)
  obtain ⟨k, e0, _, _⟩ := DataW.trod_int Try.underlying3 h0
  obtain ⟨a, e1, _, w1⟩ := DataW.trod_int Try.underlying3 h1
  obtain ⟨b, e2, _, w2⟩ := DataW.trod_int Try.underlying3 h2
  refine ⟨⟨k, a, b⟩, ?_, w1, w2⟩
  have s0 := take_split cs 0 1
  have s1 := take_split cs 1 1
  have s2 := take_split cs 2 1
  have s3 : cs.drop 3 = [] := List.drop_of_length_le (by omega)
  rw [List.drop_zero] at s0 e0
  simp only [Nat.reduceAdd, Nat.zero_add] at s0 s1 s2
  refine s0.trans ?_
  rw [e0, s1, e1, s2, e2, s3]
  rfl
set_option maxRecDepth 100000 in
theorem open_pas {W : World} {base : Nat} {v : Value} {d : DataW H} {p : List MemPlace} (hv : Value.okWide Try.prog W .any base 42 v)
    (h : DataW.Trod enc Try.prog W 0 (fun _ => true) true 42 v d p) : ∃ (q : Option Addr) (cap : Nat) (us : List PA), v = .slice q us.length cap ∧ us.length ≤ maxLen ∧ PActs W q us := by
  obtain ⟨a0, len, cap, rfl⟩ := okWide_slice Try.underlying42 hv
  obtain ⟨fuel, hf⟩ := h
  rcases Go.Deep.open_slice Try.underlying42 hf with ⟨hcs, _⟩ | ⟨a, len', cap', m, n, D, Pl, hcs, _, hlc, hcm, hm, _, hcell⟩
  · simp only [Value.cells, List.cons.injEq, and_true] at hcs
    injection hcs with e1 e2 e3
    subst e1 e2 e3
    exact ⟨none, 0, [], rfl, Nat.zero_le _, (fun k hk => absurd hk (Nat.not_lt_zero _))⟩
  · simp only [Value.cells, List.cons.injEq, and_true] at hcs
    injection hcs with e1 e2 e3
    subst e1 e2 e3
    simp only [if_true] at hm
    subst hm
    have hc2 : Try.prog.cellsOf 48 = 3 := by kernel_rfl
    rw [hc2] at hcell
    have key : ∀ i, i < len → ∃ u : PA, (∀ j v, u.cells[j]? = some v → W.cell? ((a.add (i * 3)).add j) = some v) ∧ wfI u.n ∧ wfI u.who := by
      intro i hi
      obtain ⟨cs', hc, ht⟩ := hcell i (by omega)
      obtain ⟨u, rfl, hu⟩ := open_pa ht
      refine ⟨u, fun j v hv => ?_, hu⟩
      have := (World.cells?_some hc).2.2 j (by have := (List.getElem?_eq_some_iff.1 hv).1; exact this)
      rw [this]; exact hv
    let f : Nat → PA := fun i => if hi : i < len then Classical.choose (key i hi) else ⟨0, 0, 0⟩
    have hfs : ∀ i (hi : i < len), (∀ j v, (f i).cells[j]? = some v → W.cell? ((a.add (i * 3)).add j) = some v) ∧ wfI (f i).n ∧ wfI (f i).who := by
      intro i hi
      have e : f i = Classical.choose (key i hi) := dif_pos hi
      rw [e]
      exact Classical.choose_spec (key i hi)
    refine ⟨some a, m, (List.range len).map f, by rw [List.length_map, List.length_range], by rw [List.length_map, List.length_range]; omega, fun k hk => ?_⟩
    have hkl : k < len := by simpa using hk
    have hspot : a.spot = none := by
      have h0 := (hfs 0 (by omega)).1 0 _ rfl
      rw [Nat.zero_mul] at h0
      have e : (a.add 0).add 0 = a := by simp [Addr.add]
      rw [e] at h0
      unfold World.cell? at h0
      cases hs : a.spot with
      | none => rfl
      | some q => rw [hs] at h0; simp at h0; split at h0 <;> cases h0
    obtain ⟨g, o, sp⟩ := a
    simp only at hspot
    subst hspot
    obtain ⟨h1, h2, h3⟩ := hfs k hkl
    have hg := World.block_lt_of_cell? W _ (h1 0 _ rfl)
    rw [Addr.add_mid, Addr.add_mid] at hg
    refine ⟨g, o, rfl, hg, ?_, ?_, ?_⟩
    · rw [List.getElem_map, List.getElem_range]
      intro j v hv
      have := h1 j v hv
      rw [Addr.add_mid, Addr.add_mid] at this
      exact this
    · rw [List.getElem_map, List.getElem_range]; exact h2
    · rw [List.getElem_map, List.getElem_range]; exact h3
end Py
end Go.Proofs.Ytjkhfnfimicffaa
