/- A slice of header fields that came in. -/
import Derived.Test.YtglnefmaphajaaaDoorClose
import Derived.Test.YtglnefmaphajaaaDoorFieldE
import Derived.Deep.Slices
import Derived.OpenShut
set_option linter.unusedSimpArgs false
set_option linter.unusedVariables false
set_option linter.unusedSectionVars false
namespace Go.Proofs.YtglnefmaphajaaaDoor
open Go.ChangeShapes Go.WideShapes Go.ChangeAt Go.RowKit Go.WideMaps Go.WideElems
namespace Tst
variable {H : Type} {enc : TypeId × Value → H}
theorem part {P : Program} {w : World} {base : Nat} {spare : Nat → Bool} {held : Bool} {n : Nat} {fs : Array Field} {cs : List Value} {xs : List (DataW H × List MemPlace)} (hl : xs.length = fs.size)
    (hf : ∀ (i : Nat) (f : Field), fs[i]? = some f → DataW.trod enc P w base spare held n f.type ((cs.drop f.offset).take (P.cellsOf f.type)) = xs[i]?)
    (i o m : Nat) (t : TypeId) (h : (fs[i]?).map (fun f => (f.type, f.offset, P.cellsOf f.type)) = some (t, o, m)) : ∃ y, DataW.trod enc P w base spare held n t ((cs.drop o).take m) = some y := by
  obtain ⟨f, hfi, hp⟩ := Option.map_eq_some_iff.1 h
  simp only [Prod.mk.injEq] at hp
  obtain ⟨rfl, rfl, rfl⟩ := hp
  have hi : i < xs.length := by
    rw [hl]
    exact (Array.getElem?_eq_some_iff.1 hfi).1
  exact ⟨xs[i], by rw [hf i f hfi, List.getElem?_eq_getElem hi]⟩
theorem take_split (l : List Value) (o m : Nat) : l.drop o = (l.drop o).take m ++ l.drop (o + m) := by
  rw [← List.drop_drop, List.take_append_drop]
theorem open_row {w : World} {base : Nat} {spare : Nat → Bool} {held : Bool} {fuel : Nat} {cs : List Value} {x : DataW H × List MemPlace} (h : DataW.trod enc Tryd.prog w base spare held fuel 35 cs = some x) :
    ∃ f : Fld, cs = [.string f.1, .string f.2] := by
  obtain ⟨xs, n, _, _, hl, hx, hf⟩ := DataW.trod_struct Tryd.fldUnd h
  have hl : cs.length = 2 := hl.trans (by kernel_rfl)
  obtain ⟨y0, h0⟩ := part hx hf 0 0 1 9 (by kernel_rfl)
  obtain ⟨y1, h1⟩ := part hx hf 1 1 1 9 (by kernel_rfl)
  obtain ⟨a, e0, _, _⟩ := DataW.trod_string Tryd.underlying9 h0
  obtain ⟨b, e1, _, _⟩ := DataW.trod_string Tryd.underlying9 h1
  refine ⟨(a, b), ?_⟩
  have s0 := take_split cs 0 1
  have s1 := take_split cs 1 1
  have s2 : cs.drop 2 = [] := List.drop_of_length_le (by omega)
  rw [List.drop_zero] at s0 e0
  simp only [Nat.reduceAdd, Nat.zero_add] at s0 s1
  refine s0.trans ?_
  rw [e0, s1, e1, s2]
  rfl
theorem open_flds {W : World} {base : Nat} {v : Value} {d : DataW H} {p : List MemPlace} (hv : Value.okWide Tryd.prog W .any base 22 v)
    (h : DataW.Trod enc Tryd.prog W 0 (fun _ => true) true 22 v d p) : ∃ (A : Option Addr) (cap : Nat) (fs : List Fld), v = .slice A fs.length cap ∧ Fl W A fs := by
  obtain ⟨a0, len, cap, rfl⟩ := okWide_slice Tryd.underlying22 hv
  obtain ⟨fuel, hf⟩ := h
  rcases Go.Deep.open_slice Tryd.underlying22 hf with ⟨hcs, _⟩ | ⟨a, len', cap', m, n, D, Pl, hcs, _, hlc, hcm, hm, _, hcell⟩
  · simp only [Value.cells, List.cons.injEq, and_true] at hcs
    injection hcs with e1 e2 e3
    subst e1 e2 e3
    exact ⟨none, 0, [], rfl, fun k hk => by cases hk⟩
  · simp only [Value.cells, List.cons.injEq, and_true] at hcs
    injection hcs with e1 e2 e3
    subst e1 e2 e3
    simp only [if_true] at hm
    subst hm
    have hc2 : Tryd.prog.cellsOf 35 = 2 := by kernel_rfl
    rw [hc2] at hcell
    have key : ∀ i, i < len → ∃ f : Fld, W.cell? ((a.add (i * 2)).add 0) = some (.string f.1) ∧ W.cell? ((a.add (i * 2)).add 1) = some (.string f.2) := by
      intro i hi
      obtain ⟨cs', hc, ht⟩ := hcell i (by omega)
      obtain ⟨f, rfl⟩ := open_row ht
      have h3 := (World.cells?_some hc).2.2
      exact ⟨f, (h3 0 (by omega)).trans rfl, (h3 1 (by omega)).trans rfl⟩
    let f : Nat → Fld := fun i => if hi : i < len then Classical.choose (key i hi) else (⟨#[]⟩, ⟨#[]⟩)
    have hfs : ∀ i (hi : i < len), W.cell? ((a.add (i * 2)).add 0) = some (.string (f i).1) ∧ W.cell? ((a.add (i * 2)).add 1) = some (.string (f i).2) := by
      intro i hi
      show W.cell? ((a.add (i * 2)).add 0) = some (.string (if hi : i < len then Classical.choose (key i hi) else (⟨#[]⟩, ⟨#[]⟩)).1) ∧ W.cell? ((a.add (i * 2)).add 1) = some (.string (if hi : i < len then Classical.choose (key i hi) else (⟨#[]⟩, ⟨#[]⟩)).2)
      simp only [dif_pos hi]
      exact Classical.choose_spec (key i hi)
    refine ⟨some a, m, (List.range len).map f, by rw [List.length_map, List.length_range], fun k hk => ?_⟩
    have hkl : k < len := by simpa using hk
    have hspot : a.spot = none := by
      have h0 := (hfs 0 (by omega)).1
      rw [Nat.zero_mul] at h0
      have e : (a.add 0).add 0 = a := by simp [Addr.add]
      rw [e] at h0
      unfold World.cell? at h0
      cases hs : a.spot with
      | none => rfl
      | some q => rw [hs] at h0; simp at h0; split at h0 <;> cases h0
    obtain ⟨g, o, sp⟩ := a
    simp only at hspot
    subst hspot
    obtain ⟨h1, h2⟩ := hfs k hkl
    rw [Addr.add_mid, Addr.add_mid] at h1 h2
    have hg := World.block_lt_of_cell? W _ h1
    refine ⟨g, o, rfl, hg, ?_, ?_⟩
    · rw [List.getElem_map, List.getElem_range]
      exact h1
    · rw [List.getElem_map, List.getElem_range]
      exact h2
end Tst
end Go.Proofs.YtglnefmaphajaaaDoor
