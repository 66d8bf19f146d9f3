/- A slice of acts that came in. -/
import Derived.Test.YtbiikihapfpkfaaClose
import Derived.Test.YtbiikihapfpkfaaPlkA
import Derived.Deep.Slices
import Derived.OpenShut
set_option linter.unusedSimpArgs false
set_option linter.unusedVariables false
set_option linter.unusedSectionVars false
namespace Go.Proofs.Ytbiikihapfpkfaa
open Go.ChangeShapes Go.WideShapes Go.ChangeAt Go.RowKit Go.WideMaps Go.WideElems
theorem Try.cells3 : Try.prog.cellsOf 3 = 1 := by kernel_rfl
namespace Plk
variable {H : Type} {enc : TypeId × Value → H}
theorem part {P : Program} {w : World} {base : Nat} {spare : Nat → Bool} {held : Bool} {n : Nat} {fs : Array Field} {cs : List Value} {xs : List (DataW H × List MemPlace)} (hl : xs.length = fs.size)
    (hf : ∀ (i : Nat) (f : Field), fs[i]? = some f → DataW.trod enc P w base spare held n f.type ((cs.drop f.offset).take (P.cellsOf f.type)) = xs[i]?)
    (i o m : Nat) (t : TypeId) (h : (fs[i]?).map (fun f => (f.type, f.offset, P.cellsOf f.type)) = some (t, o, m)) : ∃ y, DataW.trod enc P w base spare held n t ((cs.drop o).take m) = some y := by
  obtain ⟨f, hfi, hp⟩ := Option.map_eq_some_iff.1 h
  simp only [Prod.mk.injEq] at hp
  obtain ⟨rfl, rfl, rfl⟩ := hp
  have hi : i < xs.length := by
    rw [hl]
    exact (Array.getElem?_eq_some_iff.1 hfi).1
  exact ⟨xs[i], by rw [hf i f hfi, List.getElem?_eq_getElem hi]⟩
theorem take_split (l : List Value) (o m : Nat) : l.drop o = (l.drop o).take m ++ l.drop (o + m) := by
  rw [← List.drop_drop, List.take_append_drop]
theorem open_ints {P : Program} {W : World} {base : Nat} {t e : TypeId} {spare : Nat → Bool} {held : Bool} {fuel : Nat} {cs : List Value} {x : DataW H × List MemPlace}
    (ht : P.underlying t = some (.slice e)) (he : P.underlying e = some (.int .i64)) (hc : P.cellsOf e = 1) (h : DataW.trod enc P W base spare held fuel t cs = some x) :
    ∃ A c, ∃ l : List Int, cs = [.slice A l.length c] ∧ l.length ≤ c ∧ c ≤ maxLen ∧ Rd W A (l.map (Value.int .i64)) ∧ ∀ x ∈ l, -9223372036854775808 ≤ x ∧ x ≤ 9223372036854775807 := by
  rcases Go.Deep.open_slice1 ht hc h with ⟨hcs, _⟩ | ⟨a, len, cap, m, n, V, D, Pl, hcs, _, hlc, hcm, hm, _, hcell⟩
  · exact ⟨none, 0, [], hcs, Nat.le_refl _, Nat.zero_le _, Rd.nil_ _ _, fun x hx => by cases hx⟩
  · have hlm : len ≤ m := by rw [hm]; split <;> omega
    have key : ∀ i, i < len → ∃ b : Int, W.cell? (a.add i) = some (.int .i64 b) ∧ (-9223372036854775808 ≤ b ∧ b ≤ 9223372036854775807) := by
      intro i hi
      obtain ⟨h1, h2⟩ := hcell i (by omega)
      obtain ⟨b, hb, _, hw⟩ := DataW.trod_int he h2
      simp only [List.cons.injEq, and_true] at hb
      exact ⟨b, by rw [h1, hb], Close.i64_lo hw, Close.i64_hi hw⟩
    let f : Nat → Int := fun i => if hi : i < len then Classical.choose (key i hi) else 0
    have hfs : ∀ i (hi : i < len), W.cell? (a.add i) = some (.int .i64 (f i)) ∧ (-9223372036854775808 ≤ f i ∧ f i ≤ 9223372036854775807) := by
      intro i hi
      have e : f i = Classical.choose (key i hi) := dif_pos hi
      rw [e]
      exact Classical.choose_spec (key i hi)
    refine ⟨some a, cap, (List.range len).map f, by rw [hcs, List.length_map, List.length_range], by rw [List.length_map, List.length_range]; exact hlc, hcm, fun k hk => ?_, fun x hx => ?_⟩
    · skip
      have hk' : k < len := by simpa using hk
      have hc' := (hfs k hk').1
      refine ⟨a, rfl, ?_, ?_⟩
      · have := World.block_lt_of_cell? W _ hc'
        have e : (a.add k).block = a.block := by unfold Addr.add; split <;> rfl
        rw [e] at this; exact this
      · rw [hc']
        simp
    · obtain ⟨i, hi, rfl⟩ := List.mem_map.1 hx
      exact (hfs i (List.mem_range.1 hi)).2
theorem open_row {w : World} {base : Nat} {spare : Nat → Bool} {held : Bool} {fuel : Nat} {cs : List Value} {x : DataW H × List MemPlace} (h : DataW.trod enc Try.prog w base spare held fuel 41 cs = some x) :
    ∃ u : A, cs = u.cells ∧ u.keeps w ∧ ∀ x ∈ u.ks, -9223372036854775808 ≤ x ∧ x ≤ 9223372036854775807 := by
  obtain ⟨xs, n, _, _, hl, hx, hf⟩ := DataW.trod_struct Try.actUnd h
  have hl : cs.length = 8 := hl.trans (by kernel_rfl)
  obtain ⟨y0, h0⟩ := part hx hf 0 0 1 3 (by kernel_rfl)
  obtain ⟨y1, h1⟩ := part hx hf 1 1 1 9 (by kernel_rfl)
  obtain ⟨y2, h2⟩ := part hx hf 2 2 1 9 (by kernel_rfl)
  obtain ⟨y3, h3⟩ := part hx hf 3 3 1 9 (by kernel_rfl)
  obtain ⟨y4, h4⟩ := part hx hf 4 4 1 3 (by kernel_rfl)
  obtain ⟨y5, h5⟩ := part hx hf 5 5 1 3 (by kernel_rfl)
  obtain ⟨y6, h6⟩ := part hx hf 6 6 1 3 (by kernel_rfl)
  obtain ⟨y7, h7⟩ := part hx hf 7 7 1 39 (by kernel_rfl)
  obtain ⟨k, e0, _, _⟩ := DataW.trod_int Try.underlying3 h0
  obtain ⟨nm, e1, _, _⟩ := DataW.trod_string Try.underlying9 h1
  obtain ⟨to, e2, _, _⟩ := DataW.trod_string Try.underlying9 h2
  obtain ⟨s, e3, _, _⟩ := DataW.trod_string Try.underlying9 h3
  obtain ⟨x4, e4, _, _⟩ := DataW.trod_int Try.underlying3 h4
  obtain ⟨x5, e5, _, _⟩ := DataW.trod_int Try.underlying3 h5
  obtain ⟨x6, e6, _, _⟩ := DataW.trod_int Try.underlying3 h6
  obtain ⟨ka, kc, ks, e7, k1, k2, k3, k4⟩ := open_ints Try.underlying39 Try.underlying3 Try.cells3 h7
  refine ⟨⟨k, nm.data.toList, to.data.toList, s.data.toList, x4, x5, x6, ka, kc, ks⟩, ?_, ⟨k3, k1, k2⟩, k4⟩
  have s0 := take_split cs 0 1
  have s1 := take_split cs 1 1
  have s2 := take_split cs 2 1
  have s3 := take_split cs 3 1
  have s4 := take_split cs 4 1
  have s5 := take_split cs 5 1
  have s6 := take_split cs 6 1
  have s7 := take_split cs 7 1
  have s8 : cs.drop 8 = [] := List.drop_of_length_le (by omega)
  rw [List.drop_zero] at s0 e0
  simp only [Nat.reduceAdd, Nat.zero_add] at s0 s1 s2 s3 s4 s5 s6 s7
  refine s0.trans ?_
  rw [e0, s1, e1, s2, e2, s3, e3, s4, e4, s5, e5, s6, e6, s7, e7, s8]
  rfl
set_option maxRecDepth 100000 in
theorem open_acts2 {W : World} {base : Nat} {v : Value} {d : DataW H} {p : List MemPlace} (hv : Value.okWide Try.prog W .any base 38 v)
    (h : DataW.Trod enc Try.prog W 0 (fun _ => true) true 38 v d p) : ∃ (q : Option Addr) (cap : Nat) (us : List Plk.A), v = .slice q us.length cap ∧ us.length ≤ maxLen ∧ Acts W q us ∧ Bounded us := by
  obtain ⟨a0, len, cap, rfl⟩ := okWide_slice Try.underlying38 hv
  obtain ⟨fuel, hf⟩ := h
  rcases Go.Deep.open_slice Try.underlying38 hf with ⟨hcs, _⟩ | ⟨a, len', cap', m, n, D, Pl, hcs, _, hlc, hcm, hm, _, hcell⟩
  · simp only [Value.cells, List.cons.injEq, and_true] at hcs
    injection hcs with e1 e2 e3
    subst e1 e2 e3
    exact ⟨none, 0, [], rfl, Nat.zero_le _, (fun k hk => absurd hk (Nat.not_lt_zero _)), (fun a ha => nomatch ha)⟩
  · simp only [Value.cells, List.cons.injEq, and_true] at hcs
    injection hcs with e1 e2 e3
    subst e1 e2 e3
    simp only [if_true] at hm
    subst hm
    have hc2 : Try.prog.cellsOf 41 = 8 := by kernel_rfl
    rw [hc2] at hcell
    have key : ∀ i, i < len → ∃ u : Plk.A, (∀ j v, u.cells[j]? = some v → W.cell? ((a.add (i * 8)).add j) = some v) ∧ u.keeps W ∧ ∀ x ∈ u.ks, -9223372036854775808 ≤ x ∧ x ≤ 9223372036854775807 := by
      intro i hi
      obtain ⟨cs', hc, ht⟩ := hcell i (by omega)
      obtain ⟨u, rfl, hu⟩ := open_row ht
      refine ⟨u, fun j v hv => ?_, hu⟩
      have := (World.cells?_some hc).2.2 j (by have := (List.getElem?_eq_some_iff.1 hv).1; rw [A.len] at this; exact this)
      rw [this]; exact hv
    let f : Nat → Plk.A := fun i => if hi : i < len then Classical.choose (key i hi) else ⟨0, [], [], [], 0, 0, 0, none, 0, []⟩
    have hfs : ∀ i (hi : i < len), (∀ j v, (f i).cells[j]? = some v → W.cell? ((a.add (i * 8)).add j) = some v) ∧ (f i).keeps W ∧ ∀ x ∈ (f i).ks, -9223372036854775808 ≤ x ∧ x ≤ 9223372036854775807 := by
      intro i hi
      have e : f i = Classical.choose (key i hi) := dif_pos hi
      rw [e]
      exact Classical.choose_spec (key i hi)
    refine ⟨some a, m, (List.range len).map f, by rw [List.length_map, List.length_range], by rw [List.length_map, List.length_range]; omega, fun k hk => ?_, fun a ha => by
      obtain ⟨i, hi, rfl⟩ := List.mem_map.1 ha
      exact (hfs i (List.mem_range.1 hi)).2.2⟩
    have hkl : k < len := by simpa using hk
    have hspot : a.spot = none := by
      have h0 := (hfs 0 (by omega)).1 0 _ rfl
      rw [Nat.zero_mul] at h0
      have e : (a.add 0).add 0 = a := by simp [Addr.add]
      rw [e] at h0
      unfold World.cell? at h0
      cases hs : a.spot with
      | none => rfl
      | some q => rw [hs] at h0; simp at h0; split at h0 <;> cases h0
    obtain ⟨g, o, sp⟩ := a
    simp only at hspot
    subst hspot
    obtain ⟨h1, h2, _⟩ := hfs k hkl
    have hg := World.block_lt_of_cell? W _ (h1 0 _ rfl)
    rw [Addr.add_mid, Addr.add_mid] at hg
    refine ⟨g, o, rfl, hg, ?_, ?_⟩
    · rw [List.getElem_map, List.getElem_range]
      intro j v hv
      have := h1 j v hv
      rw [Addr.add_mid, Addr.add_mid] at this
      exact this
    · rw [List.getElem_map, List.getElem_range]
      exact h2
set_option maxRecDepth 100000 in
theorem open_acts {W : World} {base : Nat} {v : Value} {d : DataW H} {p : List MemPlace} (hv : Value.okWide Try.prog W .any base 38 v)
    (h : DataW.Trod enc Try.prog W 0 (fun _ => true) true 38 v d p) : ∃ (q : Option Addr) (cap : Nat) (us : List Plk.A), v = .slice q us.length cap ∧ us.length ≤ maxLen ∧ Acts W q us := by
  obtain ⟨q, cap, us, h1, h2, h3, _⟩ := open_acts2 hv h
  exact ⟨q, cap, us, h1, h2, h3⟩
end Plk
end Go.Proofs.Ytbiikihapfpkfaa
