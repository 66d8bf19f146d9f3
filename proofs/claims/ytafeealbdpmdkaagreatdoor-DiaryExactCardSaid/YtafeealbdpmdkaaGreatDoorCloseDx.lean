/- A slice of calls of a log that came in. -/
import Derived.Test.YtafeealbdpmdkaaGreatDoorSpX
import Derived.Test.YtafeealbdpmdkaaGreatDoorDzX
set_option linter.unusedSimpArgs false
set_option linter.unusedVariables false
set_option linter.unusedSectionVars false
open Nat renaming reduceAdd → z_b
-- squeezed
namespace Go.Proofs.YtafeealbdpmdkaaGreatDoor
open Go.ChangeShapes Go.WideShapes Go.ChangeAt Go.RowKit Go.WideMaps Go.WideElems
namespace Plk
open Slp (S RdS)
variable {H : Type} {enc : TypeId × Value → H}
theorem dx_slips {W : World} {base : Nat} {spare : Nat → Bool} {held : Bool} {fuel : Nat} {cs : List Value} {x : DataW H × List MemPlace} (h : DataW.trod enc Tryz.prog W base spare held fuel 29 cs = some x) :
  ∃ (A : Option Addr) (c : Nat) (xs : List S), cs = [.slice A xs.length c] ∧ RdS (.slice A xs.length c) xs W ∧ (A = none → c = 0) := by
 rcases Go.Deep.open_slice Tryz.underlying29 h with ⟨hcs, _⟩ | ⟨a, len, cap, m, n, D, Pl, hcs, _, hlc, hcm, hm, _, hcell⟩
 ·exact ⟨none, 0, [], hcs, ⟨by simp, none, 0, rfl, Nat.zero_le _, fun j hj => by cases hj⟩, fun _ => rfl⟩
 ·have hlm : len ≤ m := by rw [hm]; split <;> omega
  have hc38 : Tryz.prog.cellsOf 39 = 38 := by kernel_rfl
  rw [hc38] at hcell
  have key : ∀ i, i < len → ∃ s : S, s.dig.length = 32 ∧ ∀ j v, s.cells[j]? = some v → W.cell? ((a.add (i * 38)).add j) = some v := by
   intro i hi
   obtain ⟨cs', hc, ht⟩ := hcell i (by omega)
   obtain ⟨s, rfl, hd⟩ := Slp.open_row ht
   refine ⟨s, hd, fun j v hv => ?_⟩
   have := (World.cells?_some hc).2.2 j (by have := (List.getElem?_eq_some_iff.1 hv).1; rw [Slp.cells_length s hd] at this; exact this)
   rw [this]; exact hv
  let f : Nat → S := fun i => if hi : i < len then Classical.choose (key i hi) else Slp.S.none
  have hfs : ∀ i (hi : i < len), (f i).dig.length = 32 ∧ ∀ j v, (f i).cells[j]? = some v → W.cell? ((a.add (i * 38)).add j) = some v := by
   intro i hi
   have e : f i = Classical.choose (key i hi) := dif_pos hi
   rw [e]
   exact Classical.choose_spec (key i hi)
  refine ⟨some a, cap, (List.range len).map f, by rw [hcs, List.length_map, List.length_range], ⟨?_, some a, cap, rfl, by rw [List.length_map, List.length_range]; omega, fun j hj => ?_⟩, fun e => nomatch e⟩
  ·intro x hx
   obtain ⟨i, hi, rfl⟩ := List.mem_map.1 hx
   exact (hfs i (List.mem_range.1 hi)).1
  ·have hjl : j < len := by simpa using hj
   have hspot : a.spot = none := by
    have h0 := (hfs 0 (by omega)).2 0 _ (show (f 0).cells[0]? = some _ from rfl)
    rw [Nat.zero_mul] at h0
    have e : (a.add 0).add 0 = a := by simp [Addr.add]
    rw [e] at h0
    unfold World.cell? at h0
    cases hs : a.spot with
    | none => rfl
    | some q => rw [hs] at h0; simp at h0; split at h0 <;> cases h0
   obtain ⟨g, o, sp⟩ := a
   simp only at hspot
   subst hspot
   refine ⟨g, o, rfl, fun i v hv => ?_⟩
   rw [List.getElem_map, List.getElem_range] at hv
   have := (hfs j hjl).2 i v hv
   rw [Addr.add_mid, Addr.add_mid] at this
   exact this
theorem dx_row {w : World} {base : Nat} {spare : Nat → Bool} {held : Bool} {fuel : Nat} {cs : List Value} {x : DataW H × List MemPlace} (h : DataW.trod enc Tryz.prog w base spare held fuel 41 cs = some x) :
  ∃ u : DA, cs = u.cells ∧ u.keeps w ∧ u.fits := by
 obtain ⟨xs, n, _, _, hl, hx, hf⟩ := DataW.trod_struct undA h
 have hl : cs.length = 44 := hl.trans (by kernel_rfl)
 obtain ⟨y0, h0⟩ := Slp.part hx hf 0 0 1 3 (by kernel_rfl)
 obtain ⟨y1, h1⟩ := Slp.part hx hf 1 1 38 39 (by kernel_rfl)
 obtain ⟨y2, h2⟩ := Slp.part hx hf 2 39 1 29 (by kernel_rfl)
 obtain ⟨y3, h3⟩ := Slp.part hx hf 3 40 1 3 (by kernel_rfl)
 obtain ⟨y4, h4⟩ := Slp.part hx hf 4 41 1 3 (by kernel_rfl)
 obtain ⟨y5, h5⟩ := Slp.part hx hf 5 42 1 3 (by kernel_rfl)
 obtain ⟨y6, h6⟩ := Slp.part hx hf 6 43 1 9 (by kernel_rfl)
 obtain ⟨k, e0, _, _⟩ := DataW.trod_int Tryz.underlying3 h0
 obtain ⟨s, e1, hs⟩ := Slp.open_row h1
 obtain ⟨A, c, ls, e2, hr, hn⟩ := dx_slips h2
 obtain ⟨x3, e3, _, w3⟩ := DataW.trod_int Tryz.underlying3 h3
 obtain ⟨x4, e4, _, w4⟩ := DataW.trod_int Tryz.underlying3 h4
 obtain ⟨x5, e5, _, _⟩ := DataW.trod_int Tryz.underlying3 h5
 obtain ⟨t, e6, _, _⟩ := DataW.trod_string Tryz.underlying9 h6
 refine ⟨⟨k, s, A, c, ls, x3, x4, x5, t.data.toList⟩, ?_, ⟨hs, hr, hn⟩, ⟨Close.i64_lo w3, Close.i64_hi w3⟩, ⟨Close.i64_lo w4, Close.i64_hi w4⟩⟩
 have s0 := Slp.take_split cs 0 1
 have s1 := Slp.take_split cs 1 38
 have s2 := Slp.take_split cs 39 1
 have s3 := Slp.take_split cs 40 1
 have s4 := Slp.take_split cs 41 1
 have s5 := Slp.take_split cs 42 1
 have s6 := Slp.take_split cs 43 1
 have s7 : cs.drop 44 = [] := List.drop_of_length_le (by omega)
 rw [List.drop_zero] at s0 e0
 simp only [z_b, Nat.zero_add] at s0 s1 s2 s3 s4 s5 s6
 refine s0.trans ?_
 rw [e0, s1, e1, s2, e2, s3, e3, s4, e4, s5, e5, s6, e6, s7]
 simp [DA.cells, actC]
set_option maxRecDepth 100000 in
theorem open_das {W : World} {base : Nat} {v : Value} {d : DataW H} {p : List MemPlace} (hv : Value.okWide Tryz.prog W .any base 22 v)
  (h : DataW.Trod enc Tryz.prog W 0 (fun _ => true) true 22 v d p) : ∃ (q : Option Addr) (cap : Nat) (us : List DA), v = .slice q us.length cap ∧ us.length ≤ maxLen ∧ DActs W q us := by
 obtain ⟨a0, len, cap, rfl⟩ := okWide_slice Tryz.underlying22 hv
 obtain ⟨fuel, hf⟩ := h
 rcases Go.Deep.open_slice Tryz.underlying22 hf with ⟨hcs, _⟩ | ⟨a, len', cap', m, n, D, Pl, hcs, _, hlc, hcm, hm, _, hcell⟩
 ·simp only [Value.cells, List.cons.injEq, and_true] at hcs
  injection hcs with e1 e2 e3
  subst e1 e2 e3
  exact ⟨none, 0, [], rfl, Nat.zero_le _, (fun k hk => absurd hk (Nat.not_lt_zero _))⟩
 ·simp only [Value.cells, List.cons.injEq, and_true] at hcs
  injection hcs with e1 e2 e3
  subst e1 e2 e3
  simp only [if_true] at hm
  subst hm
  have hc2 : Tryz.prog.cellsOf 41 = 44 := by kernel_rfl
  rw [hc2] at hcell
  have key : ∀ i, i < len → ∃ u : DA, (∀ j v, u.cells[j]? = some v → W.cell? ((a.add (i * 44)).add j) = some v) ∧ u.keeps W ∧ u.fits := by
   intro i hi
   obtain ⟨cs', hc, ht⟩ := hcell i (by omega)
   obtain ⟨u, rfl, hu⟩ := dx_row ht
   refine ⟨u, fun j v hv => ?_, hu⟩
   have := (World.cells?_some hc).2.2 j (by have := (List.getElem?_eq_some_iff.1 hv).1; rw [DA.len hu.1.1] at this; exact this)
   rw [this]; exact hv
  let f : Nat → DA := fun i => if hi : i < len then Classical.choose (key i hi) else ⟨0, Slp.S.none, none, 0, [], 0, 0, 0, []⟩
  have hfs : ∀ i (hi : i < len), (∀ j v, (f i).cells[j]? = some v → W.cell? ((a.add (i * 44)).add j) = some v) ∧ (f i).keeps W ∧ (f i).fits := by
   intro i hi
   have e : f i = Classical.choose (key i hi) := dif_pos hi
   rw [e]
   exact Classical.choose_spec (key i hi)
  refine ⟨some a, m, (List.range len).map f, by rw [List.length_map, List.length_range], by rw [List.length_map, List.length_range]; omega, fun k hk => ?_⟩
  have hkl : k < len := by simpa using hk
  have hspot : a.spot = none := by
   have h0 := (hfs 0 (by omega)).1 0 _ rfl
   rw [Nat.zero_mul] at h0
   have e : (a.add 0).add 0 = a := by simp [Addr.add]
   rw [e] at h0
   unfold World.cell? at h0
   cases hs : a.spot with
   | none => rfl
   | some q => rw [hs] at h0; simp at h0; split at h0 <;> cases h0
  obtain ⟨g, o, sp⟩ := a
  simp only at hspot
  subst hspot
  obtain ⟨h1, h2, h3⟩ := hfs k hkl
  have hg := World.block_lt_of_cell? W _ (h1 0 _ rfl)
  rw [Addr.add_mid, Addr.add_mid] at hg
  refine ⟨g, o, rfl, hg, ?_, ?_⟩
  ·rw [List.getElem_map, List.getElem_range]
   intro j v hv
   have := h1 j v hv
   rw [Addr.add_mid, Addr.add_mid] at this
   exact this
  ·rw [List.getElem_map, List.getElem_range]
   exact ⟨h2, h3⟩
end Plk
end Go.Proofs.YtafeealbdpmdkaaGreatDoor
