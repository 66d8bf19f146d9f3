/- Made by merge.py from: CrcTab CloseSlip. -/
import Derived.Test.YtafeealbdpmdkaaDoorRows
import Derived.Test.YtafeealbdpmdkaaDoorSpB
import Derived.Lib.LaidTab
import Derived.Test.YtafeealbdpmdkaaDoorClose
import Derived.Test.YtafeealbdpmdkaaDoorCloseB
import Derived.Test.YtafeealbdpmdkaaDoorSpC
import Derived.Test.YtafeealbdpmdkaaDoorSpA
import Derived.Deep.Slices
import Derived.OpenShut
set_option linter.unusedSimpArgs false
set_option linter.unusedVariables false
set_option linter.unusedSectionVars false
set_option maxRecDepth 100000
/- The table of package crc, as the row lists it, is the table that the walks read. -/
namespace Go.Proofs.YtafeealbdpmdkaaDoor
open Go.RowKit
namespace Crc
open CrcP
theorem gTab : Tryd.prog.globalNamed "manciple/crc.nibbles" = some 0 := by kernel_rfl
theorem gTabType : (Tryd.prog.globals[0]?).map (·.type) = some 143 := by kernel_rfl
theorem cellsTab : Tryd.prog.cellsOf 143 = 16 := by kernel_rfl
theorem cellsTabE : Tryd.prog.cellsOf 113 = 1 := by kernel_rfl
theorem tab_of {W : World} (h : laidMet Tryd.prog [("manciple/crc.nibbles", Rows.laid_manciple_crc_nibbles)] W) : Tab W := by
  have ht : Lib.TabIs Tryd.prog W "manciple/crc.nibbles" .u32 (nibs.map (fun n : Nat => (n : Int))) :=
    Lib.tabIs_of_head (rest := []) gTab gTabType Tryd.underlying143 Tryd.underlying113 cellsTabE cellsTab h
  intro i hi
  have := ht.cell gTab i (by simpa [nibs] using hi)
  rw [this]
  have hi' : i < nibs.length := by simpa [nibs] using hi
  simp only [nib, List.getD, List.getElem?_map, List.getElem?_eq_getElem hi', Option.map_some, Option.getD_some]
end Crc
end Go.Proofs.YtafeealbdpmdkaaDoor
/- A slip that came in; a slice of slips that came in. -/
namespace Go.Proofs.YtafeealbdpmdkaaDoor
open Go.ChangeShapes Go.WideShapes Go.ChangeAt Go.RowKit Go.WideMaps Go.WideElems
namespace Slp
def zeroD {H : Type} : DataW H := .agg [.lit (.int .i64 0), .lit (.string []), .lit (.string []), .agg (List.replicate 32 (.lit (.int .u8 0))), .lit (.string []), .lit (.int .i64 0), .lit (.int .i64 0)]
variable {H : Type} {enc : TypeId × Value → H}
theorem part {P : Program} {w : World} {base : Nat} {spare : Nat → Bool} {held : Bool} {n : Nat} {fs : Array Field} {cs : List Value} {xs : List (DataW H × List MemPlace)} (hl : xs.length = fs.size)
    (hf : ∀ (i : Nat) (f : Field), fs[i]? = some f → DataW.trod enc P w base spare held n f.type ((cs.drop f.offset).take (P.cellsOf f.type)) = xs[i]?)
    (i o m : Nat) (t : TypeId) (h : (fs[i]?).map (fun f => (f.type, f.offset, P.cellsOf f.type)) = some (t, o, m)) : ∃ y, DataW.trod enc P w base spare held n t ((cs.drop o).take m) = some y := by
  obtain ⟨f, hfi, hp⟩ := Option.map_eq_some_iff.1 h
  simp only [Prod.mk.injEq] at hp
  obtain ⟨rfl, rfl, rfl⟩ := hp
  have hi : i < xs.length := by
    rw [hl]
    exact (Array.getElem?_eq_some_iff.1 hfi).1
  exact ⟨xs[i], by rw [hf i f hfi, List.getElem?_eq_getElem hi]⟩
theorem take_split (l : List Value) (o m : Nat) : l.drop o = (l.drop o).take m ++ l.drop (o + m) := by
  rw [← List.drop_drop, List.take_append_drop]
theorem open_row {w : World} {base : Nat} {spare : Nat → Bool} {held : Bool} {fuel : Nat} {cs : List Value} {x : DataW H × List MemPlace} (h : DataW.trod enc Tryd.prog w base spare held fuel 37 cs = some x) :
    ∃ s : S, cs = s.cells ∧ s.dig.length = 32 := by
  obtain ⟨xs, n, _, _, hl, hx, hf⟩ := DataW.trod_struct undS h
  have hl : cs.length = 38 := hl.trans (by kernel_rfl)
  obtain ⟨y0, h0⟩ := part hx hf 0 0 1 3 (by kernel_rfl)
  obtain ⟨y1, h1⟩ := part hx hf 1 1 1 9 (by kernel_rfl)
  obtain ⟨y2, h2⟩ := part hx hf 2 2 1 9 (by kernel_rfl)
  obtain ⟨y3, h3⟩ := part hx hf 3 3 32 35 (by kernel_rfl)
  obtain ⟨y4, h4⟩ := part hx hf 4 35 1 9 (by kernel_rfl)
  obtain ⟨y5, h5⟩ := part hx hf 5 36 1 3 (by kernel_rfl)
  obtain ⟨y6, h6⟩ := part hx hf 6 37 1 3 (by kernel_rfl)
  obtain ⟨k, e0, _, _⟩ := DataW.trod_int Tryd.underlying3 h0
  obtain ⟨repo, e1, _, _⟩ := DataW.trod_string Tryd.underlying9 h1
  obtain ⟨tag, e2, _, _⟩ := DataW.trod_string Tryd.underlying9 h2
  obtain ⟨typ, e4, _, _⟩ := DataW.trod_string Tryd.underlying9 h4
  obtain ⟨size, e5, _, _⟩ := DataW.trod_int Tryd.underlying3 h5
  obtain ⟨at_, e6, _, _⟩ := DataW.trod_int Tryd.underlying3 h6
  obtain ⟨ys, m, _, _, _, hys, hg⟩ := DataW.trod_array (n := 32) (e := 5) (by kernel_rfl) h3
  have hdl : ((cs.drop 3).take 32).length = 32 := by rw [List.length_take, List.length_drop, hl]; rfl
  have hall : ∀ v ∈ (cs.drop 3).take 32, ∃ a : Int, v = .int .u8 a ∧ 0 ≤ a ∧ a ≤ 255 := by
    intro v hv
    obtain ⟨i, hi, rfl⟩ := List.mem_iff_getElem.1 hv
    have hi32 : i < 32 := by rw [hdl] at hi; exact hi
    have hgi := hg i hi32
    rw [List.getElem?_eq_getElem (by rw [hys]; exact hi32), show Tryd.prog.cellsOf 5 = 1 by kernel_rfl, Nat.mul_one] at hgi
    obtain ⟨a, ea, _, wa⟩ := DataW.trod_int Tryd.underlying5 hgi
    rw [List.drop_eq_getElem_cons hi] at ea
    simp only [List.take_succ_cons, List.take_zero, List.cons.injEq, and_true] at ea
    simp only [Lit.wf, Bool.and_eq_true, decide_eq_true_eq] at wa
    exact ⟨a, ea, wa.1, wa.2⟩
  obtain ⟨dig, hd⟩ := Close.list_of_bytes _ hall
  refine ⟨⟨k, repo, tag, dig, typ, size, at_⟩, ?_, ?_⟩
  · have s0 := take_split cs 0 1
    have s1 := take_split cs 1 1
    have s2 := take_split cs 2 1
    have s3 := take_split cs 3 32
    have s4 := take_split cs 35 1
    have s5 := take_split cs 36 1
    have s6 := take_split cs 37 1
    have s7 : cs.drop 38 = [] := List.drop_of_length_le (by omega)
    rw [List.drop_zero] at s0 e0
    simp only [Nat.reduceAdd, Nat.zero_add] at s0 s1 s2 s3 s4 s5 s6
    refine s0.trans ?_
    rw [e0, s1, e1, s2, e2, s3, hd, s4, e4, s5, e5, s6, e6, s7]
    simp [S.cells]
  · have := congrArg List.length hd
    rw [hdl, List.length_map] at this
    exact this.symm
theorem open_slip {W : World} {base : Nat} {v : Value} {d : DataW H} {p : List MemPlace} (hv : Value.okWide Tryd.prog W .any base 37 v)
    (h : DataW.Trod enc Tryd.prog W 0 (fun _ => true) true 37 v d p) : ∃ s : S, v = .agg s.cells.toArray ∧ s.dig.length = 32 := by
  obtain ⟨cs, rfl, hn⟩ := okWide_struct undS hv
  obtain ⟨fuel, hf⟩ := h
  obtain ⟨s, hs, hd⟩ := open_row hf
  exact ⟨s, by rw [← hs]; rfl, hd⟩
theorem open_slips {W : World} {base : Nat} {v : Value} {d : DataW H} {p : List MemPlace} (hv : Value.okWide Tryd.prog W .any base 22 v)
    (h : DataW.Trod enc Tryd.prog W 0 (fun _ => true) true 22 v d p) : ∃ xs : List S, RdS v xs W := by
  obtain ⟨a0, len, cap, rfl⟩ := okWide_slice Tryd.underlying22 hv
  obtain ⟨fuel, hf⟩ := h
  rcases Go.Deep.open_slice Tryd.underlying22 hf with ⟨hcs, _⟩ | ⟨a, len', cap', m, n, D, Pl, hcs, _, hlc, hcm, hm, _, hcell⟩
  · simp only [Value.cells, List.cons.injEq, and_true] at hcs
    injection hcs with e1 e2 e3
    subst e1 e2 e3
    exact ⟨[], by simp, none, 0, rfl, Nat.zero_le _, fun j hj => by cases hj⟩
  · simp only [Value.cells, List.cons.injEq, and_true] at hcs
    injection hcs with e1 e2 e3
    subst e1 e2 e3
    simp only [if_true] at hm
    subst hm
    have hc38 : Tryd.prog.cellsOf 37 = 38 := by kernel_rfl
    rw [hc38] at hcell
    have key : ∀ i, i < len → ∃ s : S, s.dig.length = 32 ∧ ∀ j v, s.cells[j]? = some v → W.cell? ((a.add (i * 38)).add j) = some v := by
      intro i hi
      obtain ⟨cs', hc, ht⟩ := hcell i (by omega)
      obtain ⟨s, rfl, hd⟩ := open_row ht
      refine ⟨s, hd, fun j v hv => ?_⟩
      have := (World.cells?_some hc).2.2 j (by have := (List.getElem?_eq_some_iff.1 hv).1; rw [cells_length s hd] at this; exact this)
      rw [this]; exact hv
    let f : Nat → S := fun i => if hi : i < len then Classical.choose (key i hi) else S.none
    have hfs : ∀ i (hi : i < len), (f i).dig.length = 32 ∧ ∀ j v, (f i).cells[j]? = some v → W.cell? ((a.add (i * 38)).add j) = some v := by
      intro i hi
      show (if hi : i < len then Classical.choose (key i hi) else S.none).dig.length = 32 ∧ ∀ j v, (if hi : i < len then Classical.choose (key i hi) else S.none).cells[j]? = some v → _
      simp only [dif_pos hi]
      exact Classical.choose_spec (key i hi)
    refine ⟨(List.range len).map f, ?_, some a, m, by rw [List.length_map, List.length_range], by rw [List.length_map, List.length_range]; omega, fun j hj => ?_⟩
    · intro x hx
      obtain ⟨i, hi, rfl⟩ := List.mem_map.1 hx
      exact (hfs i (List.mem_range.1 hi)).1
    · have hjl : j < len := by simpa using hj
      have hspot : a.spot = none := by
        have h0 := (hfs 0 (by omega)).2 0 _ (show (f 0).cells[0]? = some _ from rfl)
        rw [Nat.zero_mul] at h0
        have e : (a.add 0).add 0 = a := by simp [Addr.add]
        rw [e] at h0
        unfold World.cell? at h0
        cases hs : a.spot with
        | none => rfl
        | some q => rw [hs] at h0; simp at h0; split at h0 <;> cases h0
      obtain ⟨g, o, sp⟩ := a
      simp only at hspot
      subst hspot
      refine ⟨g, o, rfl, fun i v hv => ?_⟩
      rw [List.getElem_map, List.getElem_range] at hv
      have := (hfs j hjl).2 i v hv
      rw [Addr.add_mid, Addr.add_mid] at this
      exact this
end Slp
end Go.Proofs.YtafeealbdpmdkaaDoor
