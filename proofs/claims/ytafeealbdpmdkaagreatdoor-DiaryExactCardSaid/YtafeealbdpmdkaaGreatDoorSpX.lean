/- Made by merge.py from: CrcTab CloseSlip. -/
import Derived.Test.YtafeealbdpmdkaaGreatDoorRows
import Derived.Test.YtafeealbdpmdkaaGreatDoorSpB
import Derived.Lib.LaidTab
import Derived.Test.YtafeealbdpmdkaaGreatDoorClose
import Derived.Test.YtafeealbdpmdkaaGreatDoorCloseB
import Derived.Test.YtafeealbdpmdkaaGreatDoorSpC
import Derived.Test.YtafeealbdpmdkaaGreatDoorSpA
import Derived.Deep.Slices
import Derived.OpenShut
set_option linter.unusedSimpArgs false
set_option linter.unusedVariables false
set_option linter.unusedSectionVars false
set_option maxRecDepth 100000
/- The table of package crc, as the row lists it, is the table that the walks read. -/
open Nat renaming reduceAdd → z_b
-- squeezed
namespace Go.Proofs.YtafeealbdpmdkaaGreatDoor
open Go.RowKit
namespace Crc
open CrcP
theorem gTab : Tryz.prog.globalNamed "manciple/crc.nibbles" = some 0 := by kernel_rfl
theorem gTabType : (Tryz.prog.globals[0]?).map (·.type) = some 176 := by kernel_rfl
theorem cellsTab : Tryz.prog.cellsOf 176 = 16 := by kernel_rfl
theorem cellsTabE : Tryz.prog.cellsOf 133 = 1 := by kernel_rfl
theorem tab_of {W : World} (h : laidMet Tryz.prog [("manciple/crc.nibbles", Rows.laid_manciple_crc_nibbles)] W) : Tab W := by
 have ht : Lib.TabIs Tryz.prog W "manciple/crc.nibbles" .u32 (nibs.map (fun n : Nat => (n : Int))) :=
  Lib.tabIs_of_head (rest := []) gTab gTabType Tryz.underlying176 Tryz.underlying133 cellsTabE cellsTab h
 intro i hi
 have := ht.cell gTab i (by simpa [nibs] using hi)
 rw [this]
 have hi' : i < nibs.length := by simpa [nibs] using hi
 simp only [nib, List.getD, List.getElem?_map, List.getElem?_eq_getElem hi', Option.map_some, Option.getD_some]
end Crc
end Go.Proofs.YtafeealbdpmdkaaGreatDoor
/- A slip that came in; a slice of slips that came in. -/
namespace Go.Proofs.YtafeealbdpmdkaaGreatDoor
open Go.ChangeShapes Go.WideShapes Go.ChangeAt Go.RowKit Go.WideMaps Go.WideElems
namespace Slp
variable {H : Type} {enc : TypeId × Value → H}
theorem part {P : Program} {w : World} {base : Nat} {spare : Nat → Bool} {held : Bool} {n : Nat} {fs : Array Field} {cs : List Value} {xs : List (DataW H × List MemPlace)} (hl : xs.length = fs.size)
  (hf : ∀ (i : Nat) (f : Field), fs[i]? = some f → DataW.trod enc P w base spare held n f.type ((cs.drop f.offset).take (P.cellsOf f.type)) = xs[i]?)
  (i o m : Nat) (t : TypeId) (h : (fs[i]?).map (fun f => (f.type, f.offset, P.cellsOf f.type)) = some (t, o, m)) : ∃ y, DataW.trod enc P w base spare held n t ((cs.drop o).take m) = some y := by
 obtain ⟨f, hfi, hp⟩ := Option.map_eq_some_iff.1 h
 simp only [Prod.mk.injEq] at hp
 obtain ⟨rfl, rfl, rfl⟩ := hp
 have hi : i < xs.length := by
  rw [hl]
  exact (Array.getElem?_eq_some_iff.1 hfi).1
 exact ⟨xs[i], by rw [hf i f hfi, List.getElem?_eq_getElem hi]⟩
theorem take_split (l : List Value) (o m : Nat) : l.drop o = (l.drop o).take m ++ l.drop (o + m) := by
 rw [← List.drop_drop, List.take_append_drop]
theorem open_row {w : World} {base : Nat} {spare : Nat → Bool} {held : Bool} {fuel : Nat} {cs : List Value} {x : DataW H × List MemPlace} (h : DataW.trod enc Tryz.prog w base spare held fuel 39 cs = some x) :
  ∃ s : S, cs = s.cells ∧ s.dig.length = 32 := by
 obtain ⟨xs, n, _, _, hl, hx, hf⟩ := DataW.trod_struct undS h
 have hl : cs.length = 38 := hl.trans (by kernel_rfl)
 obtain ⟨y0, h0⟩ := part hx hf 0 0 1 3 (by kernel_rfl)
 obtain ⟨y1, h1⟩ := part hx hf 1 1 1 9 (by kernel_rfl)
 obtain ⟨y2, h2⟩ := part hx hf 2 2 1 9 (by kernel_rfl)
 obtain ⟨y3, h3⟩ := part hx hf 3 3 32 37 (by kernel_rfl)
 obtain ⟨y4, h4⟩ := part hx hf 4 35 1 9 (by kernel_rfl)
 obtain ⟨y5, h5⟩ := part hx hf 5 36 1 3 (by kernel_rfl)
 obtain ⟨y6, h6⟩ := part hx hf 6 37 1 3 (by kernel_rfl)
 obtain ⟨k, e0, _, _⟩ := DataW.trod_int Tryz.underlying3 h0
 obtain ⟨repo, e1, _, _⟩ := DataW.trod_string Tryz.underlying9 h1
 obtain ⟨tag, e2, _, _⟩ := DataW.trod_string Tryz.underlying9 h2
 obtain ⟨typ, e4, _, _⟩ := DataW.trod_string Tryz.underlying9 h4
 obtain ⟨size, e5, _, _⟩ := DataW.trod_int Tryz.underlying3 h5
 obtain ⟨at_, e6, _, _⟩ := DataW.trod_int Tryz.underlying3 h6
 obtain ⟨ys, m, _, _, _, hys, hg⟩ := DataW.trod_array (n := 32) (e := 5) (by kernel_rfl) h3
 have hdl : ((cs.drop 3).take 32).length = 32 := by rw [List.length_take, List.length_drop, hl]; rfl
 have hall : ∀ v ∈ (cs.drop 3).take 32, ∃ a : Int, v = .int .u8 a ∧ 0 ≤ a ∧ a ≤ 255 := by
  intro v hv
  obtain ⟨i, hi, rfl⟩ := List.mem_iff_getElem.1 hv
  have hi32 : i < 32 := by rw [hdl] at hi; exact hi
  have hgi := hg i hi32
  rw [List.getElem?_eq_getElem (by rw [hys]; exact hi32), show Tryz.prog.cellsOf 5 = 1 by kernel_rfl, Nat.mul_one] at hgi
  obtain ⟨a, ea, _, wa⟩ := DataW.trod_int Tryz.underlying5 hgi
  rw [List.drop_eq_getElem_cons hi] at ea
  simp only [List.take_succ_cons, List.take_zero, List.cons.injEq, and_true] at ea
  simp only [Lit.wf, Bool.and_eq_true, decide_eq_true_eq] at wa
  exact ⟨a, ea, wa.1, wa.2⟩
 obtain ⟨dig, hd⟩ := Close.list_of_bytes _ hall
 refine ⟨⟨k, repo, tag, dig, typ, size, at_⟩, ?_, ?_⟩
 ·have s0 := take_split cs 0 1
  have s1 := take_split cs 1 1
  have s2 := take_split cs 2 1
  have s3 := take_split cs 3 32
  have s4 := take_split cs 35 1
  have s5 := take_split cs 36 1
  have s6 := take_split cs 37 1
  have s7 : cs.drop 38 = [] := List.drop_of_length_le (by omega)
  rw [List.drop_zero] at s0 e0
  simp only [z_b, Nat.zero_add] at s0 s1 s2 s3 s4 s5 s6
  refine s0.trans ?_
  rw [e0, s1, e1, s2, e2, s3, hd, s4, e4, s5, e5, s6, e6, s7]
  simp [S.cells]
 ·have := congrArg List.length hd
  rw [hdl, List.length_map] at this
  exact this.symm
end Slp
end Go.Proofs.YtafeealbdpmdkaaGreatDoor
