/- Tickets, spans and acts that came in. -/
import Derived.Test.YtcfdlfedmbmidaaDoorClose
import Derived.Test.YtcfdlfedmbmidaaDoorCloseB
import Derived.Test.YtcfdlfedmbmidaaDoorCloseF
import Derived.Test.YtcfdlfedmbmidaaDoorTkZ
import Derived.Deep.Slices
import Derived.OpenShut
set_option linter.unusedSimpArgs false
set_option linter.unusedVariables false
set_option linter.unusedSectionVars false
namespace Go.Proofs.YtcfdlfedmbmidaaDoor
open Go.ChangeShapes Go.WideShapes Go.ChangeAt Go.RowKit Go.WideMaps Go.WideElems
namespace Tk
def zeroD {H : Type} : DataW H := .agg [.lit (.string []), .lit (.string []), .lit (.bool false), .agg (List.replicate 32 (.lit (.int .u8 0))), .lit (.string []), .lit (.int .i64 0), .lit (.int .i64 0)]
def zeroDC {H : Type} : DataW H := .agg [.lit (.string []), .lit (.int .i64 0), .lit (.int .i64 0), .lit (.int .i64 0), .lit (.int .i64 0), .lit (.int .i64 0), .lit (.int .i64 0), .lit (.float .f64 0), .lit (.float .f64 0), .lit (.float .f64 0), .lit (.float .f64 0), .lit (.float .f64 0), .lit (.float .f64 0)]
/-- a ticket that came in -/
structure T.fine (x : T) : Prop where
  dig : x.dig.length = 32
  lo : -9223372036854775808 ≤ x.at_
  hi : x.at_ ≤ 9223372036854775807
  tag : x.tag.length ≤ 9223372036854775807
structure TA where
  k : Int
  x : T
def TA.cells (u : TA) : List Value := .int .i64 u.k :: u.x.cells
def TActs (W : World) (q : Option Addr) (us : List TA) : Prop := ∀ (k : Nat) (hk : k < us.length), ∃ g o, q = some ⟨g, o, none⟩ ∧ g < W.heap.size ∧ W.rangeAt g (o + k * 39) us[k].cells ∧ us[k].x.fine
theorem undTA : Tryd.prog.underlying 46 = some (.struct (Tryd.prog.fieldsOf 46)) := by kernel_rfl
theorem sizeTA : (Tryd.prog.info? 46).map (·.size) = some 39 := by kernel_rfl
theorem TA.len (u : TA) (h : u.x.dig.length = 32) : u.cells.length = 39 := by simp [TA.cells, u.x.len h]
theorem TA.one (u : TA) : ∀ v ∈ u.cells, v.oneCell' = true := by
  intro v hv
  rcases List.mem_cons.1 hv with rfl | hv
  · rfl
  · exact u.x.one v hv
variable {H : Type} {enc : TypeId × Value → H}
theorem part {P : Program} {w : World} {base : Nat} {spare : Nat → Bool} {held : Bool} {n : Nat} {fs : Array Field} {cs : List Value} {xs : List (DataW H × List MemPlace)} (hl : xs.length = fs.size)
    (hf : ∀ (i : Nat) (f : Field), fs[i]? = some f → DataW.trod enc P w base spare held n f.type ((cs.drop f.offset).take (P.cellsOf f.type)) = xs[i]?)
    (i o m : Nat) (t : TypeId) (h : (fs[i]?).map (fun f => (f.type, f.offset, P.cellsOf f.type)) = some (t, o, m)) : ∃ y, DataW.trod enc P w base spare held n t ((cs.drop o).take m) = some y := by
  obtain ⟨f, hfi, hp⟩ := Option.map_eq_some_iff.1 h
  simp only [Prod.mk.injEq] at hp
  obtain ⟨rfl, rfl, rfl⟩ := hp
  have hi : i < xs.length := by
    rw [hl]
    exact (Array.getElem?_eq_some_iff.1 hfi).1
  exact ⟨xs[i], by rw [hf i f hfi, List.getElem?_eq_getElem hi]⟩
theorem take_split (l : List Value) (o m : Nat) : l.drop o = (l.drop o).take m ++ l.drop (o + m) := by
  rw [← List.drop_drop, List.take_append_drop]
theorem open_rowT {w : World} {base : Nat} {spare : Nat → Bool} {held : Bool} {fuel : Nat} {cs : List Value} {x : DataW H × List MemPlace} (h : DataW.trod enc Tryd.prog w base spare held fuel 25 cs = some x) :
    ∃ s : T, cs = s.cells ∧ s.fine := by
  obtain ⟨xs, n, _, _, hl, hx, hf⟩ := DataW.trod_struct undT h
  have hl : cs.length = 38 := hl.trans (by kernel_rfl)
  obtain ⟨y0, h0⟩ := part hx hf 0 0 1 9 (by kernel_rfl)
  obtain ⟨y1, h1⟩ := part hx hf 1 1 1 9 (by kernel_rfl)
  obtain ⟨y2, h2⟩ := part hx hf 2 2 1 4 (by kernel_rfl)
  obtain ⟨y3, h3⟩ := part hx hf 3 3 32 23 (by kernel_rfl)
  obtain ⟨y4, h4⟩ := part hx hf 4 35 1 9 (by kernel_rfl)
  obtain ⟨y5, h5⟩ := part hx hf 5 36 1 3 (by kernel_rfl)
  obtain ⟨y6, h6⟩ := part hx hf 6 37 1 3 (by kernel_rfl)
  obtain ⟨repo, e0, _, _⟩ := DataW.trod_string Tryd.underlying9 h0
  obtain ⟨tag, e1, _, wt⟩ := DataW.trod_string Tryd.underlying9 h1
  obtain ⟨fo, e2, _⟩ := DataW.trod_bool Tryd.underlying4 h2
  obtain ⟨typ, e4, _, _⟩ := DataW.trod_string Tryd.underlying9 h4
  obtain ⟨size, e5, _, _⟩ := DataW.trod_int Tryd.underlying3 h5
  obtain ⟨at_, e6, _, wa⟩ := DataW.trod_int Tryd.underlying3 h6
  obtain ⟨ys, m, _, _, _, hys, hg⟩ := DataW.trod_array (n := 32) (e := 5) (by kernel_rfl) h3
  have hdl : ((cs.drop 3).take 32).length = 32 := by rw [List.length_take, List.length_drop, hl]; rfl
  have hall : ∀ v ∈ (cs.drop 3).take 32, ∃ a : Int, v = .int .u8 a ∧ 0 ≤ a ∧ a ≤ 255 := by
    intro v hv
    obtain ⟨i, hi, rfl⟩ := List.mem_iff_getElem.1 hv
    have hi32 : i < 32 := by rw [hdl] at hi; exact hi
    have hgi := hg i hi32
    rw [List.getElem?_eq_getElem (by rw [hys]; exact hi32), show Tryd.prog.cellsOf 5 = 1 by kernel_rfl, Nat.mul_one] at hgi
    obtain ⟨a, ea, _, wa⟩ := DataW.trod_int Tryd.underlying5 hgi
    rw [List.drop_eq_getElem_cons hi] at ea
    simp only [List.take_succ_cons, List.take_zero, List.cons.injEq, and_true] at ea
    simp only [Lit.wf, Bool.and_eq_true, decide_eq_true_eq] at wa
    exact ⟨a, ea, wa.1, wa.2⟩
  obtain ⟨dig, hd⟩ := Close.list_of_bytes _ hall
  refine ⟨⟨repo.data.toList, tag.data.toList, fo, dig, typ.data.toList, size, at_⟩, ?_, ?_, Close.i64_lo wa, Close.i64_hi wa, ?_⟩
  · have s0 := take_split cs 0 1
    have s1 := take_split cs 1 1
    have s2 := take_split cs 2 1
    have s3 := take_split cs 3 32
    have s4 := take_split cs 35 1
    have s5 := take_split cs 36 1
    have s6 := take_split cs 37 1
    have s7 : cs.drop 38 = [] := List.drop_of_length_le (by omega)
    rw [List.drop_zero] at s0 e0
    simp only [Nat.reduceAdd, Nat.zero_add] at s0 s1 s2 s3 s4 s5 s6
    refine s0.trans ?_
    rw [e0, s1, e1, s2, e2, s3, hd, s4, e4, s5, e5, s6, e6, s7]
    simp [T.cells]
  · have := congrArg List.length hd
    rw [hdl, List.length_map] at this
    exact this.symm
  · show tag.data.toList.length ≤ _
    rw [Array.length_toList]
    exact Nat.le_trans wt (by unfold maxLen; omega)
set_option maxRecDepth 100000 in
theorem open_ticket {W : World} {base : Nat} {v : Value} {d : DataW H} {p : List MemPlace} (hv : Value.okWide Tryd.prog W .any base 25 v)
    (h : DataW.Trod enc Tryd.prog W 0 (fun _ => true) true 25 v d p) : ∃ s : T, v = .agg s.cells.toArray ∧ s.fine := by
  obtain ⟨cs, rfl, hn⟩ := okWide_struct undT hv
  obtain ⟨fuel, hf⟩ := h
  obtain ⟨s, hs, hd⟩ := open_rowT hf
  exact ⟨s, congrArg Value.agg ((Array.toArray_toList (xs := cs)).symm.trans (congrArg List.toArray hs)), hd⟩
theorem f64_fit {n : Nat} (h : (Lit.float .f64 n).wf = true) : n < 18446744073709551616 := by simpa [Lit.wf] using h
theorem open_rowC {w : World} {base : Nat} {spare : Nat → Bool} {held : Bool} {fuel : Nat} {cs : List Value} {x : DataW H × List MemPlace} (h : DataW.trod enc Tryd.prog w base spare held fuel 28 cs = some x) :
    ∃ s : Cfg, cs = s.cells ∧ s.fits := by
  obtain ⟨xs, n, _, _, hl, hx, hf⟩ := DataW.trod_struct undC h
  have hl : cs.length = 13 := hl.trans (by kernel_rfl)
  obtain ⟨y0, h0⟩ := part hx hf 0 0 1 9 (by kernel_rfl)
  obtain ⟨y1, h1⟩ := part hx hf 1 1 1 3 (by kernel_rfl)
  obtain ⟨y2, h2⟩ := part hx hf 2 2 1 3 (by kernel_rfl)
  obtain ⟨y3, h3⟩ := part hx hf 3 3 1 3 (by kernel_rfl)
  obtain ⟨y4, h4⟩ := part hx hf 4 4 1 3 (by kernel_rfl)
  obtain ⟨y5, h5⟩ := part hx hf 5 5 1 3 (by kernel_rfl)
  obtain ⟨y6, h6⟩ := part hx hf 6 6 1 3 (by kernel_rfl)
  obtain ⟨y7, h7⟩ := part hx hf 7 7 1 26 (by kernel_rfl)
  obtain ⟨y8, h8⟩ := part hx hf 8 8 1 26 (by kernel_rfl)
  obtain ⟨y9, h9⟩ := part hx hf 9 9 1 26 (by kernel_rfl)
  obtain ⟨y10, h10⟩ := part hx hf 10 10 1 26 (by kernel_rfl)
  obtain ⟨y11, h11⟩ := part hx hf 11 11 1 26 (by kernel_rfl)
  obtain ⟨y12, h12⟩ := part hx hf 12 12 1 26 (by kernel_rfl)
  obtain ⟨a0, e0, _, _⟩ := DataW.trod_string Tryd.underlying9 h0
  obtain ⟨a1, e1, _, _⟩ := DataW.trod_int Tryd.underlying3 h1
  obtain ⟨a2, e2, _, _⟩ := DataW.trod_int Tryd.underlying3 h2
  obtain ⟨a3, e3, _, _⟩ := DataW.trod_int Tryd.underlying3 h3
  obtain ⟨a4, e4, _, _⟩ := DataW.trod_int Tryd.underlying3 h4
  obtain ⟨a5, e5, _, _⟩ := DataW.trod_int Tryd.underlying3 h5
  obtain ⟨a6, e6, _, _⟩ := DataW.trod_int Tryd.underlying3 h6
  obtain ⟨a7, e7, _, w7⟩ := Close.trod_float Tryd.underlying26 h7
  obtain ⟨a8, e8, _, w8⟩ := Close.trod_float Tryd.underlying26 h8
  obtain ⟨a9, e9, _, w9⟩ := Close.trod_float Tryd.underlying26 h9
  obtain ⟨a10, e10, _, _⟩ := Close.trod_float Tryd.underlying26 h10
  obtain ⟨a11, e11, _, _⟩ := Close.trod_float Tryd.underlying26 h11
  obtain ⟨a12, e12, _, _⟩ := Close.trod_float Tryd.underlying26 h12
  refine ⟨⟨a0.data.toList, a1, a2, a3, a4, a5, a6, a7, a8, a9, a10, a11, a12⟩, ?_, f64_fit w7, f64_fit w8, f64_fit w9⟩
  have s0 := take_split cs 0 1
  have s1 := take_split cs 1 1
  have s2 := take_split cs 2 1
  have s3 := take_split cs 3 1
  have s4 := take_split cs 4 1
  have s5 := take_split cs 5 1
  have s6 := take_split cs 6 1
  have s7 := take_split cs 7 1
  have s8 := take_split cs 8 1
  have s9 := take_split cs 9 1
  have s10 := take_split cs 10 1
  have s11 := take_split cs 11 1
  have s12 := take_split cs 12 1
  have s13 : cs.drop 13 = [] := List.drop_of_length_le (by omega)
  rw [List.drop_zero] at s0 e0
  simp only [Nat.reduceAdd, Nat.zero_add] at s0 s1 s2 s3 s4 s5 s6 s7 s8 s9 s10 s11 s12
  refine s0.trans ?_
  rw [e0, s1, e1, s2, e2, s3, e3, s4, e4, s5, e5, s6, e6, s7, e7, s8, e8, s9, e9, s10, e10, s11, e11, s12, e12, s13]
  rfl
set_option maxRecDepth 100000 in
theorem open_cfg {W : World} {base : Nat} {v : Value} {d : DataW H} {p : List MemPlace} (hv : Value.okWide Tryd.prog W .any base 28 v)
    (h : DataW.Trod enc Tryd.prog W 0 (fun _ => true) true 28 v d p) : ∃ s : Cfg, v = .agg s.cells.toArray ∧ s.fits := by
  obtain ⟨cs, rfl, hn⟩ := okWide_struct undC hv
  obtain ⟨fuel, hf⟩ := h
  obtain ⟨s, hs, hd⟩ := open_rowC hf
  exact ⟨s, congrArg Value.agg ((Array.toArray_toList (xs := cs)).symm.trans (congrArg List.toArray hs)), hd⟩
theorem open_ta {w : World} {base : Nat} {spare : Nat → Bool} {held : Bool} {fuel : Nat} {cs : List Value} {x : DataW H × List MemPlace} (h : DataW.trod enc Tryd.prog w base spare held fuel 46 cs = some x) :
    ∃ u : TA, cs = u.cells ∧ u.x.fine := by
  obtain ⟨xs, n, _, _, hl, hx, hf⟩ := DataW.trod_struct undTA h
  have hl : cs.length = 39 := hl.trans (by kernel_rfl)
  obtain ⟨y0, h0⟩ := part hx hf 0 0 1 3 (by kernel_rfl)
  obtain ⟨y1, h1⟩ := part hx hf 1 1 38 25 (by kernel_rfl)
  obtain ⟨k, e0, _, _⟩ := DataW.trod_int Tryd.underlying3 h0
  obtain ⟨t, e1, hf⟩ := open_rowT h1
  refine ⟨⟨k, t⟩, ?_, hf⟩
  have s0 := take_split cs 0 1
  have s1 := take_split cs 1 38
  have s2 : cs.drop 39 = [] := List.drop_of_length_le (by omega)
  rw [List.drop_zero] at s0 e0
  simp only [Nat.reduceAdd, Nat.zero_add] at s0 s1
  refine s0.trans ?_
  rw [e0, s1, e1, s2]
  simp [TA.cells]
set_option maxRecDepth 100000 in
theorem open_tas {W : World} {base : Nat} {v : Value} {d : DataW H} {p : List MemPlace} (hv : Value.okWide Tryd.prog W .any base 36 v)
    (h : DataW.Trod enc Tryd.prog W 0 (fun _ => true) true 36 v d p) : ∃ (q : Option Addr) (cap : Nat) (us : List TA), v = .slice q us.length cap ∧ us.length ≤ maxLen ∧ TActs W q us := by
  obtain ⟨a0, len, cap, rfl⟩ := okWide_slice Tryd.underlying36 hv
  obtain ⟨fuel, hf⟩ := h
  rcases Go.Deep.open_slice Tryd.underlying36 hf with ⟨hcs, _⟩ | ⟨a, len', cap', m, n, D, Pl, hcs, _, hlc, hcm, hm, _, hcell⟩
  · simp only [Value.cells, List.cons.injEq, and_true] at hcs
    injection hcs with e1 e2 e3
    subst e1 e2 e3
    exact ⟨none, 0, [], rfl, Nat.zero_le _, (fun k hk => absurd hk (Nat.not_lt_zero _))⟩
  · simp only [Value.cells, List.cons.injEq, and_true] at hcs
    injection hcs with e1 e2 e3
    subst e1 e2 e3
    simp only [if_true] at hm
    subst hm
    have hc2 : Tryd.prog.cellsOf 46 = 39 := by kernel_rfl
    rw [hc2] at hcell
    have key : ∀ i, i < len → ∃ u : TA, (∀ j v, u.cells[j]? = some v → W.cell? ((a.add (i * 39)).add j) = some v) ∧ u.x.fine := by
      intro i hi
      obtain ⟨cs', hc, ht⟩ := hcell i (by omega)
      obtain ⟨u, rfl, hu⟩ := open_ta ht
      refine ⟨u, fun j v hv => ?_, hu⟩
      have := (World.cells?_some hc).2.2 j (by have := (List.getElem?_eq_some_iff.1 hv).1; rw [u.len hu.dig] at this; exact this)
      rw [this]; exact hv
    let f : Nat → TA := fun i => if hi : i < len then Classical.choose (key i hi) else ⟨0, zT⟩
    have hfs : ∀ i (hi : i < len), (∀ j v, (f i).cells[j]? = some v → W.cell? ((a.add (i * 39)).add j) = some v) ∧ (f i).x.fine := by
      intro i hi
      have e : f i = Classical.choose (key i hi) := dif_pos hi
      rw [e]
      exact Classical.choose_spec (key i hi)
    refine ⟨some a, m, (List.range len).map f, by rw [List.length_map, List.length_range], by rw [List.length_map, List.length_range]; omega, fun k hk => ?_⟩
    have hkl : k < len := by simpa using hk
    have hspot : a.spot = none := by
      have h0 := (hfs 0 (by omega)).1 0 _ rfl
      rw [Nat.zero_mul] at h0
      have e : (a.add 0).add 0 = a := by simp [Addr.add]
      rw [e] at h0
      unfold World.cell? at h0
      cases hs : a.spot with
      | none => rfl
      | some q => rw [hs] at h0; simp at h0; split at h0 <;> cases h0
    obtain ⟨g, o, sp⟩ := a
    simp only at hspot
    subst hspot
    obtain ⟨h1, h2⟩ := hfs k hkl
    have hg := World.block_lt_of_cell? W _ (h1 0 _ rfl)
    rw [Addr.add_mid, Addr.add_mid] at hg
    refine ⟨g, o, rfl, hg, ?_, ?_⟩
    · rw [List.getElem_map, List.getElem_range]
      intro j v hv
      have := h1 j v hv
      rw [Addr.add_mid, Addr.add_mid] at this
      exact this
    · rw [List.getElem_map, List.getElem_range]; exact h2
end Tk
end Go.Proofs.YtcfdlfedmbmidaaDoor
