/- Made by merge.py from: CloseB CloseF CloseTk TkNil. -/
import Derived.Test.YtcfdlfedmbmidaaDoorClose
import Derived.WideKeyArr2
import Derived.Test.YtcfdlfedmbmidaaDoorTkZ
import Derived.Deep.Slices
import Derived.OpenShut
set_option linter.unusedSimpArgs false
set_option linter.unusedVariables false
set_option linter.unusedSectionVars false
set_option maxRecDepth 100000
/- An array of bytes that came in. -/
namespace Go.Proofs.YtcfdlfedmbmidaaDoor
open Go.ChangeShapes Go.WideShapes Go.ChangeAt Go.RowKit Go.WideMaps Go.WideElems
namespace Close
variable {H : Type} {enc : TypeId × Value → H}
theorem mapM_each {α β : Type} {f : α → Option β} : ∀ {L : List α} {ys : List β}, L.mapM f = some ys → ∀ i ∈ L, ∃ y, f i = some y
  | [], _, _, i, hi => by cases hi
  | a :: L, ys, h, i, hi => by
    rw [List.mapM_cons] at h
    simp only [bind, Option.bind_eq_some_iff, pure, Option.some.injEq] at h
    obtain ⟨y, hy, zs, hzs, _⟩ := h
    rcases List.mem_cons.1 hi with rfl | hi
    · exact ⟨y, hy⟩
    · exact mapM_each hzs i hi
theorem list_of_bytes : ∀ (xs : List Value), (∀ x ∈ xs, ∃ a : Int, x = .int .u8 a ∧ 0 ≤ a ∧ a ≤ 255) → ∃ l : List UInt8, xs = l.map byteV
  | [], _ => ⟨[], rfl⟩
  | x :: xs, h => by
    obtain ⟨l, rfl⟩ := list_of_bytes xs fun y hy => h y (List.mem_cons_of_mem _ hy)
    obtain ⟨a, rfl, h0, h1⟩ := h x List.mem_cons_self
    refine ⟨UInt8.ofNat a.toNat :: l, ?_⟩
    rw [List.map_cons]
    congr 1
    unfold byteV
    rw [UInt8.toNat_ofNat']
    congr 1
    omega
/-- an array of bytes that came in -/
theorem open_bytes {P : Program} {W : World} {base : Nat} {k e : TypeId} {n : Nat} {v : Value} {d : DataW H} {p : List MemPlace} (A : ArrKey P k e n) (he : P.underlying e = some (.int .u8)) (hv : Value.okWide P W .any base k v)
    (h : DataW.Trod enc P W 0 (fun _ => true) true k v d p) : ∃ l : List UInt8, v = .agg (l.map byteV).toArray ∧ l.length = n := by
  obtain ⟨xs, rfl, hn⟩ := okWide_arr A hv
  obtain ⟨fuel, hf⟩ := h
  cases fuel with
  | zero => simp [DataW.trod] at hf
  | succ m =>
    rw [DataW.trod_step] at hf
    unfold DataW.trodStep at hf
    simp only [A.hu, Value.cells] at hf
    rw [if_pos (by rw [A.size]; simpa using hn)] at hf
    simp only [Option.map_eq_some_iff] at hf
    obtain ⟨ys, hy, e1⟩ := hf
    have hall : ∀ x ∈ xs.toList, ∃ a : Int, x = .int .u8 a ∧ 0 ≤ a ∧ a ≤ 255 := by
      intro x hx
      obtain ⟨i, hi, rfl⟩ := List.mem_iff_getElem.1 hx
      have hi' : i < n := by rw [Array.length_toList] at hi; omega
      obtain ⟨y, hy'⟩ := mapM_each hy i (List.mem_range.2 hi')
      rw [A.one, Nat.mul_one] at hy'
      obtain ⟨a, ea, _, wa⟩ := DataW.trod_int he hy'
      have hc : (xs.toList.drop i).take 1 = [xs.toList[i]] := by
        rw [List.drop_eq_getElem_cons hi]; rfl
      rw [hc] at ea
      injection ea with ea
      simp only [Lit.wf, Bool.and_eq_true, decide_eq_true_eq] at wa
      exact ⟨a, ea, wa.1, wa.2⟩
    obtain ⟨l, hl⟩ := list_of_bytes _ hall
    refine ⟨l, by rw [← hl], ?_⟩
    have := congrArg List.length hl
    rw [List.length_map, Array.length_toList] at this
    omega
/-- an array of two numbers that came in -/
theorem open_int2 {P : Program} {W : World} {base : Nat} {k e : TypeId} {v : Value} {d : DataW H} {p : List MemPlace} (A : ArrKey P k e 2) (he : P.underlying e = some (.int .i64)) (hv : Value.okWide P W .any base k v)
    (h : DataW.Trod enc P W 0 (fun _ => true) true k v d p) : ∃ a b : Int, v = .agg #[.int .i64 a, .int .i64 b] := by
  obtain ⟨xs, rfl, hn⟩ := okWide_arr A hv
  obtain ⟨fuel, hf⟩ := h
  cases fuel with
  | zero => simp [DataW.trod] at hf
  | succ m =>
    rw [DataW.trod_step] at hf
    unfold DataW.trodStep at hf
    simp only [A.hu, Value.cells] at hf
    rw [if_pos (by rw [A.size]; simpa using hn)] at hf
    simp only [Option.map_eq_some_iff] at hf
    obtain ⟨ys, hy, e1⟩ := hf
    have hall : ∀ i (hi : i < xs.toList.length), ∃ a : Int, xs.toList[i] = .int .i64 a := by
      intro i hi
      have hi' : i < 2 := by rw [Array.length_toList] at hi; omega
      obtain ⟨y, hy'⟩ := mapM_each hy i (List.mem_range.2 hi')
      rw [A.one, Nat.mul_one] at hy'
      obtain ⟨a, ea, _, wa⟩ := DataW.trod_int he hy'
      have hc : (xs.toList.drop i).take 1 = [xs.toList[i]] := by
        rw [List.drop_eq_getElem_cons hi]; rfl
      rw [hc] at ea
      injection ea with ea
      exact ⟨a, ea⟩
    have hl : xs.toList.length = 2 := by rw [Array.length_toList]; exact hn
    obtain ⟨a, ha⟩ := hall 0 (by omega)
    obtain ⟨b, hb⟩ := hall 1 (by omega)
    refine ⟨a, b, ?_⟩
    have : xs.toList = [.int .i64 a, .int .i64 b] := by
      match hx : xs.toList, hl with
      | [u, v], _ =>
        simp only [hx, List.getElem_cons_zero, List.getElem_cons_succ] at ha hb
        rw [ha, hb]
    congr 1
    exact Array.toList_inj.1 this
end Close
end Go.Proofs.YtcfdlfedmbmidaaDoor
/- A float64 that came in. -/
namespace Go.Proofs.YtcfdlfedmbmidaaDoor
open Go.ChangeShapes Go.WideShapes Go.ChangeAt Go.RowKit Go.WideMaps Go.WideElems
namespace Close
variable {H : Type} {enc : TypeId × Value → H}
theorem okWide_float {P : Program} {w : World} {r : Reach} {base : Nat} {t : TypeId} {v : Value} {k : FloatKind} (ht : P.underlying t = some (.float k)) (h : Value.okWide P w r base t v) : ∃ n, v = .float k n := by
  simp only [Value.okWide, ht, Cell.okWide] at h
  cases v <;> simp_all [Cell.ok]
theorem trod_float {P : Program} {w : World} {base : Nat} {spare : Nat → Bool} {held : Bool} {fuel : Nat} {t : TypeId} {cs : List Value} {x : DataW H × List MemPlace} {k : FloatKind} (ht : P.underlying t = some (.float k)) (h : DataW.trod enc P w base spare held fuel t cs = some x) :
    ∃ n, cs = [.float k n] ∧ x = (.lit (.float k n), []) ∧ (Lit.float k n).wf = true := by
  cases fuel with
  | zero => simp [DataW.trod] at h
  | succ n =>
    unfold DataW.trod at h
    rw [ht] at h
    split at h <;> simp_all
theorem open_float {P : Program} {w : World} {base b0 : Nat} {spare : Nat → Bool} {held : Bool} {r : Reach} {t : TypeId} {v : Value} {d : DataW H} {ps : List MemPlace} (ht : P.underlying t = some (.float .f64)) (hval : Value.okWide P w r b0 t v) (hd : DataW.Trod enc P w base spare held t v d ps) :
    ∃ n : Nat, v = .float .f64 n ∧ d = .lit (.float .f64 n) ∧ ps = [] ∧ n < 18446744073709551616 := by
  obtain ⟨n, rfl⟩ := okWide_float ht hval
  obtain ⟨fuel, hf⟩ := hd
  obtain ⟨n', h, hx, hw⟩ := trod_float ht hf
  simp [Value.cells] at h
  subst h
  simp only [Prod.mk.injEq] at hx
  refine ⟨n, rfl, hx.1, hx.2, ?_⟩
  simpa [Lit.wf] using hw
end Close
end Go.Proofs.YtcfdlfedmbmidaaDoor
/- Tickets, spans and acts that came in. -/
namespace Go.Proofs.YtcfdlfedmbmidaaDoor
open Go.ChangeShapes Go.WideShapes Go.ChangeAt Go.RowKit Go.WideMaps Go.WideElems
namespace Tk
def zeroD {H : Type} : DataW H := .agg [.lit (.string []), .lit (.string []), .lit (.bool false), .agg (List.replicate 32 (.lit (.int .u8 0))), .lit (.string []), .lit (.int .i64 0), .lit (.int .i64 0)]
def zeroDC {H : Type} : DataW H := .agg [.lit (.string []), .lit (.int .i64 0), .lit (.int .i64 0), .lit (.int .i64 0), .lit (.int .i64 0), .lit (.int .i64 0), .lit (.int .i64 0), .lit (.float .f64 0), .lit (.float .f64 0), .lit (.float .f64 0), .lit (.float .f64 0), .lit (.float .f64 0), .lit (.float .f64 0)]
/-- a ticket that came in -/
structure T.fine (x : T) : Prop where
  dig : x.dig.length = 32
  lo : -9223372036854775808 ≤ x.at_
  hi : x.at_ ≤ 9223372036854775807
  tag : x.tag.length ≤ 9223372036854775807
structure TA where
  k : Int
  x : T
def TA.cells (u : TA) : List Value := .int .i64 u.k :: u.x.cells
def TActs (W : World) (q : Option Addr) (us : List TA) : Prop := ∀ (k : Nat) (hk : k < us.length), ∃ g o, q = some ⟨g, o, none⟩ ∧ g < W.heap.size ∧ W.rangeAt g (o + k * 39) us[k].cells ∧ us[k].x.fine
theorem undTA : Tryd.prog.underlying 46 = some (.struct (Tryd.prog.fieldsOf 46)) := by kernel_rfl
theorem sizeTA : (Tryd.prog.info? 46).map (·.size) = some 39 := by kernel_rfl
theorem TA.len (u : TA) (h : u.x.dig.length = 32) : u.cells.length = 39 := by simp [TA.cells, u.x.len h]
theorem TA.one (u : TA) : ∀ v ∈ u.cells, v.oneCell' = true := by
  intro v hv
  rcases List.mem_cons.1 hv with rfl | hv
  · rfl
  · exact u.x.one v hv
variable {H : Type} {enc : TypeId × Value → H}
theorem part {P : Program} {w : World} {base : Nat} {spare : Nat → Bool} {held : Bool} {n : Nat} {fs : Array Field} {cs : List Value} {xs : List (DataW H × List MemPlace)} (hl : xs.length = fs.size)
    (hf : ∀ (i : Nat) (f : Field), fs[i]? = some f → DataW.trod enc P w base spare held n f.type ((cs.drop f.offset).take (P.cellsOf f.type)) = xs[i]?)
    (i o m : Nat) (t : TypeId) (h : (fs[i]?).map (fun f => (f.type, f.offset, P.cellsOf f.type)) = some (t, o, m)) : ∃ y, DataW.trod enc P w base spare held n t ((cs.drop o).take m) = some y := by
  obtain ⟨f, hfi, hp⟩ := Option.map_eq_some_iff.1 h
  simp only [Prod.mk.injEq] at hp
  obtain ⟨rfl, rfl, rfl⟩ := hp
  have hi : i < xs.length := by
    rw [hl]
    exact (Array.getElem?_eq_some_iff.1 hfi).1
  exact ⟨xs[i], by rw [hf i f hfi, List.getElem?_eq_getElem hi]⟩
theorem take_split (l : List Value) (o m : Nat) : l.drop o = (l.drop o).take m ++ l.drop (o + m) := by
  rw [← List.drop_drop, List.take_append_drop]
theorem open_rowT {w : World} {base : Nat} {spare : Nat → Bool} {held : Bool} {fuel : Nat} {cs : List Value} {x : DataW H × List MemPlace} (h : DataW.trod enc Tryd.prog w base spare held fuel 25 cs = some x) :
    ∃ s : T, cs = s.cells ∧ s.fine := by
  obtain ⟨xs, n, _, _, hl, hx, hf⟩ := DataW.trod_struct undT h
  have hl : cs.length = 38 := hl.trans (by kernel_rfl)
  obtain ⟨y0, h0⟩ := part hx hf 0 0 1 9 (by kernel_rfl)
  obtain ⟨y1, h1⟩ := part hx hf 1 1 1 9 (by kernel_rfl)
  obtain ⟨y2, h2⟩ := part hx hf 2 2 1 4 (by kernel_rfl)
  obtain ⟨y3, h3⟩ := part hx hf 3 3 32 23 (by kernel_rfl)
  obtain ⟨y4, h4⟩ := part hx hf 4 35 1 9 (by kernel_rfl)
  obtain ⟨y5, h5⟩ := part hx hf 5 36 1 3 (by kernel_rfl)
  obtain ⟨y6, h6⟩ := part hx hf 6 37 1 3 (by kernel_rfl)
  obtain ⟨repo, e0, _, _⟩ := DataW.trod_string Tryd.underlying9 h0
  obtain ⟨tag, e1, _, wt⟩ := DataW.trod_string Tryd.underlying9 h1
  obtain ⟨fo, e2, _⟩ := DataW.trod_bool Tryd.underlying4 h2
  obtain ⟨typ, e4, _, _⟩ := DataW.trod_string Tryd.underlying9 h4
  obtain ⟨size, e5, _, _⟩ := DataW.trod_int Tryd.underlying3 h5
  obtain ⟨at_, e6, _, wa⟩ := DataW.trod_int Tryd.underlying3 h6
  obtain ⟨ys, m, _, _, _, hys, hg⟩ := DataW.trod_array (n := 32) (e := 5) (by kernel_rfl) h3
  have hdl : ((cs.drop 3).take 32).length = 32 := by rw [List.length_take, List.length_drop, hl]; rfl
  have hall : ∀ v ∈ (cs.drop 3).take 32, ∃ a : Int, v = .int .u8 a ∧ 0 ≤ a ∧ a ≤ 255 := by
    intro v hv
    obtain ⟨i, hi, rfl⟩ := List.mem_iff_getElem.1 hv
    have hi32 : i < 32 := by rw [hdl] at hi; exact hi
    have hgi := hg i hi32
    rw [List.getElem?_eq_getElem (by rw [hys]; exact hi32), show Tryd.prog.cellsOf 5 = 1 by kernel_rfl, Nat.mul_one] at hgi
    obtain ⟨a, ea, _, wa⟩ := DataW.trod_int Tryd.underlying5 hgi
    rw [List.drop_eq_getElem_cons hi] at ea
    simp only [List.take_succ_cons, List.take_zero, List.cons.injEq, and_true] at ea
    simp only [Lit.wf, Bool.and_eq_true, decide_eq_true_eq] at wa
    exact ⟨a, ea, wa.1, wa.2⟩
  obtain ⟨dig, hd⟩ := Close.list_of_bytes _ hall
  refine ⟨⟨repo.data.toList, tag.data.toList, fo, dig, typ.data.toList, size, at_⟩, ?_, ?_, Close.i64_lo wa, Close.i64_hi wa, ?_⟩
  · have s0 := take_split cs 0 1
    have s1 := take_split cs 1 1
    have s2 := take_split cs 2 1
    have s3 := take_split cs 3 32
    have s4 := take_split cs 35 1
    have s5 := take_split cs 36 1
    have s6 := take_split cs 37 1
    have s7 : cs.drop 38 = [] := List.drop_of_length_le (by omega)
    rw [List.drop_zero] at s0 e0
    simp only [Nat.reduceAdd, Nat.zero_add] at s0 s1 s2 s3 s4 s5 s6
    refine s0.trans ?_
    rw [e0, s1, e1, s2, e2, s3, hd, s4, e4, s5, e5, s6, e6, s7]
    simp [T.cells]
  · have := congrArg List.length hd
    rw [hdl, List.length_map] at this
    exact this.symm
  · show tag.data.toList.length ≤ _
    rw [Array.length_toList]
    exact Nat.le_trans wt (by unfold maxLen; omega)
set_option maxRecDepth 100000 in
theorem open_ticket {W : World} {base : Nat} {v : Value} {d : DataW H} {p : List MemPlace} (hv : Value.okWide Tryd.prog W .any base 25 v)
    (h : DataW.Trod enc Tryd.prog W 0 (fun _ => true) true 25 v d p) : ∃ s : T, v = .agg s.cells.toArray ∧ s.fine := by
  obtain ⟨cs, rfl, hn⟩ := okWide_struct undT hv
  obtain ⟨fuel, hf⟩ := h
  obtain ⟨s, hs, hd⟩ := open_rowT hf
  exact ⟨s, congrArg Value.agg ((Array.toArray_toList (xs := cs)).symm.trans (congrArg List.toArray hs)), hd⟩
theorem f64_fit {n : Nat} (h : (Lit.float .f64 n).wf = true) : n < 18446744073709551616 := by simpa [Lit.wf] using h
theorem open_rowC {w : World} {base : Nat} {spare : Nat → Bool} {held : Bool} {fuel : Nat} {cs : List Value} {x : DataW H × List MemPlace} (h : DataW.trod enc Tryd.prog w base spare held fuel 28 cs = some x) :
    ∃ s : Cfg, cs = s.cells ∧ s.fits := by
  obtain ⟨xs, n, _, _, hl, hx, hf⟩ := DataW.trod_struct undC h
  have hl : cs.length = 13 := hl.trans (by kernel_rfl)
  obtain ⟨y0, h0⟩ := part hx hf 0 0 1 9 (by kernel_rfl)
  obtain ⟨y1, h1⟩ := part hx hf 1 1 1 3 (by kernel_rfl)
  obtain ⟨y2, h2⟩ := part hx hf 2 2 1 3 (by kernel_rfl)
  obtain ⟨y3, h3⟩ := part hx hf 3 3 1 3 (by kernel_rfl)
  obtain ⟨y4, h4⟩ := part hx hf 4 4 1 3 (by kernel_rfl)
  obtain ⟨y5, h5⟩ := part hx hf 5 5 1 3 (by kernel_rfl)
  obtain ⟨y6, h6⟩ := part hx hf 6 6 1 3 (by kernel_rfl)
  obtain ⟨y7, h7⟩ := part hx hf 7 7 1 26 (by kernel_rfl)
  obtain ⟨y8, h8⟩ := part hx hf 8 8 1 26 (by kernel_rfl)
  obtain ⟨y9, h9⟩ := part hx hf 9 9 1 26 (by kernel_rfl)
  obtain ⟨y10, h10⟩ := part hx hf 10 10 1 26 (by kernel_rfl)
  obtain ⟨y11, h11⟩ := part hx hf 11 11 1 26 (by kernel_rfl)
  obtain ⟨y12, h12⟩ := part hx hf 12 12 1 26 (by kernel_rfl)
  obtain ⟨a0, e0, _, _⟩ := DataW.trod_string Tryd.underlying9 h0
  obtain ⟨a1, e1, _, _⟩ := DataW.trod_int Tryd.underlying3 h1
  obtain ⟨a2, e2, _, _⟩ := DataW.trod_int Tryd.underlying3 h2
  obtain ⟨a3, e3, _, _⟩ := DataW.trod_int Tryd.underlying3 h3
  obtain ⟨a4, e4, _, _⟩ := DataW.trod_int Tryd.underlying3 h4
  obtain ⟨a5, e5, _, _⟩ := DataW.trod_int Tryd.underlying3 h5
  obtain ⟨a6, e6, _, _⟩ := DataW.trod_int Tryd.underlying3 h6
  obtain ⟨a7, e7, _, w7⟩ := Close.trod_float Tryd.underlying26 h7
  obtain ⟨a8, e8, _, w8⟩ := Close.trod_float Tryd.underlying26 h8
  obtain ⟨a9, e9, _, w9⟩ := Close.trod_float Tryd.underlying26 h9
  obtain ⟨a10, e10, _, _⟩ := Close.trod_float Tryd.underlying26 h10
  obtain ⟨a11, e11, _, _⟩ := Close.trod_float Tryd.underlying26 h11
  obtain ⟨a12, e12, _, _⟩ := Close.trod_float Tryd.underlying26 h12
  refine ⟨⟨a0.data.toList, a1, a2, a3, a4, a5, a6, a7, a8, a9, a10, a11, a12⟩, ?_, f64_fit w7, f64_fit w8, f64_fit w9⟩
  have s0 := take_split cs 0 1
  have s1 := take_split cs 1 1
  have s2 := take_split cs 2 1
  have s3 := take_split cs 3 1
  have s4 := take_split cs 4 1
  have s5 := take_split cs 5 1
  have s6 := take_split cs 6 1
  have s7 := take_split cs 7 1
  have s8 := take_split cs 8 1
  have s9 := take_split cs 9 1
  have s10 := take_split cs 10 1
  have s11 := take_split cs 11 1
  have s12 := take_split cs 12 1
  have s13 : cs.drop 13 = [] := List.drop_of_length_le (by omega)
  rw [List.drop_zero] at s0 e0
  simp only [Nat.reduceAdd, Nat.zero_add] at s0 s1 s2 s3 s4 s5 s6 s7 s8 s9 s10 s11 s12
  refine s0.trans ?_
  rw [e0, s1, e1, s2, e2, s3, e3, s4, e4, s5, e5, s6, e6, s7, e7, s8, e8, s9, e9, s10, e10, s11, e11, s12, e12, s13]
  rfl
set_option maxRecDepth 100000 in
theorem open_cfg {W : World} {base : Nat} {v : Value} {d : DataW H} {p : List MemPlace} (hv : Value.okWide Tryd.prog W .any base 28 v)
    (h : DataW.Trod enc Tryd.prog W 0 (fun _ => true) true 28 v d p) : ∃ s : Cfg, v = .agg s.cells.toArray ∧ s.fits := by
  obtain ⟨cs, rfl, hn⟩ := okWide_struct undC hv
  obtain ⟨fuel, hf⟩ := h
  obtain ⟨s, hs, hd⟩ := open_rowC hf
  exact ⟨s, congrArg Value.agg ((Array.toArray_toList (xs := cs)).symm.trans (congrArg List.toArray hs)), hd⟩
theorem open_ta {w : World} {base : Nat} {spare : Nat → Bool} {held : Bool} {fuel : Nat} {cs : List Value} {x : DataW H × List MemPlace} (h : DataW.trod enc Tryd.prog w base spare held fuel 46 cs = some x) :
    ∃ u : TA, cs = u.cells ∧ u.x.fine := by
  obtain ⟨xs, n, _, _, hl, hx, hf⟩ := DataW.trod_struct undTA h
  have hl : cs.length = 39 := hl.trans (by kernel_rfl)
  obtain ⟨y0, h0⟩ := part hx hf 0 0 1 3 (by kernel_rfl)
  obtain ⟨y1, h1⟩ := part hx hf 1 1 38 25 (by kernel_rfl)
  obtain ⟨k, e0, _, _⟩ := DataW.trod_int Tryd.underlying3 h0
  obtain ⟨t, e1, hf⟩ := open_rowT h1
  refine ⟨⟨k, t⟩, ?_, hf⟩
  have s0 := take_split cs 0 1
  have s1 := take_split cs 1 38
  have s2 : cs.drop 39 = [] := List.drop_of_length_le (by omega)
  rw [List.drop_zero] at s0 e0
  simp only [Nat.reduceAdd, Nat.zero_add] at s0 s1
  refine s0.trans ?_
  rw [e0, s1, e1, s2]
  simp [TA.cells]
set_option maxRecDepth 100000 in
theorem open_tas {W : World} {base : Nat} {v : Value} {d : DataW H} {p : List MemPlace} (hv : Value.okWide Tryd.prog W .any base 36 v)
    (h : DataW.Trod enc Tryd.prog W 0 (fun _ => true) true 36 v d p) : ∃ (q : Option Addr) (cap : Nat) (us : List TA), v = .slice q us.length cap ∧ us.length ≤ maxLen ∧ TActs W q us := by
  obtain ⟨a0, len, cap, rfl⟩ := okWide_slice Tryd.underlying36 hv
  obtain ⟨fuel, hf⟩ := h
  rcases Go.Deep.open_slice Tryd.underlying36 hf with ⟨hcs, _⟩ | ⟨a, len', cap', m, n, D, Pl, hcs, _, hlc, hcm, hm, _, hcell⟩
  · simp only [Value.cells, List.cons.injEq, and_true] at hcs
    injection hcs with e1 e2 e3
    subst e1 e2 e3
    exact ⟨none, 0, [], rfl, Nat.zero_le _, (fun k hk => absurd hk (Nat.not_lt_zero _))⟩
  · simp only [Value.cells, List.cons.injEq, and_true] at hcs
    injection hcs with e1 e2 e3
    subst e1 e2 e3
    simp only [if_true] at hm
    subst hm
    have hc2 : Tryd.prog.cellsOf 46 = 39 := by kernel_rfl
    rw [hc2] at hcell
    have key : ∀ i, i < len → ∃ u : TA, (∀ j v, u.cells[j]? = some v → W.cell? ((a.add (i * 39)).add j) = some v) ∧ u.x.fine := by
      intro i hi
      obtain ⟨cs', hc, ht⟩ := hcell i (by omega)
      obtain ⟨u, rfl, hu⟩ := open_ta ht
      refine ⟨u, fun j v hv => ?_, hu⟩
      have := (World.cells?_some hc).2.2 j (by have := (List.getElem?_eq_some_iff.1 hv).1; rw [u.len hu.dig] at this; exact this)
      rw [this]; exact hv
    let f : Nat → TA := fun i => if hi : i < len then Classical.choose (key i hi) else ⟨0, zT⟩
    have hfs : ∀ i (hi : i < len), (∀ j v, (f i).cells[j]? = some v → W.cell? ((a.add (i * 39)).add j) = some v) ∧ (f i).x.fine := by
      intro i hi
      have e : f i = Classical.choose (key i hi) := dif_pos hi
      rw [e]
      exact Classical.choose_spec (key i hi)
    refine ⟨some a, m, (List.range len).map f, by rw [List.length_map, List.length_range], by rw [List.length_map, List.length_range]; omega, fun k hk => ?_⟩
    have hkl : k < len := by simpa using hk
    have hspot : a.spot = none := by
      have h0 := (hfs 0 (by omega)).1 0 _ rfl
      rw [Nat.zero_mul] at h0
      have e : (a.add 0).add 0 = a := by simp [Addr.add]
      rw [e] at h0
      unfold World.cell? at h0
      cases hs : a.spot with
      | none => rfl
      | some q => rw [hs] at h0; simp at h0; split at h0 <;> cases h0
    obtain ⟨g, o, sp⟩ := a
    simp only at hspot
    subst hspot
    obtain ⟨h1, h2⟩ := hfs k hkl
    have hg := World.block_lt_of_cell? W _ (h1 0 _ rfl)
    rw [Addr.add_mid, Addr.add_mid] at hg
    refine ⟨g, o, rfl, hg, ?_, ?_⟩
    · rw [List.getElem_map, List.getElem_range]
      intro j v hv
      have := h1 j v hv
      rw [Addr.add_mid, Addr.add_mid] at this
      exact this
    · rw [List.getElem_map, List.getElem_range]; exact h2
end Tk
end Go.Proofs.YtcfdlfedmbmidaaDoor
/- The nil table; what a law holds behind a Put. -/
namespace Go.Proofs.YtcfdlfedmbmidaaDoor
open Go Go.RowKit
namespace Tk
set_option maxRecDepth 100000 in
theorem put_nil (w : World) : Calls Tryd.prog 15 #[.pointer none, .agg zT.cells.toArray] w fun e w' => e = .returned (.tuple #[.agg zT.cells.toArray, .bool false, .int .i64 2]) ∧ Reg.Ext w w' := by
  have hx1 := Reg.Ext.alloc w (Obj.cells zT.cells.toArray 25)
  have hz1 : (w.alloc (Obj.cells zT.cells.toArray 25)).heap.size = w.heap.size + 1 := by rw [size_up]
  have hb2 := boxT (w.alloc (Obj.cells zT.cells.toArray 25)) zT
  have hx2 := Reg.Ext.alloc (w.alloc (Obj.cells zT.cells.toArray 25)) (Obj.cells zT.cells.toArray 25)
  rw [hz1] at hb2
  have HB2 := Lib.hid hb2
  have HX2 := Lib.hid (hx1.trans hx2)
  clear hb2 hx1 hx2 hz1
  go_enter Tryd.func15, Tryd.ntmps15
  go_upto_region 1 with (fail)
  rw [z38]
  generalize (w.alloc (Obj.cells zT.cells.toArray 25)).alloc (Obj.cells zT.cells.toArray 25) = w2 at *
  generalize hg3 : w.heap.size = g3 at *
  have HG3 := Lib.hid hg3
  clear hg3
  go_upto_region 2 with (fail)
  refine wp_region_lit ?_
  refine wpList_val rfl (.agg zT.cells.toArray) (by as_aux_lemma => kernel_rfl) ?_
  simp only [Act.put, Act.eval, List.setIfInBounds_toArray, List.set_cons_zero, List.set_cons_succ, Nat.reduceAdd, Array.getD_eq_getD_getElem?, List.getElem?_toArray, List.getElem?_cons_succ, List.getElem?_cons_zero, Option.getD_some]
  refine wpList_store_mid rfl 25 _ _ rfl (g3 + 1) 0 (zT).cells.toArray rfl ?_ ((HB2.out).there _ (by have e1 := (zT).len rfl; have e2 := (zT).len rfl; rw [List.size_toArray]; omega)) (by rw [List.size_toArray, (zT).len rfl]; exact sizeT) (all_oneCell_toArray (T.one _)) ?_
  · rfl
  simp only [List.toList_toArray]
  simp only [Act.put, Act.eval, List.setIfInBounds_toArray, List.set_cons_zero, List.set_cons_succ, Nat.reduceAdd, Array.getD_eq_getD_getElem?, List.getElem?_toArray, List.getElem?_cons_succ, List.getElem?_cons_zero, Option.getD_some]
  have HB4 := Lib.hid (HB2.out.setAll zT.cells rfl)
  have HX4 := Lib.hid (HX2.out.trans_but (But.setCells (g3 + 1) zT.cells 0 w2) (by rw [HG3.out]; omega))
  generalize w2.setCells (g3 + 1) 0 zT.cells = w4 at *
  go_wp2_with fail
  exact bodyPost_ret (results_tk3 rfl _ _ (g3 + 1) 25 zT.cells.toArray (0, 0) rfl HB4.out (by exact sizeT)) rfl ⟨rfl, HX4.out⟩
set_option maxRecDepth 100000 in
theorem get_nil (r t : ByteArray) (w : World) : Calls Tryd.prog 17 #[.pointer none, .string r, .string t] w fun e w' => e = .returned (.tuple #[.agg zT.cells.toArray, .bool false]) ∧ Reg.Ext w w' := by
  have hx2 := Reg.Ext.alloc w (Obj.cells zT.cells.toArray 25)
  have HB2 := Lib.hid (boxT w zT)
  have HX2 := Lib.hid hx2
  clear hx2
  go_enter Tryd.func17, Tryd.ntmps17
  go_upto_region 1 with (fail)
  rw [z38]
  generalize w.alloc (Obj.cells zT.cells.toArray 25) = w2 at *
  generalize hg3 : w.heap.size = g3 at *
  have HG3 := Lib.hid hg3
  clear hg3
  go_upto_region 2 with (fail)
  refine wp_region_lit ?_
  refine wpList_val rfl (.agg zT.cells.toArray) (by as_aux_lemma => kernel_rfl) ?_
  simp only [Act.put, Act.eval, List.setIfInBounds_toArray, List.set_cons_zero, List.set_cons_succ, Nat.reduceAdd, Array.getD_eq_getD_getElem?, List.getElem?_toArray, List.getElem?_cons_succ, List.getElem?_cons_zero, Option.getD_some]
  refine wpList_store_mid rfl 25 _ _ rfl g3 0 (zT).cells.toArray rfl ?_ ((HB2.out).there _ (by have e1 := (zT).len rfl; have e2 := (zT).len rfl; rw [List.size_toArray]; omega)) (by rw [List.size_toArray, (zT).len rfl]; exact sizeT) (all_oneCell_toArray (T.one _)) ?_
  · rfl
  simp only [List.toList_toArray]
  simp only [Act.put, Act.eval, List.setIfInBounds_toArray, List.set_cons_zero, List.set_cons_succ, Nat.reduceAdd, Array.getD_eq_getD_getElem?, List.getElem?_toArray, List.getElem?_cons_succ, List.getElem?_cons_zero, Option.getD_some]
  have HB4 := Lib.hid (HB2.out.setAll zT.cells rfl)
  have HX4 := Lib.hid (HX2.out.trans_but (But.setCells g3 zT.cells 0 w2) (by rw [HG3.out]; omega))
  generalize w2.setCells g3 0 zT.cells = w4 at *
  go_wp2_with fail
  exact bodyPost_ret (results_tk rfl _ _ g3 25 zT.cells.toArray (0, 0) rfl HB4.out (by exact sizeT)) rfl ⟨rfl, HX4.out⟩
theorem drop_nil (r t : ByteArray) (w : World) : Calls Tryd.prog 19 #[.pointer none, .string r, .string t] w fun e w' => e = .returned (.bool false) ∧ w = w' := by
  go_enter Tryd.func19, Tryd.ntmps19
  go_wp2_with fail
  go_ret
  exact ⟨rfl, rfl⟩
theorem len_nil (w : World) : Calls Tryd.prog 21 #[.pointer none] w fun e w' => e = .returned (.int .i64 0) ∧ w = w' := by
  go_enter Tryd.func21, Tryd.ntmps21
  go_wp2_with fail
  go_ret
  exact ⟨rfl, rfl⟩
theorem list_nil (w : World) : Calls Tryd.prog 23 #[.pointer none] w fun e w' => e = .returned (.slice none 0 0) ∧ w = w' := by
  go_enter Tryd.func23, Tryd.ntmps23
  go_wp2_with fail
  go_ret
  exact ⟨rfl, rfl⟩
/-- behind a Put that went well: the table, the ticket's box, the box of the one that had to go, the list -/
structure Aft (W0 w : World) (b : Nat) (v : Value) (p : P) (g9 : Nat) (x : T) (g11 : Nat) (gz : T) (vl : Value) : Prop where
  lw : Lw 62 W0 w b v p
  bx : Bo w b v g9 25 x.cells
  bg : Blk w g11 25 gz.cells
  li : LT 0 w vl p.l
theorem Aft.ext {W0 w w' : World} {b : Nat} {v : Value} {p : P} {g9 : Nat} {x : T} {g11 : Nat} {gz : T} {vl : Value} (h : Aft W0 w b v p g9 x g11 gz vl) (hx : Reg.Ext w w') : Aft W0 w' b v p g9 x g11 gz vl :=
  ⟨h.lw.ext hx, h.bx.ext hx, h.bg.ext hx, h.li.ext hx⟩
theorem put_mem {p : P} {x g : T} (hg : (p.put x).1 = some g) : g ∈ p.l := by
  unfold P.put at hg
  split at hg
  · cases hg
  · split at hg
    · cases hg
    · split at hg
      · cases hg
      · rename_i z hz
        injection hg with hg
        subst hg
        exact oldest_mem hz
theorem put_fit {p : P} {x : T} (h : Fit p.l) : ((p.put x).1.getD zT).dig.length = 32 := by
  cases hq : (p.put x).1 with
  | none => rfl
  | some g => exact h g (put_mem hq)
/-- two rows' neighbours -/
theorem near_names {l : List T} (h : Nmd.Up nm l) {k : Nat} (hk : k + 1 < l.length) :
    (Op.bytesLess l[k + 1].repo l[k].repo = false ∧ (l[k].repo == l[k + 1].repo) = false) ∨ (l[k].repo = l[k + 1].repo ∧ Op.bytesLess l[k].repo l[k].repo = false ∧ Op.bytesLess l[k].tag l[k + 1].tag = true) := by
  rcases up_lt h hk with h1 | ⟨h1, h2⟩
  · refine .inl ⟨(bytesLess_eq _ _).trans (decide_eq_false fun h2 => List.lt_irrefl _ (List.lt_trans h1 h2)), beq_eq_false_iff_ne.2 fun e => ?_⟩
    rw [e] at h1
    exact List.lt_irrefl _ h1
  · exact .inr ⟨h1, (bytesLess_eq _ _).trans (decide_eq_false (List.lt_irrefl _)), (bytesLess_eq _ _).trans (decide_eq_true h2)⟩
theorem TA.tail {W : World} {g o : Nat} {u : TA} (h : W.rangeAt g o u.cells) : W.rangeAt g (o + 1) u.x.cells := fun j v hv => by
  have := h (j + 1) v (by unfold TA.cells; rw [List.getElem?_cons_succ]; exact hv)
  rw [show o + 1 + j = o + (j + 1) by omega]
  exact this
theorem TA.head {W : World} {g o : Nat} {u : TA} (h : W.rangeAt g o u.cells) : W.cell? ⟨g, o, none⟩ = some (.int .i64 u.k) := h 0 _ rfl
end Tk
end Go.Proofs.YtcfdlfedmbmidaaDoor
