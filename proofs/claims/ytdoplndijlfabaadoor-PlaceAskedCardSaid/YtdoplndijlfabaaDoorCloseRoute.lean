/- A route that came in. -/
import Derived.Test.YtdoplndijlfabaaDoorClose
import Derived.Test.YtdoplndijlfabaaDoorCloseB
import Derived.Test.YtdoplndijlfabaaDoorRoute
import Derived.Deep.Slices
import Derived.OpenShut
set_option linter.unusedSimpArgs false
set_option linter.unusedVariables false
set_option linter.unusedSectionVars false
namespace Go.Proofs.YtdoplndijlfabaaDoor
open Go.ChangeShapes Go.WideShapes Go.ChangeAt Go.RowKit Go.WideMaps Go.WideElems
namespace Rte
def zeroD {H : Type} : DataW H := .agg [.lit (.int .i64 0), .lit (.string []), .lit (.string []), .agg (List.replicate 32 (.lit (.int .u8 0)))]
variable {H : Type} {enc : TypeId × Value → H}
theorem part' {P : Program} {w : World} {base : Nat} {spare : Nat → Bool} {held : Bool} {n : Nat} {fs : Array Field} {cs : List Value} {xs : List (DataW H × List MemPlace)} (hl : xs.length = fs.size)
    (hf : ∀ (i : Nat) (f : Field), fs[i]? = some f → DataW.trod enc P w base spare held n f.type ((cs.drop f.offset).take (P.cellsOf f.type)) = xs[i]?)
    (i o m : Nat) (t : TypeId) (h : (fs[i]?).map (fun f => (f.type, f.offset, P.cellsOf f.type)) = some (t, o, m)) : ∃ y, DataW.trod enc P w base spare held n t ((cs.drop o).take m) = some y := by
  obtain ⟨f, hfi, hp⟩ := Option.map_eq_some_iff.1 h
  simp only [Prod.mk.injEq] at hp
  obtain ⟨rfl, rfl, rfl⟩ := hp
  have hi : i < xs.length := by
    rw [hl]
    exact (Array.getElem?_eq_some_iff.1 hfi).1
  exact ⟨xs[i], by rw [hf i f hfi, List.getElem?_eq_getElem hi]⟩
theorem take_split (l : List Value) (o m : Nat) : l.drop o = (l.drop o).take m ++ l.drop (o + m) := by
  rw [← List.drop_drop, List.take_append_drop]
theorem open_row {w : World} {base : Nat} {spare : Nat → Bool} {held : Bool} {fuel : Nat} {cs : List Value} {x : DataW H × List MemPlace} (h : DataW.trod enc Tryd.prog w base spare held fuel 26 cs = some x) :
    ∃ s : S, cs = s.cells ∧ s.dig.length = 32 := by
  obtain ⟨xs, n, _, _, hl, hx, hf⟩ := DataW.trod_struct undS h
  have hl : cs.length = 35 := hl.trans (by kernel_rfl)
  obtain ⟨y0, h0⟩ := part' hx hf 0 0 1 3 (by kernel_rfl)
  obtain ⟨y1, h1⟩ := part' hx hf 1 1 1 9 (by kernel_rfl)
  obtain ⟨y2, h2⟩ := part' hx hf 2 2 1 9 (by kernel_rfl)
  obtain ⟨y3, h3⟩ := part' hx hf 3 3 32 24 (by kernel_rfl)
  obtain ⟨k, e0, _, _⟩ := DataW.trod_int Tryd.underlying3 h0
  obtain ⟨repo, e1, _, _⟩ := DataW.trod_string Tryd.underlying9 h1
  obtain ⟨tag, e2, _, _⟩ := DataW.trod_string Tryd.underlying9 h2
  obtain ⟨ys, m, _, _, _, hys, hg⟩ := DataW.trod_array (n := 32) (e := 5) (by kernel_rfl) h3
  have hdl : ((cs.drop 3).take 32).length = 32 := by rw [List.length_take, List.length_drop, hl]; rfl
  have hall : ∀ v ∈ (cs.drop 3).take 32, ∃ a : Int, v = .int .u8 a ∧ 0 ≤ a ∧ a ≤ 255 := by
    intro v hv
    obtain ⟨i, hi, rfl⟩ := List.mem_iff_getElem.1 hv
    have hi32 : i < 32 := by rw [hdl] at hi; exact hi
    have hgi := hg i hi32
    rw [List.getElem?_eq_getElem (by rw [hys]; exact hi32), show Tryd.prog.cellsOf 5 = 1 by kernel_rfl, Nat.mul_one] at hgi
    obtain ⟨a, ea, _, wa⟩ := DataW.trod_int Tryd.underlying5 hgi
    rw [List.drop_eq_getElem_cons hi] at ea
    simp only [List.take_succ_cons, List.take_zero, List.cons.injEq, and_true] at ea
    simp only [Lit.wf, Bool.and_eq_true, decide_eq_true_eq] at wa
    exact ⟨a, ea, wa.1, wa.2⟩
  obtain ⟨dig, hd⟩ := Close.list_of_bytes _ hall
  refine ⟨⟨k, repo, tag, dig⟩, ?_, ?_⟩
  · have s0 := take_split cs 0 1
    have s1 := take_split cs 1 1
    have s2 := take_split cs 2 1
    have s3 := take_split cs 3 32
    have s7 : cs.drop 35 = [] := List.drop_of_length_le (by omega)
    rw [List.drop_zero] at s0 e0
    simp only [Nat.reduceAdd, Nat.zero_add] at s0 s1 s2 s3
    refine s0.trans ?_
    rw [e0, s1, e1, s2, e2, s3, hd, s7]
    simp [S.cells]
  · have := congrArg List.length hd
    rw [hdl, List.length_map] at this
    exact this.symm
theorem open_route {W : World} {base : Nat} {v : Value} {d : DataW H} {p : List MemPlace} (hv : Value.okWide Tryd.prog W .any base 26 v)
    (h : DataW.Trod enc Tryd.prog W 0 (fun _ => true) true 26 v d p) : ∃ s : S, v = .agg s.cells.toArray ∧ s.dig.length = 32 := by
  obtain ⟨cs, rfl, hn⟩ := okWide_struct undS hv
  obtain ⟨fuel, hf⟩ := h
  obtain ⟨s, hs, hd⟩ := open_row hf
  exact ⟨s, by rw [← hs]; rfl, hd⟩
end Rte
end Go.Proofs.YtdoplndijlfabaaDoor
