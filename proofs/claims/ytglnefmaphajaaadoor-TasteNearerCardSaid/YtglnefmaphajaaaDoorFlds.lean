/- Slices of header fields: how they read. -/
import Derived.Test.YtglnefmaphajaaaDoorBufS
set_option linter.unusedSimpArgs false
set_option linter.unusedVariables false
set_option linter.unusedSectionVars false
namespace Go.Proofs.YtglnefmaphajaaaDoor
open Go Go.RowKit
/-- a field: its name and its value -/
abbrev Fld := ByteArray × ByteArray
def fcells (fs : List Fld) : List Value := fs.flatMap fun f => [strV f.1, strV f.2]
theorem fcells_len (fs : List Fld) : (fcells fs).length = 2 * fs.length := by
  induction fs with
  | nil => rfl
  | cons f fs ih => simp only [fcells, List.flatMap_cons, List.length_append, List.length_cons, List.length_nil] at *; omega
theorem fcells_nil : fcells [] = [] := rfl
theorem fcells_cons (f : Fld) (fs : List Fld) : fcells (f :: fs) = strV f.1 :: strV f.2 :: fcells fs := rfl
theorem fcells_append (a b : List Fld) : fcells (a ++ b) = fcells a ++ fcells b := by simp [fcells]
theorem fcells_at : ∀ (fs : List Fld) (k : Nat) (h : k < fs.length), (fcells fs)[2 * k]? = some (strV fs[k].1) ∧ (fcells fs)[2 * k + 1]? = some (strV fs[k].2)
  | f :: fs, 0, _ => ⟨rfl, rfl⟩
  | f :: fs, k + 1, h => by
    have := fcells_at fs k (by simpa using h)
    rw [fcells_cons, show 2 * (k + 1) = 2 * k + 1 + 1 by omega, List.getElem?_cons_succ, List.getElem?_cons_succ, List.getElem?_cons_succ, List.getElem?_cons_succ]
    exact this
/-- a slice reads as these fields; nil let in -/
def RdF (w : World) (A : Option Addr) (fs : List Fld) : Prop := Rd w A (fcells fs)
theorem RdF.ext {w w' : World} {A : Option Addr} {fs : List Fld} (h : RdF w A fs) (hx : Reg.Ext w w') : RdF w' A fs := h.below hx
theorem RdF.nil_ (w : World) (A : Option Addr) : RdF w A [] := Rd.nil_ w A
/-- the two cells of a field -/
theorem RdF.at_ {w : World} {A : Option Addr} {fs : List Fld} (h : RdF w A fs) (k : Nat) (hk : k < fs.length) :
    ∃ ad : Addr, A = some ad ∧ ad.block < w.heap.size ∧ w.cell? (ad.add (k * 2)) = some (.string fs[k].1) ∧ w.cell? (ad.add (k * 2 + 1)) = some (.string fs[k].2) := by
  obtain ⟨h1, h2⟩ := fcells_at fs k hk
  have hl : 2 * k + 1 < (fcells fs).length := by rw [fcells_len]; omega
  obtain ⟨ad, e, hlt, hc⟩ := h (2 * k) (by omega)
  obtain ⟨ad', e', _, hc'⟩ := h (2 * k + 1) hl
  rw [e] at e'
  injection e' with e'
  subst e'
  rw [List.getElem?_eq_getElem (by omega)] at h1
  rw [List.getElem?_eq_getElem hl] at h2
  injection h1 with h1
  injection h2 with h2
  refine ⟨ad, e, hlt, ?_, ?_⟩
  · rw [Nat.mul_comm, hc, h1]; rfl
  · rw [Nat.mul_comm, hc', h2]; rfl
theorem Tryd.fldInfo : (Tryd.prog.info? 35).map (fun i => (i.zero, i.size, i.bytes)) = some (some (.agg #[.string ⟨#[]⟩, .string ⟨#[]⟩]), 2, 32) := by kernel_rfl
theorem fldInfo_of : ∃ i, Tryd.prog.info? 35 = some i ∧ i.zero = some (.agg #[.string ⟨#[]⟩, .string ⟨#[]⟩]) ∧ i.size = 2 ∧ i.bytes = 32 := by
  obtain ⟨i, hi, h⟩ := Option.map_eq_some_iff.1 Tryd.fldInfo
  simp only [Prod.mk.injEq] at h
  exact ⟨i, hi, h.1, h.2.1, h.2.2⟩
/-- v owns just these fields, in a block made since W0; all that there was in W0 is as it was -/
def FOwn (W0 w : World) (v : Value) (fs : List Fld) : Prop := w.ownsRow W0.heap.size 35 2 v fs.length (fcells fs) ∧ Reg.Ext W0 w ∧ W0.heap.size ≤ w.heap.size
theorem FOwn.ext {W0 w : World} {v : Value} {fs : List Fld} (h : FOwn W0 w v fs) : Reg.Ext W0 w := h.2.1
theorem FOwn.nil_ (W0 w : World) (hx : Reg.Ext W0 w) : FOwn W0 w (.slice none 0 0) [] := ⟨⟨rfl, .inl ⟨rfl, rfl⟩⟩, hx, hx.size⟩
theorem FOwn.rd {W0 w : World} {v : Value} {fs : List Fld} (h : FOwn W0 w v fs) : ∃ A cap, v = .slice A fs.length cap ∧ RdF w A fs := by
  rcases h.1.2 with ⟨rfl, hn⟩ | ⟨g, cap, cur, rfl, hg, hc, h1, h2, h3, h4⟩
  · have : fs = [] := List.eq_nil_of_length_eq_zero hn
    subst this
    exact ⟨none, 0, rfl, Rd.nil_ _ _⟩
  · refine ⟨_, cap, rfl, fun k hk => ⟨_, rfl, ?_, ?_⟩⟩
    · rcases Nat.lt_or_ge g w.heap.size with hlt | hge
      · exact hlt
      · rw [Array.getElem?_eq_none hge] at hc; cases hc
    · exact h.1.cells (g := g) rfl k _ (List.getElem?_eq_getElem hk)
end Go.Proofs.YtglnefmaphajaaaDoor
