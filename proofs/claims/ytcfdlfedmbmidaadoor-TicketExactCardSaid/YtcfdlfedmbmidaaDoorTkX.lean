/- A table that a law holds. -/
import Derived.Test.YtcfdlfedmbmidaaDoorTkW
import Derived.Test.YtcfdlfedmbmidaaDoorTkO
set_option linter.unusedSimpArgs false
set_option linter.unusedVariables false
set_option linter.unusedSectionVars false
namespace Go.Proofs.YtcfdlfedmbmidaaDoor
open Go Go.RowKit
namespace Tk
/-- the law's table, made since W0; all that there was in W0 is as it was -/
structure Lw (T0 : TypeId) (W0 w : World) (b : Nat) (v : Value) (p : P) : Prop where
  tb : Tb T0 w b v p.l p.most
  good : Good p
  base : Reg.Ext W0 w
  own : ∀ i, TO b v i → W0.heap.size ≤ i
section
variable {T0 : TypeId} {W0 w w' : World} {b : Nat} {v v' : Value} {p q : P}
theorem Lw.ext (h : Lw T0 W0 w b v p) (hx : Reg.Ext w w') : Lw T0 W0 w' b v p := ⟨h.tb.ext hx, h.good, h.base.trans hx, h.own⟩
theorem Lw.turn (h : Lw T0 W0 w b v p) (ht : TTurn b w v w' v') (hb : Tb T0 w' b v' q.l q.most) (hq : Good q) : Lw T0 W0 w' b v' q :=
  ⟨hb, hq, (ht.base h.base h.own).1, (ht.base h.base h.own).2⟩
/-- a block that the table doesn't own -/
def Out (w : World) (b : Nat) (v : Value) (i : Nat) : Prop := i < w.heap.size ∧ ¬ TO b v i
theorem Out.turn {i : Nat} (h : Out w b v i) (ht : TTurn b w v w' v') : Out w' b v' i ∧ w'.heap[i]? = w.heap[i]? :=
  ⟨⟨Nat.lt_of_lt_of_le h.1 ht.size, fun o => by rcases ht.own i o with h1 | h1; exact h.2 h1; have := h.1; omega⟩, ht.kept i h.1 h.2⟩
theorem Out.ext {i : Nat} (h : Out w b v i) (hx : Reg.Ext w w') : Out w' b v i := ⟨Nat.lt_of_lt_of_le h.1 hx.size, h.2⟩
theorem Out.new {i : Nat} (hl : Tb T0 w b v p.l p.most) (h1 : w.heap.size ≤ i) (h2 : i < w'.heap.size) : Out w' b v i := ⟨h2, fun o => by have := hl.lt o; omega⟩
theorem Lw.len (h : Lw T0 W0 w b v p) : p.l.length = p.l.length := rfl
end
section
variable {W0 w : World} {b : Nat} {v : Value} {p : P}
theorem new_law (hx : Reg.Ext W0 w) (most : Int) (h0 : 1 ≤ most) (h1 : most ≤ 64) : Calls Tryd.prog 14 #[.int .i64 most] w fun e w' => ∃ b, e = .returned (.tuple #[.pointer (some ⟨b, 0, none⟩), .int .i64 0]) ∧ Lw 62 W0 w' b (.slice none 0 0) ⟨[], most⟩ ∧ Reg.Ext w w' := by
  refine (new_any most h0 h1 w).mono fun e w' ⟨b, he, hb, hs, hx1⟩ => ⟨b, he, ⟨hb, ⟨Nmd.up_nil _, by show (0 : Int) ≤ most; omega, h0⟩, hx.trans hx1, fun i hi => ?_⟩, hx1⟩
  rcases hi with rfl | hi
  · have := hx.size; omega
  · cases hi
theorem Lw.put (h : Lw 62 W0 w b v p) (hl : p.most ≤ 64) (x : T) (hx : x.dig.length = 32) (hgood : goodT x = true) :
    Calls Tryd.prog 15 #[.pointer (some ⟨b, 0, none⟩), .agg x.cells.toArray] w fun e w' => e = .returned (.tuple #[.agg ((p.put x).1.getD zT).cells.toArray, .bool (p.put x).1.isSome, .int .i64 0]) ∧ ∃ v', Lw 62 W0 w' b v' (p.put x).2 ∧ TTurn b w v w' v' := by
  refine (put_any h.tb h.good (by have := h.good.most; omega) x hx hgood).mono fun e w' ⟨he, v', hb, ht⟩ => ⟨he, v', h.turn ht ?_ (h.good.put x), ht⟩
  rw [put_most]
  exact hb
theorem Lw.get (h : Lw 62 W0 w b v p) (hl : p.most ≤ 64) (r t : List UInt8) :
    Calls Tryd.prog 17 #[.pointer (some ⟨b, 0, none⟩), .string ⟨r.toArray⟩, .string ⟨t.toArray⟩] w fun e w' => e = .returned (.tuple #[.agg ((p.get (pair r t)).getD zT).cells.toArray, .bool (p.get (pair r t)).isSome]) ∧ Reg.Ext w w' :=
  get_any h.tb h.good.up (by have := h.good.most; omega) r t
theorem Lw.drop (h : Lw 62 W0 w b v p) (hl : p.most ≤ 64) (r t : List UInt8) :
    Calls Tryd.prog 19 #[.pointer (some ⟨b, 0, none⟩), .string ⟨r.toArray⟩, .string ⟨t.toArray⟩] w fun e w' => e = .returned (.bool (p.get (pair r t)).isSome) ∧ ∃ v', Lw 62 W0 w' b v' (p.drop (pair r t)).2 ∧ TTurn b w v w' v' :=
  (drop_any h.tb h.good.up (by have := h.good.most; omega) r t).mono fun e w' ⟨he, v', hb, ht⟩ => ⟨he, v', h.turn ht hb (h.good.drop _), ht⟩
theorem Lw.list (h : Lw 62 W0 w b v p) (hl : p.most ≤ 64) : Calls Tryd.prog 23 #[.pointer (some ⟨b, 0, none⟩)] w (ResC w p.l) :=
  list_any h.tb (by have := h.good.most; omega)
end
end Tk
end Go.Proofs.YtcfdlfedmbmidaaDoor
