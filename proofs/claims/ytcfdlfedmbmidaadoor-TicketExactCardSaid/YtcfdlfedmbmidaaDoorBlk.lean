/- A block that is known whole, as a list of values. No program in sight. -/
import Derived.Test.YtcfdlfedmbmidaaDoorWords
import Derived.Test.YtcfdlfedmbmidaaDoorReg
import Derived.Laws.Rows
import Derived.Deep.MidRow
set_option linter.unusedSimpArgs false
set_option linter.unusedVariables false
set_option linter.unusedSectionVars false
namespace Go.Proofs.YtcfdlfedmbmidaaDoor
open Go Go.RowKit

/-- block g is just these cells of element type t, none frozen -/
def Blk (w : World) (g : Nat) (t : TypeId) (cs : List Value) : Prop := w.heap[g]? = some (.cells cs.toArray t (0, 0))
section
variable {w w' : World} {g : Nat} {t : TypeId} {cs : List Value}
theorem Blk.lt (h : Blk w g t cs) : g < w.heap.size := by
  rcases Nat.lt_or_ge g w.heap.size with hlt | hge
  · exact hlt
  · unfold Blk at h; rw [Array.getElem?_eq_none hge] at h; cases h
theorem Blk.cell (h : Blk w g t cs) (i : Nat) : w.cell? ⟨g, i, none⟩ = cs[i]? := by
  unfold Blk at h
  simp [World.cell?, h]
theorem Blk.cellAt (h : Blk w g t cs) {i : Nat} (hi : i < cs.length) : w.cell? ⟨g, i, none⟩ = some cs[i] := by
  rw [h.cell, List.getElem?_eq_getElem hi]
theorem Blk.frozen (h : Blk w g t cs) (i : Nat) : w.frozen? ⟨g, i, none⟩ = false := by
  unfold Blk at h
  simp [World.frozen?, h]
theorem Blk.new (w : World) (t : TypeId) (cs : Array Value) : Blk (w.alloc (.cells cs t)) w.heap.size t cs.toList := by
  have := heap_alloc_new w (.cells cs t)
  unfold Blk; rw [this]
theorem Blk.drew (h : Blk w g t cs) : Blk w.drew g t cs := h
theorem Blk.drewN (h : Blk w g t cs) (n : Nat) : Blk (w.drewN n) g t cs := h
theorem Blk.alloc (h : Blk w g t cs) (o : Obj) : Blk (w.alloc o) g t cs := (Below.heap_alloc w o g h.lt).trans h
theorem Blk.set_ (h : Blk w g t cs) (i : Nat) (u : Value) : Blk (w.setCell ⟨g, i, none⟩ u) g t (cs.set i u) := by
  unfold Blk at h ⊢
  simp [World.setCell, Array.getElem?_modify, h]
theorem Blk.far (h : Blk w g t cs) {p : Addr} (hp : g ≠ p.block) (u : Value) : Blk (w.setCell p u) g t cs := (Below.heap_setCell w p u g hp).trans h
theorem Blk.setCells_ : ∀ (vs pre old post : List Value) {w : World}, vs.length = old.length → Blk w g t (pre ++ old ++ post) → Blk (w.setCells g pre.length vs) g t (pre ++ vs ++ post)
  | [], pre, old, post, w, hl, h => by
    cases old with
    | nil => exact h
    | cons _ _ => simp at hl
  | v :: vs, pre, old, post, w, hl, h => by
    cases old with
    | nil => simp at hl
    | cons x old =>
      have h1 := h.set_ pre.length v
      have e : (pre ++ (x :: old) ++ post).set pre.length v = (pre ++ [v]) ++ old ++ post := by
        rw [List.append_assoc, List.set_append_right _ _ (Nat.le_refl _), Nat.sub_self]
        simp
      rw [e] at h1
      have h2 := Blk.setCells_ vs (pre ++ [v]) old post (by simpa using hl) h1
      rw [List.length_append] at h2
      have h3 : Blk ((w.setCell ⟨g, pre.length, none⟩ v).setCells g (pre.length + 1) vs) g t (pre ++ (v :: vs) ++ post) := by simpa using h2
      exact h3
theorem Blk.setAll (h : Blk w g t cs) (vs : List Value) (hl : vs.length = cs.length) : Blk (w.setCells g 0 vs) g t vs := by
  have := Blk.setCells_ (g := g) (t := t) vs [] cs [] (w := w) hl (by simpa using h)
  simpa using this
theorem Blk.there (h : Blk w g t cs) (n : Nat) (hn : n ≤ cs.length) : w.there g 0 n := fun j hj => by
  rw [Nat.zero_add]
  exact ⟨by rw [h.cellAt (by omega)]; rfl, h.frozen j⟩
theorem Blk.below {B : Nat} (h : Blk w g t cs) (hb : Below B w w') (hg : g < B) : Blk w' g t cs := (hb.block g hg).trans h
theorem Blk.ext (h : Blk w g t cs) (hx : Reg.Ext w w') : Blk w' g t cs := h.below hx h.lt
end

/-- all that there was but block g is as it was -/
def But (g : Nat) (w w' : World) : Prop := w.grownBy w' (some g)
theorem But.refl (g : Nat) (w : World) : But g w w := World.grownBy.refl w _
theorem But.trans {g : Nat} {a b c : World} (h : But g a b) (k : But g b c) : But g a c :=
  ⟨k.os.trans h.os, k.tape.trans h.tape, k.output.trans h.output, Nat.le_trans h.size k.size, fun i hi hn => (k.block i (Nat.lt_of_lt_of_le hi h.size) hn).trans (h.block i hi hn)⟩
theorem But.of_ext {g : Nat} {a b : World} (h : Reg.Ext a b) : But g a b := ⟨h.os, h.tape, h.output, h.size, fun i hi _ => h.block i hi⟩
theorem But.set_ (g : Nat) (w : World) (i : Nat) (v : Value) : But g w (w.setCell ⟨g, i, none⟩ v) :=
  ⟨rfl, rfl, rfl, by simp [World.setCell], fun k _ hn => Below.heap_setCell w _ v k (fun e => hn (by rw [e]))⟩
theorem But.setCells (g : Nat) : ∀ (vs : List Value) (o : Nat) (w : World), But g w (w.setCells g o vs)
  | [], _, w => But.refl g w
  | v :: vs, o, w => (But.set_ g w o v).trans (But.setCells g vs (o + 1) _)
theorem But.ext_of {g : Nat} {a b : World} (h : But g a b) {n : Nat} (hn : n ≤ a.heap.size) (hg : n ≤ g) : Below n a b :=
  ⟨h.os, h.tape, h.output, h.size, fun k hk => h.block k (by omega) (fun e => by injection e; omega)⟩
theorem Reg.Ext.trans_but {g : Nat} {a b c : World} (h : Reg.Ext a b) (k : But g b c) (hg : a.heap.size ≤ g) : Reg.Ext a c := Below.trans h (k.ext_of h.size hg)
theorem Blk.but {w w' : World} {g g' : Nat} {t : TypeId} {cs : List Value} (h : Blk w g t cs) (hb : But g' w w') (hne : g ≠ g') : Blk w' g t cs :=
  (hb.block g h.lt (fun e => hne (by injection e))).trans h
end Go.Proofs.YtcfdlfedmbmidaaDoor
