/- A slice of bytes that a call makes: out of literals; a text's bytes appended; all that was there but its block. -/
import Derived.Test.YtafeealbdpmdkaaGreatDoorBuf
import Derived.Test.YtafeealbdpmdkaaGreatDoorRegP
import Derived.Lib.FrozenHead
set_option linter.unusedSimpArgs false
set_option linter.unusedVariables false
set_option linter.unusedSectionVars false
-- squeezed
namespace Go.Proofs.YtafeealbdpmdkaaGreatDoor
open Go Go.RowKit
/-- []byte{..} -/
theorem Buf.lit (W0 W : World) (hx : Reg.Ext W0 W) (l : List UInt8) (hl : l.length ≤ 1000) : Buf W0 (W.alloc (.cells (l.map byteV).toArray 5)) (.slice (some ⟨W.heap.size, 0, none⟩) l.length l.length) l := by
 refine ⟨⟨by simp, .inr ⟨W.heap.size, l.length, (l.map byteV).toArray, (0, 0), rfl, hx.size, heap_alloc_new W _, by simp, Nat.le_refl _, by unfold maxLen; omega, by simp, by rw [List.take_of_length_le (by simp)]⟩⟩, hx.trans (Reg.Ext.alloc _ _), ?_⟩
 exact Nat.le_trans hx.size (Reg.Ext.alloc W _).size
theorem Rd.pre {w : World} {b : Nat} {t : TypeId} {fr : Nat × Nat} {row : Array Value} (xs ys : List Value) (h : w.heap[b]? = some (.cells row t fr)) (hp : row.toList = xs ++ ys) : Rd w (some ⟨b, 0, none⟩) xs := by
 refine Rd.head xs ys.toArray (t := t) (fr := fr) (h.trans ?_)
 rw [show row = xs.toArray ++ ys.toArray by apply Array.toList_inj.1; rw [hp]; simp]
theorem Ext.up {a b : World} (h : Reg.Ext a b) (o : Obj) : Reg.Ext a (b.alloc o) := h.trans (Reg.Ext.alloc _ _)
theorem Ext.upd {a b : World} (h : Reg.Ext a b) : Reg.Ext a b.drew := h.trans (Reg.Ext.drew _)
/-- all but the row r is as it was -/
def GR (r : Option Nat) (w w' : World) : Prop := w.grownBy w' r
theorem GR.refl (r : Option Nat) (w : World) : GR r w w := ⟨rfl, rfl, rfl, Nat.le_refl _, fun _ _ _ => rfl⟩
theorem GR.trans {r : Option Nat} {a b c : World} (h : GR r a b) (k : GR r b c) : GR r a c :=
 ⟨k.os.trans h.os, k.tape.trans h.tape, k.output.trans h.output, Nat.le_trans h.size k.size, fun i hi hn => (k.block i (Nat.lt_of_lt_of_le hi h.size) hn).trans (h.block i hi hn)⟩
theorem GR.of_ext {r : Option Nat} {a b : World} (h : Reg.Ext a b) : GR r a b := ⟨h.os, h.tape, h.output, h.size, fun i hi _ => h.block i hi⟩
theorem GR.drew (r : Option Nat) (w : World) : GR r w w.drew := GR.of_ext (Reg.Ext.drew w)
end Go.Proofs.YtafeealbdpmdkaaGreatDoor
