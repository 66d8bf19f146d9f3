/- A slice of bytes that a call makes: out of literals; a text's bytes appended; all that was there but its block. -/
import Derived.Test.YtafeealbdpmdkaaDoorBuf
import Derived.Test.YtafeealbdpmdkaaDoorRegP
import Derived.Lib.FrozenHead
set_option linter.unusedSimpArgs false
set_option linter.unusedVariables false
set_option linter.unusedSectionVars false
namespace Go.Proofs.YtafeealbdpmdkaaDoor
open Go Go.RowKit
/-- []byte{..} -/
theorem Buf.lit (W0 W : World) (hx : Reg.Ext W0 W) (l : List UInt8) (hl : l.length ≤ 1000) : Buf W0 (W.alloc (.cells (l.map byteV).toArray 5)) (.slice (some ⟨W.heap.size, 0, none⟩) l.length l.length) l := by
  refine ⟨⟨by simp, .inr ⟨W.heap.size, l.length, (l.map byteV).toArray, (0, 0), rfl, hx.size, heap_alloc_new W _, by simp, Nat.le_refl _, by unfold maxLen; omega, by simp, by rw [List.take_of_length_le (by simp)]⟩⟩, hx.trans (Reg.Ext.alloc _ _), ?_⟩
  exact Nat.le_trans hx.size (Reg.Ext.alloc W _).size
theorem Buf.lit1 (W0 W : World) (hx : Reg.Ext W0 W) (c : UInt8) : Buf W0 (W.alloc (.cells #[.int .u8 (c.toNat : Int)] 5)) (.slice (some ⟨W.heap.size, 0, none⟩) 1 1) [c] := Buf.lit W0 W hx [c] (by simp)
/-- append(v, s...) -/
theorem Buf.pushS {ops : Array Oper} {rest : List Oper} {o : Oper} {a : Act} {Q : Exit → Act → World → Prop} (hgd : o.guard = none) (sl x : Operand) (ho : o.op = .call { callee := .builtin .append, args := #[sl, x], argTypes := #[71, 9] })
    (v : Value) (l : List UInt8) (hs : a.eval sl = v) (W0 W : World) (s : ByteArray) (hb : Buf W0 W v l) (hx : a.eval x = .string s) (hl : l.length + s.size ≤ 1099511627776)
    (h : ∀ v' w', Buf W0 w' v' (l ++ s.data.toList) → W.grownBy w' v.ownBlock → wpList Tryd.prog ops Q rest (a.put o.dst v') w') : wpList Tryd.prog ops Q (o :: rest) a W := by
  obtain ⟨i, hi, hz, hsz, hby⟩ := byteInfo_of
  refine Lib.wpList_append_own_stringF _ hgd sl x 71 9 ho W0.heap.size 5 i Tryd.underlying71 Tryd.underlying9 hi hz hsz hby v l.length (l.map byteV) hs hb.1 s hx (by unfold maxLen; omega) (by omega) hb.2.2 ?_
  intro v' w' ho' hg _
  refine h v' w' ?_ hg
  have := Lib.OwnBuf.grown hb ho' hg
  unfold Buf
  rw [List.length_append, List.map_append, len_data]
  exact this
theorem alloc_at (w : World) (o : Obj) (n : Nat) (h : w.heap.size = n) : (w.alloc o).heap[n]? = some o := by subst h; exact heap_alloc_new w o
theorem Rd.pre {w : World} {b : Nat} {t : TypeId} {fr : Nat × Nat} {row : Array Value} (xs ys : List Value) (h : w.heap[b]? = some (.cells row t fr)) (hp : row.toList = xs ++ ys) : Rd w (some ⟨b, 0, none⟩) xs := by
  refine Rd.head xs ys.toArray (t := t) (fr := fr) (h.trans ?_)
  rw [show row = xs.toArray ++ ys.toArray by apply Array.toList_inj.1; rw [hp]; simp]
theorem Ext.up {a b : World} (h : Reg.Ext a b) (o : Obj) : Reg.Ext a (b.alloc o) := h.trans (Reg.Ext.alloc _ _)
theorem Ext.upd {a b : World} (h : Reg.Ext a b) : Reg.Ext a b.drew := h.trans (Reg.Ext.drew _)
/-- all but the row r is as it was -/
def GR (r : Option Nat) (w w' : World) : Prop := w.grownBy w' r
theorem GR.refl (r : Option Nat) (w : World) : GR r w w := ⟨rfl, rfl, rfl, Nat.le_refl _, fun _ _ _ => rfl⟩
theorem GR.trans {r : Option Nat} {a b c : World} (h : GR r a b) (k : GR r b c) : GR r a c :=
  ⟨k.os.trans h.os, k.tape.trans h.tape, k.output.trans h.output, Nat.le_trans h.size k.size, fun i hi hn => (k.block i (Nat.lt_of_lt_of_le hi h.size) hn).trans (h.block i hi hn)⟩
theorem GR.of_ext {r : Option Nat} {a b : World} (h : Reg.Ext a b) : GR r a b := ⟨h.os, h.tape, h.output, h.size, fun i hi _ => h.block i hi⟩
theorem GR.drew (r : Option Nat) (w : World) : GR r w w.drew := GR.of_ext (Reg.Ext.drew w)
theorem Blk.gr {w w' : World} {g : Nat} {t : TypeId} {cs : List Value} {r : Option Nat} (h : Blk w g t cs) (k : GR r w w') (hn : some g ≠ r) : Blk w' g t cs := (k.block g h.lt hn).trans h
theorem BytesAt.gr {w w' : World} {g : Nat} {s : ByteArray} {r : Option Nat} (h : BytesAt w g s) (k : GR r w w') (hn : r ≠ some g) : BytesAt w' g s := h.grown k hn
theorem Buf.rlt {W0 w : World} {v : Value} {l : List UInt8} (h : Buf W0 w v l) {g : Nat} (hg : v.ownBlock = some g) : g < w.heap.size := (h.1.lt g hg).2
end Go.Proofs.YtafeealbdpmdkaaDoor
