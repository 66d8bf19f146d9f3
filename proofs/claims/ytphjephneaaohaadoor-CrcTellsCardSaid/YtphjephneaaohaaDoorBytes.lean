/- Rows of bytes in memory that a call made itself. No program in sight. -/
import Derived.Test.YtphjephneaaohaaDoorWords
import Derived.Test.YtphjephneaaohaaDoorReg
import Derived.Lib.ConvBytes
set_option linter.unusedSimpArgs false
set_option linter.unusedVariables false
set_option linter.unusedSectionVars false
namespace Go.Proofs.YtphjephneaaohaaDoor
open Go Go.RowKit

/-- block g begins with these bytes, and they may be written -/
structure BytesAt (w : World) (g : Nat) (l : List UInt8) : Prop where
  cell : ∀ j (h : j < l.length), w.cell? ⟨g, j, none⟩ = some (byteV l[j])
  free : ∀ j, j < l.length → w.frozen? ⟨g, j, none⟩ = false

theorem BytesAt.of_same {w w' : World} {g : Nat} {l : List UInt8} (h : BytesAt w g l) (hb : w'.heap[g]? = w.heap[g]?) : BytesAt w' g l :=
  ⟨fun j hj => by rw [World.cell?_of_block (w := w) (a := ⟨g, j, none⟩) hb]; exact h.cell j hj,
    fun j hj => by rw [World.frozen?_of_block (w := w) (a := ⟨g, j, none⟩) hb]; exact h.free j hj⟩
theorem BytesAt.set {w : World} {g : Nat} {l : List UInt8} (h : BytesAt w g l) (p : Nat) (c : UInt8) (hp : p < l.length) : BytesAt (w.setCell ⟨g, p, none⟩ (byteV c)) g (l.set p c) := by
  refine ⟨fun j hj => ?_, fun j hj => by rw [World.frozen?_setCell]; exact h.free j (by simpa using hj)⟩
  have hj' : j < l.length := by simpa using hj
  by_cases hjp : p = j
  · subst hjp
    rw [World.cell?_setCell_same _ _ _ (h.cell p hp)]
    simp
  · rw [World.cell?_setCell_other _ _ _ _ (fun e => hjp (by injection e)), h.cell j hj']
    simp [List.getElem_set, hjp]
theorem BytesAt.far {w : World} {g : Nat} {l : List UInt8} (h : BytesAt w g l) {p : Addr} (hp : g ≠ p.block) (v : Value) : BytesAt (w.setCell p v) g l := h.of_same (Below.heap_setCell w p v g hp)
theorem BytesAt.below {w w' : World} {g B : Nat} {l : List UInt8} (h : BytesAt w g l) (hb : Below B w w') (hg : g < B) : BytesAt w' g l := h.of_same (hb.block g hg)
theorem BytesAt.lt {w : World} {g : Nat} {l : List UInt8} (h : BytesAt w g l) (hl : 0 < l.length) : g < w.heap.size := World.block_lt_of_cell? w _ (h.cell 0 hl)
theorem BytesAt.ext {w w' : World} {g : Nat} {l : List UInt8} (h : BytesAt w g l) (hx : Reg.Ext w w') : BytesAt w' g l := by
  rcases Nat.eq_zero_or_pos l.length with h0 | h0
  · exact ⟨fun j hj => absurd hj (by omega), fun j hj => absurd hj (by omega)⟩
  · exact h.below hx (h.lt h0)
theorem BytesAt.drew {w : World} {g : Nat} {l : List UInt8} (h : BytesAt w g l) : BytesAt w.drew g l := ⟨h.cell, h.free⟩
/-- []byte(s) -/
theorem BytesAt.conv (w : World) (e : TypeId) (s : ByteArray) : BytesAt (Lib.bytesWorld w e s) w.heap.size s.data.toList := by
  refine ⟨fun j hj => ?_, fun j hj => ?_⟩
  · have hj' : j < s.size := by rw [← len_data]; exact hj
    rw [Lib.bytesWorld_cell w e s j hj']
    rw [List.getD_eq_getElem?_getD, List.getElem?_eq_getElem hj]
    rfl
  · have hj' : j < s.size := by rw [← len_data]; exact hj
    have hc : s.size ≤ (Lib.bytesCells w e s).size := by
      simp [Lib.bytesCells]
    simp [World.frozen?, Lib.bytesWorld_at_new]
    omega
theorem conv_ext (w : World) (e : TypeId) (s : ByteArray) : Reg.Ext w (Lib.bytesWorld w e s) :=
  ⟨rfl, rfl, rfl, by rw [Lib.bytesWorld_size]; omega, fun k hk => Lib.bytesWorld_at_old w e s k hk⟩
theorem BytesAt.str {P : Program} {w : World} {g : Nat} {l : List UInt8} (h : BytesAt w g l) (src dst e : TypeId) (hs : P.underlying src = some (.slice e)) (he : P.underlying e = some (.int .u8)) (hd : P.underlying dst = some .string) (len cap : Nat) (hl : l.length = len) :
    (convert src dst (.slice (some ⟨g, 0, none⟩) len cap)).run P w = .ok (.string ⟨l.toArray⟩) w :=
  conv_bytes w src dst e hs he hd g 0 len cap l hl (fun j hj => by rw [Nat.zero_add]; exact h.cell j hj)
end Go.Proofs.YtphjephneaaohaaDoor
