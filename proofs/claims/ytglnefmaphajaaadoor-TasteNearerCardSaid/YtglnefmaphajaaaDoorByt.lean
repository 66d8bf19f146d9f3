/- Bytes of a text that are written over. -/
import Derived.Test.YtglnefmaphajaaaDoorBuf
set_option linter.unusedSimpArgs false
set_option linter.unusedVariables false
set_option linter.unusedSectionVars false
namespace Go.Proofs.YtglnefmaphajaaaDoor
open Go Go.RowKit

/-- block g begins with these bytes, and they may be written -/
structure Byt (w : World) (g : Nat) (l : List UInt8) : Prop where
  cell : ∀ j (h : j < l.length), w.cell? ⟨g, j, none⟩ = some (byteV l[j])
  free : ∀ j, j < l.length → w.frozen? ⟨g, j, none⟩ = false

theorem Byt.of_same {w w' : World} {g : Nat} {l : List UInt8} (h : Byt w g l) (hb : w'.heap[g]? = w.heap[g]?) : Byt w' g l :=
  ⟨fun j hj => by rw [World.cell?_of_block (w := w) (a := ⟨g, j, none⟩) hb]; exact h.cell j hj,
    fun j hj => by rw [World.frozen?_of_block (w := w) (a := ⟨g, j, none⟩) hb]; exact h.free j hj⟩
theorem Byt.set {w : World} {g : Nat} {l : List UInt8} (h : Byt w g l) (p : Nat) (c : UInt8) (hp : p < l.length) : Byt (w.setCell ⟨g, p, none⟩ (byteV c)) g (l.set p c) := by
  refine ⟨fun j hj => ?_, fun j hj => by rw [World.frozen?_setCell]; exact h.free j (by simpa using hj)⟩
  have hj' : j < l.length := by simpa using hj
  by_cases hjp : p = j
  · subst hjp
    rw [World.cell?_setCell_same _ _ _ (h.cell p hp)]
    simp
  · rw [World.cell?_setCell_other _ _ _ _ (fun e => hjp (by injection e)), h.cell j hj']
    simp [List.getElem_set, hjp]
theorem Byt.far {w : World} {g : Nat} {l : List UInt8} (h : Byt w g l) {p : Addr} (hp : g ≠ p.block) (v : Value) : Byt (w.setCell p v) g l := h.of_same (Below.heap_setCell w p v g hp)
theorem Byt.below {w w' : World} {g B : Nat} {l : List UInt8} (h : Byt w g l) (hb : Below B w w') (hg : g < B) : Byt w' g l := h.of_same (hb.block g hg)
theorem Byt.lt {w : World} {g : Nat} {l : List UInt8} (h : Byt w g l) (hl : 0 < l.length) : g < w.heap.size := World.block_lt_of_cell? w _ (h.cell 0 hl)
theorem Byt.ext {w w' : World} {g : Nat} {l : List UInt8} (h : Byt w g l) (hx : Reg.Ext w w') : Byt w' g l := by
  rcases Nat.eq_zero_or_pos l.length with h0 | h0
  · exact ⟨fun j hj => absurd hj (by omega), fun j hj => absurd hj (by omega)⟩
  · exact h.below hx (h.lt h0)
theorem Byt.drew {w : World} {g : Nat} {l : List UInt8} (h : Byt w g l) : Byt w.drew g l := ⟨h.cell, h.free⟩
theorem Byt.str {P : Program} {w : World} {g : Nat} {l : List UInt8} (h : Byt w g l) (src dst e : TypeId) (hs : P.underlying src = some (.slice e)) (he : P.underlying e = some (.int .u8)) (hd : P.underlying dst = some .string) (len cap : Nat) (hl : l.length = len) :
    (convert src dst (.slice (some ⟨g, 0, none⟩) len cap)).run P w = .ok (.string ⟨l.toArray⟩) w :=
  conv_bytes w src dst e hs he hd g 0 len cap l hl (fun j hj => by rw [Nat.zero_add]; exact h.cell j hj)
theorem Byt.of (s : ByteArray) (W : World) : ∃ cap w1, (convert 9 67 (.string s)).run Tryd.prog W = .ok (.slice (some ⟨W.heap.size, 0, none⟩) s.size cap) w1 ∧ Byt w1 W.heap.size s.data.toList ∧ Reg.Ext W w1 := by
  refine ⟨_, _, bytes_of s W, ⟨fun j hj => ?_, fun j hj => ?_⟩, (Reg.Ext.drew W).trans (Reg.Ext.alloc _ _)⟩
  · have hj' : j < s.size := by rw [← len_data]; exact hj
    exact (BytesAt.new W s _).cell j hj'
  · have hj' : j < s.size := by rw [← len_data]; exact hj
    have hb := heap_alloc_new W.drew (.cells (bytesRow s (grownCap W s.size 0 5)) 5 ((bytesRow s (grownCap W s.size 0 5)).size, (bytesRow s (grownCap W s.size 0 5)).size + 1))
    have hb' : (W.drew.alloc (.cells (bytesRow s (grownCap W s.size 0 5)) 5 ((bytesRow s (grownCap W s.size 0 5)).size, (bytesRow s (grownCap W s.size 0 5)).size + 1))).heap[W.heap.size]? = _ := hb
    have hsz : s.size ≤ (bytesRow s (grownCap W s.size 0 5)).size := by
      unfold bytesRow
      rw [Array.size_append, Array.size_map]
      exact Nat.le_add_right _ _
    simp only [World.frozen?, hb']
    simp
    omega
end Go.Proofs.YtglnefmaphajaaaDoor
