/- A table of tickets in memory: its head, its row. -/
import Derived.Test.YtcfdlfedmbmidaaDoorTkB
import Derived.Test.YtcfdlfedmbmidaaDoorTkC
import Derived.Test.YtcfdlfedmbmidaaDoorRowN
set_option linter.unusedSimpArgs false
set_option linter.unusedVariables false
set_option linter.unusedSectionVars false
namespace Go.Proofs.YtcfdlfedmbmidaaDoor
open Go Go.RowKit
theorem own_keep {w w' : World} {B e n k : Nat} {v : Value} {xs : List Value} (h : w.ownsRow B e n v k xs) (hk : ∀ g, v.ownBlock = some g → w'.heap[g]? = w.heap[g]?) : w'.ownsRow B e n v k xs := by
  refine ⟨h.1, ?_⟩
  rcases h.2 with e1 | ⟨g, cap, cur, e1, h1, h2, h3⟩
  · exact .inl e1
  · exact .inr ⟨g, cap, cur, e1, h1, (hk g (by rw [e1]; rfl)).trans h2, h3⟩
namespace Tk
structure Tb (T0 : TypeId) (w : World) (b : Nat) (v : Value) (l : List T) (most : Int) : Prop where
  blk : Blk w b T0 [v, .int .i64 most]
  row : LT 0 w v l
  fit : Fit l
  away : v.ownBlock ≠ some b
def TO (b : Nat) (v : Value) (i : Nat) : Prop := i = b ∨ v.ownBlock = some i
section
variable {T0 : TypeId} {w w' w1 : World} {b : Nat} {v v' : Value} {l l' : List T} {most : Int}
theorem Tb.lt (h : Tb T0 w b v l most) {i : Nat} (hi : TO b v i) : i < w.heap.size := by
  rcases hi with rfl | hi
  · exact h.blk.lt
  · exact (h.row.lt hi).2
theorem Tb.same (h : Tb T0 w b v l most) (hk : ∀ i, TO b v i → w'.heap[i]? = w.heap[i]?) : Tb T0 w' b v l most :=
  ⟨(hk b (.inl rfl)).trans h.blk, own_keep h.row fun g hg => hk g (.inr hg), h.fit, h.away⟩
theorem Tb.ext (h : Tb T0 w b v l most) (hx : Reg.Ext w w') : Tb T0 w' b v l most := h.same fun i hi => hx.block i (h.lt hi)
theorem Tb.c (h : Tb T0 w b v l most) : w.cell? ⟨b, 0, none⟩ = some v ∧ w.cell? ⟨b, 1, none⟩ = some (.int .i64 most) := ⟨h.blk.cell 0, h.blk.cell 1⟩
/-- what an operation leaves -/
structure TTurn (b : Nat) (w : World) (v : Value) (w' : World) (v' : Value) : Prop where
  os : w'.os = w.os
  tape : w'.tape = w.tape
  output : w'.output = w.output
  size : w.heap.size ≤ w'.heap.size
  kept : ∀ i, i < w.heap.size → ¬ TO b v i → w'.heap[i]? = w.heap[i]?
  own : ∀ i, TO b v' i → TO b v i ∨ w.heap.size ≤ i
theorem TTurn.ext (h : Reg.Ext w w') : TTurn b w v w' v := ⟨h.os, h.tape, h.output, h.size, fun i hi _ => h.block i hi, fun _ h => .inl h⟩
theorem TTurn.trans {w2 : World} {v2 : Value} (h : TTurn b w v w' v') (k : TTurn b w' v' w2 v2) : TTurn b w v w2 v2 := by
  refine ⟨k.os.trans h.os, k.tape.trans h.tape, k.output.trans h.output, Nat.le_trans h.size k.size, fun i hi hn => ?_, fun i hi => ?_⟩
  · refine (k.kept i (Nat.lt_of_lt_of_le hi h.size) fun o => ?_).trans (h.kept i hi hn)
    rcases h.own i o with h1 | h1
    · exact hn h1
    · omega
  · rcases k.own i hi with h1 | h1
    · exact h.own i h1
    · have := h.size; exact .inr (by omega)
theorem TTurn.base {W : World} (t : TTurn b w v w' v') (hx : Reg.Ext W w) (ho : ∀ i, TO b v i → W.heap.size ≤ i) : Reg.Ext W w' ∧ ∀ i, TO b v' i → W.heap.size ≤ i := by
  refine ⟨⟨t.os.trans hx.os, t.tape.trans hx.tape, t.output.trans hx.output, Nat.le_trans hx.size t.size, fun i hi => ?_⟩, fun i hi => ?_⟩
  · exact (t.kept i (Nat.lt_of_lt_of_le hi hx.size) fun o => by have := ho i o; omega).trans (hx.block i hi)
  · rcases t.own i hi with h1 | h1
    · exact ho i h1
    · have := hx.size; omega
/-- a new row, and the head has it -/
theorem Tb.turn (h : Tb T0 w b v l most) (hg : w.grownBy w1 v.ownBlock) (hr : LT 0 w1 v' l') (hf : Fit l') (hat : v'.ownBlock = v.ownBlock ∨ ∀ g, v'.ownBlock = some g → w.heap.size ≤ g) :
    Tb T0 (w1.setCell ⟨b, 0, none⟩ v') b v' l' most ∧ TTurn b w v (w1.setCell ⟨b, 0, none⟩ v') v' := by
  have hb := But.set_ b w1 0 v'
  have hlt := h.blk.lt
  have hnb : v'.ownBlock ≠ some b := fun e => by
    rcases hat with h1 | h1
    · rw [h1] at e; exact h.away e
    · have := h1 b e; omega
  have hk1 : Blk w1 b T0 [v, .int .i64 most] := (hg.block b hlt fun e => h.away e.symm).trans h.blk
  refine ⟨⟨hk1.set_ 0 v', own_keep hr fun g hgv => hb.block g (hr.lt hgv).2 fun e => hnb (by injection e with e; rw [← e]; exact hgv), hf, hnb⟩, hb.os.trans hg.os, hb.tape.trans hg.tape, hb.output.trans hg.output, Nat.le_trans hg.size hb.size, fun i hi hn => ?_, fun i hi => ?_⟩
  · refine (hb.block i (Nat.lt_of_lt_of_le hi hg.size) fun e => hn (.inl (by injection e))).trans (hg.block i hi fun e => hn (.inr e.symm))
  · rcases hi with rfl | hi
    · exact .inl (.inl rfl)
    · rcases hat with h1 | h1
      · exact .inl (.inr (by rw [← h1]; exact hi))
      · exact .inr (h1 i hi)
/-- one ticket in its place -/
theorem Tb.put {g cap : Nat} (h : Tb T0 w b (.slice (some ⟨g, 0, none⟩) l.length cap) l most) (k : Nat) (hk : k < l.length) (x : T) (hx : x.dig.length = 32) :
    Tb T0 (w.setCells g (k * 38) x.cells) b (.slice (some ⟨g, 0, none⟩) l.length cap) (l.set k x) most ∧ TTurn b w (.slice (some ⟨g, 0, none⟩) l.length cap) (w.setCells g (k * 38) x.cells) (.slice (some ⟨g, 0, none⟩) l.length cap) ∧ w.there g (k * 38) 38 := by
  obtain ⟨h1, h2, h3⟩ := h.row.set_ h.fit k hk x hx
  have hne : b ≠ g := fun e => h.away (by rw [e]; rfl)
  refine ⟨⟨h.blk.but h2 hne, h1, fun y hy => ?_, h.away⟩, ⟨h2.os, h2.tape, h2.output, h2.size, fun i hi hn => h2.block i hi fun e => hn (.inr e.symm), fun i hi => .inl hi⟩, h3⟩
  rcases List.mem_or_eq_of_mem_set hy with h4 | h4
  · exact h.fit y h4
  · rw [h4]; exact hx
end
def ResT (T0 : TypeId) (b : Nat) (w : World) (v : Value) (val : Value) (l : List T) (most : Int) (e : Ending) (w' : World) : Prop := e = .returned val ∧ ∃ v', Tb T0 w' b v' l most ∧ TTurn b w v w' v'
theorem newT (T0 : TypeId) (most : Int) (W : World) : Tb T0 (W.alloc (.cells #[.slice none 0 0, .int .i64 most] T0)) W.heap.size (.slice none 0 0) [] most :=
  ⟨Blk.new W _ _, World.ownsRow_nil _ _ _ _, fun x hx => (by cases hx), by simp [Value.ownBlock]⟩
end Tk
end Go.Proofs.YtcfdlfedmbmidaaDoor
