/- A disk, plainly; a new one. -/
import Derived.Test.YtbiikihapfpkfaaPlkD
import Derived.Test.YtbiikihapfpkfaaWords
set_option linter.unusedSimpArgs false
set_option linter.unusedVariables false
set_option linter.unusedSectionVars false
namespace Go.Proofs.Ytbiikihapfpkfaa
open Go Go.RowKit
namespace Plk
structure P where
  fs : List F
  h : H
def isName (n : List UInt8) : Bool := decide (1 ≤ n.length) && decide (n.length ≤ 80)
def H.begin (h : H) (ns : List (List UInt8)) : Int × H :=
  if (ns.any fun n => !isName n) = true then (1, h) else if h.off = true then (12, h)
  else if h.ak = 0 ∨ h.ops + 1 < h.af ∨ h.al < h.ops + 1 then (0, { h with ops := h.ops + 1 })
  else if h.ak = 2 then (12, { h with ops := h.ops + 1, off := true, ak := 0, af := 0, al := 0 }) else (11, { h with ops := h.ops + 1 })
def sum (fs : List F) : Nat := (fs.map fun f => f.l.length).sum
structure Good (p : P) : Prop where
  up : Nmd.Up F.name p.fs
  used : p.h.used = (sum p.fs : Int)
  room : p.h.used ≤ p.h.room ∧ p.h.room ≤ 4194304
  safe : ∀ f ∈ p.fs, f.safe ≤ f.l.length
  cnt : p.fs.length ≤ 200
  names : ∀ f ∈ p.fs, isName f.name = true
  ops : 0 ≤ p.h.ops
def new (room : Int) : P := ⟨[], ⟨min (max room 0) 4194304, 0, 0, false, 0, 0, 0⟩⟩
theorem good_new (room : Int) : Good (new room) := by
  refine ⟨Nmd.up_nil _, rfl, ⟨?_, ?_⟩, fun f hf => (by cases hf), Nat.zero_le _, fun f hf => (by cases hf), Int.le_refl _⟩
  · show (0 : Int) ≤ min (max room 0) 4194304
    omega
  · show min (max room 0) 4194304 ≤ (4194304 : Int)
    omega
theorem new_at (n : Int) (W : World) : Dk ((W.alloc (.map #[] 0)).alloc (.cells #[.map (some W.heap.size), .int .i64 n, .int .i64 0, .int .i64 0, .bool false, .int .i64 0, .int .i64 0, .int .i64 0] 64)) (W.heap.size + 1) W.heap.size [] ⟨n, 0, 0, false, 0, 0, 0⟩ := by
  have hm := (World.ownsMap_made W Try.prog 9 ptrR)
  refine { blk := ?_, map := ⟨.map [], hm.alloc _, rfl, fun n => ⟨rfl, rfl⟩⟩, file := fun e he => (by cases he), row := fun e he => (by cases he), up := Nmd.up_nil _, apart := fun e he => (by cases he), self := fun e he => (by cases he), dm := by omega, out := fun e he => (by cases he) }
  have := heap_alloc_new (W.alloc (.map #[] 0)) (.cells #[.map (some W.heap.size), .int .i64 n, .int .i64 0, .int .i64 0, .bool false, .int .i64 0, .int .i64 0, .int .i64 0] 64)
  rw [show (W.alloc (.map #[] 0)).heap.size = W.heap.size + 1 by simp] at this
  exact this
set_option maxHeartbeats 1000000 in
theorem new_any (room : Int) (W : World) : Calls Try.prog 8 #[.int .i64 room] W fun e w' => ∃ d mp, e = .returned (.pointer (some ⟨d, 0, none⟩)) ∧ Dk w' d mp [] (new room).h ∧ W.heap.size ≤ d ∧ W.heap.size ≤ mp ∧ Reg.Ext W w' := by
  have hmm := @run_makeMap Try.prog
  have fin : ∀ n, n = min (max room 0) 4194304 → ∃ d, Ending.returned (.pointer (some ⟨W.heap.size + 1, 0, none⟩)) = .returned (.pointer (some ⟨d, 0, none⟩)) ∧ ∃ mp, Dk ((W.alloc (.map #[] 0)).alloc (.cells #[.map (some W.heap.size), .int .i64 n, .int .i64 0, .int .i64 0, .bool false, .int .i64 0, .int .i64 0, .int .i64 0] 64)) d mp [] (new room).h ∧ W.heap.size ≤ d ∧ W.heap.size ≤ mp ∧ Reg.Ext W ((W.alloc (.map #[] 0)).alloc (.cells #[.map (some W.heap.size), .int .i64 n, .int .i64 0, .int .i64 0, .bool false, .int .i64 0, .int .i64 0, .int .i64 0] 64)) := by
    intro n hn
    refine ⟨_, rfl, _, ?_, by omega, Nat.le_refl _, (Reg.Ext.alloc _ _).trans (Reg.Ext.alloc _ _)⟩
    unfold new
    rw [← hn]
    exact new_at n W
  go_enter Try.func8, Try.ntmps8
  go_wp2
  all_goals (go_ret; refine fin _ ?_; omega)
end Plk
end Go.Proofs.Ytbiikihapfpkfaa
