/- The log over a disk, plainly; how many operations it takes. -/
import Derived.Test.YtafeealbdpmdkaaGreatDoorPkE
set_option linter.unusedSimpArgs false
set_option linter.unusedVariables false
set_option linter.unusedSectionVars false
-- squeezed
namespace Go.Proofs.YtafeealbdpmdkaaGreatDoor
open Go Go.RowKit
namespace Plk
def nD : List UInt8 := [100, 105, 97, 114, 121]
def nN : List UInt8 := [100, 105, 97, 114, 121, 46, 110, 101, 119]
theorem lD : nD.length ≤ maxLen := by unfold maxLen; decide
theorem lN : nN.length ≤ maxLen := by unfold maxLen; decide
/-- one operation, and another one if it went well -/
def pthen (a : Int × P) (f : P → Int × P) : Int × P := if a.1 ≠ 0 then a else f a.2
def P.lenD (p : P) : Int := match Nmd.get F.name nD p.fs with | none => -1 | some f => (f.l.length : Int)
def P.lenN (p : P) : Int := match Nmd.get F.name nN p.fs with | none => -1 | some f => (f.l.length : Int)
def P.sweep (p : P) : Int × P := if (Nmd.get F.name nN p.fs).isSome = true then p.delete nN else (0, p)
def P.make (p : P) : Int × P := if (Nmd.get F.name nD p.fs).isSome = true then (0, p) else p.create nD
def P.begun (p : P) : Int × P := pthen p.sweep P.make
/-- the bytes of the log -/
def P.load (p : P) : List UInt8 × Int × P :=
 if p.begun.1 ≠ 0 then ([], p.begun.1, p.begun.2)
 else if (p.begun.2.read nD 0 p.begun.2.lenD).2.1 ≠ 0 then ([], (p.begun.2.read nD 0 p.begun.2.lenD).2.1, (p.begun.2.read nD 0 p.begun.2.lenD).2.2)
 else ((p.begun.2.read nD 0 p.begun.2.lenD).1, ((p.begun.2.read nD 0 p.begun.2.lenD).2.2.sync nD).1, ((p.begun.2.read nD 0 p.begun.2.lenD).2.2.sync nD).2)
def P.put (p : P) (s : List UInt8) : Int × P := if s = [] then (0, p) else p.append nN s
def P.replace (p : P) (s : List UInt8) : Int × P := pthen p.sweep fun p => pthen (p.create nN) fun p => pthen (p.put s) fun p => pthen (p.sync nN) fun p => p.rename nN nD
theorem ops_create (p : P) (n : List UInt8) : p.h.ops ≤ (p.create n).2.h.ops ∧ (p.create n).2.h.ops ≤ p.h.ops + 1 := by
 have hb := (begin_keep p.h [n]).2.2
 unfold P.create
 repeat' split
 all_goals exact hb
theorem ops_append (p : P) (n t : List UInt8) : p.h.ops ≤ (p.append n t).2.h.ops ∧ (p.append n t).2.h.ops ≤ p.h.ops + 1 := by
 have hb := (begin_keep p.h [n]).2.2
 unfold P.append
 rw [pfind_keep]
 repeat' split
 all_goals exact hb
theorem ops_sync (p : P) (n : List UInt8) : p.h.ops ≤ (p.sync n).2.h.ops ∧ (p.sync n).2.h.ops ≤ p.h.ops + 1 := by
 have hb := (begin_keep p.h [n]).2.2
 unfold P.sync
 rw [pfind_keep]
 repeat' split
 all_goals exact hb
theorem ops_delete (p : P) (n : List UInt8) : p.h.ops ≤ (p.delete n).2.h.ops ∧ (p.delete n).2.h.ops ≤ p.h.ops + 1 := by
 have hb := (begin_keep p.h [n]).2.2
 unfold P.delete
 rw [pfind_keep]
 repeat' split
 all_goals exact hb
theorem ops_rename (p : P) (n t : List UInt8) : p.h.ops ≤ (p.rename n t).2.h.ops ∧ (p.rename n t).2.h.ops ≤ p.h.ops + 1 := by
 have hb := (begin_keep p.h [n, t]).2.2
 unfold P.rename
 repeat' split
 all_goals exact hb
theorem ops_read (p : P) (n : List UInt8) (x k : Int) : p.h.ops ≤ (p.read n x k).2.2.h.ops ∧ (p.read n x k).2.2.h.ops ≤ p.h.ops + 1 := by
 have hb := (begin_keep p.h [n]).2.2
 unfold P.read
 rw [pfind_keep]
 repeat' split
 all_goals first | exact hb | (dsimp only; omega)
theorem ops_sweep (p : P) : p.h.ops ≤ p.sweep.2.h.ops ∧ p.sweep.2.h.ops ≤ p.h.ops + 1 := by
 unfold P.sweep
 split
 ·exact ops_delete _ _
 ·dsimp only; omega
theorem ops_make (p : P) : p.h.ops ≤ p.make.2.h.ops ∧ p.make.2.h.ops ≤ p.h.ops + 1 := by
 unfold P.make
 split
 ·dsimp only; omega
 ·exact ops_create _ _
theorem ops_put (p : P) (s : List UInt8) : p.h.ops ≤ (p.put s).2.h.ops ∧ (p.put s).2.h.ops ≤ p.h.ops + 1 := by
 unfold P.put
 split
 ·dsimp only; omega
 ·exact ops_append _ _ _
theorem ops_begun (p : P) : p.h.ops ≤ p.begun.2.h.ops ∧ p.begun.2.h.ops ≤ p.h.ops + 2 := by
 have h1 := ops_sweep p
 have h2 := ops_make p.sweep.2
 unfold P.begun pthen
 split <;> omega
theorem ops_load (p : P) : p.h.ops ≤ p.load.2.2.h.ops ∧ p.load.2.2.h.ops ≤ p.h.ops + 4 := by
 have h1 := ops_begun p
 have h2 := ops_read p.begun.2 nD 0 p.begun.2.lenD
 have h3 := ops_sync (p.begun.2.read nD 0 p.begun.2.lenD).2.2 nD
 unfold P.load
 split
 ·dsimp only; omega
 ·split
  ·dsimp only; omega
  ·dsimp only; omega
theorem ops_replace (p : P) (s : List UInt8) : p.h.ops ≤ (p.replace s).2.h.ops ∧ (p.replace s).2.h.ops ≤ p.h.ops + 5 := by
 have h1 := ops_sweep p
 unfold P.replace
 unfold pthen
 split
 ·omega
 ·have h2 := ops_create p.sweep.2 nN
  dsimp only
  split
  ·omega
  ·have h3 := ops_put (p.sweep.2.create nN).2 s
   split
   ·omega
   ·have h4 := ops_sync ((p.sweep.2.create nN).2.put s).2 nN
    split
    ·omega
    ·have h5 := ops_rename (((p.sweep.2.create nN).2.put s).2.sync nN).2 nN nD
     omega
end Plk
end Go.Proofs.YtafeealbdpmdkaaGreatDoor
