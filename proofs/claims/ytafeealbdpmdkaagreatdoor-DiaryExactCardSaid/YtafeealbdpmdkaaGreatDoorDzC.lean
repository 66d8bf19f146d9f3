/- The document's log, as it lies; what its operations do, plainly. -/
import Derived.Test.YtafeealbdpmdkaaGreatDoorDzB
import Derived.Test.YtafeealbdpmdkaaGreatDoorSlCat
set_option linter.unusedSimpArgs false
set_option linter.unusedVariables false
set_option linter.unusedSectionVars false
-- squeezed
namespace Go.Proofs.YtafeealbdpmdkaaGreatDoor
open Go Go.RowKit
namespace Plk
open Slp (S good frame body frames allP Row RdS)
open Rk (RD R Sim Both Newer RP plV)
def zAdd (p : P) (z : Z) (x : S) : Int × P × Z :=
 if z.sick = true then (8, p, z) else if good x = false then (1, p, z)
 else if (p.append nD (frame (body x))).1 ≠ 0 then ((p.append nD (frame (body x))).1, (p.append nD (frame (body x))).2, { z with sick := true })
 else (0, (p.append nD (frame (body x))).2, ⟨z.L ++ [x], z.sure, z.size + ((frame (body x)).length : Int), false⟩)
def zSync (p : P) (z : Z) : Int × P × Z :=
 if z.sick = true then (8, p, z) else if z.sure = (z.L.length : Int) then (0, p, z)
 else if (p.sync nD).1 ≠ 0 then ((p.sync nD).1, (p.sync nD).2, { z with sick := true })
 else (0, (p.sync nD).2, { z with sure := (z.L.length : Int) })
def zRew (p : P) (z : Z) (xs : List S) : Int × P × Z :=
 if allGood xs = false then (1, p, z)
 else if (p.replace (frames xs)).1 ≠ 0 then ((p.replace (frames xs)).1, (p.replace (frames xs)).2, z)
 else (0, (p.replace (frames xs)).2, ⟨xs, (xs.length : Int), ((frames xs).length : Int), false⟩)
theorem zAdd_y (p : P) (z : Z) (x : S) : addP p z.y x = ((zAdd p z x).1, (zAdd p z x).2.1, (zAdd p z x).2.2.y) := by
 unfold addP zAdd
 show (if z.sick = true then _ else _) = _
 split
 ·rfl
 ·split
  ·rfl
  ·split
   ·rfl
   ·unfold Z.y
    simp
theorem zSync_y (p : P) (z : Z) : syncP p z.y = ((zSync p z).1, (zSync p z).2.1, (zSync p z).2.2.y) := by
 unfold syncP zSync
 show (if z.sick = true then _ else if z.sure = (z.L.length : Int) then _ else _) = _
 split
 ·rfl
 ·split
  ·rfl
  ·split <;> rfl
theorem zRew_y (p : P) (z : Z) (xs : List S) : rewP p z.y xs = ((zRew p z xs).1, (zRew p z xs).2.1, (zRew p z xs).2.2.y) := by
 unfold rewP zRew
 split
 ·rfl
 ·split <;> rfl
structure Zd (w : World) (b lb : Nat) (v vL : Value) (r : R) (p : P) (z : Z) : Prop where
 both : Both w b v r p
 blk : Blk w lb 45 (z.cells b vL)
 row : Row 0 vL z.L w
 ne : lb ≠ b
 vn : v.ownBlock ≠ some lb
 ln : ∀ g, vL.ownBlock = some g → g ≠ lb ∧ g ≠ b ∧ v.ownBlock ≠ some g
/-- all but two blocks are as they were -/
structure B2 (b lb : Nat) (w w' : World) : Prop where
 os : w'.os = w.os
 tape : w'.tape = w.tape
 output : w'.output = w.output
 size : w.heap.size ≤ w'.heap.size
 kept : ∀ i, i < w.heap.size → i ≠ b → i ≠ lb → w'.heap[i]? = w.heap[i]?
section
variable {b lb : Nat} {w w1 w2 : World}
theorem B2.refl (b lb : Nat) (w : World) : B2 b lb w w := ⟨rfl, rfl, rfl, Nat.le_refl _, fun _ _ _ _ => rfl⟩
theorem B2.trans (h : B2 b lb w w1) (k : B2 b lb w1 w2) : B2 b lb w w2 := ⟨k.os.trans h.os, k.tape.trans h.tape, k.output.trans h.output, Nat.le_trans h.size k.size, fun i hi h1 h2 => (k.kept i (Nat.lt_of_lt_of_le hi h.size) h1 h2).trans (h.kept i hi h1 h2)⟩
theorem B2.left (h : But b w w1) : B2 b lb w w1 := ⟨h.os, h.tape, h.output, h.size, fun i hi h1 _ => h.block i hi fun e => h1 (by injection e)⟩
theorem B2.right (h : But lb w w1) : B2 b lb w w1 := ⟨h.os, h.tape, h.output, h.size, fun i hi _ h1 => h.block i hi fun e => h1 (by injection e)⟩
end
/-- from one world to another one -/
structure ZC (b lb : Nat) (w : World) (v vL : Value) (w' : World) (v' vL' : Value) : Prop where
 b2 : B2 b lb w w'
 n1 : Newer w v v'
 n2 : Newer w vL vL'
section
variable {b lb : Nat} {w w1 w2 : World} {v vL v1 vL1 v2 vL2 : Value}
theorem ZC.refl (b lb : Nat) (w : World) (v vL : Value) : ZC b lb w v vL w v vL := ⟨B2.refl _ _ _, Newer.refl _ _, Newer.refl _ _⟩
theorem ZC.disk (h : ZC b lb w v vL w1 v1 vL1) (bb : But b w1 w2) (nn : Newer w1 v1 v2) : ZC b lb w v vL w2 v2 vL1 := ⟨h.b2.trans (.left bb), h.n1.trans nn h.b2.size, h.n2⟩
theorem ZC.log (h : ZC b lb w v vL w1 v1 vL1) (bb : But lb w1 w2) (nn : Newer w1 vL1 vL2) : ZC b lb w v vL w2 v1 vL2 := ⟨h.b2.trans (.right bb), h.n1, h.n2.trans nn h.b2.size⟩
theorem ZC.ext (h : ZC b lb w v vL w1 v1 vL1) (hx : Reg.Ext w1 w2) : ZC b lb w v vL w2 v1 vL1 := h.disk (But.of_ext hx) (Newer.refl _ _)
end
def RZ (b lb : Nat) (w : World) (v vL val : Value) (p' : P) (z' : Z) (e : Ending) (w' : World) : Prop := e = .returned val ∧ ∃ v' vL' r', Zd w' b lb v' vL' r' p' z' ∧ ZC b lb w v vL w' v' vL'
theorem own_of {w w' : World} {B : Nat} {v : Value} {xs : List S} (h : Row B v xs w) (hk : ∀ g, v.ownBlock = some g → w'.heap[g]? = w.heap[g]?) : Row B v xs w' := ⟨own_same h.1 hk, h.2⟩
section
variable {b lb : Nat} {w w' : World} {v v' vL vL' : Value} {r r' : R} {p p' : P} {z z' : Z}
theorem Zd.disk (h : Zd w b lb v vL r p z) (k : Both w' b v' r' p') (bb : But b w w') (nn : Newer w v v') : Zd w' b lb v' vL r' p' z := by
 have hl := h.blk.lt
 refine ⟨k, (bb.block lb hl fun e => h.ne (by injection e)).trans h.blk, own_of h.row fun g hg => bb.block g (h.row.1.lt g hg).2 fun e => (h.ln g hg).2.1 (by injection e), h.ne, ?_, fun g hg => ⟨(h.ln g hg).1, (h.ln g hg).2.1, ?_⟩⟩
 ·rcases nn with e | e
  ·rw [e]; exact h.vn
  ·intro e1; have := e _ e1; omega
 ·rcases nn with e | e
  ·rw [e]; exact (h.ln g hg).2.2
  ·intro e1; have := e _ e1; have := (h.row.1.lt g hg).2; omega
theorem Zd.ext (h : Zd w b lb v vL r p z) (hx : Reg.Ext w w') : Zd w' b lb v vL r p z := h.disk (h.both.ext hx) (But.of_ext hx) (Newer.refl _ _)
theorem Zd.put (h : Zd w b lb v vL r p z) (hB : But lb w w') (hb : Blk w' lb 45 (z'.cells b vL')) (hr : Row 0 vL' z'.L w') (hl : ∀ g, vL'.ownBlock = some g → g ≠ lb ∧ g ≠ b ∧ v.ownBlock ≠ some g) : Zd w' b lb v vL' r p z' := by
 have hbl := h.both.rd.blk.lt
 refine ⟨⟨⟨(hB.block b hbl fun e => h.ne (by injection e with e; exact e.symm)).trans h.both.rd.blk, ?_, h.both.rd.away⟩, h.both.sim, h.both.good, h.both.ops⟩, hb, hr, h.ne, h.vn, hl⟩
 have hv := h.both.rd.row
 refine ⟨hv.1, ?_⟩
 rcases hv.2 with e | ⟨g, cap, cur, e, k1, k2, k3⟩
 ·exact .inl e
 ·refine .inr ⟨g, cap, cur, e, k1, (hB.block g (Array.getElem?_eq_some_iff.1 k2).1 fun e2 => h.vn ?_).trans k2, k3⟩
  injection e2 with e2
  rw [e, ← e2]; rfl
/-- one number or bit is stored -/
theorem Zd.cell (h : Zd w b lb v vL r p z) (i : Nat) (u : Value) (hc : (z.cells b vL).set i u = z'.cells b vL) (hL : z'.L = z.L) : Zd (w.setCell ⟨lb, i, none⟩ u) b lb v vL r p z' := by
 have hB := But.set_ lb w i u
 refine h.put hB (by rw [← hc]; exact h.blk.set_ i u) (by rw [hL]; exact own_of h.row fun g hg => hB.block g (h.row.1.lt g hg).2 fun e => (h.ln g hg).1 (by injection e)) h.ln
theorem Zd.c (h : Zd w b lb v vL r p z) : w.cell? ⟨lb, 0, none⟩ = some (.pointer (some ⟨b, 0, none⟩)) ∧ w.cell? ⟨lb, 1, none⟩ = some vL ∧ w.cell? ⟨lb, 2, none⟩ = some (.int .i64 z.sure) ∧ w.cell? ⟨lb, 3, none⟩ = some (.int .i64 z.size) ∧ w.cell? ⟨lb, 4, none⟩ = some (.bool z.sick) :=
 ⟨h.blk.cell 0, h.blk.cell 1, h.blk.cell 2, h.blk.cell 3, h.blk.cell 4⟩
end
end Plk
end Go.Proofs.YtafeealbdpmdkaaGreatDoor
