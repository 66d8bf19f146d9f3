/- A log in memory; what its operations do, plainly. -/
import Derived.Test.YtafeealbdpmdkaaGreatDoorDyB
import Derived.Test.YtafeealbdpmdkaaGreatDoorSpD
set_option linter.unusedSimpArgs false
set_option linter.unusedVariables false
set_option linter.unusedSectionVars false
-- squeezed
namespace Go.Proofs.YtafeealbdpmdkaaGreatDoor
open Go Go.RowKit
namespace Plk
open Slp (S good frame body frames allP Row)
structure Y where
 n : Int
 sure : Int
 size : Int
 sick : Bool
def Y.cells (y : Y) (d : Nat) : List Value := [.pointer (some ⟨d, 0, none⟩), .int .i64 y.n, .int .i64 y.sure, .int .i64 y.size, .bool y.sick]
def opened (l : List UInt8) : Y := ⟨((allP l).1.length : Int), ((allP l).1.length : Int), ((allP l).2 : Int), decide (((allP l).2 : Int) < (l.length : Int))⟩
/-- behind an operation -/
def Y.fail (y : Y) (e : Int) : Y := { y with sick := y.sick || !(e == 0) }
def addP (p : P) (y : Y) (x : S) : Int × P × Y :=
 if y.sick = true then (8, p, y) else if good x = false then (1, p, y)
 else if (p.append nD (frame (body x))).1 ≠ 0 then ((p.append nD (frame (body x))).1, (p.append nD (frame (body x))).2, { y with sick := true })
 else (0, (p.append nD (frame (body x))).2, ⟨y.n + 1, y.sure, y.size + ((frame (body x)).length : Int), false⟩)
def syncP (p : P) (y : Y) : Int × P × Y :=
 if y.sick = true then (8, p, y) else if y.sure = y.n then (0, p, y)
 else if (p.sync nD).1 ≠ 0 then ((p.sync nD).1, (p.sync nD).2, { y with sick := true })
 else (0, (p.sync nD).2, { y with sure := y.n })
def allGood (xs : List S) : Bool := xs.all good
def rewP (p : P) (y : Y) (xs : List S) : Int × P × Y :=
 if allGood xs = false then (1, p, y)
 else if (p.replace (frames xs)).1 ≠ 0 then ((p.replace (frames xs)).1, (p.replace (frames xs)).2, y)
 else (0, (p.replace (frames xs)).2, ⟨(xs.length : Int), (xs.length : Int), ((frames xs).length : Int), false⟩)
/-- the numbers are no greater than that -/
structure Y.Fine (y : Y) : Prop where
 n : 0 ≤ y.n ∧ y.n < big
 size : 0 ≤ y.size ∧ y.size < big
/-- the disk and the log's block may have turned -/
structure TurnG (d mp g : Nat) (w : World) (es : List E) (w' : World) (es' : List E) : Prop where
 os : w'.os = w.os
 tape : w'.tape = w.tape
 output : w'.output = w.output
 size : w.heap.size ≤ w'.heap.size
 kept : ∀ i, i < w.heap.size → i ≠ g → ¬ Own d mp es i → w'.heap[i]? = w.heap[i]?
 own : ∀ i, Own d mp es' i → Own d mp es i ∨ w.heap.size ≤ i
section
variable {d mp g : Nat} {w w1 w2 : World} {es es1 es2 : List E}
theorem TurnG.refl (d mp g : Nat) (w : World) (es : List E) : TurnG d mp g w es w es := ⟨rfl, rfl, rfl, Nat.le_refl _, fun _ _ _ _ => rfl, fun _ h => .inl h⟩
theorem TurnG.of (h : Turn d mp w es w1 es1) : TurnG d mp g w es w1 es1 := ⟨h.os, h.tape, h.output, h.size, fun i hi _ => h.kept i hi, h.own⟩
theorem TurnG.ext (h : Reg.Ext w w1) : TurnG d mp g w es w1 es := .of (Turn.ext h)
theorem TurnG.but (h : But g w w1) : TurnG d mp g w es w1 es := ⟨h.os, h.tape, h.output, h.size, fun i hi hg _ => h.block i hi (fun e => hg (by injection e)), fun _ h => .inl h⟩
theorem TurnG.trans (h : TurnG d mp g w es w1 es1) (h1 : TurnG d mp g w1 es1 w2 es2) : TurnG d mp g w es w2 es2 := by
 refine ⟨h1.os.trans h.os, h1.tape.trans h.tape, h1.output.trans h.output, Nat.le_trans h.size h1.size, fun i hi hg hn => ?_, fun i hi => ?_⟩
 ·refine (h1.kept i (Nat.lt_of_lt_of_le hi h.size) hg fun ho => ?_).trans (h.kept i hi hg hn)
  rcases h.own i ho with h2 | h2
  ·exact hn h2
  ·omega
 ·rcases h1.own i hi with h2 | h2
  ·exact h.own i h2
  ·exact .inr (Nat.le_trans h.size h2)
theorem TurnG.out (h : TurnG d mp g w es w1 es1) {b : Nat} (ho : Out w d mp es b) : Out w1 d mp es1 b := by
 refine ⟨Nat.lt_of_lt_of_le ho.1 h.size, fun o => ?_⟩
 rcases h.own b o with h1 | h1
 ·exact ho.2 h1
 ·have := ho.1; omega
theorem TurnG.blk (h : TurnG d mp g w es w1 es1) {b : Nat} (hb : b ≠ g) {t : TypeId} {cs : List Value} (ho : Out w d mp es b) (h8 : Blk w b t cs) : Blk w1 b t cs := (h.kept b ho.1 hb ho.2).trans h8
theorem TurnG.base {W0 : World} (h : TurnG d mp g w es w1 es1) (hx : Reg.Ext W0 w) (hg : W0.heap.size ≤ g) (ho : ∀ i, Own d mp es i → W0.heap.size ≤ i) : Reg.Ext W0 w1 ∧ ∀ i, Own d mp es1 i → W0.heap.size ≤ i := by
 refine ⟨⟨h.os.trans hx.os, h.tape.trans hx.tape, h.output.trans hx.output, Nat.le_trans hx.size h.size, fun i hi => ?_⟩, fun i hi => ?_⟩
 ·refine (h.kept i (Nat.lt_of_lt_of_le hi hx.size) (by omega) fun o => ?_).trans (hx.block i hi)
  have := ho i o
  omega
 ·rcases h.own i hi with h1 | h1
  ·exact ho i h1
  ·exact Nat.le_trans hx.size h1
end
/-- the disk, and its log -/
structure Dy (w : World) (d mp : Nat) (es : List E) (p : P) (g : Nat) (y : Y) : Prop where
 dg : Dg w d mp es p
 out : Out w d mp es g
 blk : Blk w g 80 (y.cells d)
theorem Dy.ext {w w' : World} {d mp : Nat} {es : List E} {p : P} {g : Nat} {y : Y} (h : Dy w d mp es p g y) (hx : Reg.Ext w w') : Dy w' d mp es p g y := ⟨h.dg.ext hx, h.out.ext hx, h.blk.ext hx⟩
theorem Dy.turn {w w' : World} {d mp : Nat} {es es' : List E} {p p' : P} {g : Nat} {y : Y} (h : Dy w d mp es p g y) (h1 : Dg w' d mp es' p') (hT : Turn d mp w es w' es') : Dy w' d mp es' p' g y := ⟨h1, (hT.out h.out).1, hT.blk h.out h.blk⟩
def ResY (d mp g : Nat) (W : World) (es : List E) (v : Value) (p' : P) (y' : Y) (e : Ending) (w' : World) : Prop := e = .returned v ∧ ∃ es', Dy w' d mp es' p' g y' ∧ TurnG d mp g W es w' es'
/-- a store into the log's block -/
theorem Dy.set_ {w : World} {d mp : Nat} {es : List E} {p : P} {g : Nat} {y y' : Y} (h : Dy w d mp es p g y) (i : Nat) (u : Value) (hc : (y.cells d).set i u = y'.cells d) : Dy (w.setCell ⟨g, i, none⟩ u) d mp es p g y' ∧ But g w (w.setCell ⟨g, i, none⟩ u) := by
 have hb := But.set_ g w i u
 refine ⟨⟨⟨h.dg.dk.same fun j hj => hb.block j (h.dg.dk.own_lt hj) (fun e => by injection e with e; exact h.out.2 (e ▸ hj)), h.dg.fs, h.dg.good⟩, ⟨Nat.lt_of_lt_of_le h.out.1 hb.size, h.out.2⟩, ?_⟩, hb⟩
 rw [← hc]
 exact h.blk.set_ i u
theorem Dy.c {w : World} {d mp : Nat} {es : List E} {p : P} {g : Nat} {y : Y} (h : Dy w d mp es p g y) : w.cell? ⟨g, 0, none⟩ = some (.pointer (some ⟨d, 0, none⟩)) ∧ w.cell? ⟨g, 1, none⟩ = some (.int .i64 y.n) ∧ w.cell? ⟨g, 2, none⟩ = some (.int .i64 y.sure) ∧ w.cell? ⟨g, 3, none⟩ = some (.int .i64 y.size) ∧ w.cell? ⟨g, 4, none⟩ = some (.bool y.sick) :=
 ⟨h.blk.cell 0, h.blk.cell 1, h.blk.cell 2, h.blk.cell 3, h.blk.cell 4⟩
/-- a row of slips that a caller holds -/
def Held (w : World) (d mp : Nat) (es : List E) (g : Nat) (B : Nat) (v : Value) (xs : List S) : Prop := Row B v xs w ∧ ∀ b, v.ownBlock = some b → b ≠ g ∧ Out w d mp es b
theorem own_same {w w' : World} {B e n k : Nat} {v : Value} {xs : List Value} (h : w.ownsRow B e n v k xs) (hk : ∀ b, v.ownBlock = some b → w'.heap[b]? = w.heap[b]?) : w'.ownsRow B e n v k xs := by
 refine ⟨h.1, ?_⟩
 rcases h.2 with hn | ⟨g, cap, cur, rfl, hb, hgg, rest⟩
 ·exact .inl hn
 ·exact .inr ⟨g, cap, cur, rfl, hb, (hk g rfl).trans hgg, rest⟩
theorem Held.turn {d mp g B : Nat} {w w1 : World} {es es1 : List E} {v : Value} {xs : List S} (h : Held w d mp es g B v xs) (hT : TurnG d mp g w es w1 es1) : Held w1 d mp es1 g B v xs :=
 ⟨⟨own_same h.1.1 fun b hb => hT.kept b (h.2 b hb).2.1 (h.2 b hb).1 (h.2 b hb).2.2, h.1.2⟩, fun b hb => ⟨(h.2 b hb).1, hT.out (h.2 b hb).2⟩⟩
end Plk
end Go.Proofs.YtafeealbdpmdkaaGreatDoor
