/- What a law over a log holds; its calls. -/
import Derived.Test.YtafeealbdpmdkaaGreatDoorDyL
import Derived.Test.YtafeealbdpmdkaaGreatDoorDyQ
import Derived.Test.YtafeealbdpmdkaaGreatDoorDyN
set_option linter.unusedSimpArgs false
set_option linter.unusedVariables false
set_option linter.unusedSectionVars false
-- squeezed
namespace Go.Proofs.YtafeealbdpmdkaaGreatDoor
open Go Go.RowKit
namespace Plk
open Slp (S good frame body frames allP Row RdS)
theorem open_eq {w : World} {d mp : Nat} {es : List E} {p q : P} {l : List UInt8} {xs : List S} {y : Y} (h : Dg w d mp es p) (hb : p.h.ops + 4 < big) (hw : p.load = (l, 0, q)) (hs : l.length ≤ 1048576) {W0 : World} (hx : Reg.Ext W0 w) (ho : ∀ i, Own d mp es i → W0.heap.size ≤ i) (hT : Crc.Tab W0)
  (ex : (allP l).1 = xs) (ey : opened l = y) : Calls Tryz.prog 7 #[.pointer (some ⟨d, 0, none⟩)] w fun e w' => ∃ es' g pp c,
    e = .returned (.tuple #[.pointer (some ⟨g, 0, none⟩), .slice pp xs.length c, .int .i64 0]) ∧ w.heap.size ≤ g ∧ Dy w' d mp es' q g y ∧ Held w' d mp es' g w.heap.size (.slice pp xs.length c) xs ∧ Turn d mp w es w' es' := by
 subst ex ey
 refine (open_any h hb hw hs hx ho hT).mono ?_
 rintro e w' ⟨es', k1, t1, h1 | ⟨-, g, u, rfl, hg, hD, hH⟩⟩
 ·exact absurd rfl h1.1
 ·obtain ⟨-, pp, c, rfl, -, -⟩ := hH.rd
  exact ⟨es', g, pp, c, rfl, hg, hD, hH, t1⟩
/-- what the law holds: the disk, its log, all that was there as it was -/
structure Lw (W w : World) (d mp : Nat) (es : List E) (p : P) (g : Nat) (y : Y) : Prop where
 dy : Dy w d mp es p g y
 base : Reg.Ext W w ∧ ∀ i, Own d mp es i → W.heap.size ≤ i
 ge : W.heap.size ≤ g
theorem Lw.next {W w w1 : World} {d mp : Nat} {es es1 : List E} {p q : P} {g : Nat} {y z : Y} (h : Lw W w d mp es p g y) (h1 : Dy w1 d mp es1 q g z) (hT : TurnG d mp g w es w1 es1) : Lw W w1 d mp es1 q g z := ⟨h1, hT.base h.base.1 h.ge h.base.2, h.ge⟩
theorem Lw.disk {W w w1 : World} {d mp : Nat} {es es1 : List E} {p q : P} {g : Nat} {y : Y} (h : Lw W w d mp es p g y) (h1 : Dg w1 d mp es1 q) (hT : Turn d mp w es w1 es1) : Lw W w1 d mp es1 q g y := h.next (h.dy.turn h1 hT) (.of hT)
theorem Lw.ext {W w w1 : World} {d mp : Nat} {es : List E} {p : P} {g : Nat} {y : Y} (h : Lw W w d mp es p g y) (hx : Reg.Ext w w1) : Lw W w1 d mp es p g y := h.next (h.dy.ext hx) (.ext hx)
theorem Lw.tab {W w : World} {d mp : Nat} {es : List E} {p : P} {g : Nat} {y : Y} (h : Lw W w d mp es p g y) (hT : Crc.Tab W) : Crc.Tab w := hT.below h.base.1
theorem kr_one {w : World} {d mp : Nat} {es : List E} {p : P} (h : Dg w d mp es p) (k : Int) : KR (w.alloc (.cells #[.int .i64 k] 3)) d mp es (.slice (some ⟨w.heap.size, 0, none⟩) 1 1) [k] := by
 refine ⟨_, 1, rfl, Nat.le_refl _, by unfold maxLen; omega, fun j hj => ⟨w.heap.size, 0, rfl, by simp, fun o => ?_, ?_⟩⟩
 ·have := h.dk.own_lt o
  omega
 ·have : j = 0 := by simpa using hj
  subst this
  simp

def ResW (W : World) (d mp g : Nat) (W1 : World) (es : List E) (v : Value) (q : P) (z : Y) (e : Ending) (w' : World) : Prop := e = .returned v ∧ ∃ es', Lw W w' d mp es' q g z ∧ TurnG d mp g W1 es w' es'
section
variable {W w : World} {d mp : Nat} {es : List E} {p q : P} {g : Nat} {y z : Y} {v : Int} (h : Lw W w d mp es p g y)
include h
theorem Lw.of_resY {u : Value} {f : FuncId} {vs : Array Value} (hr : Calls Tryz.prog f vs w (ResY d mp g w es u q z)) : Calls Tryz.prog f vs w (ResW W d mp g w es u q z) := by
 refine hr.mono ?_
 rintro e w' ⟨rfl, es', h1, h2⟩
 exact ⟨rfl, es', h.next h1 h2, h2⟩
theorem Lw.of_resG {u : Value} {f : FuncId} {vs : Array Value} (hr : Calls Tryz.prog f vs w (ResG d mp w es u q)) : Calls Tryz.prog f vs w (ResW W d mp g w es u q y) := by
 refine hr.mono ?_
 rintro e w' ⟨rfl, es', h1, h2⟩
 exact ⟨rfl, es', h.disk h1 h2, .of h2⟩
theorem Lw.add (hy : y.Fine) (h1 : p.h.ops < big) (x : S) (hx : x.dig.length = 32) (hT : Crc.Tab W) (e : addP p y x = (v, q, z)) :
  Calls Tryz.prog 21 #[.pointer (some ⟨g, 0, none⟩), .agg x.cells.toArray] w (ResW W d mp g w es (.int .i64 v) q z) := h.of_resY (add_eq h.dy hy h1 x hx (h.tab hT) e)
theorem Lw.sync (h1 : p.h.ops < big) (e : syncP p y = (v, q, z)) :
  Calls Tryz.prog 23 #[.pointer (some ⟨g, 0, none⟩)] w (ResW W d mp g w es (.int .i64 v) q z) := h.of_resY (sync_eq h.dy h1 e)
theorem Lw.rew (hb : p.h.ops + 5 < big) (xs : List S) (u : Value) (ha : RdS u xs w) (hl : xs.length ≤ 1000) (hT : Crc.Tab W) (e : rewP p y xs = (v, q, z)) :
  Calls Tryz.prog 25 #[.pointer (some ⟨g, 0, none⟩), u] w (ResW W d mp g w es (.int .i64 v) q z) := h.of_resY (rew_eq h.dy hb xs u ha hl (h.tab hT) e)
theorem Lw.len : Calls Tryz.prog 27 #[.pointer (some ⟨g, 0, none⟩)] w fun e w' => e = .returned (.int .i64 y.n) ∧ w' = w := len_any h.dy
theorem Lw.sure : Calls Tryz.prog 28 #[.pointer (some ⟨g, 0, none⟩)] w fun e w' => e = .returned (.int .i64 y.sure) ∧ w' = w := sure_any h.dy
theorem Lw.ysize : Calls Tryz.prog 29 #[.pointer (some ⟨g, 0, none⟩)] w fun e w' => e = .returned (.int .i64 y.size) ∧ w' = w := ysize_any h.dy
theorem Lw.sick : Calls Tryz.prog 30 #[.pointer (some ⟨g, 0, none⟩)] w fun e w' => e = .returned (.bool y.sick) ∧ w' = w := sick_any h.dy
theorem Lw.off : Calls Tryz.prog 13 #[.pointer (some ⟨d, 0, none⟩)] w (ResW W d mp g w es (.tuple #[]) ⟨p.fs, { p.h with off := true, ak := 0, af := 0, al := 0 }⟩ y) := h.of_resG h.dy.dg.off
theorem Lw.arm (x k m : Int) (h1 : p.h.ops < big) : Calls Tryz.prog 11 #[.pointer (some ⟨d, 0, none⟩), .int .i64 x, .int .i64 k, .int .i64 m] w (ResW W d mp g w es (.tuple #[]) ⟨p.fs, p.h.arm x k m⟩ y) := h.of_resG (h.dy.dg.arm x k m h1)
theorem Lw.on1 (k : Int) : Calls Tryz.prog 15 #[.pointer (some ⟨d, 0, none⟩), .slice (some ⟨w.heap.size, 0, none⟩) 1 1] (w.alloc (.cells #[.int .i64 k] 3)) (ResW W d mp g (w.alloc (.cells #[.int .i64 k] 3)) es (.tuple #[]) (p.on [k]) y) := (h.ext (Reg.Ext.alloc w _)).of_resG ((h.ext (Reg.Ext.alloc w _)).dy.dg.on _ [k] (kr_one h.dy.dg k))
theorem Lw.on (u : Value) (ks : List Int) (hk : KR w d mp es u ks) : Calls Tryz.prog 15 #[.pointer (some ⟨d, 0, none⟩), u] w (ResW W d mp g w es (.tuple #[]) (p.on ks) y) := h.of_resG (h.dy.dg.on u ks hk)
/-- the log is opened again: the elder one is still held -/
theorem Lw.again {l : List UInt8} {xs : List S} (hb : p.h.ops + 4 < big) (hw : p.load = (l, 0, q)) (hs : l.length ≤ 1048576) (hT : Crc.Tab W) (ex : (allP l).1 = xs) (ey : opened l = z) :
  Calls Tryz.prog 7 #[.pointer (some ⟨d, 0, none⟩)] w fun e w' => ∃ es' g' pp c,
   e = .returned (.tuple #[.pointer (some ⟨g', 0, none⟩), .slice pp xs.length c, .int .i64 0]) ∧ Lw W w' d mp es' q g y ∧ Lw W w' d mp es' q g' z ∧ Held w' d mp es' g w.heap.size (.slice pp xs.length c) xs ∧ Held w' d mp es' g' w.heap.size (.slice pp xs.length c) xs ∧ Turn d mp w es w' es' := by
 refine (open_eq h.dy.dg hb hw hs h.base.1 h.base.2 hT ex ey).mono ?_
 rintro e w' ⟨es', g', pp, c, rfl, hg, hD, hH, hT1⟩
 have hgl := h.dy.out.1
 refine ⟨es', g', pp, c, rfl, h.disk hD.dg hT1, ⟨hD, hT1.base h.base.1 h.base.2, Nat.le_trans h.base.1.size hg⟩, ⟨hH.1, fun b hb => ⟨?_, (hH.2 b hb).2⟩⟩, hH, hT1⟩
 have := (hH.1.1.lt b hb).1
 omega
end
/-- a log over a new disk -/
theorem lw_open {W w : World} {d mp : Nat} {p q : P} {y : Y} (h : Dg w d mp [] p) (hx : Reg.Ext W w) (ho : ∀ i, Own d mp [] i → W.heap.size ≤ i) (hT : Crc.Tab W) (hb : p.h.ops + 4 < big) (hw : p.load = ([], 0, q)) (ey : opened [] = y) :
  Calls Tryz.prog 7 #[.pointer (some ⟨d, 0, none⟩)] w fun e w' => ∃ es' g pp c, e = .returned (.tuple #[.pointer (some ⟨g, 0, none⟩), .slice pp 0 c, .int .i64 0]) ∧ Lw W w' d mp es' q g y := by
 refine (open_eq (xs := []) h hb hw (Nat.zero_le _) hx ho hT (by rw [Slp.allP_nil]) ey).mono ?_
 rintro e w' ⟨es', g, pp, c, rfl, hg, hD, hH, hT1⟩
 exact ⟨es', g, pp, c, rfl, hD, hT1.base hx ho, Nat.le_trans hx.size hg⟩
section
variable {W w w' : World} {d mp : Nat} {es : List E} {p : P} {g B : Nat} {y : Y} {v v' : Value} {xs ys : List S}
theorem Lw.grown (h : Lw W w d mp es p g y) (hH : Held w d mp es g B v xs) (hB : W.heap.size ≤ B) (hg : w.grownBy w' v.ownBlock) : Lw W w' d mp es p g y := by
 have own : ∀ i, Own d mp es i → w'.heap[i]? = w.heap[i]? := fun i hi => hg.block i (h.dy.dg.dk.own_lt hi) fun e => (hH.2 i e.symm).2.2 hi
 refine ⟨⟨⟨h.dy.dg.dk.same own, h.dy.dg.fs, h.dy.dg.good⟩, ⟨Nat.lt_of_lt_of_le h.dy.out.1 hg.size, h.dy.out.2⟩, ?_⟩, ⟨⟨hg.os.trans h.base.1.os, hg.tape.trans h.base.1.tape, hg.output.trans h.base.1.output, Nat.le_trans h.base.1.size hg.size, fun i hi => ?_⟩, h.base.2⟩, h.ge⟩
 ·exact (hg.block g h.dy.out.1 fun e => (hH.2 g e.symm).1 rfl).trans h.dy.blk
 ·refine (hg.block i (Nat.lt_of_lt_of_le hi h.base.1.size) fun e => ?_).trans (h.base.1.block i hi)
  have := (hH.1.1.lt i e.symm).1
  omega
theorem Held.grown (h : Lw W w d mp es p g y) (hH : Held w d mp es g B v xs) (hBw : B ≤ w.heap.size) (hg : w.grownBy w' v.ownBlock) (hr : Row B v' ys w') (hat : v'.ownBlock = v.ownBlock ∨ v'.ownBlock = some w.heap.size) : Held w' d mp es g B v' ys := by
 refine ⟨hr, fun b hb => ?_⟩
 have hlt := (hr.1.lt b hb).2
 rcases hat with e | e
 ·have := hH.2 b (by rw [← e]; exact hb)
  exact ⟨this.1, hlt, this.2.2⟩
 ·rw [hb] at e
  injection e with e
  subst e
  have := h.dy.out.1
  exact ⟨by omega, hlt, fun o => by have := h.dy.dg.dk.own_lt o; omega⟩
end
end Plk
end Go.Proofs.YtafeealbdpmdkaaGreatDoor
