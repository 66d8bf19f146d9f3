/- The disk and the document's, side by side (no act in sight). -/
import Derived.Test.YtafeealbdpmdkaaGreatDoorRfB
import Derived.Test.YtafeealbdpmdkaaGreatDoorPkE
set_option linter.unusedSimpArgs false
set_option linter.unusedVariables false
set_option linter.unusedSectionVars false
-- squeezed
namespace Go.Proofs.YtafeealbdpmdkaaGreatDoor
open Go Go.RowKit
namespace Plk
open Rk (RD R Sim Both Newer RP)
structure Mid (W w : World) (d mp : Nat) (es : List E) (p : P) (b : Nat) (v : Value) (r : R) : Prop where
 dg : Dg w d mp es p
 rd : RD w b v r
 base : Reg.Ext W w ∧ ∀ i, Own d mp es i → W.heap.size ≤ i
 bge : W.heap.size ≤ b
 bout : Out w d mp es b
 vout : ∀ g, v.ownBlock = some g → Out w d mp es g
structure Duo (W w : World) (d mp : Nat) (es : List E) (p : P) (b : Nat) (v : Value) (r : R) : Prop extends Mid W w d mp es p b v r where
 sim : Sim p r
theorem Turn.rd {d mp : Nat} {w w' : World} {es es' : List E} (hT : Turn d mp w es w' es') {b : Nat} {v : Value} {r : R} (h : RD w b v r) (hb : Out w d mp es b) (hv : ∀ g, v.ownBlock = some g → Out w d mp es g) : RD w' b v r := by
 refine ⟨hT.blk hb h.blk, ?_, h.away⟩
 rcases h.row.2 with ⟨e1, e2⟩ | ⟨g, cap, cur, e1, h1, h2, h3⟩
 ·exact ⟨h.row.1, .inl ⟨e1, e2⟩⟩
 ·refine ⟨h.row.1, .inr ⟨g, cap, cur, e1, h1, ?_, h3⟩⟩
  rw [(hT.out (hv g (by rw [e1]; rfl))).2]
  exact h2
theorem Mid.disk {W w w' : World} {d mp : Nat} {es es' : List E} {p p' : P} {b : Nat} {v : Value} {r : R} (h : Mid W w d mp es p b v r) (h1 : Dg w' d mp es' p') (hT : Turn d mp w es w' es') : Mid W w' d mp es' p' b v r :=
 ⟨h1, hT.rd h.rd h.bout h.vout, hT.base h.base.1 h.base.2, h.bge, (hT.out h.bout).1, fun g hg => (hT.out (h.vout g hg)).1⟩
theorem Dg.but {w w' : World} {d mp : Nat} {es : List E} {p : P} {b : Nat} (h : Dg w d mp es p) (hb : But b w w') (ho : Out w d mp es b) : Dg w' d mp es p := by
 refine ⟨h.dk.same fun i hi => ?_, h.fs, h.good⟩
 exact hb.block i (h.dk.own_lt hi) fun e => by injection e with e; rw [e] at hi; exact ho.2 hi
theorem Mid.ref {W w w' : World} {d mp : Nat} {es : List E} {p : P} {b : Nat} {v v' : Value} {r r' : R} (h : Mid W w d mp es p b v r) (hR : RD w' b v' r') (hB : But b w w') (hN : Newer w v v') (hS : Sim p r') : Duo W w' d mp es p b v' r' := by
 refine ⟨⟨h.dg.but hB h.bout, hR, ⟨⟨hB.os.trans h.base.1.os, hB.tape.trans h.base.1.tape, hB.output.trans h.base.1.output, Nat.le_trans h.base.1.size hB.size, fun i hi => ?_⟩, h.base.2⟩, h.bge, ⟨Nat.lt_of_lt_of_le h.bout.1 hB.size, h.bout.2⟩, fun g hg => ?_⟩, hS⟩
 ·have := h.bge
  exact (hB.block i (Nat.lt_of_lt_of_le hi h.base.1.size) fun e => by injection e with e; omega).trans (h.base.1.block i hi)
 ·refine ⟨hR.row.lt hg, fun o => ?_⟩
  rcases hN with e | e
  ·exact (h.vout g (by rw [← e]; exact hg)).2 o
  ·have := e g hg
   have := h.dg.dk.own_lt o
   omega
theorem Mid.ext {W w w' : World} {d mp : Nat} {es : List E} {p : P} {b : Nat} {v : Value} {r : R} (h : Mid W w d mp es p b v r) (hx : Reg.Ext w w') : Mid W w' d mp es p b v r :=
 h.disk (h.dg.ext hx) (Turn.ext hx)
theorem Duo.ext {W w w' : World} {d mp : Nat} {es : List E} {p : P} {b : Nat} {v : Value} {r : R} (h : Duo W w d mp es p b v r) (hx : Reg.Ext w w') : Duo W w' d mp es p b v r := ⟨h.toMid.ext hx, h.sim⟩
theorem Mid.both {W w : World} {d mp : Nat} {es : List E} {p p0 : P} {b : Nat} {v : Value} {r : R} (h : Mid W w d mp es p b v r) (hs : Sim p0 r) (hg : Plk.Good p0) (ho : p0.h.ops ≤ 1000) : Both w b v r p0 := ⟨h.rd, hs, hg, ho⟩
theorem on_ref {w : World} {b : Nat} {v : Value} {r : R} {p : P} (h : Both w b v r p) (q : Option Addr) (c : Nat) (ks : List Int) (hk : Rd w q (ks.map (Value.int .i64))) (hkb : ∀ ad, ks ≠ [] → q = some ad → ad.block ≠ b)
  (hx : ∀ x ∈ ks, -9223372036854775808 ≤ x ∧ x ≤ 9223372036854775807) (hks : ks.length ≤ 100) : Calls Tryz.prog 16 #[.pointer (some ⟨b, 0, none⟩), .slice q ks.length c] w (RP b w v (.tuple #[]) (p.on ks)) := by
 have hs := h.sim
 have hg := h.good
 have hle : ∀ f ∈ p.fs, f.l.length ≤ 4194304 := fun f hf => by
  have h1 := len_sum hf
  have h2 := hg.used
  have h3 := hg.room
  omega
 refine (Rk.on_any w b v r h.rd q c ks hk hkb hx hks (by rw [hs.l]; exact hg.cnt) (by rw [hs.l]; exact hg.safe) (by rw [hs.l]; exact hle)).mono ?_
 rintro e w' ⟨rfl, v', h2, h3, h4⟩
 refine ⟨rfl, v', _, h2, ?_, h3, h4⟩
 unfold P.on
 rw [hs.off]
 cases p.h.off with
 | true =>
   rw [if_pos rfl, if_pos rfl]
   exact ⟨by show onL r.l ks = onL p.fs ks; rw [hs.l], hs.room, hs.ops, rfl, hs.kind, hs.arm, hs.pow, hs.at0⟩
 | false =>
   rw [if_neg Bool.false_ne_true, if_neg Bool.false_ne_true]
   exact hs
theorem flip_ops (p : P) (n : List UInt8) (x : Int) (y : UInt8) : (p.flip n x y).2.h.ops = p.h.ops := by
 unfold P.flip
 repeat' split
 all_goals rfl
theorem on_ops (p : P) (ks : List Int) : (p.on ks).h.ops = p.h.ops := by
 unfold P.on
 split <;> rfl
end Plk
end Go.Proofs.YtafeealbdpmdkaaGreatDoor
