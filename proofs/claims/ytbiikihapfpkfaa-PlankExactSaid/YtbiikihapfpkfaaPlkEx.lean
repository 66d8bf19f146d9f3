/- The disk and the document's, side by side. -/
import Derived.Test.YtbiikihapfpkfaaRefO
import Derived.Test.YtbiikihapfpkfaaPlkDg
import Derived.Test.YtbiikihapfpkfaaPlankRoom
set_option linter.unusedSimpArgs false
set_option linter.unusedVariables false
set_option linter.unusedSectionVars false
namespace Go.Proofs.Ytbiikihapfpkfaa
open Go Go.RowKit
namespace Plk
open Rk (RD R Sim Both Newer RP)
structure Mid (W w : World) (d mp : Nat) (es : List E) (p : P) (b : Nat) (v : Value) (r : R) : Prop where
  dg : Dg w d mp es p
  rd : RD w b v r
  base : Reg.Ext W w ∧ ∀ i, Own d mp es i → W.heap.size ≤ i
  bge : W.heap.size ≤ b
  bout : Out w d mp es b
  vout : ∀ g, v.ownBlock = some g → Out w d mp es g
structure Duo (W w : World) (d mp : Nat) (es : List E) (p : P) (b : Nat) (v : Value) (r : R) : Prop extends Mid W w d mp es p b v r where
  sim : Sim p r
theorem Turn.rd {d mp : Nat} {w w' : World} {es es' : List E} (hT : Turn d mp w es w' es') {b : Nat} {v : Value} {r : R} (h : RD w b v r) (hb : Out w d mp es b) (hv : ∀ g, v.ownBlock = some g → Out w d mp es g) : RD w' b v r := by
  refine ⟨hT.blk hb h.blk, ?_, h.away⟩
  rcases h.row.2 with ⟨e1, e2⟩ | ⟨g, cap, cur, e1, h1, h2, h3⟩
  · exact ⟨h.row.1, .inl ⟨e1, e2⟩⟩
  · refine ⟨h.row.1, .inr ⟨g, cap, cur, e1, h1, ?_, h3⟩⟩
    rw [(hT.out (hv g (by rw [e1]; rfl))).2]
    exact h2
theorem Mid.disk {W w w' : World} {d mp : Nat} {es es' : List E} {p p' : P} {b : Nat} {v : Value} {r : R} (h : Mid W w d mp es p b v r) (h1 : Dg w' d mp es' p') (hT : Turn d mp w es w' es') : Mid W w' d mp es' p' b v r :=
  ⟨h1, hT.rd h.rd h.bout h.vout, hT.base h.base.1 h.base.2, h.bge, (hT.out h.bout).1, fun g hg => (hT.out (h.vout g hg)).1⟩
theorem Dg.but {w w' : World} {d mp : Nat} {es : List E} {p : P} {b : Nat} (h : Dg w d mp es p) (hb : But b w w') (ho : Out w d mp es b) : Dg w' d mp es p := by
  refine ⟨h.dk.same fun i hi => ?_, h.fs, h.good⟩
  exact hb.block i (h.dk.own_lt hi) fun e => by injection e with e; rw [e] at hi; exact ho.2 hi
theorem Mid.ref {W w w' : World} {d mp : Nat} {es : List E} {p : P} {b : Nat} {v v' : Value} {r r' : R} (h : Mid W w d mp es p b v r) (hR : RD w' b v' r') (hB : But b w w') (hN : Newer w v v') (hS : Sim p r') : Duo W w' d mp es p b v' r' := by
  refine ⟨⟨h.dg.but hB h.bout, hR, ⟨⟨hB.os.trans h.base.1.os, hB.tape.trans h.base.1.tape, hB.output.trans h.base.1.output, Nat.le_trans h.base.1.size hB.size, fun i hi => ?_⟩, h.base.2⟩, h.bge, ⟨Nat.lt_of_lt_of_le h.bout.1 hB.size, h.bout.2⟩, fun g hg => ?_⟩, hS⟩
  · have := h.bge
    exact (hB.block i (Nat.lt_of_lt_of_le hi h.base.1.size) fun e => by injection e with e; omega).trans (h.base.1.block i hi)
  · refine ⟨hR.row.lt hg, fun o => ?_⟩
    rcases hN with e | e
    · exact (h.vout g (by rw [← e]; exact hg)).2 o
    · have := e g hg
      have := h.dg.dk.own_lt o
      omega
theorem Mid.ext {W w w' : World} {d mp : Nat} {es : List E} {p : P} {b : Nat} {v : Value} {r : R} (h : Mid W w d mp es p b v r) (hx : Reg.Ext w w') : Mid W w' d mp es p b v r :=
  h.disk (h.dg.ext hx) (Turn.ext hx)
theorem Duo.ext {W w w' : World} {d mp : Nat} {es : List E} {p : P} {b : Nat} {v : Value} {r : R} (h : Duo W w d mp es p b v r) (hx : Reg.Ext w w') : Duo W w' d mp es p b v r := ⟨h.toMid.ext hx, h.sim⟩
theorem Mid.both {W w : World} {d mp : Nat} {es : List E} {p p0 : P} {b : Nat} {v : Value} {r : R} (h : Mid W w d mp es p b v r) (hs : Sim p0 r) (hg : Plk.Good p0) (ho : p0.h.ops ≤ 1000) : Both w b v r p0 := ⟨h.rd, hs, hg, ho⟩
/-- the act in its block -/
structure Act8 (w : World) (d mp : Nat) (es : List E) (b g : Nat) (u : A) : Prop where
  blk : Blk w g 41 u.cells
  out : Out w d mp es g
  ne : g ≠ b
theorem Act8.turn {w w' : World} {d mp : Nat} {es es' : List E} {b g : Nat} {u : A} (h : Act8 w d mp es b g u) (hT : Turn d mp w es w' es') : Act8 w' d mp es' b g u := ⟨hT.blk h.out h.blk, (hT.out h.out).1, h.ne⟩
theorem Act8.but {w w' : World} {d mp : Nat} {es : List E} {b g : Nat} {u : A} (h : Act8 w d mp es b g u) (hB : But b w w') : Act8 w' d mp es b g u := ⟨(hB.block g h.out.1 fun e => h.ne (by injection e)).trans h.blk, ⟨Nat.lt_of_lt_of_le h.out.1 hB.size, h.out.2⟩, h.ne⟩
theorem Act8.c {w : World} {d mp : Nat} {es : List E} {b g : Nat} {u : A} (h : Act8 w d mp es b g u) : w.cell? ⟨g, 0, none⟩ = some (.int .i64 u.k) ∧ w.cell? ⟨g, 1, none⟩ = some (.string ⟨u.nm.toArray⟩) ∧ w.cell? ⟨g, 2, none⟩ = some (.string ⟨u.to.toArray⟩) ∧ w.cell? ⟨g, 3, none⟩ = some (.string ⟨u.s.toArray⟩) ∧
    w.cell? ⟨g, 4, none⟩ = some (.int .i64 u.x) ∧ w.cell? ⟨g, 5, none⟩ = some (.int .i64 u.n) ∧ w.cell? ⟨g, 6, none⟩ = some (.int .i64 u.b) ∧ w.cell? ⟨g, 7, none⟩ = some (.slice u.ka u.ks.length u.kc) :=
  ⟨h.blk.cell 0, h.blk.cell 1, h.blk.cell 2, h.blk.cell 3, h.blk.cell 4, h.blk.cell 5, h.blk.cell 6, h.blk.cell 7⟩
/-- what the round asks at its end -/
structure Ends (w : World) (d b : Nat) (uu oo : Int) (dd : Bool) : Prop where
  u1 : ∀ w', Reg.Ext w w' → Calls Try.prog 21 #[.pointer (some ⟨d, 0, none⟩)] w' fun e w2 => e = .returned (.int .i64 uu) ∧ w2 = w'
  u2 : ∀ w', Reg.Ext w w' → Calls Try.prog 41 #[.pointer (some ⟨b, 0, none⟩)] w' fun e w2 => e = .returned (.int .i64 uu) ∧ w2 = w'
  o1 : ∀ w', Reg.Ext w w' → Calls Try.prog 22 #[.pointer (some ⟨d, 0, none⟩)] w' fun e w2 => e = .returned (.int .i64 oo) ∧ w2 = w'
  o2 : ∀ w', Reg.Ext w w' → w'.cell? ⟨b, 2, none⟩ = some (.int .i64 oo)
  d1 : ∀ w', Reg.Ext w w' → Calls Try.prog 17 #[.pointer (some ⟨d, 0, none⟩)] w' fun e w2 => e = .returned (.bool dd) ∧ w2 = w'
  d2 : ∀ w', Reg.Ext w w' → w'.cell? ⟨b, 6, none⟩ = some (.bool dd)
theorem Duo.ends {W w : World} {d mp : Nat} {es : List E} {p : P} {b : Nat} {v : Value} {r : R} (h : Duo W w d mp es p b v r) : ∃ uu oo dd, Ends w d b uu oo dd := by
  refine ⟨p.h.used, p.h.ops, p.h.off, fun w' hx => (h.dg.ext hx).used, fun w' hx => ?_, fun w' hx => (h.dg.ext hx).ops, fun w' hx => ?_, fun w' hx => (h.dg.ext hx).down, fun w' hx => ?_⟩
  · have hu := h.dg.good.used
    have hr := h.dg.good.room
    have := Rk.used_any w' b v r (h.rd.ext hx) (by rw [h.sim.l]; exact h.dg.good.cnt) (by rw [h.sim.l]; omega)
    rw [h.sim.l, ← hu] at this
    exact this
  · have := (h.rd.ext hx).c.2.2.1
    rw [h.sim.ops] at this
    exact this
  · have := (h.rd.ext hx).c.2.2.2.2.2.2
    rw [h.sim.off] at this
    exact this
theorem on_ref {w : World} {b : Nat} {v : Value} {r : R} {p : P} (h : Both w b v r p) (q : Option Addr) (c : Nat) (ks : List Int) (hk : Rd w q (ks.map (Value.int .i64))) (hkb : ∀ ad, ks ≠ [] → q = some ad → ad.block ≠ b)
    (hx : ∀ x ∈ ks, -9223372036854775808 ≤ x ∧ x ≤ 9223372036854775807) (hks : ks.length ≤ 100) : Calls Try.prog 38 #[.pointer (some ⟨b, 0, none⟩), .slice q ks.length c] w (RP b w v (.tuple #[]) (p.on ks)) := by
  have hs := h.sim
  have hg := h.good
  have hle : ∀ f ∈ p.fs, f.l.length ≤ 4194304 := fun f hf => by
    have h1 := len_sum hf
    have h2 := hg.used
    have h3 := hg.room
    omega
  refine (Rk.on_any w b v r h.rd q c ks hk hkb hx hks (by rw [hs.l]; exact hg.cnt) (by rw [hs.l]; exact hg.safe) (by rw [hs.l]; exact hle)).mono ?_
  rintro e w' ⟨rfl, v', h2, h3, h4⟩
  refine ⟨rfl, v', _, h2, ?_, h3, h4⟩
  unfold P.on
  rw [hs.off]
  cases p.h.off with
  | true =>
    rw [if_pos rfl, if_pos rfl]
    exact ⟨by show onL r.l ks = onL p.fs ks; rw [hs.l], hs.room, hs.ops, rfl, hs.kind, hs.arm, hs.pow, hs.at0⟩
  | false =>
    rw [if_neg Bool.false_ne_true, if_neg Bool.false_ne_true]
    exact hs
theorem lay_ops (p : P) (n t : List UInt8) : (p.lay n t).2.h.ops = p.h.ops := by
  unfold P.lay
  repeat' split
  all_goals rfl
theorem flip_ops (p : P) (n : List UInt8) (x : Int) (y : UInt8) : (p.flip n x y).2.h.ops = p.h.ops := by
  unfold P.flip
  repeat' split
  all_goals rfl
theorem on_ops (p : P) (ks : List Int) : (p.on ks).h.ops = p.h.ops := by
  unfold P.on
  split <;> rfl
end Plk
end Go.Proofs.Ytbiikihapfpkfaa
