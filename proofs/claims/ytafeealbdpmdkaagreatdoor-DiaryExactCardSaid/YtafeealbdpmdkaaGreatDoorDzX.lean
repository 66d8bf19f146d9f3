/- Made by merge.py from: DzH DzP DzQ DzR. -/
import Derived.Test.YtafeealbdpmdkaaGreatDoorDzG
import Derived.Test.YtafeealbdpmdkaaGreatDoorDyH
import Derived.Test.YtafeealbdpmdkaaGreatDoorDuo
import Derived.Test.YtafeealbdpmdkaaGreatDoorDzC
import Derived.Test.YtafeealbdpmdkaaGreatDoorDyR
set_option linter.unusedSimpArgs false
set_option linter.unusedVariables false
set_option linter.unusedSectionVars false
set_option maxRecDepth 100000
/- The log and the document's, side by side (no act in sight). -/
open List renaming size_toArray → z_a
-- squeezed
namespace Go.Proofs.YtafeealbdpmdkaaGreatDoor
open Go Go.RowKit
namespace Plk
open Slp (S good frame body frames allP Row RdS)
open Rk (RD R Sim Both Newer RP plV)
theorem Dg.b2 {w w' : World} {d mp : Nat} {es : List E} {p : P} {b lb : Nat} (h : Dg w d mp es p) (hb : B2 b lb w w') (ho : Out w d mp es b) (hl : Out w d mp es lb) : Dg w' d mp es p :=
 ⟨h.dk.same fun i hi => hb.kept i (h.dk.own_lt hi) (fun e => by rw [e] at hi; exact ho.2 hi) (fun e => by rw [e] at hi; exact hl.2 hi), h.fs, h.good⟩
theorem B2.base {W w w' : World} {b lb : Nat} (h : B2 b lb w w') (hx : Reg.Ext W w) (h1 : W.heap.size ≤ b) (h2 : W.heap.size ≤ lb) : Reg.Ext W w' :=
 ⟨h.os.trans hx.os, h.tape.trans hx.tape, h.output.trans hx.output, Nat.le_trans hx.size h.size, fun i hi => (h.kept i (Nat.lt_of_lt_of_le hi hx.size) (by omega) (by omega)).trans (hx.block i hi)⟩
theorem Out.grow {w w' : World} {d mp : Nat} {es : List E} {i : Nat} (h : Out w d mp es i) (hs : w.heap.size ≤ w'.heap.size) : Out w' d mp es i := ⟨Nat.lt_of_lt_of_le h.1 hs, h.2⟩
theorem TurnG.out_ {d mp g : Nat} {w w' : World} {es es' : List E} (h : TurnG d mp g w es w' es') {i : Nat} (ho : Out w d mp es i) (hg : i ≠ g) : Out w' d mp es' i ∧ w'.heap[i]? = w.heap[i]? := by
 refine ⟨⟨Nat.lt_of_lt_of_le ho.1 h.size, fun o => ?_⟩, h.kept i ho.1 hg ho.2⟩
 rcases h.own i o with h1 | h1
 ·exact ho.2 h1
 ·have := ho.1; omega
theorem both_same {w w' : World} {b : Nat} {v : Value} {r : R} {p : P} (h : Both w b v r p) (hb : w'.heap[b]? = w.heap[b]?) (hv : ∀ g, v.ownBlock = some g → w'.heap[g]? = w.heap[g]?) : Both w' b v r p := by
 refine ⟨⟨hb.trans h.rd.blk, ?_, h.rd.away⟩, h.sim, h.good, h.ops⟩
 have hr := h.rd.row
 refine ⟨hr.1, ?_⟩
 rcases hr.2 with e | ⟨g, cap, cur, e, k1, k2, k3⟩
 ·exact .inl e
 ·exact .inr ⟨g, cap, cur, e, k1, (hv g (by rw [e]; rfl)).trans k2, k3⟩
theorem Zd.same {w w' : World} {b lb : Nat} {v vL : Value} {r : R} {p : P} {z : Z} (h : Zd w b lb v vL r p z) (hb : w'.heap[b]? = w.heap[b]?) (hl : w'.heap[lb]? = w.heap[lb]?) (hv : ∀ g, v.ownBlock = some g → w'.heap[g]? = w.heap[g]?) (hL : ∀ g, vL.ownBlock = some g → w'.heap[g]? = w.heap[g]?) : Zd w' b lb v vL r p z :=
 ⟨both_same h.both hb hv, hl.trans h.blk, own_of h.row hL, h.ne, h.vn, h.ln⟩
/-- the two disks, no log -/
structure Lo (W w : World) (d mp : Nat) (es : List E) (p : P) (b : Nat) (v : Value) (r : R) (p0 : P) : Prop where
 dg : Dg w d mp es p
 base : Reg.Ext W w ∧ ∀ i, Own d mp es i → W.heap.size ≤ i
 both : Both w b v r p0
 bge : W.heap.size ≤ b
 bout : Out w d mp es b
 vout : ∀ q, v.ownBlock = some q → Out w d mp es q
/-- the two logs over them -/
structure Lg (W w : World) (d mp : Nat) (es : List E) (p : P) (g : Nat) (y : Y) (b lb : Nat) (v vL : Value) (r : R) (p0 : P) (z : Z) : Prop where
 lw : Lw W w d mp es p g y
 zd : Zd w b lb v vL r p0 z
 bge : W.heap.size ≤ b
 lge : W.heap.size ≤ lb
 bout : Out w d mp es b
 lout : Out w d mp es lb
 vout : ∀ q, v.ownBlock = some q → Out w d mp es q ∧ q ≠ g
 Lout : ∀ q, vL.ownBlock = some q → Out w d mp es q ∧ q ≠ g
 bg : b ≠ g
 lg : lb ≠ g
theorem newer_out {w w' : World} {d mp : Nat} {es : List E} {p : P} {v v' : Value} {q : Nat} (hd : Dg w d mp es p) (hn : Newer w v v') (hs : w.heap.size ≤ w'.heap.size) (hq : v'.ownBlock = some q) (hl : q < w'.heap.size) (ho : v.ownBlock = some q → Out w d mp es q) : Out w' d mp es q := by
 rcases hn with e | e
 ·exact (ho (by rw [← e]; exact hq)).grow hs
 ·have h1 := e q hq
  exact ⟨hl, fun o => by have := hd.dk.own_lt o; omega⟩
section
variable {W w w' : World} {d mp : Nat} {es es' : List E} {p p' : P} {b : Nat} {v v' : Value} {r r' : R} {p0 p1 : P}
theorem Lo.real (h : Lo W w d mp es p b v r p0) (h1 : Dg w' d mp es' p') (hT : Turn d mp w es w' es') : Lo W w' d mp es' p' b v r p0 :=
 ⟨h1, hT.base h.base.1 h.base.2, both_same h.both (hT.out h.bout).2 fun q hq => (hT.out (h.vout q hq)).2, h.bge, (hT.out h.bout).1, fun q hq => (hT.out (h.vout q hq)).1⟩
theorem Lo.ref (h : Lo W w d mp es p b v r p0) (h1 : Both w' b v' r' p1) (hB : But b w w') (hN : Newer w v v') : Lo W w' d mp es p b v' r' p1 := by
 have hb2 : B2 b b w w' := .left hB
 exact ⟨h.dg.b2 hb2 h.bout h.bout, ⟨hb2.base h.base.1 h.bge h.bge, h.base.2⟩, h1, h.bge, h.bout.grow hB.size, fun q hq => newer_out h.dg hN hB.size hq (h1.rd.row.lt hq) (h.vout q)⟩
theorem Lo.ext (h : Lo W w d mp es p b v r p0) (hx : Reg.Ext w w') : Lo W w' d mp es p b v r p0 := h.real (h.dg.ext hx) (Turn.ext hx)
variable {g lb : Nat} {y y' : Y} {z z' : Z} {vL vL' : Value}
theorem Lg.real (h : Lg W w d mp es p g y b lb v vL r p0 z) (h1 : Lw W w' d mp es' p' g y') (hT : TurnG d mp g w es w' es') : Lg W w' d mp es' p' g y' b lb v vL r p0 z :=
 ⟨h1, h.zd.same (hT.out_ h.bout h.bg).2 (hT.out_ h.lout h.lg).2 (fun q hq => (hT.out_ (h.vout q hq).1 (h.vout q hq).2).2) (fun q hq => (hT.out_ (h.Lout q hq).1 (h.Lout q hq).2).2),
  h.bge, h.lge, (hT.out_ h.bout h.bg).1, (hT.out_ h.lout h.lg).1, fun q hq => ⟨(hT.out_ (h.vout q hq).1 (h.vout q hq).2).1, (h.vout q hq).2⟩, fun q hq => ⟨(hT.out_ (h.Lout q hq).1 (h.Lout q hq).2).1, (h.Lout q hq).2⟩, h.bg, h.lg⟩
theorem newer_ne {v v' : Value} {g q : Nat} (hn : Newer w v v') (hq : v'.ownBlock = some q) (hg : g < w.heap.size) (ho : v.ownBlock = some q → q ≠ g) : q ≠ g := by
 rcases hn with e | e
 ·exact ho (by rw [← e]; exact hq)
 ·have := e q hq
  omega
theorem Lg.ref (h : Lg W w d mp es p g y b lb v vL r p0 z) (hz : Zd w' b lb v' vL' r' p1 z') (hc : ZC b lb w v vL w' v' vL') : Lg W w' d mp es p g y b lb v' vL' r' p1 z' := by
 have hd := h.lw.dy.dg
 have hg := h.lw.dy.out
 have hB := hc.b2
 refine ⟨⟨⟨hd.b2 hB h.bout h.lout, hg.grow hB.size, (hB.kept g hg.1 (fun e => h.bg e.symm) (fun e => h.lg e.symm)).trans h.lw.dy.blk⟩, ⟨hB.base h.lw.base.1 h.bge h.lge, h.lw.base.2⟩, h.lw.ge⟩, hz, h.bge, h.lge, h.bout.grow hB.size, h.lout.grow hB.size, fun q hq => ⟨?_, ?_⟩, fun q hq => ⟨?_, ?_⟩, h.bg, h.lg⟩
 ·exact newer_out hd hc.n1 hB.size hq (hz.both.rd.row.lt hq) fun e => (h.vout q e).1
 ·exact newer_ne hc.n1 hq hg.1 fun e => (h.vout q e).2
 ·exact newer_out hd hc.n2 hB.size hq (hz.row.1.lt q hq).2 fun e => (h.Lout q e).1
 ·exact newer_ne hc.n2 hq hg.1 fun e => (h.Lout q e).2
theorem Lg.ext (h : Lg W w d mp es p g y b lb v vL r p0 z) (hx : Reg.Ext w w') : Lg W w' d mp es p g y b lb v vL r p0 z := h.real (h.lw.ext hx) (.ext hx)
theorem Lg.rb (h : Lg W w d mp es p g y b lb v vL r p0 z) (k : Both w' b v' r' p1) (bb : But b w w') (nn : Newer w v v') : Lg W w' d mp es p g y b lb v' vL r' p1 z := h.ref (h.zd.disk k bb nn) ((ZC.refl b lb w v vL).disk bb nn)
theorem Lg.lo (h : Lg W w d mp es p g y b lb v vL r p0 z) : Lo W w d mp es p b v r p0 := ⟨h.lw.dy.dg, h.lw.base, h.zd.both, h.bge, h.bout, fun q hq => (h.vout q hq).1⟩
/-- both opened: the disk's log in w, then the document's in w' -/
theorem Lo.log (h : Lo W w d mp es p b v r p0) (hy : Dy w d mp es p g y) (hg : W.heap.size ≤ g) (hgb : g ≠ b) (hgv : v.ownBlock ≠ some g)
  (h1 : Both w' b v' r' p1) (hB : But b w w') (hN : Newer w v v') (hlb : w.heap.size ≤ lb) (hbl : Blk w' lb 45 (z.cells b vL)) (hr : Row w.heap.size vL z.L w') (hx : ∀ g, vL.ownBlock = some g → g ≠ lb ∧ v'.ownBlock ≠ some g) (hv : v'.ownBlock ≠ some lb) :
  Lg W w' d mp es p g y b lb v' vL r' p1 z := by
 have hb2 : B2 b b w w' := .left hB
 have ho := h.ref h1 hB hN
 have hbw := h.bout.1
 have hbs := hB.size
 have hll := hbl.lt
 refine ⟨⟨⟨ho.dg, hy.out.grow hB.size, (hB.block g hy.out.1 fun e => hgb (by injection e)).trans hy.blk⟩, ho.base, hg⟩, ⟨h1, hbl, ⟨World.ownsRow.mono hr.1 (Nat.zero_le _), hr.2⟩, by omega, hv, fun q hq => ⟨(hx q hq).1, ?_, (hx q hq).2⟩⟩, h.bge, ?_, ho.bout, ⟨hll, fun o => ?_⟩, fun q hq => ⟨ho.vout q hq, ?_⟩, fun q hq => ⟨⟨(hr.1.lt q hq).2, fun o => ?_⟩, ?_⟩, fun e => hgb e.symm, ?_⟩
 ·have := (hr.1.lt q hq).1; omega
 ·have := h.base.1.size; omega
 ·have := h.dg.dk.own_lt o; omega
 ·exact newer_ne hN hq hy.out.1 fun e => fun e2 => hgv (by rw [e, e2])
 ·have := h.dg.dk.own_lt o; have := (hr.1.lt q hq).1; omega
 ·have := hy.out.1; have := (hr.1.lt q hq).1; omega
 ·have := hy.out.1; omega
end
end Plk
end Go.Proofs.YtafeealbdpmdkaaGreatDoor
/- How long the log's files get, plainly. -/
namespace Go.Proofs.YtafeealbdpmdkaaGreatDoor
open Go Go.RowKit
namespace Plk
open Slp (S good frame body frames allP)
def Cap (fs : List F) (a c : Nat) : Prop := ∀ f ∈ fs, (f.name = nD ∧ f.l.length ≤ a) ∨ (f.name = nN ∧ f.l.length ≤ c)
section
variable {p : P} {fs : List F} {a c a' c' : Nat} {n t : List UInt8}
theorem Cap.mono (h : Cap fs a c) (ha : a ≤ a') (hc : c ≤ c') : Cap fs a' c' := fun f hf => (h f hf).imp (fun k => ⟨k.1, Nat.le_trans k.2 ha⟩) (fun k => ⟨k.1, Nat.le_trans k.2 hc⟩)
theorem find_mem {f : F} (h : (p.find n).2.2 = some f) : f ∈ p.fs ∧ f.name = n := by
 unfold P.find at h
 split at h
 ·cases h
 ·split at h
  ·cases h
  ·rename_i hg
   injection h with h
   subst h
   exact Nmd.get_mem hg
theorem nD_ne : nD ≠ nN := by decide
theorem cap_sync (h : Cap p.fs a c) : Cap (p.sync n).2.fs a c := by
 unfold P.sync
 split
 ·exact h
 ·rename_i f hf
  intro y hy
  rcases Nmd.mem_upd hy with rfl | ⟨hy, -⟩
  ·exact h f (find_mem hf).1
  ·exact h y hy
theorem cap_appendD (h : Cap p.fs a c) : Cap (p.append nD t).2.fs (a + t.length) c := by
 unfold P.append
 split
 ·exact h.mono (by omega) (Nat.le_refl _)
 ·rename_i f hf
  split
  ·exact h.mono (by omega) (Nat.le_refl _)
  ·intro y hy
   rcases Nmd.mem_upd hy with rfl | ⟨hy, -⟩
   ·obtain ⟨h1, h2⟩ := find_mem hf
    rcases h f h1 with ⟨k1, k2⟩ | ⟨k1, -⟩
    ·exact .inl ⟨k1, by simp; omega⟩
    ·exact absurd (h2.symm.trans k1) nD_ne
   ·exact h.mono (by omega) (Nat.le_refl _) y hy
theorem cap_appendN (h : Cap p.fs a c) : Cap (p.append nN t).2.fs a (c + t.length) := by
 unfold P.append
 split
 ·exact h.mono (Nat.le_refl _) (by omega)
 ·rename_i f hf
  split
  ·exact h.mono (Nat.le_refl _) (by omega)
  ·intro y hy
   rcases Nmd.mem_upd hy with rfl | ⟨hy, -⟩
   ·obtain ⟨h1, h2⟩ := find_mem hf
    rcases h f h1 with ⟨k1, -⟩ | ⟨k1, k2⟩
    ·exact absurd (k1.symm.trans h2) nD_ne
    ·exact .inr ⟨k1, by simp; omega⟩
   ·exact h.mono (Nat.le_refl _) (by omega) y hy
theorem cap_create (h : Cap p.fs a c) (hn : n = nD ∨ n = nN) : Cap (p.create n).2.fs a c := by
 unfold P.create
 split
 ·exact h
 ·split
  ·exact h
  ·split
   ·exact h
   ·intro y hy
    rcases Nmd.mem_ins.1 hy with rfl | hy
    ·exact hn.imp (fun e => ⟨e, Nat.zero_le _⟩) (fun e => ⟨e, Nat.zero_le _⟩)
    ·exact h y hy
theorem cap_delete (h : Cap p.fs a c) : Cap (p.delete n).2.fs a c := by
 unfold P.delete
 split
 ·exact h
 ·exact fun y hy => h y (Nmd.mem_del.1 hy).1
theorem cap_deleted (h : Cap p.fs a c) (e : (p.delete nN).1 = 0) : Cap (p.delete nN).2.fs a 0 := by
 unfold P.delete at e ⊢
 split at e
 ·rename_i hf
  unfold P.find at e hf
  split at hf
  ·rename_i hb
   rw [if_pos hb] at e
   exact absurd e hb
  ·rename_i hb
   rw [if_neg hb] at e
   split at hf
   ·rename_i hg; rw [hg] at e; cases e
   ·cases hf
 ·rename_i f hf
  intro y hy
  obtain ⟨h1, h2⟩ := Nmd.mem_del.1 hy
  rcases h y h1 with k | ⟨k, -⟩
  ·exact .inl k
  ·exact absurd k h2
theorem cap_rename (h : Cap p.fs a c) (hc : c ≤ a) : Cap (p.rename nN nD).2.fs a c := by
 unfold P.rename
 split
 ·exact h
 ·split
  ·exact h
  ·rename_i f hf
   obtain ⟨h1, h2⟩ := Nmd.get_mem hf
   have hl : f.l.length ≤ a := by
    rcases h f h1 with ⟨k1, k2⟩ | ⟨k1, k2⟩ <;> omega
   rw [if_neg (fun e => nD_ne e.symm)]
   split
   ·intro y hy
    rcases Nmd.mem_ins.1 hy with rfl | hy
    ·exact .inl ⟨rfl, hl⟩
    ·exact h y (Nmd.mem_del.1 hy).1
   ·intro y hy
    rcases Nmd.mem_ins.1 hy with rfl | hy
    ·exact .inl ⟨rfl, hl⟩
    ·exact h y (Nmd.mem_del.1 (Nmd.mem_del.1 hy).1).1
theorem cap_flip {x : Int} {b : UInt8} (h : Cap p.fs a c) : Cap (p.flip n x b).2.fs a c := by
 unfold P.flip
 split
 ·exact h
 ·rename_i f hf
  split
  ·exact h
  ·intro y hy
   rcases Nmd.mem_upd hy with rfl | ⟨hy, -⟩
   ·simpa using h f (Nmd.get_mem hf).1
   ·exact h y hy
theorem cap_onL : ∀ (l : List F) (ks : List Int), Cap l a c → Cap (onL l ks) a c
 | [], _, _ => fun _ h => by cases h
 | f :: fs, ks, h => by
   have hf := h f (List.mem_cons_self ..)
   have ht : Cap fs a c := fun y hy => h y (List.mem_cons_of_mem _ hy)
   unfold onL
   split
   ·intro y hy
    rcases List.mem_cons.1 hy with rfl | hy
    ·exact hf
    ·exact cap_onL fs ks ht y hy
   ·intro y hy
    rcases List.mem_cons.1 hy with rfl | hy
    ·unfold lost
     refine hf.imp (fun k => ⟨k.1, ?_⟩) (fun k => ⟨k.1, ?_⟩)
     ·have := k.2; simp; omega
     ·have := k.2; simp; omega
    ·exact cap_onL fs ks.tail ht y hy
theorem cap_on {ks : List Int} (h : Cap p.fs a c) : Cap (p.on ks).fs a c := by
 unfold P.on
 split
 ·exact cap_onL _ _ h
 ·exact h
theorem read_fs {x k : Int} : (p.read n x k).2.2.fs = p.fs := by
 unfold P.read
 repeat' split
 all_goals rfl
theorem read_len {x k : Int} (h : Cap p.fs a c) (hn : n = nD) : (p.read n x k).1.length ≤ a := by
 unfold P.read
 split
 ·exact Nat.zero_le _
 ·split
  ·exact Nat.zero_le _
  ·rename_i f hf
   split
   ·exact Nat.zero_le _
   ·have hl : (rd f.l x k).length ≤ f.l.length := by unfold rd; simp; omega
    obtain ⟨h1, h2⟩ := find_mem hf
    rcases h f h1 with ⟨k1, k2⟩ | ⟨k1, -⟩
    ·exact Nat.le_trans hl k2
    ·exact absurd (hn.symm.trans (h2.symm.trans k1)) nD_ne
theorem cap_sweep (h : Cap p.fs a c) : Cap p.sweep.2.fs a c := by
 unfold P.sweep
 split
 ·exact cap_delete h
 ·exact h
theorem cap_swept (h : Cap p.fs a c) (e : p.sweep.1 = 0) : Cap p.sweep.2.fs a 0 := by
 unfold P.sweep at e ⊢
 split at e
 ·rename_i hg
  rw [if_pos hg]
  exact cap_deleted h e
 ·rename_i hg
  rw [if_neg hg]
  intro y hy
  rcases h y hy with k | ⟨k, -⟩
  ·exact .inl k
  ·exfalso
   apply hg
   rw [Option.isSome_iff_ne_none]
   intro hn
   unfold Nmd.get at hn
   have := List.find?_eq_none.1 hn y hy
   simp [k] at this
theorem cap_make (h : Cap p.fs a c) : Cap p.make.2.fs a c := by
 unfold P.make
 split
 ·exact h
 ·exact cap_create h (.inl rfl)
theorem cap_then {q : Int × P} {f : P → Int × P} (h : Cap q.2.fs a c) (hf : q.1 = 0 → Cap (f q.2).2.fs a c) : Cap (pthen q f).2.fs a c := by
 unfold pthen
 split
 ·exact h
 ·rename_i e
  exact hf (Decidable.not_not.1 e)
theorem cap_begun (h : Cap p.fs a c) : Cap p.begun.2.fs a c := cap_then (cap_sweep h) fun _ => cap_make (cap_sweep h)
theorem cap_load (h : Cap p.fs a c) : Cap p.load.2.2.fs a c ∧ p.load.1.length ≤ a := by
 have hb := cap_begun h
 unfold P.load
 split
 ·exact ⟨hb, Nat.zero_le _⟩
 ·split
  ·exact ⟨by dsimp only; rw [read_fs]; exact hb, Nat.zero_le _⟩
  ·exact ⟨cap_sync (by rw [read_fs]; exact hb), read_len hb rfl⟩
theorem cap_put {s : List UInt8} (h : Cap p.fs a 0) : Cap (p.put s).2.fs a s.length := by
 unfold P.put
 split
 ·exact h.mono (Nat.le_refl _) (Nat.zero_le _)
 ·have := cap_appendN (t := s) h
  rwa [Nat.zero_add] at this
theorem cap_replace {s : List UInt8} (h : Cap p.fs a c) (hs : s.length ≤ c) (hc : c ≤ a) : Cap (p.replace s).2.fs a c := by
 refine cap_then (cap_sweep h) fun e => ?_
 have h1 := cap_swept h e
 have h2 := cap_create h1 (n := nN) (.inr rfl)
 refine cap_then (h2.mono (Nat.le_refl _) (Nat.zero_le _)) fun _ => ?_
 have h3 := (cap_put (s := s) h2).mono (Nat.le_refl _) hs
 refine cap_then h3 fun _ => ?_
 have h4 := cap_sync (n := nN) h3
 exact cap_then h4 fun _ => cap_rename h4 hc
/-- the log's operations -/
theorem cap_add {z : Z} {x : S} (hx : x.dig.length = 32) (h : Cap p.fs a c) : Cap (zAdd p z x).2.1.fs (a + 1030) c := by
 unfold zAdd
 split
 ·exact h.mono (by omega) (Nat.le_refl _)
 ·split
  ·exact h.mono (by omega) (Nat.le_refl _)
  ·rename_i hg
   have hb := (body_size hx (by simpa using hg)).1
   have hc := (cap_appendD (t := frame (body x)) h).mono (a' := a + 1030) (by omega) (Nat.le_refl _)
   split
   ·exact hc
   ·exact hc
theorem cap_zsync {z : Z} (h : Cap p.fs a c) : Cap (zSync p z).2.1.fs a c := by
 unfold zSync
 split
 ·exact h
 ·split
  ·exact h
  ·split
   ·exact cap_sync h
   ·exact cap_sync h
theorem cap_rew {z : Z} {xs : List S} (hx : ∀ x ∈ xs, x.dig.length = 32) (hl : 1030 * xs.length ≤ c) (hc : c ≤ a) (h : Cap p.fs a c) : Cap (zRew p z xs).2.1.fs a c := by
 unfold zRew
 split
 ·exact h
 ·rename_i hg
  have hb := frames_le xs hx (by simpa using hg)
  have := cap_replace (s := frames xs) h (by omega) hc
  split
  ·exact this
  ·exact this
theorem allP_le (n : Nat) : ∀ l : List UInt8, l.length ≤ n → 7 * (allP l).1.length ≤ l.length ∧ (allP l).2 ≤ l.length := by
 induction n with
 | zero =>
   intro l hl
   have : l = [] := List.length_eq_zero_iff.1 (by omega)
   subst this
   rw [Slp.allP_nil]
   exact ⟨Nat.le_refl _, Nat.le_refl _⟩
 | succ n ih =>
   intro l hl
   by_cases h : (Slp.readP l).2.2 = 0
   ·obtain ⟨-, -, h7, hle⟩ := Slp.readP_ok h
    obtain ⟨k1, k2⟩ := ih (l.drop (Slp.readP l).2.1) (by rw [List.length_drop]; omega)
    rw [Slp.allP_ok h]
    rw [List.length_drop] at k1 k2
    refine ⟨?_, ?_⟩
    ·rw [List.length_cons]; omega
    ·dsimp only; omega
   ·rw [Slp.allP_end h]
    exact ⟨Nat.zero_le _, Nat.zero_le _⟩
end
end Plk
end Go.Proofs.YtafeealbdpmdkaaGreatDoor
/- Acts as they lie; what a round keeps. -/
namespace Go.Proofs.YtafeealbdpmdkaaGreatDoor
open Go Go.RowKit
namespace Plk
open Slp (S good frame body frames allP Row RdS)
open Rk (RD R Sim Both Newer RP plV)
structure DA where
 k : Int
 x : S
 la : Option Addr
 lc : Nat
 ls : List S
 a : Int
 n : Int
 m : Int
 s : List UInt8
def DA.cells (u : DA) : List Value := actC u.k u.x (.slice u.la u.ls.length u.lc) u.a u.n u.m ⟨u.s.toArray⟩
def DA.keeps (u : DA) (w : World) : Prop := u.x.dig.length = 32 ∧ RdS (.slice u.la u.ls.length u.lc) u.ls w ∧ (u.la = none → u.lc = 0)
def DA.fits (u : DA) : Prop := (-9223372036854775808 ≤ u.a ∧ u.a ≤ 9223372036854775807) ∧ (-9223372036854775808 ≤ u.n ∧ u.n ≤ 9223372036854775807)
def DA.big (u : DA) : Bool := greatA u.x u.ls ⟨u.s.toArray⟩
def DActs (w : World) (q : Option Addr) (us : List DA) : Prop := ∀ j (h : j < us.length), ∃ g o, q = some ⟨g, o, none⟩ ∧ g < w.heap.size ∧ w.rangeAt g (o + j * 44) us[j].cells ∧ us[j].keeps w ∧ us[j].fits
theorem DA.keeps.ext {u : DA} {w w' : World} (h : u.keeps w) (hx : Reg.Ext w w') : u.keeps w' := ⟨h.1, h.2.1.ext hx, h.2.2⟩
theorem DA.len {u : DA} (h : u.x.dig.length = 32) : u.cells.length = 44 := actC_length _ _ _ _ _ _ _ h
theorem DA.small {u : DA} (h : u.big = false) : u.ls.length ≤ 20 ∧ u.s.length ≤ 500 := by
 unfold DA.big greatA at h
 rw [Bool.or_eq_false_iff, Bool.or_eq_false_iff, decide_eq_false_iff_not, decide_eq_false_iff_not] at h
 have := h.2.1
 have e : (⟨u.s.toArray⟩ : ByteArray).size = u.s.length := by show u.s.toArray.size = _; rw [z_a]
 rw [e] at this
 omega
theorem undA : Tryz.prog.underlying 41 = some (.struct (Tryz.prog.fieldsOf 41)) := by kernel_rfl
theorem size44 : (Tryz.prog.info? 41).map (·.size) = some 44 := by kernel_rfl
section
variable {ops : Array Oper} {rest : List Oper} {o : Oper} {a : _root_.Go.Act} {w : World} {Q : Exit → _root_.Go.Act → World → Prop}
theorem wpList_da (x : Operand) (ho : o.op = .load 41 x) (g off : Nat) (hx : a.eval x = .pointer (some ⟨g, off, none⟩)) (u : DA) (hu : u.x.dig.length = 32) (h : Hid (w.rangeAt g off u.cells))
  (hw : Region.wanted o (yielded ops a.tmps) = true) (hk : wpList Tryz.prog ops Q rest (a.put o.dst (.agg u.cells.toArray)) w) : wpList Tryz.prog ops Q (o :: rest) a w :=
 Slp.wpList_ldm hw _ x ho g off hx u.cells _ h undA (by rw [DA.len hu]; exact size44) hk
end
theorem newDA (w : World) (u : DA) (cs : Array Value) (hl : cs.size = 44) (hu : u.x.dig.length = 32) : Blk ((w.alloc (Obj.cells cs 41)).setCells w.heap.size 0 u.cells) w.heap.size 41 u.cells ∧ Reg.Ext w ((w.alloc (Obj.cells cs 41)).setCells w.heap.size 0 u.cells) := by
 refine ⟨(Blk.new w _ cs).setAll _ (by simp [hl, DA.len hu]), ?_⟩
 exact (Reg.Ext.alloc w _).trans_but (But.setCells w.heap.size _ 0 _) (Nat.le_refl _)
theorem kr_two {w : World} {d mp : Nat} {es : List E} {p : P} (h : Dg w d mp es p) (k m : Int) : KR (w.alloc (.cells #[.int .i64 k, .int .i64 m] 3)) d mp es (.slice (some ⟨w.heap.size, 0, none⟩) 2 2) [k, m] := by
 refine ⟨_, 2, rfl, Nat.le_refl _, by unfold maxLen; omega, fun j hj => ⟨w.heap.size, 0, rfl, by simp, fun o => ?_, ?_⟩⟩
 ·have := h.dk.own_lt o
  omega
 ·have : j = 0 ∨ j = 1 := by simp at hj; omega
  rcases this with rfl | rfl
  ·simp
  ·simp
/-- what a round keeps of the disk -/
structure Ok (p : P) (j : Nat) : Prop where
 ops : p.h.ops ≤ 4 + 5 * (j : Int)
 cap : Cap p.fs (20600 + 1030 * j) 20600
structure Oz (z : Z) (j : Nat) : Prop where
 n : z.L.length ≤ 20000 + j
 s0 : 0 ≤ z.size
 s1 : z.size ≤ 200000 + 1030 * (j : Int)
section
variable {p q : P} {z : Z} {j : Nat}
theorem Ok.next (h : Ok p j) (h1 : q.h.ops ≤ p.h.ops + 5) (h2 : Cap q.fs (20600 + 1030 * j + 1030) 20600) : Ok q (j + 1) := ⟨by have := h.ops; omega, h2.mono (by omega) (Nat.le_refl _)⟩
theorem Ok.same (h : Ok p j) (h1 : q.h.ops ≤ p.h.ops + 5) (h2 : Cap q.fs (20600 + 1030 * j) 20600) : Ok q (j + 1) := h.next h1 (h2.mono (by omega) (Nat.le_refl _))
theorem Ok.add {x : S} (hx : x.dig.length = 32) (h : Ok p j) : Ok (zAdd p z x).2.1 (j + 1) := by
 refine h.next ?_ (cap_add hx h.cap)
 have := ops_append p nD (frame (body x))
 unfold zAdd
 repeat' split
 all_goals (dsimp only; omega)
theorem Ok.sync (h : Ok p j) : Ok (zSync p z).2.1 (j + 1) := by
 refine h.same ?_ (cap_zsync h.cap)
 have := ops_sync p nD
 unfold zSync
 repeat' split
 all_goals (dsimp only; omega)
theorem Ok.rew {xs : List S} (hx : ∀ x ∈ xs, x.dig.length = 32) (hl : xs.length ≤ 20) (h : Ok p j) : Ok (zRew p z xs).2.1 (j + 1) := by
 refine h.same ?_ (cap_rew hx (by omega) (by omega) h.cap)
 have := ops_replace p (frames xs)
 unfold zRew
 repeat' split
 all_goals (dsimp only; omega)
theorem Oz.next (h : Oz z j) : Oz z (j + 1) := ⟨by have := h.n; omega, h.s0, by have := h.s1; omega⟩
theorem Oz.opened {l : List UInt8} (hj : j ≤ 60) (hl : l.length ≤ 20600 + 1030 * j) : Oz (zOpen l) (j + 1) := by
 obtain ⟨h1, h2⟩ := allP_le l.length l (Nat.le_refl _)
 have e1 : (zOpen l).L = (allP l).1 := rfl
 have e2 : (zOpen l).size = ((allP l).2 : Int) := rfl
 refine ⟨by rw [e1]; omega, by rw [e2]; omega, by rw [e2]; omega⟩
theorem Oz.add {x : S} (hx : x.dig.length = 32) (h : Oz z j) : Oz (zAdd p z x).2.2 (j + 1) := by
 have h0 := h.next
 unfold zAdd
 split
 ·exact h0
 ·split
  ·exact h0
  ·rename_i hg
   have hb := (body_size hx (by simpa using hg)).1
   split
   ·exact ⟨h0.n, h0.s0, h0.s1⟩
   ·refine ⟨?_, ?_, ?_⟩
    ·have := h.n; simp; omega
    ·have := h.s0; dsimp only; omega
    ·have := h.s1; dsimp only; omega
theorem Oz.sync (h : Oz z j) : Oz (zSync p z).2.2 (j + 1) := by
 have h0 := h.next
 unfold zSync
 split
 ·exact h0
 ·split
  ·exact h0
  ·split <;> exact ⟨h0.n, h0.s0, h0.s1⟩
theorem Oz.rew {xs : List S} (hx : ∀ x ∈ xs, x.dig.length = 32) (hl : xs.length ≤ 20) (h : Oz z j) : Oz (zRew p z xs).2.2 (j + 1) := by
 have h0 := h.next
 unfold zRew
 split
 ·exact h0
 ·rename_i hg
  have hb := frames_le xs hx (by simpa using hg)
  split
  ·exact h0
  ·refine ⟨?_, ?_, ?_⟩
   ·dsimp only; omega
   ·dsimp only; omega
   ·dsimp only; omega
theorem Oz.fine (h : Oz z j) (hj : j ≤ 60) : z.y.Fine := by
 have h1 := h.n
 have h2 := h.s0
 have h3 := h.s1
 constructor
 ·show (0 : Int) ≤ ((z.L.length : Nat) : Int) ∧ ((z.L.length : Nat) : Int) < big
  unfold big; omega
 ·show 0 ≤ z.size ∧ z.size < big
  unfold big; omega
end
/-- behind a round -/
def St (W w : World) (d mp b j : Nat) (l u : Value) : Prop :=
 (∃ es p v r, l = .pointer none ∧ u = .pointer none ∧ Lo W w d mp es p b v r p ∧ Ok p j) ∨
 (∃ es p g lb v vL r z, l = .pointer (some ⟨g, 0, none⟩) ∧ u = .pointer (some ⟨lb, 0, none⟩) ∧ Lg W w d mp es p g z.y b lb v vL r p z ∧ Ok p j ∧ Oz z j)
end Plk
end Go.Proofs.YtafeealbdpmdkaaGreatDoor
/- Both logs opened. -/
namespace Go.Proofs.YtafeealbdpmdkaaGreatDoor
open Go Go.RowKit
namespace Plk
open Slp (S good frame body frames allP Row RdS)
open Rk (RD R Sim Both Newer RP plV)
section
variable {W w : World} {d mp : Nat} {es : List E} {p q : P} {b : Nat} {v : Value} {r : R} {l : List UInt8} {x : Int}
theorem lo_open (h : Lo W w d mp es p b v r p) (hb : p.h.ops + 4 < big) (e : p.load = (l, x, q)) (hl : l.length ≤ 1048576) (hT : Crc.Tab W) :
  Calls Tryz.prog 7 #[.pointer (some ⟨d, 0, none⟩)] w fun e w' => ∃ es', Lo W w' d mp es' q b v r p ∧ Turn d mp w es w' es' ∧
   ((x ≠ 0 ∧ e = .returned (.tuple #[.pointer none, .slice none 0 0, .int .i64 x])) ∨
    (x = 0 ∧ ∃ g pu cu, e = .returned (.tuple #[.pointer (some ⟨g, 0, none⟩), .slice pu (allP l).1.length cu, .int .i64 0]) ∧ Dy w' d mp es' q g (opened l) ∧ w.heap.size ≤ g ∧ g ≠ b ∧ v.ownBlock ≠ some g ∧ ∀ w2, But b w' w2 → RdS (.slice pu (allP l).1.length cu) (allP l).1 w2)) := by
 refine (open_any h.dg hb e hl h.base.1 h.base.2 hT).mono ?_
 rintro e w' ⟨es', h1, hT', hh⟩
 refine ⟨es', h.real h1 hT', hT', hh.imp id ?_⟩
 rintro ⟨hx, g, u, rfl, hg, hy, hH⟩
 have hbw := h.bout.1
 obtain ⟨hrow, hout⟩ := hH
 obtain ⟨pu, cu, rfl, -, -⟩ := row_cap hrow
 refine ⟨hx, g, pu, cu, rfl, hy, hg, by omega, fun e => ?_, fun w2 hB => ?_⟩
 ·have := h.both.rd.row.lt e; omega
 ·have hr2 : Row w.heap.size (.slice pu (allP l).1.length cu) (allP l).1 w2 := ⟨own_same hrow.1 fun q hq => hB.block q (hrow.1.lt q hq).2 fun e => by injection e with e; have := (hrow.1.lt q hq).1; omega, hrow.2⟩
  exact hr2.rd
theorem rv_ne {w : World} {b lb : Nat} {v : Value} {r : R} {cs : List Value} (h : RD w b v r) (hb : Blk w lb 45 cs) : v.ownBlock ≠ some lb := by
 intro e
 rcases h.row.2 with ⟨e1, -⟩ | ⟨g, cap, cur, e1, h1, h2, h3⟩
 ·rw [e1] at e; cases e
 ·rw [e1] at e
  injection e with e
  subst e
  have hb : w.heap[g]? = some _ := hb
  rw [h2] at hb
  cases hb
theorem lo_ropen (h : Lo W w d mp es q b v r p) (ho : p.h.ops + 4 ≤ 1000) (e : p.load = (l, x, q)) (hl : l.length ≤ 1048576) (hx : x ≠ 0) :
  Calls Tryz.prog 8 #[.pointer (some ⟨b, 0, none⟩)] w fun e w' => e = .returned (.tuple #[.pointer none, .int .i64 x]) ∧ But b w w' ∧ ∃ v' r', Lo W w' d mp es q b v' r' q := by
 refine (refOpen_any h.both ho e hl).mono ?_
 rintro e w' ⟨v', r', h1, h2, h3, hh⟩
 rcases hh with ⟨-, rfl⟩ | ⟨h0, -⟩
 ·exact ⟨rfl, h2, v', r', h.ref h1 h2 h3⟩
 ·exact absurd h0 hx
theorem lo_ropened {g : Nat} (h : Lo W w d mp es q b v r p) (ho : p.h.ops + 4 ≤ 1000) (e : p.load = (l, 0, q)) (hl : l.length ≤ 1048576) (hy : Dy w d mp es q g (opened l)) (hg : W.heap.size ≤ g) (hgb : g ≠ b) (hgv : v.ownBlock ≠ some g) :
  Calls Tryz.prog 8 #[.pointer (some ⟨b, 0, none⟩)] w fun e w' => ∃ lb, e = .returned (.tuple #[.pointer (some ⟨lb, 0, none⟩), .int .i64 0]) ∧ But b w w' ∧ w.heap.size ≤ lb ∧ ∃ v' vL r', Lg W w' d mp es q g (zOpen l).y b lb v' vL r' q (zOpen l) := by
 refine (refOpen_any h.both ho e hl).mono ?_
 rintro e w' ⟨v', r', h1, h2, h3, hh⟩
 rcases hh with ⟨h0, -⟩ | ⟨-, lb, vL, rfl, k1, k2, k3, k4⟩
 ·exact absurd rfl h0
 ·exact ⟨lb, rfl, h2, k1, v', vL, r', h.log hy hg hgb hgv h1 h2 h3 k1 k2 k3 k4 (rv_ne h1.rd k2)⟩
end
theorem St.base {W w : World} {d mp b j : Nat} {l u : Value} (h : St W w d mp b j l u) : Reg.Ext W w := by
 rcases h with ⟨_, _, _, _, _, _, h, _⟩ | ⟨_, _, _, _, _, _, _, _, _, _, h, _, _⟩
 ·exact h.base.1
 ·exact h.lw.base.1
theorem St.lo {W w : World} {d mp b j : Nat} {l u : Value} (h : St W w d mp b j l u) : ∃ es p v r, Lo W w d mp es p b v r p ∧ Ok p j := by
 rcases h with ⟨es, p, v, r, _, _, h, k⟩ | ⟨es, p, _, _, v, _, r, _, _, _, h, k, _⟩
 ·exact ⟨es, p, v, r, h, k⟩
 ·exact ⟨es, p, v, r, h.lo, k⟩
theorem St.ext {W w w' : World} {d mp b j : Nat} {l u : Value} (h : St W w d mp b j l u) (hx : Reg.Ext w w') : St W w' d mp b j l u := by
 rcases h with ⟨es, p, v, r, e1, e2, h, k⟩ | ⟨es, p, g, lb, v, vL, r, z, e1, e2, h, k, o⟩
 ·exact .inl ⟨es, p, v, r, e1, e2, h.ext hx, k⟩
 ·exact .inr ⟨es, p, g, lb, v, vL, r, z, e1, e2, h.ext hx, k, o⟩
/-- the act's box -/
structure DBx (w : World) (d mp : Nat) (es : List E) (b g lb g8 : Nat) (u : DA) : Prop where
 blk : Blk w g8 41 u.cells
 out : Out w d mp es g8
 nb : g8 ≠ b
 ng : g8 ≠ g
 nl : g8 ≠ lb
section
variable {w w' : World} {d mp b g lb g8 : Nat} {es es' : List E} {u : DA}
theorem DBx.real (h : DBx w d mp es b g lb g8 u) (hT : TurnG d mp g w es w' es') : DBx w' d mp es' b g lb g8 u := ⟨(hT.out_ h.out h.ng).2.trans h.blk, (hT.out_ h.out h.ng).1, h.nb, h.ng, h.nl⟩
theorem DBx.turn (h : DBx w d mp es b g lb g8 u) (hT : Turn d mp w es w' es') : DBx w' d mp es' b g lb g8 u := h.real (.of hT)
theorem DBx.ext (h : DBx w d mp es b g lb g8 u) (hx : Reg.Ext w w') : DBx w' d mp es b g lb g8 u := h.real (.ext hx)
theorem DBx.b2 (h : DBx w d mp es b g lb g8 u) (hB : B2 b lb w w') : DBx w' d mp es b g lb g8 u := ⟨(hB.kept g8 h.out.1 h.nb h.nl).trans h.blk, h.out.grow hB.size, h.nb, h.ng, h.nl⟩
theorem DBx.but (h : DBx w d mp es b g lb g8 u) (hB : But b w w') : DBx w' d mp es b g lb g8 u := h.b2 (.left hB)
theorem DBx.lo (h : DBx w d mp es b g lb g8 u) : DBx w d mp es b b b g8 u := ⟨h.blk, h.out, h.nb, h.nb, h.nb⟩
theorem DBx.logs (h : DBx w d mp es b g lb g8 u) {g' lb' : Nat} (h1 : g8 ≠ g') (h2 : g8 ≠ lb') : DBx w d mp es b g' lb' g8 u := ⟨h.blk, h.out, h.nb, h1, h2⟩
theorem DBx.c (h : DBx w d mp es b g lb g8 u) (hu : u.x.dig.length = 32) : w.cell? ⟨g8, 0, none⟩ = some (.int .i64 u.k) ∧ w.cell? ⟨g8, 39, none⟩ = some (.slice u.la u.ls.length u.lc) ∧ w.cell? ⟨g8, 40, none⟩ = some (.int .i64 u.a) ∧ w.cell? ⟨g8, 41, none⟩ = some (.int .i64 u.n) ∧ w.cell? ⟨g8, 42, none⟩ = some (.int .i64 u.m) ∧ w.cell? ⟨g8, 43, none⟩ = some (.string ⟨u.s.toArray⟩) := by
 have e := fun i => h.blk.cell i
 have t := fun i => actC_t u.k u.x (.slice u.la u.ls.length u.lc) u.a u.n u.m ⟨u.s.toArray⟩ hu i
 exact ⟨(e 0).trans rfl, (e 39).trans (t 0), (e 40).trans (t 1), (e 41).trans (t 2), (e 42).trans (t 3), (e 43).trans (t 4)⟩
theorem DBx.x (h : DBx w d mp es b g lb g8 u) (hu : u.x.dig.length = 32) : w.rangeAt g8 1 u.x.cells := fun i v hv => by
 have hi : i < 38 := by rw [← Slp.cells_length u.x hu]; exact (List.getElem?_eq_some_iff.1 hv).1
 rw [h.blk.cell (1 + i)]
 exact (actC_x u.k u.x _ u.a u.n u.m _ hu i hi).trans hv
end
theorem Ok.le {p : P} {i j : Nat} (h : Ok p i) (hj : i ≤ j) : Ok p j := ⟨by have := h.ops; omega, h.cap.mono (by omega) (Nat.le_refl _)⟩
theorem Oz.le {z : Z} {i j : Nat} (h : Oz z i) (hj : i ≤ j) : Oz z j := ⟨by have := h.n; omega, h.s0, by have := h.s1; omega⟩
theorem rd_two (w : World) (k m : Int) : Rd (w.alloc (.cells #[.int .i64 k, .int .i64 m] 3)) (some ⟨w.heap.size, 0, none⟩) ([k, m].map (Value.int .i64)) := fun j hj => by
 refine ⟨⟨w.heap.size, 0, none⟩, rfl, by simp, ?_⟩
 have : j = 0 ∨ j = 1 := by simp at hj; omega
 rcases this with rfl | rfl
 ·simp [Addr.add]
 ·simp [Addr.add]
theorem lo_on2 {W w : World} {d mp b : Nat} {es : List E} {q p0 : P} {v : Value} {r : R} (h : Lo W w d mp es q b v r p0) (k m : Int) :
  Calls Tryz.prog 15 #[.pointer (some ⟨d, 0, none⟩), .slice (some ⟨w.heap.size, 0, none⟩) 2 2] (w.alloc (.cells #[.int .i64 k, .int .i64 m] 3)) fun e w' => e = .returned (.tuple #[]) ∧ ∃ es', Lo W w' d mp es' (q.on [k, m]) b v r p0 ∧ Turn d mp w es w' es' := by
 have hx := Reg.Ext.alloc w (.cells #[.int .i64 k, .int .i64 m] 3)
 refine (Dg.on (h.dg.ext hx) _ [k, m] (kr_two h.dg k m)).mono ?_
 rintro e w' ⟨rfl, es', h1, hT⟩
 exact ⟨rfl, es', (h.ext hx).real h1 hT, (Turn.ext hx).trans hT⟩
theorem lo_ron2 {W w : World} {d mp b : Nat} {es : List E} {p0 : P} {v : Value} {r : R} {k m : Int} (h : Lo W w d mp es (p0.on [k, m]) b v r p0) (hf : ∀ y ∈ [k, m], -9223372036854775808 ≤ y ∧ y ≤ 9223372036854775807) :
  Calls Tryz.prog 16 #[.pointer (some ⟨b, 0, none⟩), .slice (some ⟨w.heap.size, 0, none⟩) 2 2] (w.alloc (.cells #[.int .i64 k, .int .i64 m] 3)) fun e w' => e = .returned (.tuple #[]) ∧ But b w w' ∧ ∃ v' r', Lo W w' d mp es (p0.on [k, m]) b v' r' (p0.on [k, m]) := by
 have hx := Reg.Ext.alloc w (.cells #[.int .i64 k, .int .i64 m] 3)
 have hb := h.bout.1
 have h0 := h.ext hx
 refine (on_ref h0.both _ 2 [k, m] (rd_two w k m) (fun ad _ e => by injection e with e; subst e; dsimp only; omega) hf (by simp)).mono ?_
 rintro e w' ⟨rfl, v', r', k1, k2, bb, nn⟩
 exact ⟨rfl, (But.of_ext hx).trans bb, v', r', h0.ref ⟨k1, k2, h.dg.good, by rw [on_ops]; exact h.both.ops⟩ bb nn⟩
/-- behind a switch, the act's box at hand -/
def StB (W w : World) (d mp b j g8 : Nat) (x : DA) (l u : Value) : Prop :=
 (∃ es p v r, l = .pointer none ∧ u = .pointer none ∧ Lo W w d mp es p b v r p ∧ Ok p j ∧ DBx w d mp es b b b g8 x) ∨
 (∃ es p g lb v vL r z, l = .pointer (some ⟨g, 0, none⟩) ∧ u = .pointer (some ⟨lb, 0, none⟩) ∧ Lg W w d mp es p g z.y b lb v vL r p z ∧ Ok p j ∧ Oz z j ∧ DBx w d mp es b g lb g8 x)
theorem St.box {W w w' : World} {d mp b j g8 : Nat} {x : DA} {l u : Value} (h : St W w d mp b j l u) (hx : Reg.Ext w w') (hb : Blk w' g8 41 x.cells) (hg : w.heap.size = g8) : StB W w' d mp b j g8 x l u := by
 rcases h with ⟨es, p, v, r, e1, e2, h, k⟩ | ⟨es, p, g, lb, v, vL, r, z, e1, e2, h, k, o⟩
 ·have h1 := h.bout.1
  have ho := h.dg.fresh (w' := w') (g := g8) (by omega) hb.lt
  exact .inl ⟨es, p, v, r, e1, e2, h.ext hx, k, ⟨hb, ho, by omega, by omega, by omega⟩⟩
 ·have h1 := h.bout.1
  have h2 := h.lout.1
  have h3 := h.lw.dy.out.1
  have ho := h.lw.dy.dg.fresh (w' := w') (g := g8) (by omega) hb.lt
  exact .inr ⟨es, p, g, lb, v, vL, r, z, e1, e2, h.ext hx, k, o, ⟨hb, ho, by omega, by omega, by omega⟩⟩
theorem StB.lo {W w : World} {d mp b j g8 : Nat} {x : DA} {l u : Value} (h : StB W w d mp b j g8 x l u) : ∃ es p v r, Lo W w d mp es p b v r p ∧ Ok p j ∧ DBx w d mp es b b b g8 x := by
 rcases h with ⟨es, p, v, r, _, _, h, k, o⟩ | ⟨es, p, _, _, v, _, r, _, _, _, h, k, _, o⟩
 ·exact ⟨es, p, v, r, h, k, o⟩
 ·exact ⟨es, p, v, r, h.lo, k, o.lo⟩
section
variable {ops : Array Oper} {rest : List Oper} {o : Oper} {a : _root_.Go.Act} {Q : Exit → _root_.Go.Act → World → Prop}
theorem cells44_one {u : DA} : u.cells.toArray.all (·.oneCell') = true := by
 rw [List.all_toArray, List.all_eq_true]
 intro v hv
 unfold DA.cells actC at hv
 rcases List.mem_cons.1 hv with rfl | hv
 ·rfl
 ·rcases List.mem_append.1 hv with hv | hv
  ·exact Slp.oneS u.x v hv
  ·simp at hv
   rcases hv with rfl | rfl | rfl | rfl | rfl <;> rfl
/-- the box is filled -/
theorem wpList_stda (hgd : o.guard = none) (x y : Operand) (ho : o.op = .store 41 x y) (W0 : World) (cs : Array Value) (hl : cs.size = 44) (hx : a.eval x = .pointer (some ⟨W0.heap.size, 0, none⟩)) (u : DA) (hu : u.x.dig.length = 32) (hy : a.eval y = .agg u.cells.toArray)
  (hk : ∀ w8, Blk w8 W0.heap.size 41 u.cells → Reg.Ext W0 w8 → wpList Tryz.prog ops Q rest (a.put o.dst undef) w8) : wpList Tryz.prog ops Q (o :: rest) a (W0.alloc (Obj.cells cs 41)) := by
 obtain ⟨h1, h2⟩ := newDA W0 u cs hl hu
 refine wpList_store_mid hgd 41 x y ho W0.heap.size 0 u.cells.toArray hx hy ?_ (by rw [z_a, DA.len hu]; exact size44) cells44_one (hk _ h1 h2)
 rw [show u.cells.toArray.size = 44 by rw [z_a, DA.len hu]]
 have hb := Blk.new W0 41 cs
 exact hb.there 44 (by rw [Array.length_toList]; omega)
end
end Plk
end Go.Proofs.YtafeealbdpmdkaaGreatDoor
