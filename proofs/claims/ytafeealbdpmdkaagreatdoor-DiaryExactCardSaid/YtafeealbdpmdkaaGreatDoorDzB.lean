/- The document's Open. -/
import Derived.Test.YtafeealbdpmdkaaGreatDoorDzA
import Derived.Test.YtafeealbdpmdkaaGreatDoorDyB
import Derived.Test.YtafeealbdpmdkaaGreatDoorSpV
import Derived.Lib.Hide
import Derived.Deep.Onto
set_option linter.unusedSimpArgs false
set_option linter.unusedVariables false
set_option linter.unusedSectionVars false
open Go.Lib renaming hid → y_
-- squeezed
namespace Go.Proofs.YtafeealbdpmdkaaGreatDoor
open Go Go.RowKit
namespace Plk
open Slp (S good frame body frames allP Row RdS)
open Rk (RD R Sim Both Newer RP plV)
theorem create_get {p q : P} {n : List UInt8} (e : p.create n = (0, q)) : Nmd.get F.name n q.fs = some ⟨n, [], 0⟩ := by
 unfold P.create at e
 split at e
 ·rename_i h; injection e with e1 _; exact absurd e1 h
 ·split at e
  ·injection e with e1 _; cases e1
  ·split at e
   ·injection e with e1 _; cases e1
   ·rename_i h0 h1 h2
    injection e with _ e2
    subst e2
    have hn : ∀ y ∈ p.fs, F.name y ≠ (⟨n, [], 0⟩ : F).name := fun y hy e => by
     cases hg : Nmd.get F.name n p.fs with
     | none => exact Nmd.get_none hg y hy e
     | some z => rw [hg] at h1; exact h1 rfl
    rw [Nmd.get_ins (nm := F.name) (x := ⟨n, [], 0⟩) hn, if_pos rfl]
theorem read_whole {p q : P} {n l : List UInt8} {f : F} (hg : Nmd.get F.name n p.fs = some f) (e : p.read n 0 (f.l.length : Int) = (l, 0, q)) : l = f.l := by
 unfold P.read at e
 split at e
 ·injection e with _ e; injection e with e _; cases e
 ·rename_i h0
  unfold P.find at e
  rw [hg] at e
  by_cases hb : (p.h.begin [n]).1 ≠ 0
  ·rw [if_pos hb] at e
   dsimp only at e
   injection e with _ e; injection e with e _; exact absurd e hb
  ·rw [if_neg hb] at e
   dsimp only at e
   split at e
   ·injection e with _ e; injection e with e _; cases e
   ·injection e with e _
    rw [← e]
    unfold rd
    rw [Int.toNat_natCast, Int.toNat_zero, Nat.sub_zero, Nat.min_self]
    simp
/-- what the document's Open leaves -/
def ROpen (b : Nat) (w : World) (v : Value) (l : List UInt8) (x : Int) (q : P) (e : Ending) (w' : World) : Prop := ∃ v' r', Both w' b v' r' q ∧ But b w w' ∧ Newer w v v' ∧
 ((x ≠ 0 ∧ e = .returned (.tuple #[.pointer none, .int .i64 x])) ∨
  (x = 0 ∧ ∃ lb vL, e = .returned (.tuple #[.pointer (some ⟨lb, 0, none⟩), .int .i64 0]) ∧ w.heap.size ≤ lb ∧ Blk w' lb 45 ((zOpen l).cells b vL) ∧ Row w.heap.size vL (zOpen l).L w' ∧ (∀ g, vL.ownBlock = some g → g ≠ lb ∧ v'.ownBlock ≠ some g)))
theorem row_cap {B : Nat} {v : Value} {xs : List S} {w : World} (h : Row B v xs w) : ∃ p c, v = .slice p xs.length c ∧ xs.length ≤ c ∧ (p = none ∨ ∃ g, p = some ⟨g, 0, none⟩) := by
 rcases h.1.2 with ⟨rfl, h0⟩ | ⟨g, cap, cur, rfl, _, _, hn, _⟩
 ·exact ⟨none, 0, by rw [h0], by omega, .inl rfl⟩
 ·exact ⟨_, cap, rfl, hn, .inr ⟨g, rfl⟩⟩
/-- where the log's file stands -/
theorem file_at {w : World} {b : Nat} {v : Value} {r : R} {p : P} (h : Both w b v r p) {f : F} (hg : Nmd.get F.name nD p.fs = some f) :
  ∃ (g n c k : Nat), v = .slice (some ⟨g, 0, none⟩) n c ∧ k < n ∧ plV p.fs nD = (k : Int) ∧ w.cell? ⟨g, k * 3 + 1, none⟩ = some (.string ⟨f.l.toArray⟩) := by
 obtain ⟨k, hk, h1, h2⟩ := get_ok h.good.up hg
 have hr := h.rd.row
 rw [h.sim.l] at hr
 rcases Rk.LV.form hr with ⟨_, e⟩ | ⟨g, cap, e, _, _, _⟩
 ·rw [e] at hk; cases hk
 ·subst e
  refine ⟨g, p.fs.length, cap, k, rfl, hk, h2, ?_⟩
  rw [Rk.LV.at_ hr k hk 1 (by omega), h1]
  rfl
def Chn (b : Nat) (w : World) (v : Value) (w' : World) (v' : Value) : Prop := But b w w' ∧ Newer w v v'
theorem Chn.refl (b : Nat) (w : World) (v : Value) : Chn b w v w v := ⟨But.of_ext (Reg.Ext.refl w), Newer.refl w v⟩
theorem Chn.step {b : Nat} {w w1 w2 : World} {v v1 v2 : Value} (h : Chn b w v w1 v1) (hb : But b w1 w2) (hn : Newer w1 v1 v2) : Chn b w v w2 v2 := ⟨h.1.trans hb, h.2.trans hn h.1.size⟩
theorem Chn.ext {b : Nat} {w w1 w2 : World} {v v1 : Value} (h : Chn b w v w1 v1) (hx : Reg.Ext w1 w2) : Chn b w v w2 v1 := h.step (But.of_ext hx) (Newer.refl _ _)
set_option maxRecDepth 100000 in
set_option maxHeartbeats 4000000 in
/-- the document's Open -/
theorem refOpen_any {w : World} {b : Nat} {v : Value} {r : R} {p : P} (h : Both w b v r p) (ho : p.h.ops + 4 ≤ 1000) {l : List UInt8} {x : Int} {q : P} (hw : p.load = (l, x, q)) (hl : l.length ≤ 1048576) :
  Calls Tryz.prog 8 #[.pointer (some ⟨b, 0, none⟩)] w (ROpen b w v l x q) := by
 have H0 := y_ h
 have C0 := y_ (Chn.refl b w v)
 have O0 : Hid (p.h.ops + 1 ≤ 1000) := y_ (by omega)
 have HO := y_ ho
 have hup := h.good.up
 have HG := y_ h.good
 clear h ho
 obtain ⟨o, hgN⟩ : ∃ o, Nmd.get F.name nN p.fs = o := ⟨_, rfl⟩
 cases o with
 | none =>
   have HPN : Hid (plV p.fs nN = -1) := y_ (get_no hup hgN)
   have ES : Hid (p.sweep = (0, p)) := y_ (by unfold P.sweep; rw [hgN, if_neg (by decide)])
   have O1 := O0
   obtain ⟨o, hgD⟩ : ∃ o, Nmd.get F.name nD p.fs = o := ⟨_, rfl⟩
   cases o with
   | some f =>
     have HGD := y_ hgD
     obtain ⟨kd, -, -, hkd⟩ := get_ok hup hgD
     have HPD : Hid (plV p.fs nD = (kd : Int)) := y_ hkd
     have EB : Hid (p.begun = (0, p)) := y_ (by unfold P.begun; rw [pthen_ok ES.out]; unfold P.make; rw [hgD, if_pos (by rfl)])
     have EL : Hid (p.lenD = (f.l.length : Int)) := y_ (by unfold P.lenD; rw [hgD])
     have HOO : Hid (p.h.ops + 2 ≤ 1000) := y_ (by have := HO.out; omega)
     have HW := y_ hw
     clear hgN hgD hup hkd hw
     go_enter Tryz.func8, Tryz.ntmps8
     go_wp2_with (first
      | (go_at_call 38; ((with_reducible refine (H0.out.placeN HPN.out).mono ?_); rintro e _ ⟨rfl, rfl⟩))
      | (go_at_call 39; refine (H0.out.deleteN O0.out E1.out).mono ?_; rintro e w1 ⟨rfl, v1, r1, k, bb, nn⟩; have H1 := y_ k; have C1 := y_ (C0.out.step bb nn); clear k bb nn)
      | (go_at_call 38; ((with_reducible refine (H0.out.placeD HPD.out).mono ?_); rintro e _ ⟨rfl, rfl⟩))
      | (go_at_call 40; refine (H0.out.createD O1.out E2.out).mono ?_; rintro e w2 ⟨rfl, v2, r2, k, bb, nn⟩; have H2 := y_ k; have C2 := y_ (C0.out.step bb nn); clear k bb nn))
     obtain ⟨fg, fn, fc, fk, hv, hk1, hpl, hcl⟩ := file_at H0.out HGD.out
     subst hv
     have HPL := y_ hpl
     have hc0 := H0.out.rd.c.1
     have dk : decide ((fk : Int) < (fn : Int)) = true := by rw [decide_eq_true_iff]; omega
     have CP := y_ (fun w' (h : Reg.Ext w w') => (H0.out.ext h).placeD HPL.out)
     have z0 : (0 : Int) ≤ (fk : Int) := by omega
     clear hpl
     go_quiet ((go_at_call 38; exact Calls.quiet_of_same ((CP.out _ (Reg.Ext.drewN _ _)).mono fun _ _ h => ⟨h.1, h.2.symm⟩)))
     obtain ⟨l3, e3, p3, E3⟩ : ∃ l3 e3 p3, Hid (Plk.P.read p nD 0 (f.l.length : Int) = (l3, e3, p3)) := ⟨_, _, _, rfl⟩
     have OR : Hid ((p).h.ops + 1 ≤ 1000) := y_ (by have := HOO.out; omega)
     have O3 : Hid (p3.h.ops + 1 ≤ 1000) := y_ (by have h1 := (ops_read p nD 0 (f.l.length : Int)).2; rw [E3.out] at h1; dsimp only at h1; have := HOO.out; omega)
     by_cases he3 : e3 = 0
     ·subst he3
      have hl3 : l3 = f.l := read_whole HGD.out E3.out
      subst hl3
      obtain ⟨e4, p4, E4⟩ : ∃ e4 p4, Hid (p3.sync nD = (e4, p4)) := ⟨_, _, rfl⟩
      have hr : p.load = (f.l, e4, p4) := by unfold P.load; rw [EB.out, if_neg (fun h => h rfl)]; dsimp only; rw [EL.out, E3.out, if_neg (fun h => h rfl)]; dsimp only; rw [E4.out]
      have hq := HW.out.symm.trans hr
      injection hq with q1 hq
      injection hq with q2 q3
      subst q1 q2 q3
      clear hr
      by_cases he4 : x = 0
      ·subst he4
       have CAL := y_ (fun w => Slp.allR_any (⟨f.l.toArray⟩ : ByteArray) w (by simpa [ByteArray.size] using hl))
       go_wp2_with (first
        | (go_at_call 41; refine ((H0.out.ext (Reg.Ext.drewN _ _)).readD OR.out E3.out).mono ?_; rintro e w3 ⟨rfl, v3, r3, k, bb, nn⟩; have H3 := y_ k; have C3 := y_ ((C0.out.ext (Reg.Ext.drewN _ _)).step bb nn); clear k bb nn)
        | (go_at_call 42; refine (H3.out.syncD O3.out E4.out).mono ?_; rintro e w4 ⟨rfl, v4, r4, k, bb, nn⟩; have H4 := y_ k; have C4 := y_ (C3.out.step bb nn); clear k bb nn)
        | (go_at_call 43; refine (CAL.out _).mono ?_; rintro e w5 ⟨vL, rfl, hrow, hx5⟩; obtain ⟨pL, cL, hvL, -, -⟩ := row_cap hrow; subst hvL; have HR := y_ hrow; have X5 := y_ hx5; clear hrow hx5))
       go_ret2
       have hb : Blk (w5.alloc (.cells ((zOpen f.l).cells b (.slice pL (allP f.l).1.length cL)).toArray 45)) w5.heap.size 45 ((zOpen f.l).cells b (.slice pL (allP f.l).1.length cL)) := by
        have := Blk.new w5 45 ((zOpen f.l).cells b (.slice pL (allP f.l).1.length cL)).toArray
        simpa using this
       have ha := Reg.Ext.alloc w5 (.cells ((zOpen f.l).cells b (.slice pL (allP f.l).1.length cL)).toArray 45)
       have ev : Obj.cells ((zOpen f.l).cells b (.slice pL (allP f.l).1.length cL)).toArray 45 = .cells #[.pointer (some ⟨b, 0, none⟩), .slice pL (allP f.l).1.length cL, .int .i64 ((allP f.l).1.length : Int), .int .i64 ((allP f.l).2 : Int), .bool (decide ((allP f.l).2 < f.l.length))] 45 := by
        unfold zOpen Z.cells
        simp
       rw [ev] at hb ha
       have hs4 := C4.out.1.size
       have hs5 := X5.out.size
       refine ⟨v4, r4, (H4.out.ext X5.out).ext ha, ((C4.out.ext X5.out).ext ha).1, ((C4.out.ext X5.out).ext ha).2, .inr ⟨rfl, w5.heap.size, .slice pL (allP f.l).1.length cL, rfl, by omega, hb, ⟨own_ext (World.ownsRow.mono HR.out.1 (by omega)) ha, HR.out.2⟩, fun g hg => ?_⟩⟩
       obtain ⟨k1, k2⟩ := HR.out.1.lt g hg
       refine ⟨by omega, fun e => ?_⟩
       have := H4.out.rd.row.lt e
       omega
      ·have z4 := ne_z he4
       have HE4 := y_ he4
       clear he4
       go_wp2_with (first
        | (go_at_call 41; refine ((H0.out.ext (Reg.Ext.drewN _ _)).readD OR.out E3.out).mono ?_; rintro e w3 ⟨rfl, v3, r3, k, bb, nn⟩; have H3 := y_ k; have C3 := y_ ((C0.out.ext (Reg.Ext.drewN _ _)).step bb nn); clear k bb nn)
        | (go_at_call 42; refine (H3.out.syncD O3.out E4.out).mono ?_; rintro e w4 ⟨rfl, v4, r4, k, bb, nn⟩; have H4 := y_ k; have C4 := y_ (C3.out.step bb nn); clear k bb nn))
       go_ret2
       exact ⟨_, _, H4.out, C4.out.1, C4.out.2, .inl ⟨HE4.out, rfl⟩⟩
     ·have z3 := ne_z he3
      have hr : p.load = ([], e3, p3) := by unfold P.load; rw [EB.out, if_neg (fun h => h rfl)]; dsimp only; rw [EL.out, E3.out, if_pos he3]
      have hq := HW.out.symm.trans hr
      injection hq with q1 hq
      injection hq with q2 q3
      subst q1 q2 q3
      have HE3 := y_ he3
      clear hr he3
      go_wp2_with (go_at_call 41; refine ((H0.out.ext (Reg.Ext.drewN _ _)).readD OR.out E3.out).mono ?_; rintro e w3 ⟨rfl, v3, r3, k, bb, nn⟩; have H3 := y_ k; have C3 := y_ ((C0.out.ext (Reg.Ext.drewN _ _)).step bb nn); clear k bb nn)
      go_ret2
      exact ⟨_, _, H3.out, C3.out.1, C3.out.2, .inl ⟨HE3.out, rfl⟩⟩
   | none =>
     have HPD : Hid (plV p.fs nD = -1) := y_ (get_no hup hgD)
     obtain ⟨e2, p2, E2⟩ : ∃ e2 p2, Hid (p.create nD = (e2, p2)) := ⟨_, _, rfl⟩
     have EB0 : Hid (p.begun = (e2, p2)) := y_ (by unfold P.begun; rw [pthen_ok ES.out]; unfold P.make; rw [hgD, if_neg (by decide)]; exact E2.out)
     have OP2 : Hid (p2.h.ops ≤ p.h.ops + 1) := y_ (ops_le (fun p => ops_create p nD) E2.out)
     have HW := y_ hw
     clear hgN hgD hup hw
     by_cases he2 : e2 = 0
     ·subst he2
      have EB := EB0
      have hgD := create_get E2.out
      obtain ⟨f, hf⟩ : ∃ f : F, f = ⟨nD, [], 0⟩ := ⟨_, rfl⟩
      rw [← hf] at hgD
      have HGD := y_ hgD
      have EL : Hid (p2.lenD = (f.l.length : Int)) := y_ (by unfold P.lenD; rw [hgD])
      have HOO : Hid (p2.h.ops + 2 ≤ 1000) := y_ (by have := OP2.out; have := HO.out; omega)
      clear hgD hf
      go_enter Tryz.func8, Tryz.ntmps8
      go_wp2_with (first
       | (go_at_call 38; ((with_reducible refine (H0.out.placeN HPN.out).mono ?_); rintro e _ ⟨rfl, rfl⟩))
       | (go_at_call 39; refine (H0.out.deleteN O0.out E1.out).mono ?_; rintro e w1 ⟨rfl, v1, r1, k, bb, nn⟩; have H1 := y_ k; have C1 := y_ (C0.out.step bb nn); clear k bb nn)
       | (go_at_call 38; ((with_reducible refine (H0.out.placeD HPD.out).mono ?_); rintro e _ ⟨rfl, rfl⟩))
       | (go_at_call 40; refine (H0.out.createD O1.out E2.out).mono ?_; rintro e w2 ⟨rfl, v2, r2, k, bb, nn⟩; have H2 := y_ k; have C2 := y_ (C0.out.step bb nn); clear k bb nn))
      clear HPD
      obtain ⟨fg, fn, fc, fk, hv, hk1, hpl, hcl⟩ := file_at H2.out HGD.out
      subst hv
      have HPL := y_ hpl
      have hc0 := H2.out.rd.c.1
      have dk : decide ((fk : Int) < (fn : Int)) = true := by rw [decide_eq_true_iff]; omega
      have CP := y_ (fun w' (h : Reg.Ext w2 w') => (H2.out.ext h).placeD HPL.out)
      have z0 : (0 : Int) ≤ (fk : Int) := by omega
      clear hpl
      go_quiet ((go_at_call 38; exact Calls.quiet_of_same ((CP.out _ (Reg.Ext.drewN _ _)).mono fun _ _ h => ⟨h.1, h.2.symm⟩)))
      obtain ⟨l3, e3, p3, E3⟩ : ∃ l3 e3 p3, Hid (Plk.P.read p2 nD 0 (f.l.length : Int) = (l3, e3, p3)) := ⟨_, _, _, rfl⟩
      have OR : Hid ((p2).h.ops + 1 ≤ 1000) := y_ (by have := HOO.out; omega)
      have O3 : Hid (p3.h.ops + 1 ≤ 1000) := y_ (by have h1 := (ops_read p2 nD 0 (f.l.length : Int)).2; rw [E3.out] at h1; dsimp only at h1; have := HOO.out; omega)
      by_cases he3 : e3 = 0
      ·subst he3
       have hl3 : l3 = f.l := read_whole HGD.out E3.out
       subst hl3
       obtain ⟨e4, p4, E4⟩ : ∃ e4 p4, Hid (p3.sync nD = (e4, p4)) := ⟨_, _, rfl⟩
       have hr : p.load = (f.l, e4, p4) := by unfold P.load; rw [EB.out, if_neg (fun h => h rfl)]; dsimp only; rw [EL.out, E3.out, if_neg (fun h => h rfl)]; dsimp only; rw [E4.out]
       have hq := HW.out.symm.trans hr
       injection hq with q1 hq
       injection hq with q2 q3
       subst q1 q2 q3
       clear hr
       by_cases he4 : x = 0
       ·subst he4
        have CAL := y_ (fun w => Slp.allR_any (⟨f.l.toArray⟩ : ByteArray) w (by simpa [ByteArray.size] using hl))
        go_wp2_with (first
         | (go_at_call 41; refine ((H2.out.ext (Reg.Ext.drewN _ _)).readD OR.out E3.out).mono ?_; rintro e w3 ⟨rfl, v3, r3, k, bb, nn⟩; have H3 := y_ k; have C3 := y_ ((C2.out.ext (Reg.Ext.drewN _ _)).step bb nn); clear k bb nn)
         | (go_at_call 42; refine (H3.out.syncD O3.out E4.out).mono ?_; rintro e w4 ⟨rfl, v4, r4, k, bb, nn⟩; have H4 := y_ k; have C4 := y_ (C3.out.step bb nn); clear k bb nn)
         | (go_at_call 43; refine (CAL.out _).mono ?_; rintro e w5 ⟨vL, rfl, hrow, hx5⟩; obtain ⟨pL, cL, hvL, -, -⟩ := row_cap hrow; subst hvL; have HR := y_ hrow; have X5 := y_ hx5; clear hrow hx5))
        go_ret2
        have hb : Blk (w5.alloc (.cells ((zOpen f.l).cells b (.slice pL (allP f.l).1.length cL)).toArray 45)) w5.heap.size 45 ((zOpen f.l).cells b (.slice pL (allP f.l).1.length cL)) := by
         have := Blk.new w5 45 ((zOpen f.l).cells b (.slice pL (allP f.l).1.length cL)).toArray
         simpa using this
        have ha := Reg.Ext.alloc w5 (.cells ((zOpen f.l).cells b (.slice pL (allP f.l).1.length cL)).toArray 45)
        have ev : Obj.cells ((zOpen f.l).cells b (.slice pL (allP f.l).1.length cL)).toArray 45 = .cells #[.pointer (some ⟨b, 0, none⟩), .slice pL (allP f.l).1.length cL, .int .i64 ((allP f.l).1.length : Int), .int .i64 ((allP f.l).2 : Int), .bool (decide ((allP f.l).2 < f.l.length))] 45 := by
         unfold zOpen Z.cells
         simp
        rw [ev] at hb ha
        have hs4 := C4.out.1.size
        have hs5 := X5.out.size
        refine ⟨v4, r4, (H4.out.ext X5.out).ext ha, ((C4.out.ext X5.out).ext ha).1, ((C4.out.ext X5.out).ext ha).2, .inr ⟨rfl, w5.heap.size, .slice pL (allP f.l).1.length cL, rfl, by omega, hb, ⟨own_ext (World.ownsRow.mono HR.out.1 (by omega)) ha, HR.out.2⟩, fun g hg => ?_⟩⟩
        obtain ⟨k1, k2⟩ := HR.out.1.lt g hg
        refine ⟨by omega, fun e => ?_⟩
        have := H4.out.rd.row.lt e
        omega
       ·have z4 := ne_z he4
        have HE4 := y_ he4
        clear he4
        go_wp2_with (first
         | (go_at_call 41; refine ((H2.out.ext (Reg.Ext.drewN _ _)).readD OR.out E3.out).mono ?_; rintro e w3 ⟨rfl, v3, r3, k, bb, nn⟩; have H3 := y_ k; have C3 := y_ ((C2.out.ext (Reg.Ext.drewN _ _)).step bb nn); clear k bb nn)
         | (go_at_call 42; refine (H3.out.syncD O3.out E4.out).mono ?_; rintro e w4 ⟨rfl, v4, r4, k, bb, nn⟩; have H4 := y_ k; have C4 := y_ (C3.out.step bb nn); clear k bb nn))
        go_ret2
        exact ⟨_, _, H4.out, C4.out.1, C4.out.2, .inl ⟨HE4.out, rfl⟩⟩
      ·have z3 := ne_z he3
       have hr : p.load = ([], e3, p3) := by unfold P.load; rw [EB.out, if_neg (fun h => h rfl)]; dsimp only; rw [EL.out, E3.out, if_pos he3]
       have hq := HW.out.symm.trans hr
       injection hq with q1 hq
       injection hq with q2 q3
       subst q1 q2 q3
       have HE3 := y_ he3
       clear hr he3
       go_wp2_with (go_at_call 41; refine ((H2.out.ext (Reg.Ext.drewN _ _)).readD OR.out E3.out).mono ?_; rintro e w3 ⟨rfl, v3, r3, k, bb, nn⟩; have H3 := y_ k; have C3 := y_ ((C2.out.ext (Reg.Ext.drewN _ _)).step bb nn); clear k bb nn)
       go_ret2
       exact ⟨_, _, H3.out, C3.out.1, C3.out.2, .inl ⟨HE3.out, rfl⟩⟩
     ·have z2 := ne_z he2
      have hr : p.load = ([], e2, p2) := by unfold P.load; rw [EB0.out, if_pos he2]
      have hq := HW.out.symm.trans hr
      injection hq with q1 hq
      injection hq with q2 q3
      subst q1 q2 q3
      have HE2 := y_ he2
      clear hr he2
      go_enter Tryz.func8, Tryz.ntmps8
      go_wp2_with (first
       | (go_at_call 38; ((with_reducible refine (H0.out.placeN HPN.out).mono ?_); rintro e _ ⟨rfl, rfl⟩))
       | (go_at_call 39; refine (H0.out.deleteN O0.out E1.out).mono ?_; rintro e w1 ⟨rfl, v1, r1, k, bb, nn⟩; have H1 := y_ k; have C1 := y_ (C0.out.step bb nn); clear k bb nn)
       | (go_at_call 38; ((with_reducible refine (H0.out.placeD HPD.out).mono ?_); rintro e _ ⟨rfl, rfl⟩))
       | (go_at_call 40; refine (H0.out.createD O1.out E2.out).mono ?_; rintro e w2 ⟨rfl, v2, r2, k, bb, nn⟩; have H2 := y_ k; have C2 := y_ (C0.out.step bb nn); clear k bb nn))
      go_ret2
      exact ⟨_, _, H2.out, C2.out.1, C2.out.2, .inl ⟨HE2.out, rfl⟩⟩
 | some f0 =>
   obtain ⟨kn, -, -, hkn⟩ := get_ok hup hgN
   have HPN : Hid (plV p.fs nN = (kn : Int)) := y_ hkn
   obtain ⟨e1, p1, E1⟩ : ∃ e1 p1, Hid (p.delete nN = (e1, p1)) := ⟨_, _, rfl⟩
   have ES : Hid (p.sweep = (e1, p1)) := y_ (by unfold P.sweep; rw [hgN, if_pos (by rfl)]; exact E1.out)
   have OP1 : Hid (p1.h.ops ≤ p.h.ops + 1) := y_ (ops_le (fun p => ops_delete p nN) E1.out)
   have hup1 : Nmd.Up F.name p1.fs := by have := HG.out.delete nN; rw [E1.out] at this; exact this.up
   have HW := y_ hw
   clear hgN hup hkn hw
   by_cases he1 : e1 = 0
   ·subst he1
    have O1 : Hid (p1.h.ops + 1 ≤ 1000) := y_ (by have := OP1.out; have := HO.out; omega)
    obtain ⟨o, hgD⟩ : ∃ o, Nmd.get F.name nD p1.fs = o := ⟨_, rfl⟩
    cases o with
    | some f =>
      have HGD := y_ hgD
      obtain ⟨kd, -, -, hkd⟩ := get_ok hup1 hgD
      have HPD : Hid (plV p1.fs nD = (kd : Int)) := y_ hkd
      have EB : Hid (p.begun = (0, p1)) := y_ (by unfold P.begun; rw [pthen_ok ES.out]; unfold P.make; rw [hgD, if_pos (by rfl)])
      have EL : Hid (p1.lenD = (f.l.length : Int)) := y_ (by unfold P.lenD; rw [hgD])
      have HOO : Hid (p1.h.ops + 2 ≤ 1000) := y_ (by have := OP1.out; have := HO.out; omega)
      clear hgD hup1 hkd
      go_enter Tryz.func8, Tryz.ntmps8
      go_wp2_with (first
       | (go_at_call 38; ((with_reducible refine (H0.out.placeN HPN.out).mono ?_); rintro e _ ⟨rfl, rfl⟩))
       | (go_at_call 39; refine (H0.out.deleteN O0.out E1.out).mono ?_; rintro e w1 ⟨rfl, v1, r1, k, bb, nn⟩; have H1 := y_ k; have C1 := y_ (C0.out.step bb nn); clear k bb nn)
       | (go_at_call 38; ((with_reducible refine (H1.out.placeD HPD.out).mono ?_); rintro e _ ⟨rfl, rfl⟩))
       | (go_at_call 40; refine (H1.out.createD O1.out E2.out).mono ?_; rintro e w2 ⟨rfl, v2, r2, k, bb, nn⟩; have H2 := y_ k; have C2 := y_ (C1.out.step bb nn); clear k bb nn))
      obtain ⟨fg, fn, fc, fk, hv, hk1, hpl, hcl⟩ := file_at H1.out HGD.out
      subst hv
      have HPL := y_ hpl
      have hc0 := H1.out.rd.c.1
      have dk : decide ((fk : Int) < (fn : Int)) = true := by rw [decide_eq_true_iff]; omega
      have CP := y_ (fun w' (h : Reg.Ext w1 w') => (H1.out.ext h).placeD HPL.out)
      have z0 : (0 : Int) ≤ (fk : Int) := by omega
      clear hpl
      go_quiet ((go_at_call 38; exact Calls.quiet_of_same ((CP.out _ (Reg.Ext.drewN _ _)).mono fun _ _ h => ⟨h.1, h.2.symm⟩)))
      obtain ⟨l3, e3, p3, E3⟩ : ∃ l3 e3 p3, Hid (Plk.P.read p1 nD 0 (f.l.length : Int) = (l3, e3, p3)) := ⟨_, _, _, rfl⟩
      have OR : Hid ((p1).h.ops + 1 ≤ 1000) := y_ (by have := HOO.out; omega)
      have O3 : Hid (p3.h.ops + 1 ≤ 1000) := y_ (by have h1 := (ops_read p1 nD 0 (f.l.length : Int)).2; rw [E3.out] at h1; dsimp only at h1; have := HOO.out; omega)
      by_cases he3 : e3 = 0
      ·subst he3
       have hl3 : l3 = f.l := read_whole HGD.out E3.out
       subst hl3
       obtain ⟨e4, p4, E4⟩ : ∃ e4 p4, Hid (p3.sync nD = (e4, p4)) := ⟨_, _, rfl⟩
       have hr : p.load = (f.l, e4, p4) := by unfold P.load; rw [EB.out, if_neg (fun h => h rfl)]; dsimp only; rw [EL.out, E3.out, if_neg (fun h => h rfl)]; dsimp only; rw [E4.out]
       have hq := HW.out.symm.trans hr
       injection hq with q1 hq
       injection hq with q2 q3
       subst q1 q2 q3
       clear hr
       by_cases he4 : x = 0
       ·subst he4
        have CAL := y_ (fun w => Slp.allR_any (⟨f.l.toArray⟩ : ByteArray) w (by simpa [ByteArray.size] using hl))
        go_wp2_with (first
         | (go_at_call 41; refine ((H1.out.ext (Reg.Ext.drewN _ _)).readD OR.out E3.out).mono ?_; rintro e w3 ⟨rfl, v3, r3, k, bb, nn⟩; have H3 := y_ k; have C3 := y_ ((C1.out.ext (Reg.Ext.drewN _ _)).step bb nn); clear k bb nn)
         | (go_at_call 42; refine (H3.out.syncD O3.out E4.out).mono ?_; rintro e w4 ⟨rfl, v4, r4, k, bb, nn⟩; have H4 := y_ k; have C4 := y_ (C3.out.step bb nn); clear k bb nn)
         | (go_at_call 43; refine (CAL.out _).mono ?_; rintro e w5 ⟨vL, rfl, hrow, hx5⟩; obtain ⟨pL, cL, hvL, -, -⟩ := row_cap hrow; subst hvL; have HR := y_ hrow; have X5 := y_ hx5; clear hrow hx5))
        go_ret2
        have hb : Blk (w5.alloc (.cells ((zOpen f.l).cells b (.slice pL (allP f.l).1.length cL)).toArray 45)) w5.heap.size 45 ((zOpen f.l).cells b (.slice pL (allP f.l).1.length cL)) := by
         have := Blk.new w5 45 ((zOpen f.l).cells b (.slice pL (allP f.l).1.length cL)).toArray
         simpa using this
        have ha := Reg.Ext.alloc w5 (.cells ((zOpen f.l).cells b (.slice pL (allP f.l).1.length cL)).toArray 45)
        have ev : Obj.cells ((zOpen f.l).cells b (.slice pL (allP f.l).1.length cL)).toArray 45 = .cells #[.pointer (some ⟨b, 0, none⟩), .slice pL (allP f.l).1.length cL, .int .i64 ((allP f.l).1.length : Int), .int .i64 ((allP f.l).2 : Int), .bool (decide ((allP f.l).2 < f.l.length))] 45 := by
         unfold zOpen Z.cells
         simp
        rw [ev] at hb ha
        have hs4 := C4.out.1.size
        have hs5 := X5.out.size
        refine ⟨v4, r4, (H4.out.ext X5.out).ext ha, ((C4.out.ext X5.out).ext ha).1, ((C4.out.ext X5.out).ext ha).2, .inr ⟨rfl, w5.heap.size, .slice pL (allP f.l).1.length cL, rfl, by omega, hb, ⟨own_ext (World.ownsRow.mono HR.out.1 (by omega)) ha, HR.out.2⟩, fun g hg => ?_⟩⟩
        obtain ⟨k1, k2⟩ := HR.out.1.lt g hg
        refine ⟨by omega, fun e => ?_⟩
        have := H4.out.rd.row.lt e
        omega
       ·have z4 := ne_z he4
        have HE4 := y_ he4
        clear he4
        go_wp2_with (first
         | (go_at_call 41; refine ((H1.out.ext (Reg.Ext.drewN _ _)).readD OR.out E3.out).mono ?_; rintro e w3 ⟨rfl, v3, r3, k, bb, nn⟩; have H3 := y_ k; have C3 := y_ ((C1.out.ext (Reg.Ext.drewN _ _)).step bb nn); clear k bb nn)
         | (go_at_call 42; refine (H3.out.syncD O3.out E4.out).mono ?_; rintro e w4 ⟨rfl, v4, r4, k, bb, nn⟩; have H4 := y_ k; have C4 := y_ (C3.out.step bb nn); clear k bb nn))
        go_ret2
        exact ⟨_, _, H4.out, C4.out.1, C4.out.2, .inl ⟨HE4.out, rfl⟩⟩
      ·have z3 := ne_z he3
       have hr : p.load = ([], e3, p3) := by unfold P.load; rw [EB.out, if_neg (fun h => h rfl)]; dsimp only; rw [EL.out, E3.out, if_pos he3]
       have hq := HW.out.symm.trans hr
       injection hq with q1 hq
       injection hq with q2 q3
       subst q1 q2 q3
       have HE3 := y_ he3
       clear hr he3
       go_wp2_with (go_at_call 41; refine ((H1.out.ext (Reg.Ext.drewN _ _)).readD OR.out E3.out).mono ?_; rintro e w3 ⟨rfl, v3, r3, k, bb, nn⟩; have H3 := y_ k; have C3 := y_ ((C1.out.ext (Reg.Ext.drewN _ _)).step bb nn); clear k bb nn)
       go_ret2
       exact ⟨_, _, H3.out, C3.out.1, C3.out.2, .inl ⟨HE3.out, rfl⟩⟩
    | none =>
      have HPD : Hid (plV p1.fs nD = -1) := y_ (get_no hup1 hgD)
      obtain ⟨e2, p2, E2⟩ : ∃ e2 p2, Hid (p1.create nD = (e2, p2)) := ⟨_, _, rfl⟩
      have EB0 : Hid (p.begun = (e2, p2)) := y_ (by unfold P.begun; rw [pthen_ok ES.out]; unfold P.make; rw [hgD, if_neg (by decide)]; exact E2.out)
      have OP2 : Hid (p2.h.ops ≤ p.h.ops + 2) := y_ (by have := ops_le (fun p => ops_create p nD) E2.out; have := OP1.out; omega)
      clear hgD hup1
      by_cases he2 : e2 = 0
      ·subst he2
       have EB := EB0
       have hgD := create_get E2.out
       obtain ⟨f, hf⟩ : ∃ f : F, f = ⟨nD, [], 0⟩ := ⟨_, rfl⟩
       rw [← hf] at hgD
       have HGD := y_ hgD
       have EL : Hid (p2.lenD = (f.l.length : Int)) := y_ (by unfold P.lenD; rw [hgD])
       have HOO : Hid (p2.h.ops + 2 ≤ 1000) := y_ (by have := OP2.out; have := HO.out; omega)
       clear hgD hf
       go_enter Tryz.func8, Tryz.ntmps8
       go_wp2_with (first
        | (go_at_call 38; ((with_reducible refine (H0.out.placeN HPN.out).mono ?_); rintro e _ ⟨rfl, rfl⟩))
        | (go_at_call 39; refine (H0.out.deleteN O0.out E1.out).mono ?_; rintro e w1 ⟨rfl, v1, r1, k, bb, nn⟩; have H1 := y_ k; have C1 := y_ (C0.out.step bb nn); clear k bb nn)
        | (go_at_call 38; ((with_reducible refine (H1.out.placeD HPD.out).mono ?_); rintro e _ ⟨rfl, rfl⟩))
        | (go_at_call 40; refine (H1.out.createD O1.out E2.out).mono ?_; rintro e w2 ⟨rfl, v2, r2, k, bb, nn⟩; have H2 := y_ k; have C2 := y_ (C1.out.step bb nn); clear k bb nn))
       clear HPD
       obtain ⟨fg, fn, fc, fk, hv, hk1, hpl, hcl⟩ := file_at H2.out HGD.out
       subst hv
       have HPL := y_ hpl
       have hc0 := H2.out.rd.c.1
       have dk : decide ((fk : Int) < (fn : Int)) = true := by rw [decide_eq_true_iff]; omega
       have CP := y_ (fun w' (h : Reg.Ext w2 w') => (H2.out.ext h).placeD HPL.out)
       have z0 : (0 : Int) ≤ (fk : Int) := by omega
       clear hpl
       go_quiet ((go_at_call 38; exact Calls.quiet_of_same ((CP.out _ (Reg.Ext.drewN _ _)).mono fun _ _ h => ⟨h.1, h.2.symm⟩)))
       obtain ⟨l3, e3, p3, E3⟩ : ∃ l3 e3 p3, Hid (Plk.P.read p2 nD 0 (f.l.length : Int) = (l3, e3, p3)) := ⟨_, _, _, rfl⟩
       have OR : Hid ((p2).h.ops + 1 ≤ 1000) := y_ (by have := HOO.out; omega)
       have O3 : Hid (p3.h.ops + 1 ≤ 1000) := y_ (by have h1 := (ops_read p2 nD 0 (f.l.length : Int)).2; rw [E3.out] at h1; dsimp only at h1; have := HOO.out; omega)
       by_cases he3 : e3 = 0
       ·subst he3
        have hl3 : l3 = f.l := read_whole HGD.out E3.out
        subst hl3
        obtain ⟨e4, p4, E4⟩ : ∃ e4 p4, Hid (p3.sync nD = (e4, p4)) := ⟨_, _, rfl⟩
        have hr : p.load = (f.l, e4, p4) := by unfold P.load; rw [EB.out, if_neg (fun h => h rfl)]; dsimp only; rw [EL.out, E3.out, if_neg (fun h => h rfl)]; dsimp only; rw [E4.out]
        have hq := HW.out.symm.trans hr
        injection hq with q1 hq
        injection hq with q2 q3
        subst q1 q2 q3
        clear hr
        by_cases he4 : x = 0
        ·subst he4
         have CAL := y_ (fun w => Slp.allR_any (⟨f.l.toArray⟩ : ByteArray) w (by simpa [ByteArray.size] using hl))
         go_wp2_with (first
          | (go_at_call 41; refine ((H2.out.ext (Reg.Ext.drewN _ _)).readD OR.out E3.out).mono ?_; rintro e w3 ⟨rfl, v3, r3, k, bb, nn⟩; have H3 := y_ k; have C3 := y_ ((C2.out.ext (Reg.Ext.drewN _ _)).step bb nn); clear k bb nn)
          | (go_at_call 42; refine (H3.out.syncD O3.out E4.out).mono ?_; rintro e w4 ⟨rfl, v4, r4, k, bb, nn⟩; have H4 := y_ k; have C4 := y_ (C3.out.step bb nn); clear k bb nn)
          | (go_at_call 43; refine (CAL.out _).mono ?_; rintro e w5 ⟨vL, rfl, hrow, hx5⟩; obtain ⟨pL, cL, hvL, -, -⟩ := row_cap hrow; subst hvL; have HR := y_ hrow; have X5 := y_ hx5; clear hrow hx5))
         go_ret2
         have hb : Blk (w5.alloc (.cells ((zOpen f.l).cells b (.slice pL (allP f.l).1.length cL)).toArray 45)) w5.heap.size 45 ((zOpen f.l).cells b (.slice pL (allP f.l).1.length cL)) := by
          have := Blk.new w5 45 ((zOpen f.l).cells b (.slice pL (allP f.l).1.length cL)).toArray
          simpa using this
         have ha := Reg.Ext.alloc w5 (.cells ((zOpen f.l).cells b (.slice pL (allP f.l).1.length cL)).toArray 45)
         have ev : Obj.cells ((zOpen f.l).cells b (.slice pL (allP f.l).1.length cL)).toArray 45 = .cells #[.pointer (some ⟨b, 0, none⟩), .slice pL (allP f.l).1.length cL, .int .i64 ((allP f.l).1.length : Int), .int .i64 ((allP f.l).2 : Int), .bool (decide ((allP f.l).2 < f.l.length))] 45 := by
          unfold zOpen Z.cells
          simp
         rw [ev] at hb ha
         have hs4 := C4.out.1.size
         have hs5 := X5.out.size
         refine ⟨v4, r4, (H4.out.ext X5.out).ext ha, ((C4.out.ext X5.out).ext ha).1, ((C4.out.ext X5.out).ext ha).2, .inr ⟨rfl, w5.heap.size, .slice pL (allP f.l).1.length cL, rfl, by omega, hb, ⟨own_ext (World.ownsRow.mono HR.out.1 (by omega)) ha, HR.out.2⟩, fun g hg => ?_⟩⟩
         obtain ⟨k1, k2⟩ := HR.out.1.lt g hg
         refine ⟨by omega, fun e => ?_⟩
         have := H4.out.rd.row.lt e
         omega
        ·have z4 := ne_z he4
         have HE4 := y_ he4
         clear he4
         go_wp2_with (first
          | (go_at_call 41; refine ((H2.out.ext (Reg.Ext.drewN _ _)).readD OR.out E3.out).mono ?_; rintro e w3 ⟨rfl, v3, r3, k, bb, nn⟩; have H3 := y_ k; have C3 := y_ ((C2.out.ext (Reg.Ext.drewN _ _)).step bb nn); clear k bb nn)
          | (go_at_call 42; refine (H3.out.syncD O3.out E4.out).mono ?_; rintro e w4 ⟨rfl, v4, r4, k, bb, nn⟩; have H4 := y_ k; have C4 := y_ (C3.out.step bb nn); clear k bb nn))
         go_ret2
         exact ⟨_, _, H4.out, C4.out.1, C4.out.2, .inl ⟨HE4.out, rfl⟩⟩
       ·have z3 := ne_z he3
        have hr : p.load = ([], e3, p3) := by unfold P.load; rw [EB.out, if_neg (fun h => h rfl)]; dsimp only; rw [EL.out, E3.out, if_pos he3]
        have hq := HW.out.symm.trans hr
        injection hq with q1 hq
        injection hq with q2 q3
        subst q1 q2 q3
        have HE3 := y_ he3
        clear hr he3
        go_wp2_with (go_at_call 41; refine ((H2.out.ext (Reg.Ext.drewN _ _)).readD OR.out E3.out).mono ?_; rintro e w3 ⟨rfl, v3, r3, k, bb, nn⟩; have H3 := y_ k; have C3 := y_ ((C2.out.ext (Reg.Ext.drewN _ _)).step bb nn); clear k bb nn)
        go_ret2
        exact ⟨_, _, H3.out, C3.out.1, C3.out.2, .inl ⟨HE3.out, rfl⟩⟩
      ·have z2 := ne_z he2
       have hr : p.load = ([], e2, p2) := by unfold P.load; rw [EB0.out, if_pos he2]
       have hq := HW.out.symm.trans hr
       injection hq with q1 hq
       injection hq with q2 q3
       subst q1 q2 q3
       have HE2 := y_ he2
       clear hr he2
       go_enter Tryz.func8, Tryz.ntmps8
       go_wp2_with (first
        | (go_at_call 38; ((with_reducible refine (H0.out.placeN HPN.out).mono ?_); rintro e _ ⟨rfl, rfl⟩))
        | (go_at_call 39; refine (H0.out.deleteN O0.out E1.out).mono ?_; rintro e w1 ⟨rfl, v1, r1, k, bb, nn⟩; have H1 := y_ k; have C1 := y_ (C0.out.step bb nn); clear k bb nn)
        | (go_at_call 38; ((with_reducible refine (H1.out.placeD HPD.out).mono ?_); rintro e _ ⟨rfl, rfl⟩))
        | (go_at_call 40; refine (H1.out.createD O1.out E2.out).mono ?_; rintro e w2 ⟨rfl, v2, r2, k, bb, nn⟩; have H2 := y_ k; have C2 := y_ (C1.out.step bb nn); clear k bb nn))
       go_ret2
       exact ⟨_, _, H2.out, C2.out.1, C2.out.2, .inl ⟨HE2.out, rfl⟩⟩
   ·have z1 := ne_z he1
    have hr : p.load = ([], e1, p1) := by unfold P.load P.begun; rw [pthen_err ES.out he1, if_pos he1]
    have hq := HW.out.symm.trans hr
    injection hq with q1 hq
    injection hq with q2 q3
    subst q1 q2 q3
    have HE1 := y_ he1
    clear hr he1 hup1
    go_enter Tryz.func8, Tryz.ntmps8
    go_wp2_with (first
     | (go_at_call 38; ((with_reducible refine (H0.out.placeN HPN.out).mono ?_); rintro e _ ⟨rfl, rfl⟩))
     | (go_at_call 39; refine (H0.out.deleteN O0.out E1.out).mono ?_; rintro e w1 ⟨rfl, v1, r1, k, bb, nn⟩; have H1 := y_ k; have C1 := y_ (C0.out.step bb nn); clear k bb nn)
     | (go_at_call 38; ((with_reducible refine (H1.out.placeD HPD.out).mono ?_); rintro e _ ⟨rfl, rfl⟩))
     | (go_at_call 40; refine (H1.out.createD O1.out E2.out).mono ?_; rintro e w2 ⟨rfl, v2, r2, k, bb, nn⟩; have H2 := y_ k; have C2 := y_ (C1.out.step bb nn); clear k bb nn))
    go_ret2
    exact ⟨_, _, H1.out, C1.out.1, C1.out.2, .inl ⟨HE1.out, rfl⟩⟩
end Plk
end Go.Proofs.YtafeealbdpmdkaaGreatDoor
