/- The walks of Open, replace, records, Rewrite. -/
import Derived.Test.YtafeealbdpmdkaaGreatDoorDyC
import Derived.Test.YtafeealbdpmdkaaGreatDoorBldT
import Derived.Deep.Onto
set_option linter.unusedSimpArgs false
set_option linter.unusedVariables false
set_option linter.unusedSectionVars false
open Go.Lib renaming hid → y_
-- squeezed
namespace Go.Proofs.YtafeealbdpmdkaaGreatDoor
open Go Go.RowKit
namespace Plk
open Slp (S good frame body frames allP Row RdS)
def ResO (d mp : Nat) (W : World) (es : List E) (l : List UInt8) (v : Int) (q : P) (e : Ending) (w' : World) : Prop := ∃ es', Dg w' d mp es' q ∧ Turn d mp W es w' es' ∧
 ((v ≠ 0 ∧ e = .returned (.tuple #[.pointer none, .slice none 0 0, .int .i64 v])) ∨
  (v = 0 ∧ ∃ g u, e = .returned (.tuple #[.pointer (some ⟨g, 0, none⟩), u, .int .i64 0]) ∧ W.heap.size ≤ g ∧ Dy w' d mp es' q g (opened l) ∧ Held w' d mp es' g W.heap.size u (allP l).1))
set_option maxRecDepth 100000 in
set_option maxHeartbeats 2000000 in
theorem open_any {w : World} {d mp : Nat} {es : List E} {p : P} (h : Dg w d mp es p) (hb : p.h.ops + 4 < big) {l : List UInt8} {v : Int} {q : P} (hw : p.load = (l, v, q)) (hs : l.length ≤ 1048576) {W0 : World} (hx : Reg.Ext W0 w) (ho : ∀ i, Own d mp es i → W0.heap.size ≤ i) (hT : Crc.Tab W0) :
  Calls Tryz.prog 7 #[.pointer (some ⟨d, 0, none⟩)] w (ResO d mp w es l v q) := by
 have H0 := y_ h
 have HB := y_ hb
 have HW := y_ hw
 have HT := y_ (show ∀ w1 es1, Turn d mp w es w1 es1 → Crc.Tab w1 from fun w1 es1 t => hT.below (t.base hx ho).1)
 have HS := y_ hs
 clear h hb hw hT hs hx ho
 by_cases he : v = 0
 ·subst he
  have ca := y_ (fun (w1 : World) hT => Slp.all_any (⟨l.toArray⟩ : ByteArray) w1 (by have := HS.out; simpa [ByteArray.size] using this) hT)
  go_enter Tryz.func7, Tryz.ntmps7
  go_wp2_with (first
   | (go_at_call 36; refine (load_any H0.out HB.out HW.out).mono ?_; rintro e w1 ⟨rfl, es1, k1, t1⟩; have H1 := y_ k1; have TT1 := y_ t1; clear k1 t1)
   | (go_at_call 37; refine (ca.out _ (HT.out _ _ TT1.out)).mono ?_; rintro e w2 ⟨u, rfl, hrow, x2⟩; obtain ⟨-, p0, c, rfl, -, -⟩ := hrow.rd; have HR := y_ hrow; have X2 := y_ x2; clear hrow x2))
  go_ret3
  have hb : Blk (w2.alloc (.cells ((opened l).cells d).toArray 80)) w2.heap.size 80 ((opened l).cells d) := by
   have := Blk.new w2 80 ((opened l).cells d).toArray
   simpa using this
  have ha := Reg.Ext.alloc w2 (.cells ((opened l).cells d).toArray 80)
  have ev : Obj.cells ((opened l).cells d).toArray 80 = .cells #[.pointer (some ⟨d, 0, none⟩), .int .i64 ((allP l).1.length : Int), .int .i64 ((allP l).1.length : Int), .int .i64 ((allP l).2 : Int), .bool (decide ((allP l).2 < l.length))] 80 := by
   unfold opened Y.cells
   simp
  rw [ev] at hb ha
  generalize w2.alloc (.cells #[.pointer (some ⟨d, 0, none⟩), .int .i64 ((allP l).1.length : Int), .int .i64 ((allP l).1.length : Int), .int .i64 ((allP l).2 : Int), .bool (decide ((allP l).2 < l.length))] 80) = w3 at hb ha ⊢
  have hD3 := (H1.out.ext (X2.out.trans ha))
  have hs1 := TT1.out.size
  have hs2 := X2.out.size
  have hlt := hb.lt
  refine ⟨es1, hD3, TT1.out.trans (Turn.ext (X2.out.trans ha)), .inr ⟨rfl, w2.heap.size, _, rfl, by omega, ⟨hD3, ⟨hlt, fun o => ?_⟩, hb⟩, ⟨⟨?_, HR.out.2⟩, fun b hbv => ?_⟩⟩⟩
  ·have := H1.out.dk.own_lt o; omega
  ·exact own_ext (World.ownsRow.mono HR.out.1 hs1) ha
  ·obtain ⟨k1, k2⟩ := HR.out.1.lt b hbv
   refine ⟨by omega, by omega, fun o => ?_⟩
   have := H1.out.dk.own_lt o; omega
 ·have z1 := ne_z he
  have HE := y_ he
  clear he
  go_enter Tryz.func7, Tryz.ntmps7
  go_wp2_with (go_at_call 36; refine (load_any H0.out HB.out HW.out).mono ?_; rintro e w1 ⟨rfl, es1, k1, t1⟩; have H1 := y_ k1; have TT1 := y_ t1; clear k1 t1)
  go_ret3
  exact ⟨es1, H1.out, TT1.out, .inl ⟨HE.out, rfl⟩⟩
set_option maxRecDepth 100000 in
set_option maxHeartbeats 4000000 in
theorem replace_any {w : World} {d mp : Nat} {es : List E} {p : P} {g : Nat} {y : Y} (h : Dy w d mp es p g y) (hb : p.h.ops + 5 < big) (s : List UInt8) (hl : s.length ≤ 4294967296) {v : Int} {q : P} (hw : p.replace s = (v, q)) :
  Calls Tryz.prog 57 #[.pointer (some ⟨g, 0, none⟩), .string ⟨s.toArray⟩] w (ResG d mp w es (.int .i64 v) q) := by
 have H0 := y_ h
 have HL := y_ hl
 obtain ⟨c0, -, -, -, -⟩ := H0.out.c
 have B0 : Hid (p.h.ops < big) := y_ (by unfold big at *; omega)
 obtain ⟨e1, p1, E1⟩ : ∃ e1 p1, Hid (p.sweep = (e1, p1)) := ⟨_, _, rfl⟩
 have O1 : Hid (p1.h.ops + 4 < big) := y_ (by have := ops_le ops_sweep E1.out; unfold big at *; omega)
 have B1 : Hid (p1.h.ops < big) := y_ (by have := O1.out; unfold big at *; omega)
 clear h hb hl
 by_cases he1 : e1 = 0
 ·subst he1
  obtain ⟨e2, p2, E2⟩ : ∃ e2 p2, Hid (p1.create nN = (e2, p2)) := ⟨_, _, rfl⟩
  have O2 : Hid (p2.h.ops + 3 < big) := y_ (by have := ops_le (fun p => ops_create p nN) E2.out; have := O1.out; unfold big at *; omega)
  have B2 : Hid (p2.h.ops < big) := y_ (by have := O2.out; unfold big at *; omega)
  by_cases he2 : e2 = 0
  ·subst he2
   by_cases hs : s = []
   ·obtain ⟨p3, hp3⟩ : ∃ p3, p3 = p2 := ⟨_, rfl⟩
    have EP : Hid (p2.put s = (0, p3)) := y_ (by unfold P.put; rw [if_pos hs, hp3])
    subst hp3 hs
    have O3 : Hid (p3.h.ops + 2 < big) := y_ (by have := O2.out; unfold big at *; omega)
    have B3 := B2
    obtain ⟨e4, p4, E4⟩ : ∃ e4 p4, Hid (p3.sync nN = (e4, p4)) := ⟨_, _, rfl⟩
    have O4 : Hid (p4.h.ops < big) := y_ (by have := ops_le (fun p => ops_sync p nN) E4.out; have := O3.out; unfold big at *; omega)
    have B4 := O4
    by_cases he4 : e4 = 0
    ·subst he4
     obtain ⟨e5, p5, E5⟩ : ∃ e5 p5, Hid (p4.rename nN nD = (e5, p5)) := ⟨_, _, rfl⟩
     have hr : p.replace [] = (e5, p5) := by unfold P.replace; rw [pthen_ok E1.out, pthen_ok E2.out, pthen_ok EP.out, pthen_ok E4.out, E5.out]
     rw [hr] at hw
     cases hw
     clear hr
     go_enter Tryz.func57, Tryz.ntmps57
     go_wp2_with (first
      | (go_at_call 61; refine (sweep_any H0.out.dg B0.out E1.out).mono ?_; rintro e w1 ⟨rfl, es1, k1, t1⟩; have H1 := y_ (H0.out.turn k1 t1); have TT1 := y_ t1; clear k1 t1 c0; obtain ⟨c0, -, -, -, -⟩ := H1.out.c)
      | (go_at_call 62; refine (Dg.createN H1.out.dg B1.out E2.out).mono ?_; rintro e w2 ⟨rfl, es2, k2, t2⟩; have H2 := y_ (H1.out.turn k2 t2); have TT2 := y_ (TT1.out.trans t2); clear k2 t2 c0; obtain ⟨c0, -, -, -, -⟩ := H2.out.c)
      | (go_at_call 19; refine (Dg.appendN H2.out.dg B2.out HL.out E3.out).mono ?_; rintro e w3 ⟨rfl, es3, k3, t3⟩; have H3 := y_ (H2.out.turn k3 t3); have TT3 := y_ (TT2.out.trans t3); clear k3 t3 c0; obtain ⟨c0, -, -, -, -⟩ := H3.out.c)
      | (go_at_call 55; refine (Dg.syncN H2.out.dg B3.out E4.out).mono ?_; rintro e w4 ⟨rfl, es4, k4, t4⟩; have H4 := y_ (H2.out.turn k4 t4); have TT4 := y_ (TT2.out.trans t4); clear k4 t4 c0; obtain ⟨c0, -, -, -, -⟩ := H4.out.c)
      | (go_at_call 82; refine (Dg.renameND H4.out.dg B4.out E5.out).mono ?_; rintro e w5 ⟨rfl, es5, k5, t5⟩; have H5 := y_ (H4.out.turn k5 t5); have TT5 := y_ (TT4.out.trans t5); clear k5 t5 c0))
     go_ret
     exact ⟨rfl, es5, H5.out.dg, TT5.out⟩
    ·have z4 := ne_z he4
     have hr : p.replace [] = (e4, p4) := by unfold P.replace; rw [pthen_ok E1.out, pthen_ok E2.out, pthen_ok EP.out, pthen_err E4.out he4]
     rw [hr] at hw
     cases hw
     clear hr he4
     go_enter Tryz.func57, Tryz.ntmps57
     go_wp2_with (first
      | (go_at_call 61; refine (sweep_any H0.out.dg B0.out E1.out).mono ?_; rintro e w1 ⟨rfl, es1, k1, t1⟩; have H1 := y_ (H0.out.turn k1 t1); have TT1 := y_ t1; clear k1 t1 c0; obtain ⟨c0, -, -, -, -⟩ := H1.out.c)
      | (go_at_call 62; refine (Dg.createN H1.out.dg B1.out E2.out).mono ?_; rintro e w2 ⟨rfl, es2, k2, t2⟩; have H2 := y_ (H1.out.turn k2 t2); have TT2 := y_ (TT1.out.trans t2); clear k2 t2 c0; obtain ⟨c0, -, -, -, -⟩ := H2.out.c)
      | (go_at_call 19; refine (Dg.appendN H2.out.dg B2.out HL.out E3.out).mono ?_; rintro e w3 ⟨rfl, es3, k3, t3⟩; have H3 := y_ (H2.out.turn k3 t3); have TT3 := y_ (TT2.out.trans t3); clear k3 t3 c0; obtain ⟨c0, -, -, -, -⟩ := H3.out.c)
      | (go_at_call 55; refine (Dg.syncN H2.out.dg B3.out E4.out).mono ?_; rintro e w4 ⟨rfl, es4, k4, t4⟩; have H4 := y_ (H2.out.turn k4 t4); have TT4 := y_ (TT2.out.trans t4); clear k4 t4 c0; obtain ⟨c0, -, -, -, -⟩ := H4.out.c)
      | (go_at_call 82; refine (Dg.renameND H4.out.dg B4.out E5.out).mono ?_; rintro e w5 ⟨rfl, es5, k5, t5⟩; have H5 := y_ (H4.out.turn k5 t5); have TT5 := y_ (TT4.out.trans t5); clear k5 t5 c0))
     go_ret
     exact ⟨rfl, es4, H4.out.dg, TT4.out⟩
   ·obtain ⟨e3, p3, E3⟩ : ∃ e3 p3, Hid (p2.append nN s = (e3, p3)) := ⟨_, _, rfl⟩
    have EP0 : Hid (p2.put s = (e3, p3)) := y_ (by unfold P.put; rw [if_neg hs]; exact E3.out)
    have O3 : Hid (p3.h.ops + 2 < big) := y_ (by have := ops_le (fun p => ops_append p nN s) E3.out; have := O2.out; unfold big at *; omega)
    have B3 : Hid (p3.h.ops < big) := y_ (by have := O3.out; unfold big at *; omega)
    have qs : (s != []) = true := by rw [bne_iff_ne]; exact hs
    have qs2 : (s == []) = false := by rw [beq_eq_false_iff_ne]; exact hs
    by_cases he3 : e3 = 0
    ·subst he3
     have EP := EP0
     clear hs
     obtain ⟨e4, p4, E4⟩ : ∃ e4 p4, Hid (p3.sync nN = (e4, p4)) := ⟨_, _, rfl⟩
     have O4 : Hid (p4.h.ops < big) := y_ (by have := ops_le (fun p => ops_sync p nN) E4.out; have := O3.out; unfold big at *; omega)
     have B4 := O4
     by_cases he4 : e4 = 0
     ·subst he4
      obtain ⟨e5, p5, E5⟩ : ∃ e5 p5, Hid (p4.rename nN nD = (e5, p5)) := ⟨_, _, rfl⟩
      have hr : p.replace s = (e5, p5) := by unfold P.replace; rw [pthen_ok E1.out, pthen_ok E2.out, pthen_ok EP.out, pthen_ok E4.out, E5.out]
      rw [hr] at hw
      cases hw
      clear hr
      go_enter Tryz.func57, Tryz.ntmps57
      go_wp2_with (first
       | (go_at_call 61; refine (sweep_any H0.out.dg B0.out E1.out).mono ?_; rintro e w1 ⟨rfl, es1, k1, t1⟩; have H1 := y_ (H0.out.turn k1 t1); have TT1 := y_ t1; clear k1 t1 c0; obtain ⟨c0, -, -, -, -⟩ := H1.out.c)
       | (go_at_call 62; refine (Dg.createN H1.out.dg B1.out E2.out).mono ?_; rintro e w2 ⟨rfl, es2, k2, t2⟩; have H2 := y_ (H1.out.turn k2 t2); have TT2 := y_ (TT1.out.trans t2); clear k2 t2 c0; obtain ⟨c0, -, -, -, -⟩ := H2.out.c)
       | (go_at_call 19; refine (Dg.appendN H2.out.dg B2.out HL.out E3.out).mono ?_; rintro e w3 ⟨rfl, es3, k3, t3⟩; have H3 := y_ (H2.out.turn k3 t3); have TT3 := y_ (TT2.out.trans t3); clear k3 t3 c0; obtain ⟨c0, -, -, -, -⟩ := H3.out.c)
       | (go_at_call 55; refine (Dg.syncN H3.out.dg B3.out E4.out).mono ?_; rintro e w4 ⟨rfl, es4, k4, t4⟩; have H4 := y_ (H3.out.turn k4 t4); have TT4 := y_ (TT3.out.trans t4); clear k4 t4 c0; obtain ⟨c0, -, -, -, -⟩ := H4.out.c)
       | (go_at_call 82; refine (Dg.renameND H4.out.dg B4.out E5.out).mono ?_; rintro e w5 ⟨rfl, es5, k5, t5⟩; have H5 := y_ (H4.out.turn k5 t5); have TT5 := y_ (TT4.out.trans t5); clear k5 t5 c0))
      go_ret
      exact ⟨rfl, es5, H5.out.dg, TT5.out⟩
     ·have z4 := ne_z he4
      have hr : p.replace s = (e4, p4) := by unfold P.replace; rw [pthen_ok E1.out, pthen_ok E2.out, pthen_ok EP.out, pthen_err E4.out he4]
      rw [hr] at hw
      cases hw
      clear hr he4
      go_enter Tryz.func57, Tryz.ntmps57
      go_wp2_with (first
       | (go_at_call 61; refine (sweep_any H0.out.dg B0.out E1.out).mono ?_; rintro e w1 ⟨rfl, es1, k1, t1⟩; have H1 := y_ (H0.out.turn k1 t1); have TT1 := y_ t1; clear k1 t1 c0; obtain ⟨c0, -, -, -, -⟩ := H1.out.c)
       | (go_at_call 62; refine (Dg.createN H1.out.dg B1.out E2.out).mono ?_; rintro e w2 ⟨rfl, es2, k2, t2⟩; have H2 := y_ (H1.out.turn k2 t2); have TT2 := y_ (TT1.out.trans t2); clear k2 t2 c0; obtain ⟨c0, -, -, -, -⟩ := H2.out.c)
       | (go_at_call 19; refine (Dg.appendN H2.out.dg B2.out HL.out E3.out).mono ?_; rintro e w3 ⟨rfl, es3, k3, t3⟩; have H3 := y_ (H2.out.turn k3 t3); have TT3 := y_ (TT2.out.trans t3); clear k3 t3 c0; obtain ⟨c0, -, -, -, -⟩ := H3.out.c)
       | (go_at_call 55; refine (Dg.syncN H3.out.dg B3.out E4.out).mono ?_; rintro e w4 ⟨rfl, es4, k4, t4⟩; have H4 := y_ (H3.out.turn k4 t4); have TT4 := y_ (TT3.out.trans t4); clear k4 t4 c0; obtain ⟨c0, -, -, -, -⟩ := H4.out.c)
       | (go_at_call 82; refine (Dg.renameND H4.out.dg B4.out E5.out).mono ?_; rintro e w5 ⟨rfl, es5, k5, t5⟩; have H5 := y_ (H4.out.turn k5 t5); have TT5 := y_ (TT4.out.trans t5); clear k5 t5 c0))
      go_ret
      exact ⟨rfl, es4, H4.out.dg, TT4.out⟩
    ·have z3 := ne_z he3
     have hr : p.replace s = (e3, p3) := by unfold P.replace; rw [pthen_ok E1.out, pthen_ok E2.out, pthen_err EP0.out he3]
     rw [hr] at hw
     cases hw
     clear hr he3 hs
     go_enter Tryz.func57, Tryz.ntmps57
     go_wp2_with (first
      | (go_at_call 61; refine (sweep_any H0.out.dg B0.out E1.out).mono ?_; rintro e w1 ⟨rfl, es1, k1, t1⟩; have H1 := y_ (H0.out.turn k1 t1); have TT1 := y_ t1; clear k1 t1 c0; obtain ⟨c0, -, -, -, -⟩ := H1.out.c)
      | (go_at_call 62; refine (Dg.createN H1.out.dg B1.out E2.out).mono ?_; rintro e w2 ⟨rfl, es2, k2, t2⟩; have H2 := y_ (H1.out.turn k2 t2); have TT2 := y_ (TT1.out.trans t2); clear k2 t2 c0; obtain ⟨c0, -, -, -, -⟩ := H2.out.c)
      | (go_at_call 19; refine (Dg.appendN H2.out.dg B2.out HL.out E3.out).mono ?_; rintro e w3 ⟨rfl, es3, k3, t3⟩; have H3 := y_ (H2.out.turn k3 t3); have TT3 := y_ (TT2.out.trans t3); clear k3 t3 c0; obtain ⟨c0, -, -, -, -⟩ := H3.out.c)
      | (go_at_call 55; refine (Dg.syncN H3.out.dg B3.out E4.out).mono ?_; rintro e w4 ⟨rfl, es4, k4, t4⟩; have H4 := y_ (H3.out.turn k4 t4); have TT4 := y_ (TT3.out.trans t4); clear k4 t4 c0; obtain ⟨c0, -, -, -, -⟩ := H4.out.c)
      | (go_at_call 82; refine (Dg.renameND H4.out.dg B4.out E5.out).mono ?_; rintro e w5 ⟨rfl, es5, k5, t5⟩; have H5 := y_ (H4.out.turn k5 t5); have TT5 := y_ (TT4.out.trans t5); clear k5 t5 c0))
     go_ret
     exact ⟨rfl, es3, H3.out.dg, TT3.out⟩
  ·have z2 := ne_z he2
   have hr : p.replace s = (e2, p2) := by unfold P.replace; rw [pthen_ok E1.out, pthen_err E2.out he2]
   rw [hr] at hw
   cases hw
   clear hr he2
   go_enter Tryz.func57, Tryz.ntmps57
   go_wp2_with (first
    | (go_at_call 61; refine (sweep_any H0.out.dg B0.out E1.out).mono ?_; rintro e w1 ⟨rfl, es1, k1, t1⟩; have H1 := y_ (H0.out.turn k1 t1); have TT1 := y_ t1; clear k1 t1 c0; obtain ⟨c0, -, -, -, -⟩ := H1.out.c)
    | (go_at_call 62; refine (Dg.createN H1.out.dg B1.out E2.out).mono ?_; rintro e w2 ⟨rfl, es2, k2, t2⟩; have H2 := y_ (H1.out.turn k2 t2); have TT2 := y_ (TT1.out.trans t2); clear k2 t2 c0; obtain ⟨c0, -, -, -, -⟩ := H2.out.c)
    | (go_at_call 19; refine (Dg.appendN H2.out.dg B2.out HL.out E3.out).mono ?_; rintro e w3 ⟨rfl, es3, k3, t3⟩; have H3 := y_ (H2.out.turn k3 t3); have TT3 := y_ (TT2.out.trans t3); clear k3 t3 c0; obtain ⟨c0, -, -, -, -⟩ := H3.out.c)
    | (go_at_call 55; refine (Dg.syncN H3.out.dg B3.out E4.out).mono ?_; rintro e w4 ⟨rfl, es4, k4, t4⟩; have H4 := y_ (H3.out.turn k4 t4); have TT4 := y_ (TT3.out.trans t4); clear k4 t4 c0; obtain ⟨c0, -, -, -, -⟩ := H4.out.c)
    | (go_at_call 82; refine (Dg.renameND H4.out.dg B4.out E5.out).mono ?_; rintro e w5 ⟨rfl, es5, k5, t5⟩; have H5 := y_ (H4.out.turn k5 t5); have TT5 := y_ (TT4.out.trans t5); clear k5 t5 c0))
   go_ret
   exact ⟨rfl, es2, H2.out.dg, TT2.out⟩
 ·have z1 := ne_z he1
  have hr : p.replace s = (e1, p1) := by unfold P.replace; rw [pthen_err E1.out he1]
  rw [hr] at hw
  cases hw
  clear hr he1
  go_enter Tryz.func57, Tryz.ntmps57
  go_wp2_with (first
   | (go_at_call 61; refine (sweep_any H0.out.dg B0.out E1.out).mono ?_; rintro e w1 ⟨rfl, es1, k1, t1⟩; have H1 := y_ (H0.out.turn k1 t1); have TT1 := y_ t1; clear k1 t1 c0; obtain ⟨c0, -, -, -, -⟩ := H1.out.c)
   | (go_at_call 62; refine (Dg.createN H1.out.dg B1.out E2.out).mono ?_; rintro e w2 ⟨rfl, es2, k2, t2⟩; have H2 := y_ (H1.out.turn k2 t2); have TT2 := y_ (TT1.out.trans t2); clear k2 t2 c0; obtain ⟨c0, -, -, -, -⟩ := H2.out.c)
   | (go_at_call 19; refine (Dg.appendN H2.out.dg B2.out HL.out E3.out).mono ?_; rintro e w3 ⟨rfl, es3, k3, t3⟩; have H3 := y_ (H2.out.turn k3 t3); have TT3 := y_ (TT2.out.trans t3); clear k3 t3 c0; obtain ⟨c0, -, -, -, -⟩ := H3.out.c)
   | (go_at_call 55; refine (Dg.syncN H3.out.dg B3.out E4.out).mono ?_; rintro e w4 ⟨rfl, es4, k4, t4⟩; have H4 := y_ (H3.out.turn k4 t4); have TT4 := y_ (TT3.out.trans t4); clear k4 t4 c0; obtain ⟨c0, -, -, -, -⟩ := H4.out.c)
   | (go_at_call 82; refine (Dg.renameND H4.out.dg B4.out E5.out).mono ?_; rintro e w5 ⟨rfl, es5, k5, t5⟩; have H5 := y_ (H4.out.turn k5 t5); have TT5 := y_ (TT4.out.trans t5); clear k5 t5 c0))
  go_ret
  exact ⟨rfl, es1, H1.out.dg, TT1.out⟩
end Plk
end Go.Proofs.YtafeealbdpmdkaaGreatDoor
