/- The walks of fail, Add, Sync, replace. -/
import Derived.Test.YtafeealbdpmdkaaGreatDoorDyY
set_option linter.unusedSimpArgs false
set_option linter.unusedVariables false
set_option linter.unusedSectionVars false
open Go.Act renaming put → z_1, eval → z_2
open List renaming setIfInBounds_toArray → z_3, set_cons_zero → z_4, set_cons_succ → z_5, getElem?_toArray → z_7, getElem?_cons_succ → z_8, getElem?_cons_zero → z_9
open Array renaming getD_eq_getD_getElem? → z_6
open Option renaming getD_some → z_0
open Go.Lib renaming hid → y_
open List renaming size_toArray → z_a
open Nat renaming reduceAdd → z_b
-- squeezed
namespace Go.Proofs.YtafeealbdpmdkaaGreatDoor
open Go Go.RowKit
namespace Plk
open Slp (S good frame body frames allP Row)
set_option maxHeartbeats 1000000 in
theorem fail_any {w : World} {d mp : Nat} {es : List E} {p : P} {g : Nat} {y : Y} (h : Dy w d mp es p g y) (v : Int) : Calls Tryz.prog 51 #[.pointer (some ⟨g, 0, none⟩), .int .i64 v] w fun e w' => e = .returned (.int .i64 v) ∧ Dy w' d mp es p g (y.fail v) ∧ But g w w' := by
 obtain ⟨c0, c1, c2, c3, c4⟩ := h.c
 have f4 := h.blk.frozen 4
 have H := y_ h
 clear h
 obtain ⟨n, sure, size, sick⟩ := y
 dsimp only at c1 c2 c3 c4
 have fin := fun b (hb : b = (sick || !(v == 0))) => H.out.set_ (y' := (⟨n, sure, size, sick⟩ : Y).fail v) 4 (.bool b) (by subst hb; rfl)
 have FIN := y_ fin
 clear fin
 obtain ⟨q, hq⟩ : ∃ q, (v == 0) = q := ⟨_, rfl⟩
 rw [hq] at FIN
 cases sick <;> cases q
 all_goals
  go_enter Tryz.func51, Tryz.ntmps51
  go_wp2_with fail
  go_ret
  exact ⟨rfl, FIN.out _ (by first | rfl | simp [bne, hq])⟩
theorem ResY.mk {d mp g : Nat} {W w' : World} {es es' : List E} {v : Int} {p' : P} {y' : Y} {r : Int × P × Y} (hr : r = (v, p', y')) (h1 : Dy w' d mp es' p' g y') (hT : TurnG d mp g W es w' es') : ResY d mp g W es (.int .i64 r.1) r.2.1 r.2.2 (.returned (.int .i64 v)) w' := by
 subst hr; exact ⟨rfl, es', h1, hT⟩
theorem fail_zero {y : Y} (h : y.sick = false) : y.fail 0 = y := by
 obtain ⟨n, sure, size, sick⟩ := y
 dsimp only at h; subst h; rfl
theorem fail_err {y : Y} {e : Int} (h : e ≠ 0) : y.fail e = { y with sick := true } := by
 unfold Y.fail
 rw [ne_z h]; simp
theorem body_size {x : S} (hx : x.dig.length = 32) (hg : good x = true) : (frame (body x)).length ≤ 1030 ∧ 7 ≤ (frame (body x)).length := by
 have := Slp.body_len x hx hg
 rw [Slp.frame_len]; omega
set_option maxRecDepth 100000 in
set_option maxHeartbeats 2000000 in
theorem add_any {w : World} {d mp : Nat} {es : List E} {p : P} {g : Nat} {y : Y} (h : Dy w d mp es p g y) (hy : y.Fine) (h1 : p.h.ops < big) (x : S) (hx : x.dig.length = 32) (hT : Crc.Tab w) :
  Calls Tryz.prog 21 #[.pointer (some ⟨g, 0, none⟩), .agg x.cells.toArray] w (ResY d mp g w es (.int .i64 (addP p y x).1) (addP p y x).2.1 (addP p y x).2.2) := by
 have H0 := y_ h
 have HY := y_ hy
 have B1 := y_ h1
 have HT := y_ hT
 have hgl := h.out.1
 have BX := y_ (Slp.boxS w x)
 have XA := y_ (Reg.Ext.alloc w (Obj.cells x.cells.toArray 39))
 obtain ⟨c0, c1, c2, c3, c4⟩ := H0.out.c
 clear h hy h1 hT
 generalize hr : addP p y x = r
 unfold addP at hr
 obtain ⟨n, sure, size, sick⟩ := y
 dsimp only at hr c1 c2 c3 c4
 cases sick with
 | true =>
   rw [if_pos rfl] at hr
   have HR := y_ hr.symm
   clear hr
   go_enter Tryz.func21, Tryz.ntmps21
   go_wp2_with fail
   go_ret
   exact ResY.mk HR.out (H0.out.ext XA.out) (TurnG.ext XA.out)
 | false =>
   rw [if_neg (by decide)] at hr
   obtain ⟨gx, hgx⟩ : ∃ b, good x = b := ⟨_, rfl⟩
   cases gx with
   | false =>
     rw [if_pos hgx] at hr
     have HR := y_ hr.symm
     have CW := y_ (fun w => Slp.write_bad x hx hgx w)
     clear hr hgx
     go_enter Tryz.func21, Tryz.ntmps21
     go_upto_region 5 with (fail)
     refine wp_region_lit ?_
     refine wpList_load_row rfl 39 _ rfl w.heap.size rfl 39 (x.cells).toArray (0, 0) _ BX.out Slp.undS rfl (by rw [z_a, Slp.cells_length x hx]; exact Slp.size38) ?_
     simp only [z_1, z_2, z_3, z_4, z_5, z_b, z_6, z_7, z_8, z_9, z_0]
     repeat go_step
     refine (CW.out _).mono ?_
     rintro e w1 ⟨rfl, hx1⟩
     rename_i hK
     refine hK _ _ ?_
     go_wp2_with fail
     go_ret
     exact ResY.mk HR.out (H0.out.ext (XA.out.trans hx1)) (TurnG.ext (XA.out.trans hx1))
   | true =>
     rw [if_neg (by rw [hgx]; decide)] at hr
     have CW := y_ (fun w hT => Slp.write_ok x hx hgx w hT)
     have hl := (body_size hx hgx).1
     obtain ⟨t, ht⟩ : ∃ t, t = frame (body x) := ⟨_, rfl⟩
     rw [← ht] at hr hl CW
     clear ht hgx
     have HL := y_ hl
     clear hl
     obtain ⟨e1, p1, E1⟩ : ∃ e1 p1, Hid (p.append nD t = (e1, p1)) := ⟨_, _, rfl⟩
     have hr := y_ hr
     have HR := hr.out
     rw [E1.out] at HR
     clear hr
     by_cases he : e1 = 0
     ·subst he
      rw [if_neg (fun h => h rfl)] at HR
      have HRR := y_ HR.symm
      clear HR
      have b1 : 0 ≤ n ∧ n < 4611686018427387904 := HY.out.n
      have b2 : 0 ≤ size ∧ size < 4611686018427387904 := HY.out.size
      have m1 : wrap64 (n + 1) = n + 1 := by unfold wrap64; omega
      have m2 : wrap64 (size + (t.length : Int)) = size + (t.length : Int) := by have := HL.out; unfold wrap64; omega
      go_enter Tryz.func21, Tryz.ntmps21
      go_upto_region 5 with (fail)
      refine wp_region_lit ?_
      refine wpList_load_row rfl 39 _ rfl w.heap.size rfl 39 (x.cells).toArray (0, 0) _ BX.out Slp.undS rfl (by rw [z_a, Slp.cells_length x hx]; exact Slp.size38) ?_
      simp only [z_1, z_2, z_3, z_4, z_5, z_b, z_6, z_7, z_8, z_9, z_0]
      repeat go_step
      refine (CW.out _ (HT.out.below XA.out)).mono ?_
      rintro e w1 ⟨rfl, hx1⟩
      have H1 := y_ (H0.out.ext (XA.out.trans hx1))
      have TT1 : Hid (TurnG d mp g w es w1 es) := y_ (TurnG.ext (XA.out.trans hx1))
      clear hx1 c0 c1 c2 c3 c4
      rename_i hK
      refine hK _ _ ?_
      obtain ⟨c0, c1, c2, c3, c4⟩ := H1.out.c
      dsimp only at c1 c2 c3 c4
      go_wp2_with (first
       | (go_at_call 19; refine (Dg.appendD H1.out.dg B1.out (by have := HL.out; omega) E1.out).mono ?_; rintro e w2 ⟨rfl, es2, k2, t2⟩; have H2 := y_ (H1.out.turn k2 t2); have TT2 := y_ (TT1.out.trans (.of t2)); clear k2 t2)
       | (go_at_call 51; refine (fail_any H2.out 0).mono ?_; rintro e w3 ⟨rfl, k3, b3⟩; rw [fail_zero rfl] at k3; have f1 := k3.blk.frozen 1; have f3 := k3.blk.frozen 3; obtain ⟨c0, c1, c2, c3, c4⟩ := k3.c; dsimp only at c1 c2 c3 c4; have H3 := y_ k3; have TT3 := y_ (TT2.out.trans (.but b3)); clear k3 b3))
      go_ret
      have k4 := H3.out.set_ (y' := ⟨n + 1, sure, size, false⟩) 1 (.int .i64 (n + 1)) rfl
      have k5 := k4.1.set_ (y' := ⟨n + 1, sure, size + (t.length : Int), false⟩) 3 (.int .i64 (size + (t.length : Int))) rfl
      exact ResY.mk HRR.out k5.1 ((TT3.out.trans (.but k4.2)).trans (.but k5.2))
     ·rw [if_pos he] at HR
      have HRR := y_ HR.symm
      have z1 := ne_z he
      have HE := y_ he
      clear HR he
      go_enter Tryz.func21, Tryz.ntmps21
      go_upto_region 5 with (fail)
      refine wp_region_lit ?_
      refine wpList_load_row rfl 39 _ rfl w.heap.size rfl 39 (x.cells).toArray (0, 0) _ BX.out Slp.undS rfl (by rw [z_a, Slp.cells_length x hx]; exact Slp.size38) ?_
      simp only [z_1, z_2, z_3, z_4, z_5, z_b, z_6, z_7, z_8, z_9, z_0]
      repeat go_step
      refine (CW.out _ (HT.out.below XA.out)).mono ?_
      rintro e w1 ⟨rfl, hx1⟩
      have H1 := y_ (H0.out.ext (XA.out.trans hx1))
      have TT1 : Hid (TurnG d mp g w es w1 es) := y_ (TurnG.ext (XA.out.trans hx1))
      clear hx1 c0 c1 c2 c3 c4
      rename_i hK
      refine hK _ _ ?_
      obtain ⟨c0, c1, c2, c3, c4⟩ := H1.out.c
      dsimp only at c1 c2 c3 c4
      go_wp2_with (first
       | (go_at_call 19; refine (Dg.appendD H1.out.dg B1.out (by have := HL.out; omega) E1.out).mono ?_; rintro e w2 ⟨rfl, es2, k2, t2⟩; have H2 := y_ (H1.out.turn k2 t2); have TT2 := y_ (TT1.out.trans (.of t2)); clear k2 t2)
       | (go_at_call 51; refine (fail_any H2.out e1).mono ?_; rintro e w3 ⟨rfl, k3, b3⟩; rw [fail_err HE.out] at k3; have f1 := k3.blk.frozen 1; have f3 := k3.blk.frozen 3; obtain ⟨c0, c1, c2, c3, c4⟩ := k3.c; dsimp only at c1 c2 c3 c4; have H3 := y_ k3; have TT3 := y_ (TT2.out.trans (.but b3)); clear k3 b3))
      go_ret
      exact ResY.mk HRR.out H3.out TT3.out
set_option maxRecDepth 100000 in
set_option maxHeartbeats 2000000 in
theorem lsync_any {w : World} {d mp : Nat} {es : List E} {p : P} {g : Nat} {y : Y} (h : Dy w d mp es p g y) (h1 : p.h.ops < big) :
  Calls Tryz.prog 23 #[.pointer (some ⟨g, 0, none⟩)] w (ResY d mp g w es (.int .i64 (syncP p y).1) (syncP p y).2.1 (syncP p y).2.2) := by
 have H0 := y_ h
 have B1 := y_ h1
 obtain ⟨c0, c1, c2, c3, c4⟩ := H0.out.c
 clear h h1
 generalize hr : syncP p y = r
 unfold syncP at hr
 obtain ⟨n, sure, size, sick⟩ := y
 dsimp only at hr c1 c2 c3 c4
 cases sick with
 | true =>
   rw [if_pos rfl] at hr
   have HR := y_ hr.symm
   clear hr
   go_enter Tryz.func23, Tryz.ntmps23
   go_wp2_with fail
   go_ret
   exact ResY.mk HR.out H0.out (TurnG.refl _ _ _ _ _)
 | false =>
   rw [if_neg (by decide)] at hr
   by_cases hs : sure = n
   ·rw [if_pos hs] at hr
    have HR := y_ hr.symm
    clear hr
    subst hs
    go_enter Tryz.func23, Tryz.ntmps23
    go_wp2_with fail
    go_quiet (fail)
    go_wp2_with fail
    go_ret
    exact ResY.mk HR.out (H0.out.ext (Reg.Ext.drewN _ _)) (TurnG.ext (Reg.Ext.drewN _ _))
   ·rw [if_neg hs] at hr
    have q0 : (sure == n) = false := beq_eq_false_iff_ne.2 hs
    obtain ⟨e1, p1, E1⟩ : ∃ e1 p1, Hid (p.sync nD = (e1, p1)) := ⟨_, _, rfl⟩
    rw [E1.out] at hr
    have hr := y_ hr
    have HR := hr.out
    clear hr hs
    by_cases he : e1 = 0
    ·subst he
     rw [if_neg (fun h => h rfl)] at HR
     have HRR := y_ HR.symm
     clear HR
     go_enter Tryz.func23, Tryz.ntmps23
     go_wp2_with fail
     go_quiet (fail)
     go_wp2_with (first
      | (go_at_call 55; refine (Dg.syncD (H0.out.ext (Reg.Ext.drewN _ _)).dg B1.out E1.out).mono ?_; rintro e w2 ⟨rfl, es2, k2, t2⟩; have H2 := y_ ((H0.out.ext (Reg.Ext.drewN _ _)).turn k2 t2); have TT2 : Hid (TurnG d mp g w es w2 es2) := y_ ((TurnG.ext (Reg.Ext.drewN _ _)).trans (.of t2)); clear k2 t2)
      | (go_at_call 51; refine (fail_any H2.out 0).mono ?_; rintro e w3 ⟨rfl, k3, b3⟩; rw [fail_zero rfl] at k3; have f2 := k3.blk.frozen 2; obtain ⟨c0, c1, c2, c3, c4⟩ := k3.c; dsimp only at c1 c2 c3 c4; have H3 := y_ k3; have TT3 := y_ (TT2.out.trans (.but b3)); clear k3 b3))
     go_ret
     have k4 := H3.out.set_ (y' := ⟨n, n, size, false⟩) 2 (.int .i64 n) rfl
     exact ResY.mk HRR.out k4.1 (TT3.out.trans (.but k4.2))
    ·rw [if_pos he] at HR
     have HRR := y_ HR.symm
     have z1 := ne_z he
     have HE := y_ he
     clear HR he
     go_enter Tryz.func23, Tryz.ntmps23
     go_wp2_with fail
     go_quiet (fail)
     go_wp2_with (first
      | (go_at_call 55; refine (Dg.syncD (H0.out.ext (Reg.Ext.drewN _ _)).dg B1.out E1.out).mono ?_; rintro e w2 ⟨rfl, es2, k2, t2⟩; have H2 := y_ ((H0.out.ext (Reg.Ext.drewN _ _)).turn k2 t2); have TT2 : Hid (TurnG d mp g w es w2 es2) := y_ ((TurnG.ext (Reg.Ext.drewN _ _)).trans (.of t2)); clear k2 t2)
      | (go_at_call 51; refine (fail_any H2.out e1).mono ?_; rintro e w3 ⟨rfl, k3, b3⟩; rw [fail_err HE.out] at k3; have f2 := k3.blk.frozen 2; obtain ⟨c0, c1, c2, c3, c4⟩ := k3.c; dsimp only at c1 c2 c3 c4; have H3 := y_ k3; have TT3 := y_ (TT2.out.trans (.but b3)); clear k3 b3))
     go_ret
     exact ResY.mk HRR.out H3.out TT3.out
end Plk
end Go.Proofs.YtafeealbdpmdkaaGreatDoor
