/- The document's Sync. -/
import Derived.Test.YtafeealbdpmdkaaGreatDoorDzD
set_option linter.unusedSimpArgs false
set_option linter.unusedVariables false
set_option linter.unusedSectionVars false
open Go.Lib renaming hid → y_
-- squeezed
namespace Go.Proofs.YtafeealbdpmdkaaGreatDoor
open Go Go.RowKit
namespace Plk
open Slp (S good frame body frames allP Row RdS)
open Rk (RD R Sim Both Newer RP plV)
set_option maxRecDepth 100000 in
set_option maxHeartbeats 4000000 in
theorem refSync_any {w : World} {b lb : Nat} {v vL : Value} {r : R} {p : P} {z : Z} (h : Zd w b lb v vL r p z) (ho : p.h.ops + 1 ≤ 1000) :
  Calls Tryz.prog 24 #[.pointer (some ⟨lb, 0, none⟩)] w (RZ b lb w v vL (.int .i64 (zSync p z).1) (zSync p z).2.1 (zSync p z).2.2) := by
 obtain ⟨pL, cL, hvL, -, -⟩ := row_cap h.row
 subst hvL
 have H0 := y_ h
 have C0 := y_ (ZC.refl b lb w v (.slice pL z.L.length cL))
 have HOO := y_ ho
 clear h ho
 generalize hr : zSync p z = t
 unfold zSync at hr
 obtain ⟨sk, hsk⟩ : ∃ s, z.sick = s := ⟨_, rfl⟩
 obtain ⟨c0, c1, c2, c3, c4⟩ := H0.out.c
 rw [hsk] at c4
 cases sk with
 | true =>
   rw [if_pos hsk] at hr
   have HRR := y_ hr.symm
   clear hr hsk
   go_enter Tryz.func24, Tryz.ntmps24
   go_wp2_with fail
   go_ret
   exact RZ.mk_ HRR.out H0.out C0.out
 | false =>
 rw [if_neg (by rw [hsk]; decide)] at hr
 clear hsk
 by_cases hs : z.sure = (z.L.length : Int)
 ·rw [if_pos hs] at hr
  have HRR := y_ hr.symm
  rw [hs] at c2
  clear hr hs
  go_enter Tryz.func24, Tryz.ntmps24
  go_wp2_with fail
  go_quiet (fail)
  go_wp2_with fail
  go_ret
  exact RZ.mk_ HRR.out (H0.out.ext (Reg.Ext.drewN _ _)) (C0.out.ext (Reg.Ext.drewN _ _))
 rw [if_neg hs] at hr
 have q0 : (z.sure == (z.L.length : Int)) = false := beq_eq_false_iff_ne.2 hs
 obtain ⟨e1, p1, E1⟩ : ∃ e1 p1, Hid (p.sync nD = (e1, p1)) := ⟨_, _, rfl⟩
 rw [E1.out] at hr
 clear hs
 by_cases he : e1 = 0
 ·subst he
  rw [if_neg (fun h => h rfl)] at hr
  have HRR := y_ hr.symm
  clear hr
  go_enter Tryz.func24, Tryz.ntmps24
  go_wp2_with fail
  go_quiet (fail)
  go_wp2_with (go_at_call 42; refine ((H0.out.ext (Reg.Ext.drewN _ _)).both.syncD HOO.out E1.out).mono ?_; rintro e w4 ⟨rfl, v4, r4', k, bb, nn⟩; have H4 := y_ ((H0.out.ext (Reg.Ext.drewN _ _)).disk k bb nn); have C4 := y_ ((C0.out.ext (Reg.Ext.drewN _ _)).disk bb nn); have g1 := H4.out.c.2.1; have g2 := H4.out.c.2.2.1; have f2 := H4.out.blk.frozen 2; clear k bb nn)
  go_ret
  exact RZ.mk_ HRR.out (H4.out.cell (z' := { z with sure := (z.L.length : Int) }) 2 (.int .i64 (z.L.length : Int)) rfl rfl) (C4.out.log (But.set_ lb _ 2 _) (Newer.refl _ _))
 ·rw [if_pos he] at hr
  have HRR := y_ hr.symm
  have z1 := ne_z he
  have z2 : (e1 != 0) = true := bne_iff_ne.2 he
  clear hr he
  go_enter Tryz.func24, Tryz.ntmps24
  go_wp2_with fail
  go_quiet (fail)
  go_wp2_with (go_at_call 42; refine ((H0.out.ext (Reg.Ext.drewN _ _)).both.syncD HOO.out E1.out).mono ?_; rintro e w4 ⟨rfl, v4, r4', k, bb, nn⟩; have H4 := y_ ((H0.out.ext (Reg.Ext.drewN _ _)).disk k bb nn); have C4 := y_ ((C0.out.ext (Reg.Ext.drewN _ _)).disk bb nn); have g4 := H4.out.c.2.2.2.2; have f4 := H4.out.blk.frozen 4; clear k bb nn)
  go_ret
  exact RZ.mk_ HRR.out (H4.out.cell (z' := { z with sick := true }) 4 (.bool true) rfl rfl) (C4.out.log (But.set_ lb _ 4 _) (Newer.refl _ _))
end Plk
end Go.Proofs.YtafeealbdpmdkaaGreatDoor
