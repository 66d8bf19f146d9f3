/- The document's Rewrite. -/
import Derived.Test.YtafeealbdpmdkaaGreatDoorDzE
import Derived.Test.YtafeealbdpmdkaaGreatDoorDyE
set_option linter.unusedSimpArgs false
set_option linter.unusedVariables false
set_option linter.unusedSectionVars false
open Go.Act renaming put → z_1, eval → z_2
open List renaming setIfInBounds_toArray → z_3, set_cons_zero → z_4, set_cons_succ → z_5, getElem?_toArray → z_7, getElem?_cons_succ → z_8, getElem?_cons_zero → z_9
open Array renaming getD_eq_getD_getElem? → z_6
open Option renaming getD_some → z_0
open Go.Lib renaming hid → y_
open List renaming size_toArray → z_a
open Nat renaming reduceAdd → z_b
-- squeezed
namespace Go.Proofs.YtafeealbdpmdkaaGreatDoor
open Go Go.RowKit
namespace Plk
open Slp (S good frame body frames allP Row RdS)
open Rk (RD R Sim Both Newer RP plV)
/- behind the bytes: the log's disk (H), the chain (C), the row's text -/
/- from Create on: H, C behind the sweep -/
set_option maxRecDepth 100000 in
set_option maxHeartbeats 8000000 in
theorem refRew_any {w : World} {b lb : Nat} {v vL : Value} {r : R} {p : P} {z : Z} (h : Zd w b lb v vL r p z) (ho : p.h.ops + 5 ≤ 1000) (xs : List S) (u : Value) (hst : ∀ w', B2 b lb w w' → RdS u xs w') (hnil : ∀ n c, u = .slice none n c → c = 0) (hl : xs.length ≤ 100) :
  Calls Tryz.prog 26 #[.pointer (some ⟨lb, 0, none⟩), u] w (RZ b lb w v vL (.int .i64 (zRew p z xs).1) (zRew p z xs).2.1 (zRew p z xs).2.2) := by
 have hu := hst w (B2.refl b lb w)
 have HS := y_ hst
 have HD := y_ hu.1
 have HU := y_ hu
 have HNIL := y_ hnil
 obtain ⟨-, pu, cu, rfl, -, -⟩ := hu
 have HZ := y_ h
 have HOO := y_ ho
 have HUP := y_ h.both.good
 clear h ho hnil hst
 generalize hr : zRew p z xs = res
 unfold zRew at hr
 have HRES := y_ hr
 clear hr
 go_enter Tryz.func26, Tryz.ntmps26
 go_wp2_with fail
 go_loopw [5, 6] (fun s i wr => ∃ k : Nat, k ≤ xs.length ∧ i = .int .i64 (k : Int) ∧ s = .string ⟨(frames (xs.take k)).toArray⟩ ∧ Hid (allGood (xs.take k) = true) ∧ Hid (Reg.Ext w wr)) (fun _ i _ => xs.length - (intOf i).toNat)
 case atStart => exact ⟨0, Nat.zero_le _, rfl, rfl, y_ rfl, y_ (Reg.Ext.refl w)⟩
 case round =>
  obtain ⟨k, hk, rfl, rfl, HG, HX⟩ := hrel
  by_cases hkl : k < xs.length
  ·obtain ⟨p', c', e1, -, hrr⟩ := HU.out.2
   injection e1 with e1 e2 e3
   subst e1 e3
   clear e2
   obtain ⟨ga, oa, rfl, hrk⟩ := hrr k hkl
   have hx := HD.out xs[k] (List.getElem_mem hkl)
   have HTK := y_ (List.take_succ_eq_append_getElem hkl)
   have HRK := y_ (fun w' (hx : Reg.Ext w w') => Slp.rangeAt_ext hrk hx)
   have HLF := y_ (frames_le (xs.take k) (fun y hy => HD.out y (List.mem_of_mem_take hy)) HG.out)
   have HBAD : Hid (good xs[k] = false → allGood xs = false) := y_ fun hg => by
    rw [Bool.eq_false_iff]
    intro h
    unfold allGood at h
    rw [List.all_eq_true] at h
    rw [h _ (List.getElem_mem hkl)] at hg
    cases hg
   clear hrr hrk
   generalize xs[k] = x at *
   go_upto_region 5 with (fail)
   refine wp_region_lit ?_
   iterate 9 go_step
   refine Slp.wpList_sl _ rfl ga (oa + k * 38) rfl x hx (y_ (HRK.out _ HX.out)) rfl ?_
   simp only [z_1, z_2, z_3, z_4, z_5, z_b, z_6, z_7, z_8, z_9, z_0]
   repeat go_step
   refine (Slp.goodR_any x hx _).mono ?_
   rintro e w1 ⟨rfl, hz⟩
   have HX1 := y_ (HX.out.trans hz)
   clear hz
   rename_i hK
   refine hK _ _ ?_
   clear hK
   obtain ⟨gx, hgx⟩ : ∃ b, good x = b := ⟨_, rfl⟩
   rw [hgx]
   cases gx with
   | false =>
     have hr := HRES.out
     rw [if_pos (HBAD.out hgx)] at hr
     have HRR := y_ hr.symm
     clear hr hgx HBAD
     go_wp2_with fail
     go_ret
     exact RZ.mk_ HRR.out (HZ.out.ext HX1.out) ((ZC.refl b lb w v vL).ext HX1.out)
   | true =>
     have CB := y_ (fun w => Slp.bodyR_any x hx hgx w)
     have hbl := body_size hx hgx
     have hfs := Slp.frame_len (body x)
     have CF := y_ (fun w => Slp.framedR_any (⟨(body x).toArray⟩ : ByteArray) w (by show (body x).toArray.size ≤ _; rw [z_a]; omega))
     have HFR : Hid (frames (xs.take (k + 1)) = frames (xs.take k) ++ frame (body x)) := y_ (by rw [HTK.out, Slp.frames_snoc])
     have HG2 : Hid (allGood (xs.take (k + 1)) = true) := y_ (by rw [HTK.out]; have := HG.out; unfold allGood at *; rw [List.all_append, this]; simp [hgx])
     have HL1 : Hid ((frame (body x)).length ≤ 1030) := y_ hbl.1
     clear hgx hbl hfs HBAD
     go_upto_region 7 with (fail)
     refine wp_region_lit ?_
     iterate 12 go_step
     refine Slp.wpList_sl _ rfl ga (oa + k * 38) rfl x hx (y_ (HRK.out _ HX1.out)) rfl ?_
     simp only [z_1, z_2, z_3, z_4, z_5, z_b, z_6, z_7, z_8, z_9, z_0]
     repeat go_step
     refine (CB.out _).mono ?_
     rintro e w2 ⟨rfl, hz⟩
     have HX2 := y_ (HX1.out.trans hz)
     clear hz
     rename_i hK
     refine hK _ _ ?_
     clear hK
     repeat go_step
     refine (CF.out _).mono ?_
     rintro e w3 ⟨rfl, hz⟩
     have HX3 := y_ (HX2.out.trans hz)
     clear hz
     rename_i hK
     refine hK _ _ ?_
     clear hK
     generalize frame (body x) = fb at *
     generalize frames (xs.take k) = fa at *
     go_wp2_with fail
     have HB := y_ (Rk.ba_append fa fb)
     case isTrue => exfalso; have := HLF.out; have := HL1.out; rename_i hbad; simp at hbad; omega
     have HB := Rk.ba_append fa fb
     go_roundw
     case rel => exact ⟨k + 1, by omega, by go_num, by rw [HFR.out, ← HB], HG2, HX3⟩
     all_goals (simp [intOf]; omega)
  ·have hke : k = xs.length := by omega
   subst hke
   rw [List.take_length] at HG ⊢
   have hr := HRES.out
   rw [if_neg (by rw [HG.out]; decide)] at hr
   have hft := frames_le xs HD.out HG.out
   obtain ⟨t, ht⟩ : ∃ t, frames xs = t := ⟨_, rfl⟩
   rw [ht] at hr hft ⊢
   have HR := y_ hr
   have HL : Hid (t.length ≤ 4294967296) := y_ (by omega)
   have HFT := y_ hft
   clear hr ht hft HRES HG
   have H0 := y_ (HZ.out.ext HX.out)
   have C0 := y_ ((ZC.refl b lb w v vL).ext HX.out)
   have O0 : Hid (p.h.ops + 1 ≤ 1000) := y_ (by have := HOO.out; omega)
   obtain ⟨c0, -, -, -, -⟩ := H0.out.c
   obtain ⟨o, hgN⟩ : ∃ o, Nmd.get F.name nN p.fs = o := ⟨_, rfl⟩
   cases o with
   | none =>
     have HPN : Hid (plV p.fs nN = -1) := y_ (get_no HUP.out.up hgN)
     obtain ⟨p1, hp1⟩ : ∃ p1, p1 = p := ⟨_, rfl⟩
     have ES : Hid (p.sweep = (0, p1)) := y_ (by unfold P.sweep; rw [hgN, if_neg (by decide), hp1])
     have H1 : Hid (Zd wr b lb v vL r p1 z) := y_ (by rw [hp1]; exact H0.out)
     have C1 := C0
     have OP1 : Hid (p1.h.ops + 4 ≤ 1000) := y_ (by rw [hp1]; have := HOO.out; omega)
     have O1 : Hid (p1.h.ops + 1 ≤ 1000) := y_ (by have := OP1.out; omega)
     clear hgN hp1
     obtain ⟨e2, p2, E2⟩ : ∃ e2 p2, Hid (p1.create nN = (e2, p2)) := ⟨_, _, rfl⟩
     have OP2 : Hid (p2.h.ops + 3 ≤ 1000) := y_ (by have := ops_le (fun p => ops_create p nN) E2.out; have := OP1.out; omega)
     have O2 : Hid (p2.h.ops + 1 ≤ 1000) := y_ (by have := OP2.out; omega)
     by_cases he2 : e2 = 0
     ·subst he2
      by_cases ht : t = []
      ·obtain ⟨p3, hp3⟩ : ∃ p3, p3 = p2 := ⟨_, rfl⟩
       have EP : Hid (p2.put t = (0, p3)) := y_ (by unfold P.put; rw [if_pos ht, hp3])
       subst hp3
       have OP3 : Hid (p3.h.ops + 2 ≤ 1000) := y_ (by have := OP2.out; omega)
       have O3 := O2
       have HTE := y_ ht
       subst ht
       obtain ⟨e4, p4, E4⟩ : ∃ e4 p4, Hid (p3.sync nN = (e4, p4)) := ⟨_, _, rfl⟩
       have O4 : Hid (p4.h.ops + 1 ≤ 1000) := y_ (by have := ops_le (fun p => ops_sync p nN) E4.out; have := OP3.out; omega)
       by_cases he4 : e4 = 0
       ·subst he4
        obtain ⟨e5, p5, E5⟩ : ∃ e5 p5, Hid (p4.rename nN nD = (e5, p5)) := ⟨_, _, rfl⟩
        have hre : p.replace [] = (e5, p5) := by unfold P.replace; rw [pthen_ok ES.out, pthen_ok E2.out, pthen_ok EP.out, pthen_ok E4.out, E5.out]
        have hr := HR.out
        rw [hre] at hr
        by_cases he5 : e5 = 0
        ·subst he5
         rw [if_neg (fun h => h rfl)] at hr
         have HRR := y_ hr.symm
         clear hr hre
         go_upto_region 25 with (first
          | (go_at_call 38; refine (H0.out.both.placeN HPN.out).mono ?_; rintro e _ ⟨rfl, rfl⟩)
          | (go_at_call 39; refine (H0.out.both.deleteN O0.out E1.out).mono ?_; rintro e w1 ⟨rfl, v1, r1, k, bb, nn⟩; have H1 := y_ (H0.out.disk k bb nn); have C1 := y_ (C0.out.disk bb nn); obtain ⟨c0, -, -, -, -⟩ := H1.out.c; clear k bb nn)
          | (go_at_call 40; refine (H1.out.both.createN O1.out E2.out).mono ?_; rintro e w2 ⟨rfl, v2, r2, k, bb, nn⟩; have H2 := y_ (H1.out.disk k bb nn); have C2 := y_ (C1.out.disk bb nn); obtain ⟨c0, -, -, -, -⟩ := H2.out.c; clear k bb nn)
          | (go_at_call 20; refine (H2.out.both.appendN O2.out HL.out E3.out).mono ?_; rintro e w3 ⟨rfl, v3, r3, k, bb, nn⟩; have H3 := y_ (H2.out.disk k bb nn); have C3 := y_ (C2.out.disk bb nn); obtain ⟨c0, -, -, -, -⟩ := H3.out.c; clear k bb nn)
          | (go_at_call 42; refine (H2.out.both.syncN O3.out E4.out).mono ?_; rintro e w4 ⟨rfl, v4, r4, k, bb, nn⟩; have H4 := y_ (H2.out.disk k bb nn); have C4 := y_ (C2.out.disk bb nn); obtain ⟨c0, -, -, -, -⟩ := H4.out.c; clear k bb nn)
          | (go_at_call 58; refine (H4.out.both.renameND O4.out E5.out).mono ?_; rintro e w5 ⟨rfl, v5, r5, k, bb, nn⟩; have H5 := y_ (H4.out.disk k bb nn); have C5 := y_ (C4.out.disk bb nn); obtain ⟨c0, -, -, -, -⟩ := H5.out.c; clear k bb nn))
         refine wp_region_lit ?_
         iterate 3 go_step
         have X6 := Reg.Ext.alloc w5 (Obj.cells #[] 39)
         have R6 : Row w5.heap.size (.slice (some ⟨w5.heap.size, 0, none⟩) 0 0) [] (w5.alloc (Obj.cells #[] 39)) := ⟨World.ownsRow_made w5 #[] 0 (Nat.le_refl _) (Nat.zero_le _) rfl, by simp⟩
         have HU6 := HS.out _ ((C5.out.ext X6).b2)
         obtain ⟨b5, hb5⟩ : ∃ q, w5.heap.size = q := ⟨_, rfl⟩
         rw [hb5] at R6
         refine Slp.wpList_any (by kernel_rfl) (.slice (some ⟨b5, 0, none⟩) 0 0) (w5.alloc (Obj.cells #[] 39)) (by rw [← hb5]; kernel_rfl) ?_
         generalize w5.alloc (Obj.cells #[] 39) = w6 at *
         simp only [z_1, z_2, z_3, z_4, z_5, z_b, z_6, z_7, z_8, z_9, z_0]
         iterate 3 go_step
         refine Slp.wpList_catr (.tmp 82) (.tmp 83) rfl (.slice (some ⟨b5, 0, none⟩) 0 0) (.slice pu xs.length cu) [] xs b5 (by kernel_rfl) (by kernel_rfl) HU6 HNIL.out R6 (by rw [← hb5]; exact X6.size) (by simp; omega) (by kernel_rfl) ?_
         intro p9 n9 q9 w9 R9 hg9
         have X9 : Reg.Ext w5 w9 := Below.grown X6 hg9 X6.size fun q hq => by rw [hb5]; exact (R6.1.lt q hq).1
         simp only [z_1, z_2, z_3, z_4, z_5, z_b, z_6, z_7, z_8, z_9, z_0]
         have ZN := y_ (H5.out.ext X9)
         have CN := y_ (C5.out.ext X9)
         have HZ5 := y_ H5.out
         have R9H := y_ R9
         obtain ⟨-, c1, c2, c3, c4⟩ := ZN.out.c
         have f1 := ZN.out.blk.frozen 1
         have f2 := ZN.out.blk.frozen 2
         have f3 := ZN.out.blk.frozen 3
         have f4 := ZN.out.blk.frozen 4
         clear X6 R6 HU6 hg9 R9 c0
         go_wp2_with fail
         go_ret
         have R9 : Row b5 (.slice p9 n9 q9) xs w9 := R9H.out
         have hm1 := H5.out
         have hm2 := hm1.blk.lt
         have hm3 := hm1.both.rd.blk.lt
         have hbt := But.set_ lb w9 1 (.slice p9 n9 q9)
         have hlt : ∀ g, (Value.slice p9 n9 q9).ownBlock = some g → w5.heap.size ≤ g ∧ g < w9.heap.size := fun g hg => by rw [hb5]; exact R9.1.lt g hg
         have ZP : Zd (w9.setCell ⟨lb, 1, none⟩ (.slice p9 n9 q9)) b lb v5 (.slice p9 n9 q9) r5 p5 ⟨xs, z.sure, z.size, z.sick⟩ := by
          refine ZN.out.put hbt (by exact ZN.out.blk.set_ 1 _) ⟨World.ownsRow.mono (own_same R9.1 fun g hg => hbt.block g (hlt g hg).2 fun e => by have := hlt g hg; injection e with e; omega) (Nat.zero_le _), R9.2⟩ fun g hg => ⟨?_, ?_, fun e => ?_⟩
          ·have := hlt g hg; omega
          ·have := hlt g hg; omega
          ·have h1 := hlt g hg
           have h2 := hm1.both.rd.row.lt e
           omega
         have Z1 := ZP.cell (z' := ⟨xs, (xs.length : Int), z.size, z.sick⟩) 2 (.int .i64 (xs.length : Int)) rfl rfl
         have Z2 := Z1.cell (z' := ⟨xs, (xs.length : Int), (([] : List UInt8).length : Int), z.sick⟩) 3 (.int .i64 (([] : List UInt8).length : Int)) rfl rfl
         have Z3 := Z2.cell (z' := ⟨xs, (xs.length : Int), (([] : List UInt8).length : Int), false⟩) 4 (.bool false) rfl rfl
         exact RZ.mk_ HRR.out Z3 ((((C5.out.log ((But.of_ext X9).trans hbt) (.inr fun g hg => (hlt g hg).1)).log (But.set_ lb _ 2 _) (Newer.refl _ _)).log (But.set_ lb _ 3 _) (Newer.refl _ _)).log (But.set_ lb _ 4 _) (Newer.refl _ _))
        ·rw [if_pos he5] at hr
         have HRR := y_ hr.symm
         have z5 := ne_z he5
         have z6 : (e5 != 0) = true := bne_iff_ne.2 he5
         clear hr hre he5
         go_upto_region 24 with (first
          | (go_at_call 38; refine (H0.out.both.placeN HPN.out).mono ?_; rintro e _ ⟨rfl, rfl⟩)
          | (go_at_call 39; refine (H0.out.both.deleteN O0.out E1.out).mono ?_; rintro e w1 ⟨rfl, v1, r1, k, bb, nn⟩; have H1 := y_ (H0.out.disk k bb nn); have C1 := y_ (C0.out.disk bb nn); obtain ⟨c0, -, -, -, -⟩ := H1.out.c; clear k bb nn)
          | (go_at_call 40; refine (H1.out.both.createN O1.out E2.out).mono ?_; rintro e w2 ⟨rfl, v2, r2, k, bb, nn⟩; have H2 := y_ (H1.out.disk k bb nn); have C2 := y_ (C1.out.disk bb nn); obtain ⟨c0, -, -, -, -⟩ := H2.out.c; clear k bb nn)
          | (go_at_call 20; refine (H2.out.both.appendN O2.out HL.out E3.out).mono ?_; rintro e w3 ⟨rfl, v3, r3, k, bb, nn⟩; have H3 := y_ (H2.out.disk k bb nn); have C3 := y_ (C2.out.disk bb nn); obtain ⟨c0, -, -, -, -⟩ := H3.out.c; clear k bb nn)
          | (go_at_call 42; refine (H2.out.both.syncN O3.out E4.out).mono ?_; rintro e w4 ⟨rfl, v4, r4, k, bb, nn⟩; have H4 := y_ (H2.out.disk k bb nn); have C4 := y_ (C2.out.disk bb nn); obtain ⟨c0, -, -, -, -⟩ := H4.out.c; clear k bb nn)
          | (go_at_call 58; refine (H4.out.both.renameND O4.out E5.out).mono ?_; rintro e w5 ⟨rfl, v5, r5, k, bb, nn⟩; have H5 := y_ (H4.out.disk k bb nn); have C5 := y_ (C4.out.disk bb nn); obtain ⟨c0, -, -, -, -⟩ := H5.out.c; clear k bb nn))
         go_wp2_with fail
         go_ret
         exact RZ.mk_ HRR.out H5.out C5.out
       ·have hre : p.replace [] = (e4, p4) := by unfold P.replace; rw [pthen_ok ES.out, pthen_ok E2.out, pthen_ok EP.out, pthen_err E4.out he4]
        have hr := HR.out
        rw [hre, if_pos he4] at hr
        have HRR := y_ hr.symm
        have z4 := ne_z he4
        have z6 : (e4 != 0) = true := bne_iff_ne.2 he4
        clear hr hre he4
        go_upto_region 21 with (first
         | (go_at_call 38; refine (H0.out.both.placeN HPN.out).mono ?_; rintro e _ ⟨rfl, rfl⟩)
         | (go_at_call 39; refine (H0.out.both.deleteN O0.out E1.out).mono ?_; rintro e w1 ⟨rfl, v1, r1, k, bb, nn⟩; have H1 := y_ (H0.out.disk k bb nn); have C1 := y_ (C0.out.disk bb nn); obtain ⟨c0, -, -, -, -⟩ := H1.out.c; clear k bb nn)
         | (go_at_call 40; refine (H1.out.both.createN O1.out E2.out).mono ?_; rintro e w2 ⟨rfl, v2, r2, k, bb, nn⟩; have H2 := y_ (H1.out.disk k bb nn); have C2 := y_ (C1.out.disk bb nn); obtain ⟨c0, -, -, -, -⟩ := H2.out.c; clear k bb nn)
         | (go_at_call 20; refine (H2.out.both.appendN O2.out HL.out E3.out).mono ?_; rintro e w3 ⟨rfl, v3, r3, k, bb, nn⟩; have H3 := y_ (H2.out.disk k bb nn); have C3 := y_ (C2.out.disk bb nn); obtain ⟨c0, -, -, -, -⟩ := H3.out.c; clear k bb nn)
         | (go_at_call 42; refine (H2.out.both.syncN O3.out E4.out).mono ?_; rintro e w4 ⟨rfl, v4, r4, k, bb, nn⟩; have H4 := y_ (H2.out.disk k bb nn); have C4 := y_ (C2.out.disk bb nn); obtain ⟨c0, -, -, -, -⟩ := H4.out.c; clear k bb nn)
         | (go_at_call 58; refine (H4.out.both.renameND O4.out E5.out).mono ?_; rintro e w5 ⟨rfl, v5, r5, k, bb, nn⟩; have H5 := y_ (H4.out.disk k bb nn); have C5 := y_ (C4.out.disk bb nn); obtain ⟨c0, -, -, -, -⟩ := H5.out.c; clear k bb nn))
        go_wp2_with fail
        go_ret
        exact RZ.mk_ HRR.out H4.out C4.out
      ·obtain ⟨e3, p3, E3⟩ : ∃ e3 p3, Hid (p2.append nN t = (e3, p3)) := ⟨_, _, rfl⟩
       have EP0 : Hid (p2.put t = (e3, p3)) := y_ (by unfold P.put; rw [if_neg ht]; exact E3.out)
       have OP3 : Hid (p3.h.ops + 2 ≤ 1000) := y_ (by have := ops_le (fun p => ops_append p nN t) E3.out; have := OP2.out; omega)
       have O3 : Hid (p3.h.ops + 1 ≤ 1000) := y_ (by have := OP3.out; omega)
       have qs : (t != []) = true := by rw [bne_iff_ne]; exact ht
       have qs2 : (t == []) = false := by rw [beq_eq_false_iff_ne]; exact ht
       by_cases he3 : e3 = 0
       ·subst he3
        have EP := EP0
        clear ht
        obtain ⟨e4, p4, E4⟩ : ∃ e4 p4, Hid (p3.sync nN = (e4, p4)) := ⟨_, _, rfl⟩
        have O4 : Hid (p4.h.ops + 1 ≤ 1000) := y_ (by have := ops_le (fun p => ops_sync p nN) E4.out; have := OP3.out; omega)
        by_cases he4 : e4 = 0
        ·subst he4
         obtain ⟨e5, p5, E5⟩ : ∃ e5 p5, Hid (p4.rename nN nD = (e5, p5)) := ⟨_, _, rfl⟩
         have hre : p.replace t = (e5, p5) := by unfold P.replace; rw [pthen_ok ES.out, pthen_ok E2.out, pthen_ok EP.out, pthen_ok E4.out, E5.out]
         have hr := HR.out
         rw [hre] at hr
         by_cases he5 : e5 = 0
         ·subst he5
          rw [if_neg (fun h => h rfl)] at hr
          have HRR := y_ hr.symm
          clear hr hre
          go_upto_region 25 with (first
           | (go_at_call 38; refine (H0.out.both.placeN HPN.out).mono ?_; rintro e _ ⟨rfl, rfl⟩)
           | (go_at_call 39; refine (H0.out.both.deleteN O0.out E1.out).mono ?_; rintro e w1 ⟨rfl, v1, r1, k, bb, nn⟩; have H1 := y_ (H0.out.disk k bb nn); have C1 := y_ (C0.out.disk bb nn); obtain ⟨c0, -, -, -, -⟩ := H1.out.c; clear k bb nn)
           | (go_at_call 40; refine (H1.out.both.createN O1.out E2.out).mono ?_; rintro e w2 ⟨rfl, v2, r2, k, bb, nn⟩; have H2 := y_ (H1.out.disk k bb nn); have C2 := y_ (C1.out.disk bb nn); obtain ⟨c0, -, -, -, -⟩ := H2.out.c; clear k bb nn)
           | (go_at_call 20; refine (H2.out.both.appendN O2.out HL.out E3.out).mono ?_; rintro e w3 ⟨rfl, v3, r3, k, bb, nn⟩; have H3 := y_ (H2.out.disk k bb nn); have C3 := y_ (C2.out.disk bb nn); obtain ⟨c0, -, -, -, -⟩ := H3.out.c; clear k bb nn)
           | (go_at_call 42; refine (H3.out.both.syncN O3.out E4.out).mono ?_; rintro e w4 ⟨rfl, v4, r4, k, bb, nn⟩; have H4 := y_ (H3.out.disk k bb nn); have C4 := y_ (C3.out.disk bb nn); obtain ⟨c0, -, -, -, -⟩ := H4.out.c; clear k bb nn)
           | (go_at_call 58; refine (H4.out.both.renameND O4.out E5.out).mono ?_; rintro e w5 ⟨rfl, v5, r5, k, bb, nn⟩; have H5 := y_ (H4.out.disk k bb nn); have C5 := y_ (C4.out.disk bb nn); obtain ⟨c0, -, -, -, -⟩ := H5.out.c; clear k bb nn))
          refine wp_region_lit ?_
          iterate 3 go_step
          have X6 := Reg.Ext.alloc w5 (Obj.cells #[] 39)
          have R6 : Row w5.heap.size (.slice (some ⟨w5.heap.size, 0, none⟩) 0 0) [] (w5.alloc (Obj.cells #[] 39)) := ⟨World.ownsRow_made w5 #[] 0 (Nat.le_refl _) (Nat.zero_le _) rfl, by simp⟩
          have HU6 := HS.out _ ((C5.out.ext X6).b2)
          obtain ⟨b5, hb5⟩ : ∃ q, w5.heap.size = q := ⟨_, rfl⟩
          rw [hb5] at R6
          refine Slp.wpList_any (by kernel_rfl) (.slice (some ⟨b5, 0, none⟩) 0 0) (w5.alloc (Obj.cells #[] 39)) (by rw [← hb5]; kernel_rfl) ?_
          generalize w5.alloc (Obj.cells #[] 39) = w6 at *
          simp only [z_1, z_2, z_3, z_4, z_5, z_b, z_6, z_7, z_8, z_9, z_0]
          iterate 3 go_step
          refine Slp.wpList_catr (.tmp 82) (.tmp 83) rfl (.slice (some ⟨b5, 0, none⟩) 0 0) (.slice pu xs.length cu) [] xs b5 (by kernel_rfl) (by kernel_rfl) HU6 HNIL.out R6 (by rw [← hb5]; exact X6.size) (by simp; omega) (by kernel_rfl) ?_
          intro p9 n9 q9 w9 R9 hg9
          have X9 : Reg.Ext w5 w9 := Below.grown X6 hg9 X6.size fun q hq => by rw [hb5]; exact (R6.1.lt q hq).1
          simp only [z_1, z_2, z_3, z_4, z_5, z_b, z_6, z_7, z_8, z_9, z_0]
          have ZN := y_ (H5.out.ext X9)
          have CN := y_ (C5.out.ext X9)
          have HZ5 := y_ H5.out
          have R9H := y_ R9
          obtain ⟨-, c1, c2, c3, c4⟩ := ZN.out.c
          have f1 := ZN.out.blk.frozen 1
          have f2 := ZN.out.blk.frozen 2
          have f3 := ZN.out.blk.frozen 3
          have f4 := ZN.out.blk.frozen 4
          clear X6 R6 HU6 hg9 R9 c0
          go_wp2_with fail
          go_ret
          have R9 : Row b5 (.slice p9 n9 q9) xs w9 := R9H.out
          have hm1 := H5.out
          have hm2 := hm1.blk.lt
          have hm3 := hm1.both.rd.blk.lt
          have hbt := But.set_ lb w9 1 (.slice p9 n9 q9)
          have hlt : ∀ g, (Value.slice p9 n9 q9).ownBlock = some g → w5.heap.size ≤ g ∧ g < w9.heap.size := fun g hg => by rw [hb5]; exact R9.1.lt g hg
          have ZP : Zd (w9.setCell ⟨lb, 1, none⟩ (.slice p9 n9 q9)) b lb v5 (.slice p9 n9 q9) r5 p5 ⟨xs, z.sure, z.size, z.sick⟩ := by
           refine ZN.out.put hbt (by exact ZN.out.blk.set_ 1 _) ⟨World.ownsRow.mono (own_same R9.1 fun g hg => hbt.block g (hlt g hg).2 fun e => by have := hlt g hg; injection e with e; omega) (Nat.zero_le _), R9.2⟩ fun g hg => ⟨?_, ?_, fun e => ?_⟩
           ·have := hlt g hg; omega
           ·have := hlt g hg; omega
           ·have h1 := hlt g hg
            have h2 := hm1.both.rd.row.lt e
            omega
          have Z1 := ZP.cell (z' := ⟨xs, (xs.length : Int), z.size, z.sick⟩) 2 (.int .i64 (xs.length : Int)) rfl rfl
          have Z2 := Z1.cell (z' := ⟨xs, (xs.length : Int), ((t : List UInt8).length : Int), z.sick⟩) 3 (.int .i64 ((t : List UInt8).length : Int)) rfl rfl
          have Z3 := Z2.cell (z' := ⟨xs, (xs.length : Int), ((t : List UInt8).length : Int), false⟩) 4 (.bool false) rfl rfl
          exact RZ.mk_ HRR.out Z3 ((((C5.out.log ((But.of_ext X9).trans hbt) (.inr fun g hg => (hlt g hg).1)).log (But.set_ lb _ 2 _) (Newer.refl _ _)).log (But.set_ lb _ 3 _) (Newer.refl _ _)).log (But.set_ lb _ 4 _) (Newer.refl _ _))
         ·rw [if_pos he5] at hr
          have HRR := y_ hr.symm
          have z5 := ne_z he5
          have z6 : (e5 != 0) = true := bne_iff_ne.2 he5
          clear hr hre he5
          go_upto_region 24 with (first
           | (go_at_call 38; refine (H0.out.both.placeN HPN.out).mono ?_; rintro e _ ⟨rfl, rfl⟩)
           | (go_at_call 39; refine (H0.out.both.deleteN O0.out E1.out).mono ?_; rintro e w1 ⟨rfl, v1, r1, k, bb, nn⟩; have H1 := y_ (H0.out.disk k bb nn); have C1 := y_ (C0.out.disk bb nn); obtain ⟨c0, -, -, -, -⟩ := H1.out.c; clear k bb nn)
           | (go_at_call 40; refine (H1.out.both.createN O1.out E2.out).mono ?_; rintro e w2 ⟨rfl, v2, r2, k, bb, nn⟩; have H2 := y_ (H1.out.disk k bb nn); have C2 := y_ (C1.out.disk bb nn); obtain ⟨c0, -, -, -, -⟩ := H2.out.c; clear k bb nn)
           | (go_at_call 20; refine (H2.out.both.appendN O2.out HL.out E3.out).mono ?_; rintro e w3 ⟨rfl, v3, r3, k, bb, nn⟩; have H3 := y_ (H2.out.disk k bb nn); have C3 := y_ (C2.out.disk bb nn); obtain ⟨c0, -, -, -, -⟩ := H3.out.c; clear k bb nn)
           | (go_at_call 42; refine (H3.out.both.syncN O3.out E4.out).mono ?_; rintro e w4 ⟨rfl, v4, r4, k, bb, nn⟩; have H4 := y_ (H3.out.disk k bb nn); have C4 := y_ (C3.out.disk bb nn); obtain ⟨c0, -, -, -, -⟩ := H4.out.c; clear k bb nn)
           | (go_at_call 58; refine (H4.out.both.renameND O4.out E5.out).mono ?_; rintro e w5 ⟨rfl, v5, r5, k, bb, nn⟩; have H5 := y_ (H4.out.disk k bb nn); have C5 := y_ (C4.out.disk bb nn); obtain ⟨c0, -, -, -, -⟩ := H5.out.c; clear k bb nn))
          go_wp2_with fail
          go_ret
          exact RZ.mk_ HRR.out H5.out C5.out
        ·have hre : p.replace t = (e4, p4) := by unfold P.replace; rw [pthen_ok ES.out, pthen_ok E2.out, pthen_ok EP.out, pthen_err E4.out he4]
         have hr := HR.out
         rw [hre, if_pos he4] at hr
         have HRR := y_ hr.symm
         have z4 := ne_z he4
         have z6 : (e4 != 0) = true := bne_iff_ne.2 he4
         clear hr hre he4
         go_upto_region 21 with (first
          | (go_at_call 38; refine (H0.out.both.placeN HPN.out).mono ?_; rintro e _ ⟨rfl, rfl⟩)
          | (go_at_call 39; refine (H0.out.both.deleteN O0.out E1.out).mono ?_; rintro e w1 ⟨rfl, v1, r1, k, bb, nn⟩; have H1 := y_ (H0.out.disk k bb nn); have C1 := y_ (C0.out.disk bb nn); obtain ⟨c0, -, -, -, -⟩ := H1.out.c; clear k bb nn)
          | (go_at_call 40; refine (H1.out.both.createN O1.out E2.out).mono ?_; rintro e w2 ⟨rfl, v2, r2, k, bb, nn⟩; have H2 := y_ (H1.out.disk k bb nn); have C2 := y_ (C1.out.disk bb nn); obtain ⟨c0, -, -, -, -⟩ := H2.out.c; clear k bb nn)
          | (go_at_call 20; refine (H2.out.both.appendN O2.out HL.out E3.out).mono ?_; rintro e w3 ⟨rfl, v3, r3, k, bb, nn⟩; have H3 := y_ (H2.out.disk k bb nn); have C3 := y_ (C2.out.disk bb nn); obtain ⟨c0, -, -, -, -⟩ := H3.out.c; clear k bb nn)
          | (go_at_call 42; refine (H3.out.both.syncN O3.out E4.out).mono ?_; rintro e w4 ⟨rfl, v4, r4, k, bb, nn⟩; have H4 := y_ (H3.out.disk k bb nn); have C4 := y_ (C3.out.disk bb nn); obtain ⟨c0, -, -, -, -⟩ := H4.out.c; clear k bb nn)
          | (go_at_call 58; refine (H4.out.both.renameND O4.out E5.out).mono ?_; rintro e w5 ⟨rfl, v5, r5, k, bb, nn⟩; have H5 := y_ (H4.out.disk k bb nn); have C5 := y_ (C4.out.disk bb nn); obtain ⟨c0, -, -, -, -⟩ := H5.out.c; clear k bb nn))
         go_wp2_with fail
         go_ret
         exact RZ.mk_ HRR.out H4.out C4.out
       ·have hre : p.replace t = (e3, p3) := by unfold P.replace; rw [pthen_ok ES.out, pthen_ok E2.out, pthen_err EP0.out he3]
        have hr := HR.out
        rw [hre, if_pos he3] at hr
        have HRR := y_ hr.symm
        have z3 := ne_z he3
        have z6 : (e3 != 0) = true := bne_iff_ne.2 he3
        clear hr hre he3 ht
        go_upto_region 18 with (first
         | (go_at_call 38; refine (H0.out.both.placeN HPN.out).mono ?_; rintro e _ ⟨rfl, rfl⟩)
         | (go_at_call 39; refine (H0.out.both.deleteN O0.out E1.out).mono ?_; rintro e w1 ⟨rfl, v1, r1, k, bb, nn⟩; have H1 := y_ (H0.out.disk k bb nn); have C1 := y_ (C0.out.disk bb nn); obtain ⟨c0, -, -, -, -⟩ := H1.out.c; clear k bb nn)
         | (go_at_call 40; refine (H1.out.both.createN O1.out E2.out).mono ?_; rintro e w2 ⟨rfl, v2, r2, k, bb, nn⟩; have H2 := y_ (H1.out.disk k bb nn); have C2 := y_ (C1.out.disk bb nn); obtain ⟨c0, -, -, -, -⟩ := H2.out.c; clear k bb nn)
         | (go_at_call 20; refine (H2.out.both.appendN O2.out HL.out E3.out).mono ?_; rintro e w3 ⟨rfl, v3, r3, k, bb, nn⟩; have H3 := y_ (H2.out.disk k bb nn); have C3 := y_ (C2.out.disk bb nn); obtain ⟨c0, -, -, -, -⟩ := H3.out.c; clear k bb nn)
         | (go_at_call 42; refine (H3.out.both.syncN O3.out E4.out).mono ?_; rintro e w4 ⟨rfl, v4, r4, k, bb, nn⟩; have H4 := y_ (H3.out.disk k bb nn); have C4 := y_ (C3.out.disk bb nn); obtain ⟨c0, -, -, -, -⟩ := H4.out.c; clear k bb nn)
         | (go_at_call 58; refine (H4.out.both.renameND O4.out E5.out).mono ?_; rintro e w5 ⟨rfl, v5, r5, k, bb, nn⟩; have H5 := y_ (H4.out.disk k bb nn); have C5 := y_ (C4.out.disk bb nn); obtain ⟨c0, -, -, -, -⟩ := H5.out.c; clear k bb nn))
        go_wp2_with fail
        go_ret
        exact RZ.mk_ HRR.out H3.out C3.out
     ·have hre : p.replace t = (e2, p2) := by unfold P.replace; rw [pthen_ok ES.out, pthen_err E2.out he2]
      have hr := HR.out
      rw [hre, if_pos he2] at hr
      have HRR := y_ hr.symm
      have z2 := ne_z he2
      have z6 : (e2 != 0) = true := bne_iff_ne.2 he2
      clear hr hre he2
      go_upto_region 14 with (first
       | (go_at_call 38; refine (H0.out.both.placeN HPN.out).mono ?_; rintro e _ ⟨rfl, rfl⟩)
       | (go_at_call 39; refine (H0.out.both.deleteN O0.out E1.out).mono ?_; rintro e w1 ⟨rfl, v1, r1, k, bb, nn⟩; have H1 := y_ (H0.out.disk k bb nn); have C1 := y_ (C0.out.disk bb nn); obtain ⟨c0, -, -, -, -⟩ := H1.out.c; clear k bb nn)
       | (go_at_call 40; refine (H1.out.both.createN O1.out E2.out).mono ?_; rintro e w2 ⟨rfl, v2, r2, k, bb, nn⟩; have H2 := y_ (H1.out.disk k bb nn); have C2 := y_ (C1.out.disk bb nn); obtain ⟨c0, -, -, -, -⟩ := H2.out.c; clear k bb nn)
       | (go_at_call 20; refine (H2.out.both.appendN O2.out HL.out E3.out).mono ?_; rintro e w3 ⟨rfl, v3, r3, k, bb, nn⟩; have H3 := y_ (H2.out.disk k bb nn); have C3 := y_ (C2.out.disk bb nn); obtain ⟨c0, -, -, -, -⟩ := H3.out.c; clear k bb nn)
       | (go_at_call 42; refine (H3.out.both.syncN O3.out E4.out).mono ?_; rintro e w4 ⟨rfl, v4, r4, k, bb, nn⟩; have H4 := y_ (H3.out.disk k bb nn); have C4 := y_ (C3.out.disk bb nn); obtain ⟨c0, -, -, -, -⟩ := H4.out.c; clear k bb nn)
       | (go_at_call 58; refine (H4.out.both.renameND O4.out E5.out).mono ?_; rintro e w5 ⟨rfl, v5, r5, k, bb, nn⟩; have H5 := y_ (H4.out.disk k bb nn); have C5 := y_ (C4.out.disk bb nn); obtain ⟨c0, -, -, -, -⟩ := H5.out.c; clear k bb nn))
      go_wp2_with fail
      go_ret
      exact RZ.mk_ HRR.out H2.out C2.out
   | some f0 =>
     obtain ⟨kn, -, -, hkn⟩ := get_ok HUP.out.up hgN
     have HPN : Hid (plV p.fs nN = (kn : Int)) := y_ hkn
     obtain ⟨e1, p1, E1⟩ : ∃ e1 p1, Hid (p.delete nN = (e1, p1)) := ⟨_, _, rfl⟩
     have ES : Hid (p.sweep = (e1, p1)) := y_ (by unfold P.sweep; rw [hgN, if_pos (by rfl)]; exact E1.out)
     have OP1 : Hid (p1.h.ops + 4 ≤ 1000) := y_ (by have := ops_le (fun p => ops_delete p nN) E1.out; have := HOO.out; omega)
     have O1 : Hid (p1.h.ops + 1 ≤ 1000) := y_ (by have := OP1.out; omega)
     clear hgN hkn
     by_cases he1 : e1 = 0
     ·subst he1
      obtain ⟨e2, p2, E2⟩ : ∃ e2 p2, Hid (p1.create nN = (e2, p2)) := ⟨_, _, rfl⟩
      have OP2 : Hid (p2.h.ops + 3 ≤ 1000) := y_ (by have := ops_le (fun p => ops_create p nN) E2.out; have := OP1.out; omega)
      have O2 : Hid (p2.h.ops + 1 ≤ 1000) := y_ (by have := OP2.out; omega)
      by_cases he2 : e2 = 0
      ·subst he2
       by_cases ht : t = []
       ·obtain ⟨p3, hp3⟩ : ∃ p3, p3 = p2 := ⟨_, rfl⟩
        have EP : Hid (p2.put t = (0, p3)) := y_ (by unfold P.put; rw [if_pos ht, hp3])
        subst hp3
        have OP3 : Hid (p3.h.ops + 2 ≤ 1000) := y_ (by have := OP2.out; omega)
        have O3 := O2
        have HTE := y_ ht
        subst ht
        obtain ⟨e4, p4, E4⟩ : ∃ e4 p4, Hid (p3.sync nN = (e4, p4)) := ⟨_, _, rfl⟩
        have O4 : Hid (p4.h.ops + 1 ≤ 1000) := y_ (by have := ops_le (fun p => ops_sync p nN) E4.out; have := OP3.out; omega)
        by_cases he4 : e4 = 0
        ·subst he4
         obtain ⟨e5, p5, E5⟩ : ∃ e5 p5, Hid (p4.rename nN nD = (e5, p5)) := ⟨_, _, rfl⟩
         have hre : p.replace [] = (e5, p5) := by unfold P.replace; rw [pthen_ok ES.out, pthen_ok E2.out, pthen_ok EP.out, pthen_ok E4.out, E5.out]
         have hr := HR.out
         rw [hre] at hr
         by_cases he5 : e5 = 0
         ·subst he5
          rw [if_neg (fun h => h rfl)] at hr
          have HRR := y_ hr.symm
          clear hr hre
          go_upto_region 25 with (first
           | (go_at_call 38; refine (H0.out.both.placeN HPN.out).mono ?_; rintro e _ ⟨rfl, rfl⟩)
           | (go_at_call 39; refine (H0.out.both.deleteN O0.out E1.out).mono ?_; rintro e w1 ⟨rfl, v1, r1, k, bb, nn⟩; have H1 := y_ (H0.out.disk k bb nn); have C1 := y_ (C0.out.disk bb nn); obtain ⟨c0, -, -, -, -⟩ := H1.out.c; clear k bb nn)
           | (go_at_call 40; refine (H1.out.both.createN O1.out E2.out).mono ?_; rintro e w2 ⟨rfl, v2, r2, k, bb, nn⟩; have H2 := y_ (H1.out.disk k bb nn); have C2 := y_ (C1.out.disk bb nn); obtain ⟨c0, -, -, -, -⟩ := H2.out.c; clear k bb nn)
           | (go_at_call 20; refine (H2.out.both.appendN O2.out HL.out E3.out).mono ?_; rintro e w3 ⟨rfl, v3, r3, k, bb, nn⟩; have H3 := y_ (H2.out.disk k bb nn); have C3 := y_ (C2.out.disk bb nn); obtain ⟨c0, -, -, -, -⟩ := H3.out.c; clear k bb nn)
           | (go_at_call 42; refine (H2.out.both.syncN O3.out E4.out).mono ?_; rintro e w4 ⟨rfl, v4, r4, k, bb, nn⟩; have H4 := y_ (H2.out.disk k bb nn); have C4 := y_ (C2.out.disk bb nn); obtain ⟨c0, -, -, -, -⟩ := H4.out.c; clear k bb nn)
           | (go_at_call 58; refine (H4.out.both.renameND O4.out E5.out).mono ?_; rintro e w5 ⟨rfl, v5, r5, k, bb, nn⟩; have H5 := y_ (H4.out.disk k bb nn); have C5 := y_ (C4.out.disk bb nn); obtain ⟨c0, -, -, -, -⟩ := H5.out.c; clear k bb nn))
          refine wp_region_lit ?_
          iterate 3 go_step
          have X6 := Reg.Ext.alloc w5 (Obj.cells #[] 39)
          have R6 : Row w5.heap.size (.slice (some ⟨w5.heap.size, 0, none⟩) 0 0) [] (w5.alloc (Obj.cells #[] 39)) := ⟨World.ownsRow_made w5 #[] 0 (Nat.le_refl _) (Nat.zero_le _) rfl, by simp⟩
          have HU6 := HS.out _ ((C5.out.ext X6).b2)
          obtain ⟨b5, hb5⟩ : ∃ q, w5.heap.size = q := ⟨_, rfl⟩
          rw [hb5] at R6
          refine Slp.wpList_any (by kernel_rfl) (.slice (some ⟨b5, 0, none⟩) 0 0) (w5.alloc (Obj.cells #[] 39)) (by rw [← hb5]; kernel_rfl) ?_
          generalize w5.alloc (Obj.cells #[] 39) = w6 at *
          simp only [z_1, z_2, z_3, z_4, z_5, z_b, z_6, z_7, z_8, z_9, z_0]
          iterate 3 go_step
          refine Slp.wpList_catr (.tmp 82) (.tmp 83) rfl (.slice (some ⟨b5, 0, none⟩) 0 0) (.slice pu xs.length cu) [] xs b5 (by kernel_rfl) (by kernel_rfl) HU6 HNIL.out R6 (by rw [← hb5]; exact X6.size) (by simp; omega) (by kernel_rfl) ?_
          intro p9 n9 q9 w9 R9 hg9
          have X9 : Reg.Ext w5 w9 := Below.grown X6 hg9 X6.size fun q hq => by rw [hb5]; exact (R6.1.lt q hq).1
          simp only [z_1, z_2, z_3, z_4, z_5, z_b, z_6, z_7, z_8, z_9, z_0]
          have ZN := y_ (H5.out.ext X9)
          have CN := y_ (C5.out.ext X9)
          have HZ5 := y_ H5.out
          have R9H := y_ R9
          obtain ⟨-, c1, c2, c3, c4⟩ := ZN.out.c
          have f1 := ZN.out.blk.frozen 1
          have f2 := ZN.out.blk.frozen 2
          have f3 := ZN.out.blk.frozen 3
          have f4 := ZN.out.blk.frozen 4
          clear X6 R6 HU6 hg9 R9 c0
          go_wp2_with fail
          go_ret
          have R9 : Row b5 (.slice p9 n9 q9) xs w9 := R9H.out
          have hm1 := H5.out
          have hm2 := hm1.blk.lt
          have hm3 := hm1.both.rd.blk.lt
          have hbt := But.set_ lb w9 1 (.slice p9 n9 q9)
          have hlt : ∀ g, (Value.slice p9 n9 q9).ownBlock = some g → w5.heap.size ≤ g ∧ g < w9.heap.size := fun g hg => by rw [hb5]; exact R9.1.lt g hg
          have ZP : Zd (w9.setCell ⟨lb, 1, none⟩ (.slice p9 n9 q9)) b lb v5 (.slice p9 n9 q9) r5 p5 ⟨xs, z.sure, z.size, z.sick⟩ := by
           refine ZN.out.put hbt (by exact ZN.out.blk.set_ 1 _) ⟨World.ownsRow.mono (own_same R9.1 fun g hg => hbt.block g (hlt g hg).2 fun e => by have := hlt g hg; injection e with e; omega) (Nat.zero_le _), R9.2⟩ fun g hg => ⟨?_, ?_, fun e => ?_⟩
           ·have := hlt g hg; omega
           ·have := hlt g hg; omega
           ·have h1 := hlt g hg
            have h2 := hm1.both.rd.row.lt e
            omega
          have Z1 := ZP.cell (z' := ⟨xs, (xs.length : Int), z.size, z.sick⟩) 2 (.int .i64 (xs.length : Int)) rfl rfl
          have Z2 := Z1.cell (z' := ⟨xs, (xs.length : Int), (([] : List UInt8).length : Int), z.sick⟩) 3 (.int .i64 (([] : List UInt8).length : Int)) rfl rfl
          have Z3 := Z2.cell (z' := ⟨xs, (xs.length : Int), (([] : List UInt8).length : Int), false⟩) 4 (.bool false) rfl rfl
          exact RZ.mk_ HRR.out Z3 ((((C5.out.log ((But.of_ext X9).trans hbt) (.inr fun g hg => (hlt g hg).1)).log (But.set_ lb _ 2 _) (Newer.refl _ _)).log (But.set_ lb _ 3 _) (Newer.refl _ _)).log (But.set_ lb _ 4 _) (Newer.refl _ _))
         ·rw [if_pos he5] at hr
          have HRR := y_ hr.symm
          have z5 := ne_z he5
          have z6 : (e5 != 0) = true := bne_iff_ne.2 he5
          clear hr hre he5
          go_upto_region 24 with (first
           | (go_at_call 38; refine (H0.out.both.placeN HPN.out).mono ?_; rintro e _ ⟨rfl, rfl⟩)
           | (go_at_call 39; refine (H0.out.both.deleteN O0.out E1.out).mono ?_; rintro e w1 ⟨rfl, v1, r1, k, bb, nn⟩; have H1 := y_ (H0.out.disk k bb nn); have C1 := y_ (C0.out.disk bb nn); obtain ⟨c0, -, -, -, -⟩ := H1.out.c; clear k bb nn)
           | (go_at_call 40; refine (H1.out.both.createN O1.out E2.out).mono ?_; rintro e w2 ⟨rfl, v2, r2, k, bb, nn⟩; have H2 := y_ (H1.out.disk k bb nn); have C2 := y_ (C1.out.disk bb nn); obtain ⟨c0, -, -, -, -⟩ := H2.out.c; clear k bb nn)
           | (go_at_call 20; refine (H2.out.both.appendN O2.out HL.out E3.out).mono ?_; rintro e w3 ⟨rfl, v3, r3, k, bb, nn⟩; have H3 := y_ (H2.out.disk k bb nn); have C3 := y_ (C2.out.disk bb nn); obtain ⟨c0, -, -, -, -⟩ := H3.out.c; clear k bb nn)
           | (go_at_call 42; refine (H2.out.both.syncN O3.out E4.out).mono ?_; rintro e w4 ⟨rfl, v4, r4, k, bb, nn⟩; have H4 := y_ (H2.out.disk k bb nn); have C4 := y_ (C2.out.disk bb nn); obtain ⟨c0, -, -, -, -⟩ := H4.out.c; clear k bb nn)
           | (go_at_call 58; refine (H4.out.both.renameND O4.out E5.out).mono ?_; rintro e w5 ⟨rfl, v5, r5, k, bb, nn⟩; have H5 := y_ (H4.out.disk k bb nn); have C5 := y_ (C4.out.disk bb nn); obtain ⟨c0, -, -, -, -⟩ := H5.out.c; clear k bb nn))
          go_wp2_with fail
          go_ret
          exact RZ.mk_ HRR.out H5.out C5.out
        ·have hre : p.replace [] = (e4, p4) := by unfold P.replace; rw [pthen_ok ES.out, pthen_ok E2.out, pthen_ok EP.out, pthen_err E4.out he4]
         have hr := HR.out
         rw [hre, if_pos he4] at hr
         have HRR := y_ hr.symm
         have z4 := ne_z he4
         have z6 : (e4 != 0) = true := bne_iff_ne.2 he4
         clear hr hre he4
         go_upto_region 21 with (first
          | (go_at_call 38; refine (H0.out.both.placeN HPN.out).mono ?_; rintro e _ ⟨rfl, rfl⟩)
          | (go_at_call 39; refine (H0.out.both.deleteN O0.out E1.out).mono ?_; rintro e w1 ⟨rfl, v1, r1, k, bb, nn⟩; have H1 := y_ (H0.out.disk k bb nn); have C1 := y_ (C0.out.disk bb nn); obtain ⟨c0, -, -, -, -⟩ := H1.out.c; clear k bb nn)
          | (go_at_call 40; refine (H1.out.both.createN O1.out E2.out).mono ?_; rintro e w2 ⟨rfl, v2, r2, k, bb, nn⟩; have H2 := y_ (H1.out.disk k bb nn); have C2 := y_ (C1.out.disk bb nn); obtain ⟨c0, -, -, -, -⟩ := H2.out.c; clear k bb nn)
          | (go_at_call 20; refine (H2.out.both.appendN O2.out HL.out E3.out).mono ?_; rintro e w3 ⟨rfl, v3, r3, k, bb, nn⟩; have H3 := y_ (H2.out.disk k bb nn); have C3 := y_ (C2.out.disk bb nn); obtain ⟨c0, -, -, -, -⟩ := H3.out.c; clear k bb nn)
          | (go_at_call 42; refine (H2.out.both.syncN O3.out E4.out).mono ?_; rintro e w4 ⟨rfl, v4, r4, k, bb, nn⟩; have H4 := y_ (H2.out.disk k bb nn); have C4 := y_ (C2.out.disk bb nn); obtain ⟨c0, -, -, -, -⟩ := H4.out.c; clear k bb nn)
          | (go_at_call 58; refine (H4.out.both.renameND O4.out E5.out).mono ?_; rintro e w5 ⟨rfl, v5, r5, k, bb, nn⟩; have H5 := y_ (H4.out.disk k bb nn); have C5 := y_ (C4.out.disk bb nn); obtain ⟨c0, -, -, -, -⟩ := H5.out.c; clear k bb nn))
         go_wp2_with fail
         go_ret
         exact RZ.mk_ HRR.out H4.out C4.out
       ·obtain ⟨e3, p3, E3⟩ : ∃ e3 p3, Hid (p2.append nN t = (e3, p3)) := ⟨_, _, rfl⟩
        have EP0 : Hid (p2.put t = (e3, p3)) := y_ (by unfold P.put; rw [if_neg ht]; exact E3.out)
        have OP3 : Hid (p3.h.ops + 2 ≤ 1000) := y_ (by have := ops_le (fun p => ops_append p nN t) E3.out; have := OP2.out; omega)
        have O3 : Hid (p3.h.ops + 1 ≤ 1000) := y_ (by have := OP3.out; omega)
        have qs : (t != []) = true := by rw [bne_iff_ne]; exact ht
        have qs2 : (t == []) = false := by rw [beq_eq_false_iff_ne]; exact ht
        by_cases he3 : e3 = 0
        ·subst he3
         have EP := EP0
         clear ht
         obtain ⟨e4, p4, E4⟩ : ∃ e4 p4, Hid (p3.sync nN = (e4, p4)) := ⟨_, _, rfl⟩
         have O4 : Hid (p4.h.ops + 1 ≤ 1000) := y_ (by have := ops_le (fun p => ops_sync p nN) E4.out; have := OP3.out; omega)
         by_cases he4 : e4 = 0
         ·subst he4
          obtain ⟨e5, p5, E5⟩ : ∃ e5 p5, Hid (p4.rename nN nD = (e5, p5)) := ⟨_, _, rfl⟩
          have hre : p.replace t = (e5, p5) := by unfold P.replace; rw [pthen_ok ES.out, pthen_ok E2.out, pthen_ok EP.out, pthen_ok E4.out, E5.out]
          have hr := HR.out
          rw [hre] at hr
          by_cases he5 : e5 = 0
          ·subst he5
           rw [if_neg (fun h => h rfl)] at hr
           have HRR := y_ hr.symm
           clear hr hre
           go_upto_region 25 with (first
            | (go_at_call 38; refine (H0.out.both.placeN HPN.out).mono ?_; rintro e _ ⟨rfl, rfl⟩)
            | (go_at_call 39; refine (H0.out.both.deleteN O0.out E1.out).mono ?_; rintro e w1 ⟨rfl, v1, r1, k, bb, nn⟩; have H1 := y_ (H0.out.disk k bb nn); have C1 := y_ (C0.out.disk bb nn); obtain ⟨c0, -, -, -, -⟩ := H1.out.c; clear k bb nn)
            | (go_at_call 40; refine (H1.out.both.createN O1.out E2.out).mono ?_; rintro e w2 ⟨rfl, v2, r2, k, bb, nn⟩; have H2 := y_ (H1.out.disk k bb nn); have C2 := y_ (C1.out.disk bb nn); obtain ⟨c0, -, -, -, -⟩ := H2.out.c; clear k bb nn)
            | (go_at_call 20; refine (H2.out.both.appendN O2.out HL.out E3.out).mono ?_; rintro e w3 ⟨rfl, v3, r3, k, bb, nn⟩; have H3 := y_ (H2.out.disk k bb nn); have C3 := y_ (C2.out.disk bb nn); obtain ⟨c0, -, -, -, -⟩ := H3.out.c; clear k bb nn)
            | (go_at_call 42; refine (H3.out.both.syncN O3.out E4.out).mono ?_; rintro e w4 ⟨rfl, v4, r4, k, bb, nn⟩; have H4 := y_ (H3.out.disk k bb nn); have C4 := y_ (C3.out.disk bb nn); obtain ⟨c0, -, -, -, -⟩ := H4.out.c; clear k bb nn)
            | (go_at_call 58; refine (H4.out.both.renameND O4.out E5.out).mono ?_; rintro e w5 ⟨rfl, v5, r5, k, bb, nn⟩; have H5 := y_ (H4.out.disk k bb nn); have C5 := y_ (C4.out.disk bb nn); obtain ⟨c0, -, -, -, -⟩ := H5.out.c; clear k bb nn))
           refine wp_region_lit ?_
           iterate 3 go_step
           have X6 := Reg.Ext.alloc w5 (Obj.cells #[] 39)
           have R6 : Row w5.heap.size (.slice (some ⟨w5.heap.size, 0, none⟩) 0 0) [] (w5.alloc (Obj.cells #[] 39)) := ⟨World.ownsRow_made w5 #[] 0 (Nat.le_refl _) (Nat.zero_le _) rfl, by simp⟩
           have HU6 := HS.out _ ((C5.out.ext X6).b2)
           obtain ⟨b5, hb5⟩ : ∃ q, w5.heap.size = q := ⟨_, rfl⟩
           rw [hb5] at R6
           refine Slp.wpList_any (by kernel_rfl) (.slice (some ⟨b5, 0, none⟩) 0 0) (w5.alloc (Obj.cells #[] 39)) (by rw [← hb5]; kernel_rfl) ?_
           generalize w5.alloc (Obj.cells #[] 39) = w6 at *
           simp only [z_1, z_2, z_3, z_4, z_5, z_b, z_6, z_7, z_8, z_9, z_0]
           iterate 3 go_step
           refine Slp.wpList_catr (.tmp 82) (.tmp 83) rfl (.slice (some ⟨b5, 0, none⟩) 0 0) (.slice pu xs.length cu) [] xs b5 (by kernel_rfl) (by kernel_rfl) HU6 HNIL.out R6 (by rw [← hb5]; exact X6.size) (by simp; omega) (by kernel_rfl) ?_
           intro p9 n9 q9 w9 R9 hg9
           have X9 : Reg.Ext w5 w9 := Below.grown X6 hg9 X6.size fun q hq => by rw [hb5]; exact (R6.1.lt q hq).1
           simp only [z_1, z_2, z_3, z_4, z_5, z_b, z_6, z_7, z_8, z_9, z_0]
           have ZN := y_ (H5.out.ext X9)
           have CN := y_ (C5.out.ext X9)
           have HZ5 := y_ H5.out
           have R9H := y_ R9
           obtain ⟨-, c1, c2, c3, c4⟩ := ZN.out.c
           have f1 := ZN.out.blk.frozen 1
           have f2 := ZN.out.blk.frozen 2
           have f3 := ZN.out.blk.frozen 3
           have f4 := ZN.out.blk.frozen 4
           clear X6 R6 HU6 hg9 R9 c0
           go_wp2_with fail
           go_ret
           have R9 : Row b5 (.slice p9 n9 q9) xs w9 := R9H.out
           have hm1 := H5.out
           have hm2 := hm1.blk.lt
           have hm3 := hm1.both.rd.blk.lt
           have hbt := But.set_ lb w9 1 (.slice p9 n9 q9)
           have hlt : ∀ g, (Value.slice p9 n9 q9).ownBlock = some g → w5.heap.size ≤ g ∧ g < w9.heap.size := fun g hg => by rw [hb5]; exact R9.1.lt g hg
           have ZP : Zd (w9.setCell ⟨lb, 1, none⟩ (.slice p9 n9 q9)) b lb v5 (.slice p9 n9 q9) r5 p5 ⟨xs, z.sure, z.size, z.sick⟩ := by
            refine ZN.out.put hbt (by exact ZN.out.blk.set_ 1 _) ⟨World.ownsRow.mono (own_same R9.1 fun g hg => hbt.block g (hlt g hg).2 fun e => by have := hlt g hg; injection e with e; omega) (Nat.zero_le _), R9.2⟩ fun g hg => ⟨?_, ?_, fun e => ?_⟩
            ·have := hlt g hg; omega
            ·have := hlt g hg; omega
            ·have h1 := hlt g hg
             have h2 := hm1.both.rd.row.lt e
             omega
           have Z1 := ZP.cell (z' := ⟨xs, (xs.length : Int), z.size, z.sick⟩) 2 (.int .i64 (xs.length : Int)) rfl rfl
           have Z2 := Z1.cell (z' := ⟨xs, (xs.length : Int), ((t : List UInt8).length : Int), z.sick⟩) 3 (.int .i64 ((t : List UInt8).length : Int)) rfl rfl
           have Z3 := Z2.cell (z' := ⟨xs, (xs.length : Int), ((t : List UInt8).length : Int), false⟩) 4 (.bool false) rfl rfl
           exact RZ.mk_ HRR.out Z3 ((((C5.out.log ((But.of_ext X9).trans hbt) (.inr fun g hg => (hlt g hg).1)).log (But.set_ lb _ 2 _) (Newer.refl _ _)).log (But.set_ lb _ 3 _) (Newer.refl _ _)).log (But.set_ lb _ 4 _) (Newer.refl _ _))
          ·rw [if_pos he5] at hr
           have HRR := y_ hr.symm
           have z5 := ne_z he5
           have z6 : (e5 != 0) = true := bne_iff_ne.2 he5
           clear hr hre he5
           go_upto_region 24 with (first
            | (go_at_call 38; refine (H0.out.both.placeN HPN.out).mono ?_; rintro e _ ⟨rfl, rfl⟩)
            | (go_at_call 39; refine (H0.out.both.deleteN O0.out E1.out).mono ?_; rintro e w1 ⟨rfl, v1, r1, k, bb, nn⟩; have H1 := y_ (H0.out.disk k bb nn); have C1 := y_ (C0.out.disk bb nn); obtain ⟨c0, -, -, -, -⟩ := H1.out.c; clear k bb nn)
            | (go_at_call 40; refine (H1.out.both.createN O1.out E2.out).mono ?_; rintro e w2 ⟨rfl, v2, r2, k, bb, nn⟩; have H2 := y_ (H1.out.disk k bb nn); have C2 := y_ (C1.out.disk bb nn); obtain ⟨c0, -, -, -, -⟩ := H2.out.c; clear k bb nn)
            | (go_at_call 20; refine (H2.out.both.appendN O2.out HL.out E3.out).mono ?_; rintro e w3 ⟨rfl, v3, r3, k, bb, nn⟩; have H3 := y_ (H2.out.disk k bb nn); have C3 := y_ (C2.out.disk bb nn); obtain ⟨c0, -, -, -, -⟩ := H3.out.c; clear k bb nn)
            | (go_at_call 42; refine (H3.out.both.syncN O3.out E4.out).mono ?_; rintro e w4 ⟨rfl, v4, r4, k, bb, nn⟩; have H4 := y_ (H3.out.disk k bb nn); have C4 := y_ (C3.out.disk bb nn); obtain ⟨c0, -, -, -, -⟩ := H4.out.c; clear k bb nn)
            | (go_at_call 58; refine (H4.out.both.renameND O4.out E5.out).mono ?_; rintro e w5 ⟨rfl, v5, r5, k, bb, nn⟩; have H5 := y_ (H4.out.disk k bb nn); have C5 := y_ (C4.out.disk bb nn); obtain ⟨c0, -, -, -, -⟩ := H5.out.c; clear k bb nn))
           go_wp2_with fail
           go_ret
           exact RZ.mk_ HRR.out H5.out C5.out
         ·have hre : p.replace t = (e4, p4) := by unfold P.replace; rw [pthen_ok ES.out, pthen_ok E2.out, pthen_ok EP.out, pthen_err E4.out he4]
          have hr := HR.out
          rw [hre, if_pos he4] at hr
          have HRR := y_ hr.symm
          have z4 := ne_z he4
          have z6 : (e4 != 0) = true := bne_iff_ne.2 he4
          clear hr hre he4
          go_upto_region 21 with (first
           | (go_at_call 38; refine (H0.out.both.placeN HPN.out).mono ?_; rintro e _ ⟨rfl, rfl⟩)
           | (go_at_call 39; refine (H0.out.both.deleteN O0.out E1.out).mono ?_; rintro e w1 ⟨rfl, v1, r1, k, bb, nn⟩; have H1 := y_ (H0.out.disk k bb nn); have C1 := y_ (C0.out.disk bb nn); obtain ⟨c0, -, -, -, -⟩ := H1.out.c; clear k bb nn)
           | (go_at_call 40; refine (H1.out.both.createN O1.out E2.out).mono ?_; rintro e w2 ⟨rfl, v2, r2, k, bb, nn⟩; have H2 := y_ (H1.out.disk k bb nn); have C2 := y_ (C1.out.disk bb nn); obtain ⟨c0, -, -, -, -⟩ := H2.out.c; clear k bb nn)
           | (go_at_call 20; refine (H2.out.both.appendN O2.out HL.out E3.out).mono ?_; rintro e w3 ⟨rfl, v3, r3, k, bb, nn⟩; have H3 := y_ (H2.out.disk k bb nn); have C3 := y_ (C2.out.disk bb nn); obtain ⟨c0, -, -, -, -⟩ := H3.out.c; clear k bb nn)
           | (go_at_call 42; refine (H3.out.both.syncN O3.out E4.out).mono ?_; rintro e w4 ⟨rfl, v4, r4, k, bb, nn⟩; have H4 := y_ (H3.out.disk k bb nn); have C4 := y_ (C3.out.disk bb nn); obtain ⟨c0, -, -, -, -⟩ := H4.out.c; clear k bb nn)
           | (go_at_call 58; refine (H4.out.both.renameND O4.out E5.out).mono ?_; rintro e w5 ⟨rfl, v5, r5, k, bb, nn⟩; have H5 := y_ (H4.out.disk k bb nn); have C5 := y_ (C4.out.disk bb nn); obtain ⟨c0, -, -, -, -⟩ := H5.out.c; clear k bb nn))
          go_wp2_with fail
          go_ret
          exact RZ.mk_ HRR.out H4.out C4.out
        ·have hre : p.replace t = (e3, p3) := by unfold P.replace; rw [pthen_ok ES.out, pthen_ok E2.out, pthen_err EP0.out he3]
         have hr := HR.out
         rw [hre, if_pos he3] at hr
         have HRR := y_ hr.symm
         have z3 := ne_z he3
         have z6 : (e3 != 0) = true := bne_iff_ne.2 he3
         clear hr hre he3 ht
         go_upto_region 18 with (first
          | (go_at_call 38; refine (H0.out.both.placeN HPN.out).mono ?_; rintro e _ ⟨rfl, rfl⟩)
          | (go_at_call 39; refine (H0.out.both.deleteN O0.out E1.out).mono ?_; rintro e w1 ⟨rfl, v1, r1, k, bb, nn⟩; have H1 := y_ (H0.out.disk k bb nn); have C1 := y_ (C0.out.disk bb nn); obtain ⟨c0, -, -, -, -⟩ := H1.out.c; clear k bb nn)
          | (go_at_call 40; refine (H1.out.both.createN O1.out E2.out).mono ?_; rintro e w2 ⟨rfl, v2, r2, k, bb, nn⟩; have H2 := y_ (H1.out.disk k bb nn); have C2 := y_ (C1.out.disk bb nn); obtain ⟨c0, -, -, -, -⟩ := H2.out.c; clear k bb nn)
          | (go_at_call 20; refine (H2.out.both.appendN O2.out HL.out E3.out).mono ?_; rintro e w3 ⟨rfl, v3, r3, k, bb, nn⟩; have H3 := y_ (H2.out.disk k bb nn); have C3 := y_ (C2.out.disk bb nn); obtain ⟨c0, -, -, -, -⟩ := H3.out.c; clear k bb nn)
          | (go_at_call 42; refine (H3.out.both.syncN O3.out E4.out).mono ?_; rintro e w4 ⟨rfl, v4, r4, k, bb, nn⟩; have H4 := y_ (H3.out.disk k bb nn); have C4 := y_ (C3.out.disk bb nn); obtain ⟨c0, -, -, -, -⟩ := H4.out.c; clear k bb nn)
          | (go_at_call 58; refine (H4.out.both.renameND O4.out E5.out).mono ?_; rintro e w5 ⟨rfl, v5, r5, k, bb, nn⟩; have H5 := y_ (H4.out.disk k bb nn); have C5 := y_ (C4.out.disk bb nn); obtain ⟨c0, -, -, -, -⟩ := H5.out.c; clear k bb nn))
         go_wp2_with fail
         go_ret
         exact RZ.mk_ HRR.out H3.out C3.out
      ·have hre : p.replace t = (e2, p2) := by unfold P.replace; rw [pthen_ok ES.out, pthen_err E2.out he2]
       have hr := HR.out
       rw [hre, if_pos he2] at hr
       have HRR := y_ hr.symm
       have z2 := ne_z he2
       have z6 : (e2 != 0) = true := bne_iff_ne.2 he2
       clear hr hre he2
       go_upto_region 14 with (first
        | (go_at_call 38; refine (H0.out.both.placeN HPN.out).mono ?_; rintro e _ ⟨rfl, rfl⟩)
        | (go_at_call 39; refine (H0.out.both.deleteN O0.out E1.out).mono ?_; rintro e w1 ⟨rfl, v1, r1, k, bb, nn⟩; have H1 := y_ (H0.out.disk k bb nn); have C1 := y_ (C0.out.disk bb nn); obtain ⟨c0, -, -, -, -⟩ := H1.out.c; clear k bb nn)
        | (go_at_call 40; refine (H1.out.both.createN O1.out E2.out).mono ?_; rintro e w2 ⟨rfl, v2, r2, k, bb, nn⟩; have H2 := y_ (H1.out.disk k bb nn); have C2 := y_ (C1.out.disk bb nn); obtain ⟨c0, -, -, -, -⟩ := H2.out.c; clear k bb nn)
        | (go_at_call 20; refine (H2.out.both.appendN O2.out HL.out E3.out).mono ?_; rintro e w3 ⟨rfl, v3, r3, k, bb, nn⟩; have H3 := y_ (H2.out.disk k bb nn); have C3 := y_ (C2.out.disk bb nn); obtain ⟨c0, -, -, -, -⟩ := H3.out.c; clear k bb nn)
        | (go_at_call 42; refine (H3.out.both.syncN O3.out E4.out).mono ?_; rintro e w4 ⟨rfl, v4, r4, k, bb, nn⟩; have H4 := y_ (H3.out.disk k bb nn); have C4 := y_ (C3.out.disk bb nn); obtain ⟨c0, -, -, -, -⟩ := H4.out.c; clear k bb nn)
        | (go_at_call 58; refine (H4.out.both.renameND O4.out E5.out).mono ?_; rintro e w5 ⟨rfl, v5, r5, k, bb, nn⟩; have H5 := y_ (H4.out.disk k bb nn); have C5 := y_ (C4.out.disk bb nn); obtain ⟨c0, -, -, -, -⟩ := H5.out.c; clear k bb nn))
       go_wp2_with fail
       go_ret
       exact RZ.mk_ HRR.out H2.out C2.out
     ·have hre : p.replace t = (e1, p1) := by unfold P.replace; rw [pthen_err ES.out he1]
      have hr := HR.out
      rw [hre, if_pos he1] at hr
      have HRR := y_ hr.symm
      have z1 := ne_z he1
      have z6 : (e1 != 0) = true := bne_iff_ne.2 he1
      clear hr hre he1
      go_upto_region 11 with (first
       | (go_at_call 38; refine (H0.out.both.placeN HPN.out).mono ?_; rintro e _ ⟨rfl, rfl⟩)
       | (go_at_call 39; refine (H0.out.both.deleteN O0.out E1.out).mono ?_; rintro e w1 ⟨rfl, v1, r1, k, bb, nn⟩; have H1 := y_ (H0.out.disk k bb nn); have C1 := y_ (C0.out.disk bb nn); obtain ⟨c0, -, -, -, -⟩ := H1.out.c; clear k bb nn)
       | (go_at_call 40; refine (H1.out.both.createN O1.out E2.out).mono ?_; rintro e w2 ⟨rfl, v2, r2, k, bb, nn⟩; have H2 := y_ (H1.out.disk k bb nn); have C2 := y_ (C1.out.disk bb nn); obtain ⟨c0, -, -, -, -⟩ := H2.out.c; clear k bb nn)
       | (go_at_call 20; refine (H2.out.both.appendN O2.out HL.out E3.out).mono ?_; rintro e w3 ⟨rfl, v3, r3, k, bb, nn⟩; have H3 := y_ (H2.out.disk k bb nn); have C3 := y_ (C2.out.disk bb nn); obtain ⟨c0, -, -, -, -⟩ := H3.out.c; clear k bb nn)
       | (go_at_call 42; refine (H3.out.both.syncN O3.out E4.out).mono ?_; rintro e w4 ⟨rfl, v4, r4, k, bb, nn⟩; have H4 := y_ (H3.out.disk k bb nn); have C4 := y_ (C3.out.disk bb nn); obtain ⟨c0, -, -, -, -⟩ := H4.out.c; clear k bb nn)
       | (go_at_call 58; refine (H4.out.both.renameND O4.out E5.out).mono ?_; rintro e w5 ⟨rfl, v5, r5, k, bb, nn⟩; have H5 := y_ (H4.out.disk k bb nn); have C5 := y_ (C4.out.disk bb nn); obtain ⟨c0, -, -, -, -⟩ := H5.out.c; clear k bb nn))
      go_wp2_with fail
      go_ret
      exact RZ.mk_ HRR.out H1.out C1.out
end Plk
end Go.Proofs.YtafeealbdpmdkaaGreatDoor
