/- The document's Add. -/
import Derived.Test.YtafeealbdpmdkaaGreatDoorDzC
import Derived.Test.YtafeealbdpmdkaaGreatDoorSpR
import Derived.Test.YtafeealbdpmdkaaGreatDoorSpW
set_option linter.unusedSimpArgs false
set_option linter.unusedVariables false
set_option linter.unusedSectionVars false
open Go.Act renaming put → z_1, eval → z_2
open List renaming setIfInBounds_toArray → z_3, set_cons_zero → z_4, set_cons_succ → z_5, getElem?_toArray → z_7, getElem?_cons_succ → z_8, getElem?_cons_zero → z_9
open Array renaming getD_eq_getD_getElem? → z_6
open Option renaming getD_some → z_0
open Go.Lib renaming hid → y_
open List renaming size_toArray → z_a
open Nat renaming reduceAdd → z_b
-- squeezed
namespace Go.Proofs.YtafeealbdpmdkaaGreatDoor
open Go Go.RowKit
namespace Plk
open Slp (S good frame body frames allP Row RdS)
open Rk (RD R Sim Both Newer RP plV)
theorem run_load1 {P : Program} (w : World) (ty : TypeId) (d : TypeDesc) (hu : P.underlying ty = some d) (hd : d.isRow = false) (ad : Addr) (u : Value) (hc : w.cell? ad = some u) : (Instr.loadAt ty (.pointer (some ad))).run P w = .ok u w := by
 have hagg : (isAgg ty).run P w = .ok false w := by
  unfold isAgg
  rw [Sem.run_bind, run_underlying hu w]
  cases d <;> simp_all [TypeDesc.isRow]
 simp [Instr.loadAt, Instr.sureAddr, loadVar, Sem.run_bind, hagg, hc]
theorem yields_load1 {P : Program} {ops : Array Oper} {S : World → Prop} {op : Oper} {a : Act} (hw : Region.wanted op (yielded ops a.tmps) = true) (ty : TypeId) (x : Operand) (ho : op.op = .load ty x) (ad : Addr) (hx : a.eval x = .pointer (some ad))
  (u : Value) (d : TypeDesc) (hu : P.underlying ty = some d) (hd : d.isRow = false) (hS : ∀ w, S w → w.cell? ad = some u) : YieldsIf P ops S op u a :=
 .inl ⟨hw, fun w h => by
  unfold execOp
  simp only [ho, hx, Sem.run_bind, run_load1 w ty d hu hd ad u (hS w h), Result.andThen_ok, Sem.run_pure]⟩
theorem run_store1 {P : Program} (w : World) (ty : TypeId) (b i : Nat) (u : Value) (hu : u.oneCell' = true) (hc : u.cells = #[u]) (hi : (P.info? ty).map (·.size) = some 1) {c : Value} (hcell : w.cell? ⟨b, i, none⟩ = some c) (hf : w.frozen? ⟨b, i, none⟩ = false) :
  (Instr.storeAt ty (.pointer (some ⟨b, i, none⟩)) u).run P w = .ok () (w.setCell ⟨b, i, none⟩ u) := by
 have hst : (storeCells ⟨b, i, none⟩ [u]).run P w = .ok () (w.setCell ⟨b, i, none⟩ u) := by
  have e : (⟨b, i, none⟩ : Addr).add 0 = ⟨b, i, none⟩ := by unfold Addr.add; split <;> simp_all
  simp [storeCells, e, run_store, hu, hcell, hf]
 cases hq : P.info? ty with
 | none => simp [hq] at hi
 | some q =>
   have hs : q.size = 1 := by simpa [hq] using hi
   simp [Instr.storeAt, Instr.sureAddr, storeVar, sizeOf, typeInfo, hq, hc, hs, hst]
theorem l_store {P : Program} {ops : Array Oper} {rest : List Oper} {o : Oper} {a : Act} {w : World} {Q : Exit → Act → World → Prop} (hw : Region.wanted o (yielded ops a.tmps) = true) (ty : TypeId) (x y : Operand) (ho : o.op = .store ty x y) (b i : Nat) (hx : a.eval x = .pointer (some ⟨b, i, none⟩)) (u : Value) (hy : a.eval y = u)
  (hu : u.oneCell' = true) (hc : u.cells = #[u]) (hi : (P.info? ty).map (·.size) = some 1) {c : Value} (hcell : w.cell? ⟨b, i, none⟩ = some c) (hf : w.frozen? ⟨b, i, none⟩ = false)
  (hk : Ordl.Bx (wpList P ops Q rest (a.put o.dst undef) (w.setCell ⟨b, i, none⟩ u))) : Ordl.Bx (wpList P ops Q (o :: rest) a w) := by
 refine ⟨?_⟩
 unfold wpList
 rw [if_pos hw]
 refine .inl ?_
 unfold Oper.wp execOp
 simp only [ho, hx, hy, Sem.run_bind, run_store1 w ty b i u hu hc hi hcell hf, Result.andThen_ok, Sem.run_pure]
 exact hk.out
theorem blk_rng {w : World} {g : Nat} {t : TypeId} {cs : List Value} (h : Blk w g t cs) : w.rangeAt g 0 cs := by
 intro j v hv
 rw [Nat.zero_add]
 rw [h.cell j, hv]
theorem RZ.mk_ {b lb : Nat} {w w' : World} {v vL v' vL' : Value} {r' : R} {x : Int} {p' : P} {z' : Z} {t : Int × P × Z} (ht : t = (x, p', z')) (h : Zd w' b lb v' vL' r' p' z') (c : ZC b lb w v vL w' v' vL') : RZ b lb w v vL (.int .i64 t.1) t.2.1 t.2.2 (.returned (.int .i64 x)) w' := by
 subst ht; exact ⟨rfl, v', vL', r', h, c⟩
set_option maxRecDepth 100000 in
set_option maxHeartbeats 4000000 in
theorem refAdd_any {w : World} {b lb : Nat} {v vL : Value} {r : R} {p : P} {z : Z} (h : Zd w b lb v vL r p z) (ho : p.h.ops + 1 ≤ 1000) (x : S) (hx : x.dig.length = 32) (hn : z.L.length ≤ 100000) (hs : 0 ≤ z.size ∧ z.size ≤ 1000000000) :
  Calls Tryz.prog 22 #[.pointer (some ⟨lb, 0, none⟩), .agg x.cells.toArray] w (RZ b lb w v vL (.int .i64 (zAdd p z x).1) (zAdd p z x).2.1 (zAdd p z x).2.2) := by
 have hb0 := Slp.boxS w x
 have hx0 := Reg.Ext.alloc w (Obj.cells x.cells.toArray 39)
 have H0 := y_ (h.ext hx0)
 have C0 := y_ ((ZC.refl b lb w v vL).ext hx0)
 have HOO := y_ ho
 have HNL := y_ hn
 have HLW := y_ h.blk.lt
 have HBW := y_ h.both.rd.blk.lt
 clear h ho
 generalize hr : zAdd p z x = t
 unfold zAdd at hr
 have HR := y_ hr
 clear hr
 obtain ⟨sk, hsk⟩ : ∃ s, z.sick = s := ⟨_, rfl⟩
 go_enter Tryz.func22, Tryz.ntmps22
 go_upto_region 1 with (fail)
 generalize w.alloc (Obj.cells x.cells.toArray 39) = w0 at *
 obtain ⟨g3, hg3⟩ : ∃ g, w.heap.size = g := ⟨_, rfl⟩
 rw [hg3] at hb0 ⊢
 have HG3 := y_ hg3
 have HB := y_ (fun w' (k : Reg.Ext w0 w') => blk_rng (hb0.ext k))
 have HB0 := y_ hb0
 clear hb0 hg3 hx0
 obtain ⟨c0, c1, c2, c3, c4⟩ := H0.out.c
 rw [hsk] at c4
 cases sk with
 | true =>
   have hr := HR.out
   rw [if_pos hsk] at hr
   have HRR := y_ hr.symm
   clear hr HR hsk
   go_wp2_with fail
   go_ret
   exact RZ.mk_ HRR.out H0.out C0.out
 | false =>
 have hr := HR.out
 rw [if_neg (by rw [hsk]; decide)] at hr
 clear HR
 have HR := y_ hr
 have HSK := y_ hsk
 clear hr hsk
 go_upto_region 3 with (fail)
 have X0 := Reg.Ext.refl w0
 have HX0 := y_ X0
 refine wp_region_lit ?_
 refine Slp.wpList_sl _ rfl g3 0 rfl x hx (y_ (HB.out _ X0)) rfl ?_
 simp only [z_1, z_2, z_3, z_4, z_5, z_b, z_6, z_7, z_8, z_9, z_0]
 repeat go_step
 refine (Slp.goodR_any x hx _).mono ?_
 rintro e w1 ⟨rfl, hz⟩
 have HX1 := y_ (HX0.out.trans hz)
 clear hz
 rename_i hK
 refine hK _ _ ?_
 clear hK
 obtain ⟨gx, hgx⟩ : ∃ b, good x = b := ⟨_, rfl⟩
 rw [hgx]
 cases gx with
 | false =>
   have hr := HR.out
   rw [if_pos hgx] at hr
   have HRR := y_ hr.symm
   clear hr HR hgx c0 c1 c2 c3 c4
   go_wp2_with fail
   go_ret
   exact RZ.mk_ HRR.out (H0.out.ext HX1.out) (C0.out.ext HX1.out)
 | true =>
 have hr := HR.out
 rw [if_neg (by rw [hgx]; decide)] at hr
 clear HR c0 c1 c2 c3 c4 X0
 have hbl := body_size hx hgx
 have CB := y_ (fun w => Slp.bodyR_any x hx hgx w)
 have hfs := Slp.frame_len (body x)
 obtain ⟨t0, ht0⟩ : ∃ t, t = frame (body x) := ⟨_, rfl⟩
 have CF := y_ (fun w => Slp.framedR_any (⟨(body x).toArray⟩ : ByteArray) w (by show (body x).toArray.size ≤ _; rw [z_a]; omega))
 have CF2 : Hid (∀ w, Calls Tryz.prog 53 #[.string ⟨(body x).toArray⟩] w fun e w' => e = .returned (.string ⟨t0.toArray⟩) ∧ Reg.Ext w w') := y_ (by rw [ht0]; exact CF.out)
 rw [← ht0] at hr hbl
 obtain ⟨e1, p1, E1⟩ : ∃ e1 p1, Hid (p.append nD t0 = (e1, p1)) := ⟨_, _, rfl⟩
 rw [E1.out] at hr
 have HR := y_ hr
 have htl : t0.length ≤ 1030 := hbl.1
 clear hr hgx hfs CF ht0 hbl
 go_upto_region 5 with (fail)
 refine wp_region_lit ?_
 refine Slp.wpList_sl _ rfl g3 0 rfl x hx (y_ (HB.out _ HX1.out)) rfl ?_
 simp only [z_1, z_2, z_3, z_4, z_5, z_b, z_6, z_7, z_8, z_9, z_0]
 repeat go_step
 refine (CB.out _).mono ?_
 rintro e w2 ⟨rfl, hz⟩
 have HX2 := y_ (HX1.out.trans hz)
 clear hz
 rename_i hK
 refine hK _ _ ?_
 clear hK
 repeat go_step
 refine (CF2.out _).mono ?_
 rintro e w3 ⟨rfl, hz⟩
 have HX3 := y_ (HX2.out.trans hz)
 clear hz
 rename_i hK
 refine hK _ _ ?_
 clear hK
 clear CB CF2 HX1 HX2
 have H3 := y_ (H0.out.ext HX3.out)
 have C3 := y_ (C0.out.ext HX3.out)
 obtain ⟨c0, c1, c2, c3, c4⟩ := H3.out.c
 by_cases he : e1 = 0
 ·subst he
  have hr := HR.out
  rw [if_neg (fun h => h rfl)] at hr
  have HRR := y_ hr.symm
  clear hr HR
  go_upto_region 10 with (go_at_call 20; refine (H3.out.both.appendD HOO.out (by omega) E1.out).mono ?_; rintro e w4 ⟨rfl, v4, r4', k, bb, nn⟩; have H4 := y_ (H3.out.disk k bb nn); have C4 := y_ (C3.out.disk bb nn); have HBB := y_ bb; clear k bb nn)
  have hdr := Reg.Ext.drew w4
  have hgb : g3 ≠ b ∧ g3 < w3.heap.size := by
   have h1 := HBW.out
   have h2 := HB0.out.lt
   have h3 := HX3.out.size
   have h4 := HG3.out
   omega
  have hb4 : Blk w4 g3 39 x.cells := (HBB.out.block g3 hgb.2 fun e => hgb.1 (by injection e)).trans (HB0.out.ext HX3.out)
  have HZM := y_ (fun w' (k : Reg.Ext w4.drew w') => H4.out.ext (hdr.trans k))
  have HBR : Hid (∀ w', Reg.Ext w4.drew w' → w'.rangeAt g3 0 x.cells) := y_ fun w' k => blk_rng ((hb4.ext hdr).ext k)
  have HRO := y_ (fun w' (k : Reg.Ext w4.drew w') => (H4.out.row.ext hdr).ext k)
  have HCL := y_ (fun w' (k : Reg.Ext w4.drew w') => (HZM.out w' k).c.2.1)
  have C5 := y_ (C4.out.ext hdr)
  clear c0 c1 c2 c3 c4 hdr hgb HBB hb4
  refine Ordl.begins (S := fun w => Reg.Ext w4.drew w) (z := 12) (by kernel_rfl) ?_
  refine Ordl.Bx.out (?_ : Ordl.Bx (Ordl.Any _ _ _ _ _ _ _ _ _ _))
  generalize w4.drew = wm at *
  obtain ⟨bm, hbm⟩ : ∃ b, wm.heap.size = b := ⟨_, rfl⟩
  have X0 := Reg.Ext.refl wm
  refine Ordl.take (i := 0) (v := .pointer (some ⟨lb, 0, none⟩)) rfl (by kernel_rfl) (by kernel_rfl) (by kernel_rfl) (by kernel_rfl) (fun _ _ _ h => h) (.inl ⟨by kernel_rfl, fun w _ => by as_aux_lemma => kernel_rfl⟩) X0 ?_
  simp only [z_1, z_2, z_3, z_4, z_5, z_b, z_6, z_7, z_8, z_9, z_0]
  refine Ordl.take (i := 2) (v := .pointer (some ⟨lb, 0, none⟩)) rfl (by kernel_rfl) (by kernel_rfl) (by kernel_rfl) (by kernel_rfl) (fun _ _ _ h => h) (.inl ⟨by kernel_rfl, fun w _ => by as_aux_lemma => kernel_rfl⟩) X0 ?_
  simp only [z_1, z_2, z_3, z_4, z_5, z_b, z_6, z_7, z_8, z_9, z_0]
  refine Ordl.take (i := 3) (v := .pointer (some ⟨lb, 0, none⟩)) rfl (by kernel_rfl) (by kernel_rfl) (by kernel_rfl) (by kernel_rfl) (fun _ _ _ h => h) (.inl ⟨by kernel_rfl, fun w _ => by as_aux_lemma => kernel_rfl⟩) X0 ?_
  simp only [z_1, z_2, z_3, z_4, z_5, z_b, z_6, z_7, z_8, z_9, z_0]
  refine Ordl.take (i := 4) (v := .pointer (some ⟨lb, 1, none⟩)) rfl (by kernel_rfl) (by kernel_rfl) (by kernel_rfl) (by kernel_rfl) (fun _ _ _ h => h) (.inl ⟨by kernel_rfl, fun w _ => by as_aux_lemma => kernel_rfl⟩) X0 ?_
  simp only [z_1, z_2, z_3, z_4, z_5, z_b, z_6, z_7, z_8, z_9, z_0]
  refine Ordl.take (i := 5) (v := vL) rfl (by kernel_rfl) (by kernel_rfl) (by kernel_rfl) (by kernel_rfl) (fun _ _ _ h => h) (yields_load1 (by kernel_rfl) 29 (.tmp 33) rfl ⟨lb, 1, none⟩ (by kernel_rfl) vL _ Tryz.underlying29 rfl (fun w h => HCL.out w h)) X0 ?_
  simp only [z_1, z_2, z_3, z_4, z_5, z_b, z_6, z_7, z_8, z_9, z_0]
  refine Ordl.take (i := 7) (v := .agg x.cells.toArray) rfl (by kernel_rfl) (by kernel_rfl) (by kernel_rfl) (by kernel_rfl) (fun _ _ _ h => h) (yieldsIf_load_mid (by kernel_rfl) 39 (.tmp 3) rfl g3 0 (by kernel_rfl) x.cells _ (fun w h => HBR.out w h) Slp.undS rfl (by rw [Slp.cells_length x hx]; exact Slp.size38)) X0 ?_
  simp only [z_1, z_2, z_3, z_4, z_5, z_b, z_6, z_7, z_8, z_9, z_0]
  refine Ordl.two (i := 1) (j := 8) (by kernel_rfl) rfl rfl ?_ ?_
  ·refine Ordl.any (by kernel_rfl) (.slice (some ⟨(wm).heap.size, 0, none⟩) 0 0) ((wm).alloc (.cells #[] 39)) (by kernel_rfl) ?_
   have R4 : Row bm (.slice (some ⟨(wm).heap.size, 0, none⟩) 0 0) [] ((wm).alloc (.cells #[] 39)) := ⟨World.ownsRow_made wm #[] 0 (by rw [← hbm]; exact X0.size) (Nat.zero_le _) rfl, by simp⟩
   have X4 : Reg.Ext wm ((wm).alloc (.cells #[] 39)) := X0.trans (Reg.Ext.alloc _ _)
   have E4 := Reg.Ext.alloc wm (.cells #[] 39)
   obtain ⟨r4, hr4⟩ : ∃ r, (wm).heap.size = r := ⟨_, rfl⟩
   rw [hr4] at R4 ⊢
   generalize (wm).alloc (.cells #[] 39) = w4 at *
   simp only [z_1, z_2, z_3, z_4, z_5, z_b, z_6, z_7, z_8, z_9, z_0]
   refine Ordl.fin X4 ?_
   refine Ordl.two (i := 6) (j := 8) (by kernel_rfl) rfl rfl ?_ ?_
   ·refine Slp.l_cat (.tmp 30) (.tmp 34) rfl (.slice (some ⟨r4, 0, none⟩) 0 0) vL [] z.L bm 0 (by kernel_rfl) (by kernel_rfl) (HRO.out _ X4) R4 (by rw [← hbm]; exact X4.size) (by simp; omega) (by kernel_rfl) ?_
    intro v6 w6 R6 hg6
    have X6 : Reg.Ext wm w6 := Below.grown X4 hg6 X4.size fun q hq => by rw [hbm]; exact (R4.1.lt q hq).1
    simp only [z_1, z_2, z_3, z_4, z_5, z_b, z_6, z_7, z_8, z_9, z_0]
    refine Ordl.fin X6 ?_
    refine Ordl.one (i := 8) (by kernel_rfl) rfl ?_
    refine Slp.l_r1 (.tmp 36) rfl x hx (by kernel_rfl) (by kernel_rfl) ?_
    intro g8' w8' hgg8' hlt8' E8' L8'
    have X8' : Reg.Ext wm w8' := X6.trans E8'
    simp only [z_1, z_2, z_3, z_4, z_5, z_b, z_6, z_7, z_8, z_9, z_0]
    refine Ordl.fin X8' ?_
    refine Ordl.one (i := 9) (by kernel_rfl) rfl ?_
    refine Slp.l_cats (.tmp 35) (.tmp 37) rfl v6 (.slice (some ⟨g8', 0, none⟩) 1 1) z.L [x] bm 0 (by kernel_rfl) (by kernel_rfl) (Slp.Row.one hx L8' (Nat.zero_le _)) (R6.ext E8') (by rw [← hbm]; exact X8'.size) (by simp; omega) (by kernel_rfl) ?_
    intro p9 n9 q9 w9 R9 hg9
    have X9 : Reg.Ext wm w9 := Below.grown X8' hg9 X8'.size fun q hq => by rw [hbm]; exact ((R6.ext E8').1.lt q hq).1
    simp only [z_1, z_2, z_3, z_4, z_5, z_b, z_6, z_7, z_8, z_9, z_0]
    refine Ordl.fin X9 ?_
    refine Ordl.one (i := 10) (by kernel_rfl) rfl ?_
    refine Ordl.any (by kernel_rfl) (.pointer (some ⟨lb, 0, none⟩)) w9 (by kernel_rfl) ?_
    simp only [z_1, z_2, z_3, z_4, z_5, z_b, z_6, z_7, z_8, z_9, z_0]
    refine Ordl.fin X9 ?_
    refine Ordl.one (i := 11) (by kernel_rfl) rfl ?_
    refine Ordl.any (by kernel_rfl) (.pointer (some ⟨lb, 1, none⟩)) w9 (by kernel_rfl) ?_
    simp only [z_1, z_2, z_3, z_4, z_5, z_b, z_6, z_7, z_8, z_9, z_0]
    refine Ordl.fin X9 ?_
    have ZN := HZM.out w9 X9
    have c1 := ZN.c.2.1
    have f1 := ZN.blk.frozen 1
    refine Ordl.one (i := 12) (by kernel_rfl) rfl ?_
    refine l_store (by kernel_rfl) 29 (.tmp 40) (.tmp 38) rfl lb 1 (by kernel_rfl) (.slice p9 n9 q9) (by kernel_rfl) rfl rfl (by kernel_rfl) c1 f1 ?_
    refine Ordl.finz ?_
    have hbt := But.set_ lb w9 1 (.slice p9 n9 q9)
    have hlb := ZN.blk.lt
    have ZP : Zd (w9.setCell ⟨lb, 1, none⟩ (.slice p9 n9 q9)) b lb v4 (.slice p9 n9 q9) r4' p1 ⟨z.L ++ [x], z.sure, z.size, z.sick⟩ := by
     have hlt : ∀ g, (Value.slice p9 n9 q9).ownBlock = some g → wm.heap.size ≤ g ∧ g < w9.heap.size := fun g hg => by rw [hbm]; exact R9.1.lt g hg
     have hm1 := HZM.out wm (Reg.Ext.refl wm)
     have hm2 := hm1.blk.lt
     have hm3 := hm1.both.rd.blk.lt
     refine ZN.put hbt (by exact ZN.blk.set_ 1 _) ⟨World.ownsRow.mono (own_same R9.1 fun g hg => hbt.block g (hlt g hg).2 fun e => by have := hlt g hg; injection e with e; omega) (Nat.zero_le _), R9.2⟩ fun g hg => ⟨?_, ?_, fun e => ?_⟩
     ·have := hlt g hg; omega
     ·have := hlt g hg; omega
     ·have h1 := hlt g hg
      have h2 := hm1.both.rd.row.lt e
      omega
    have CP : ZC b lb w v vL (w9.setCell ⟨lb, 1, none⟩ (.slice p9 n9 q9)) v4 (.slice p9 n9 q9) := C5.out.log ((But.of_ext X9).trans hbt) (.inr fun g hg => by rw [hbm]; exact (R9.1.lt g hg).1)
    rw [HSK.out] at ZP
    have HZP := y_ ZP
    have HCP := y_ CP
    have c3 := ZN.c.2.2.2.1
    have f3 := ZN.blk.frozen 3
    clear c1 f1 ZN ZP CP
    refine Ordl.done (by kernel_rfl) ?_ _
    go_wp2_with fail
    go_ret
    exact RZ.mk_ HRR.out (HZP.out.cell 3 (.int .i64 (z.size + (t0.length : Int))) rfl rfl) (HCP.out.log (But.set_ lb _ 3 _) (Newer.refl _ _))
   ·refine Slp.l_r1 (.tmp 36) rfl x hx (by kernel_rfl) (by kernel_rfl) ?_
    intro g8' w8' hgg8' hlt8' E8' L8'
    have X8' : Reg.Ext wm w8' := X4.trans E8'
    simp only [z_1, z_2, z_3, z_4, z_5, z_b, z_6, z_7, z_8, z_9, z_0]
    refine Ordl.fin X8' ?_
    refine Ordl.one (i := 6) (by kernel_rfl) rfl ?_
    refine Slp.l_cat (.tmp 30) (.tmp 34) rfl (.slice (some ⟨r4, 0, none⟩) 0 0) vL [] z.L bm 0 (by kernel_rfl) (by kernel_rfl) (HRO.out _ X8') (R4.ext E8') (by rw [← hbm]; exact X8'.size) (by simp; omega) (by kernel_rfl) ?_
    intro v6 w6 R6 hg6
    have X6 : Reg.Ext wm w6 := Below.grown X8' hg6 X8'.size fun q hq => by rw [hbm]; exact ((R4.ext E8').1.lt q hq).1
    simp only [z_1, z_2, z_3, z_4, z_5, z_b, z_6, z_7, z_8, z_9, z_0]
    refine Ordl.fin X6 ?_
    have L6 : Blk w6 g8' 39 x.cells := (hg6.block g8' hlt8' (show some g8' ≠ some r4 from fun e => by injection e with e; have := (R4.1.lt r4 rfl).2; omega)).trans L8'
    refine Ordl.one (i := 9) (by kernel_rfl) rfl ?_
    refine Slp.l_cats (.tmp 35) (.tmp 37) rfl v6 (.slice (some ⟨g8', 0, none⟩) 1 1) z.L [x] bm 0 (by kernel_rfl) (by kernel_rfl) (Slp.Row.one hx L6 (Nat.zero_le _)) R6 (by rw [← hbm]; exact X6.size) (by simp; omega) (by kernel_rfl) ?_
    intro p9 n9 q9 w9 R9 hg9
    have X9 : Reg.Ext wm w9 := Below.grown X6 hg9 X6.size fun q hq => by rw [hbm]; exact (R6.1.lt q hq).1
    simp only [z_1, z_2, z_3, z_4, z_5, z_b, z_6, z_7, z_8, z_9, z_0]
    refine Ordl.fin X9 ?_
    refine Ordl.one (i := 10) (by kernel_rfl) rfl ?_
    refine Ordl.any (by kernel_rfl) (.pointer (some ⟨lb, 0, none⟩)) w9 (by kernel_rfl) ?_
    simp only [z_1, z_2, z_3, z_4, z_5, z_b, z_6, z_7, z_8, z_9, z_0]
    refine Ordl.fin X9 ?_
    refine Ordl.one (i := 11) (by kernel_rfl) rfl ?_
    refine Ordl.any (by kernel_rfl) (.pointer (some ⟨lb, 1, none⟩)) w9 (by kernel_rfl) ?_
    simp only [z_1, z_2, z_3, z_4, z_5, z_b, z_6, z_7, z_8, z_9, z_0]
    refine Ordl.fin X9 ?_
    have ZN := HZM.out w9 X9
    have c1 := ZN.c.2.1
    have f1 := ZN.blk.frozen 1
    refine Ordl.one (i := 12) (by kernel_rfl) rfl ?_
    refine l_store (by kernel_rfl) 29 (.tmp 40) (.tmp 38) rfl lb 1 (by kernel_rfl) (.slice p9 n9 q9) (by kernel_rfl) rfl rfl (by kernel_rfl) c1 f1 ?_
    refine Ordl.finz ?_
    have hbt := But.set_ lb w9 1 (.slice p9 n9 q9)
    have hlb := ZN.blk.lt
    have ZP : Zd (w9.setCell ⟨lb, 1, none⟩ (.slice p9 n9 q9)) b lb v4 (.slice p9 n9 q9) r4' p1 ⟨z.L ++ [x], z.sure, z.size, z.sick⟩ := by
     have hlt : ∀ g, (Value.slice p9 n9 q9).ownBlock = some g → wm.heap.size ≤ g ∧ g < w9.heap.size := fun g hg => by rw [hbm]; exact R9.1.lt g hg
     have hm1 := HZM.out wm (Reg.Ext.refl wm)
     have hm2 := hm1.blk.lt
     have hm3 := hm1.both.rd.blk.lt
     refine ZN.put hbt (by exact ZN.blk.set_ 1 _) ⟨World.ownsRow.mono (own_same R9.1 fun g hg => hbt.block g (hlt g hg).2 fun e => by have := hlt g hg; injection e with e; omega) (Nat.zero_le _), R9.2⟩ fun g hg => ⟨?_, ?_, fun e => ?_⟩
     ·have := hlt g hg; omega
     ·have := hlt g hg; omega
     ·have h1 := hlt g hg
      have h2 := hm1.both.rd.row.lt e
      omega
    have CP : ZC b lb w v vL (w9.setCell ⟨lb, 1, none⟩ (.slice p9 n9 q9)) v4 (.slice p9 n9 q9) := C5.out.log ((But.of_ext X9).trans hbt) (.inr fun g hg => by rw [hbm]; exact (R9.1.lt g hg).1)
    rw [HSK.out] at ZP
    have HZP := y_ ZP
    have HCP := y_ CP
    have c3 := ZN.c.2.2.2.1
    have f3 := ZN.blk.frozen 3
    clear c1 f1 ZN ZP CP
    refine Ordl.done (by kernel_rfl) ?_ _
    go_wp2_with fail
    go_ret
    exact RZ.mk_ HRR.out (HZP.out.cell 3 (.int .i64 (z.size + (t0.length : Int))) rfl rfl) (HCP.out.log (But.set_ lb _ 3 _) (Newer.refl _ _))
  ·refine Slp.l_r1 (.tmp 36) rfl x hx (by kernel_rfl) (by kernel_rfl) ?_
   intro g8' w8' hgg8' hlt8' E8' L8'
   have X8' : Reg.Ext wm w8' := X0.trans E8'
   simp only [z_1, z_2, z_3, z_4, z_5, z_b, z_6, z_7, z_8, z_9, z_0]
   refine Ordl.fin X8' ?_
   refine Ordl.one (i := 1) (by kernel_rfl) rfl ?_
   refine Ordl.any (by kernel_rfl) (.slice (some ⟨(w8').heap.size, 0, none⟩) 0 0) ((w8').alloc (.cells #[] 39)) (by kernel_rfl) ?_
   have R4 : Row bm (.slice (some ⟨(w8').heap.size, 0, none⟩) 0 0) [] ((w8').alloc (.cells #[] 39)) := ⟨World.ownsRow_made w8' #[] 0 (by rw [← hbm]; exact X8'.size) (Nat.zero_le _) rfl, by simp⟩
   have X4 : Reg.Ext wm ((w8').alloc (.cells #[] 39)) := X8'.trans (Reg.Ext.alloc _ _)
   have E4 := Reg.Ext.alloc w8' (.cells #[] 39)
   obtain ⟨r4, hr4⟩ : ∃ r, (w8').heap.size = r := ⟨_, rfl⟩
   rw [hr4] at R4 ⊢
   generalize (w8').alloc (.cells #[] 39) = w4 at *
   simp only [z_1, z_2, z_3, z_4, z_5, z_b, z_6, z_7, z_8, z_9, z_0]
   refine Ordl.fin X4 ?_
   refine Ordl.one (i := 6) (by kernel_rfl) rfl ?_
   refine Slp.l_cat (.tmp 30) (.tmp 34) rfl (.slice (some ⟨r4, 0, none⟩) 0 0) vL [] z.L bm 0 (by kernel_rfl) (by kernel_rfl) (HRO.out _ X4) R4 (by rw [← hbm]; exact X4.size) (by simp; omega) (by kernel_rfl) ?_
   intro v6 w6 R6 hg6
   have X6 : Reg.Ext wm w6 := Below.grown X4 hg6 X4.size fun q hq => by rw [hbm]; exact (R4.1.lt q hq).1
   simp only [z_1, z_2, z_3, z_4, z_5, z_b, z_6, z_7, z_8, z_9, z_0]
   refine Ordl.fin X6 ?_
   have L6 : Blk w6 g8' 39 x.cells := (hg6.block g8' (Nat.lt_of_lt_of_le hlt8' E4.size) (show some g8' ≠ some r4 from fun e => by injection e with e; omega)).trans (L8'.ext E4)
   refine Ordl.one (i := 9) (by kernel_rfl) rfl ?_
   refine Slp.l_cats (.tmp 35) (.tmp 37) rfl v6 (.slice (some ⟨g8', 0, none⟩) 1 1) z.L [x] bm 0 (by kernel_rfl) (by kernel_rfl) (Slp.Row.one hx L6 (Nat.zero_le _)) R6 (by rw [← hbm]; exact X6.size) (by simp; omega) (by kernel_rfl) ?_
   intro p9 n9 q9 w9 R9 hg9
   have X9 : Reg.Ext wm w9 := Below.grown X6 hg9 X6.size fun q hq => by rw [hbm]; exact (R6.1.lt q hq).1
   simp only [z_1, z_2, z_3, z_4, z_5, z_b, z_6, z_7, z_8, z_9, z_0]
   refine Ordl.fin X9 ?_
   refine Ordl.one (i := 10) (by kernel_rfl) rfl ?_
   refine Ordl.any (by kernel_rfl) (.pointer (some ⟨lb, 0, none⟩)) w9 (by kernel_rfl) ?_
   simp only [z_1, z_2, z_3, z_4, z_5, z_b, z_6, z_7, z_8, z_9, z_0]
   refine Ordl.fin X9 ?_
   refine Ordl.one (i := 11) (by kernel_rfl) rfl ?_
   refine Ordl.any (by kernel_rfl) (.pointer (some ⟨lb, 1, none⟩)) w9 (by kernel_rfl) ?_
   simp only [z_1, z_2, z_3, z_4, z_5, z_b, z_6, z_7, z_8, z_9, z_0]
   refine Ordl.fin X9 ?_
   have ZN := HZM.out w9 X9
   have c1 := ZN.c.2.1
   have f1 := ZN.blk.frozen 1
   refine Ordl.one (i := 12) (by kernel_rfl) rfl ?_
   refine l_store (by kernel_rfl) 29 (.tmp 40) (.tmp 38) rfl lb 1 (by kernel_rfl) (.slice p9 n9 q9) (by kernel_rfl) rfl rfl (by kernel_rfl) c1 f1 ?_
   refine Ordl.finz ?_
   have hbt := But.set_ lb w9 1 (.slice p9 n9 q9)
   have hlb := ZN.blk.lt
   have ZP : Zd (w9.setCell ⟨lb, 1, none⟩ (.slice p9 n9 q9)) b lb v4 (.slice p9 n9 q9) r4' p1 ⟨z.L ++ [x], z.sure, z.size, z.sick⟩ := by
    have hlt : ∀ g, (Value.slice p9 n9 q9).ownBlock = some g → wm.heap.size ≤ g ∧ g < w9.heap.size := fun g hg => by rw [hbm]; exact R9.1.lt g hg
    have hm1 := HZM.out wm (Reg.Ext.refl wm)
    have hm2 := hm1.blk.lt
    have hm3 := hm1.both.rd.blk.lt
    refine ZN.put hbt (by exact ZN.blk.set_ 1 _) ⟨World.ownsRow.mono (own_same R9.1 fun g hg => hbt.block g (hlt g hg).2 fun e => by have := hlt g hg; injection e with e; omega) (Nat.zero_le _), R9.2⟩ fun g hg => ⟨?_, ?_, fun e => ?_⟩
    ·have := hlt g hg; omega
    ·have := hlt g hg; omega
    ·have h1 := hlt g hg
     have h2 := hm1.both.rd.row.lt e
     omega
   have CP : ZC b lb w v vL (w9.setCell ⟨lb, 1, none⟩ (.slice p9 n9 q9)) v4 (.slice p9 n9 q9) := C5.out.log ((But.of_ext X9).trans hbt) (.inr fun g hg => by rw [hbm]; exact (R9.1.lt g hg).1)
   rw [HSK.out] at ZP
   have HZP := y_ ZP
   have HCP := y_ CP
   have c3 := ZN.c.2.2.2.1
   have f3 := ZN.blk.frozen 3
   clear c1 f1 ZN ZP CP
   refine Ordl.done (by kernel_rfl) ?_ _
   go_wp2_with fail
   go_ret
   exact RZ.mk_ HRR.out (HZP.out.cell 3 (.int .i64 (z.size + (t0.length : Int))) rfl rfl) (HCP.out.log (But.set_ lb _ 3 _) (Newer.refl _ _))
 ·have hr := HR.out
  rw [if_pos he] at hr
  have HRR := y_ hr.symm
  have z1 := ne_z he
  have z2 : (e1 != 0) = true := bne_iff_ne.2 he
  have f4 := H3.out.blk.frozen 4
  clear hr HR he
  go_wp2_with (go_at_call 20; refine (H3.out.both.appendD HOO.out (by omega) E1.out).mono ?_; rintro e w4 ⟨rfl, v4, r4', k, bb, nn⟩; have H4 := y_ (H3.out.disk k bb nn); have C4 := y_ (C3.out.disk bb nn); have g4 := H4.out.c.2.2.2.2; have f4' := H4.out.blk.frozen 4; clear k bb nn)
  go_ret
  exact RZ.mk_ HRR.out (H4.out.cell (z' := { z with sick := true }) 4 (.bool true) rfl rfl) (C4.out.log (But.set_ lb _ 4 _) (Newer.refl _ _))
end Plk
end Go.Proofs.YtafeealbdpmdkaaGreatDoor
