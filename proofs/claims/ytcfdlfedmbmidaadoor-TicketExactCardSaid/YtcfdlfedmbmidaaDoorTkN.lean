/- The table: Put. -/
import Derived.Test.YtcfdlfedmbmidaaDoorTkM
set_option linter.unusedSimpArgs false
set_option linter.unusedVariables false
set_option linter.unusedSectionVars false
namespace Go.Proofs.YtcfdlfedmbmidaaDoor
open Go Go.RowKit
namespace Tk
theorem still_ldm {P : Program} {ops : Array Oper} {rest : List Oper} {o : Oper} {a : Act} {w : World} {Q : Act → Prop} (hw : Region.wanted o (yielded ops a.tmps) = true) (ty : TypeId) (x : Operand) (ho : o.op = .load ty x)
    (g j : Nat) (hx : a.eval x = .pointer (some ⟨g, j, none⟩)) (cs : List Value) (fs : Array Field) (h : Hid (w.rangeAt g j cs)) (hu : P.underlying ty = some (.struct fs))
    (hi : (P.info? ty).map (·.size) = some cs.length) (hk : wpStill P ops w Q rest (a.put o.dst (.agg cs.toArray))) : wpStill P ops w Q (o :: rest) a := by
  unfold wpStill
  rw [if_pos hw]
  unfold Oper.still execOp
  simp only [ho, hx, Instr.loadAt, Instr.sureAddr, Sem.run_bind, Sem.run_pure, Result.andThen_ok, run_loadVar_mid w g j _ cs _ h.out hu rfl hi]
  exact ⟨rfl, hk⟩
theorem Tb.but {T0 : TypeId} {w w' : World} {b g : Nat} {v : Value} {l : List T} {most : Int} (h : Tb T0 w b v l most) (hb : But g w w') (hne : ¬ TO b v g) : Tb T0 w' b v l most :=
  h.same fun i hi => hb.block i (h.lt hi) fun e => hne (by injection e with e; rw [← e]; exact hi)
theorem TTurn.but {b g : Nat} {w w1 w' : World} {v v' : Value} (t : TTurn b w v w1 v') (hb : But g w1 w') (hg : w.heap.size ≤ g) : TTurn b w v w' v' :=
  ⟨hb.os.trans t.os, hb.tape.trans t.tape, hb.output.trans t.output, Nat.le_trans t.size hb.size, fun i hi hn => (hb.block i (Nat.lt_of_lt_of_le hi t.size) fun e => by injection e with e; omega).trans (t.kept i hi hn), t.own⟩
/-- what Put leaves -/
def ResP (b : Nat) (w : World) (v : Value) (o : Option T) (l : List T) (most : Int) (e : Ending) (w' : World) : Prop := e = .returned (.tuple #[.agg (o.getD zT).cells.toArray, .bool o.isSome, .int .i64 0]) ∧ ∃ v', Tb 62 w' b v' l most ∧ TTurn b w v w' v'
set_option maxRecDepth 100000 in
set_option maxHeartbeats 1000000 in
theorem put_is {w : World} {b : Nat} {v : Value} {l : List T} {most : Int} (h : Tb 62 w b v l most) (hu : Nmd.Up nm l) (hl : l.length ≤ 1000) (x : T) (hx : x.dig.length = 32) (hgood : goodT x = true) {y : T} (hg : Nmd.get nm (nm x) l = some y) :
    Calls Tryd.prog 15 #[.pointer (some ⟨b, 0, none⟩), .agg x.cells.toArray] w (ResP b w v none (Nmd.upd nm x l) most) := by
  obtain ⟨hlt, hy, hny⟩ := Nmd.at_lo hu hg
  have hup := Nmd.upd_at hu hlt (x := x) (by rw [hy]; exact hny)
  rw [hup]
  have HGT := Lib.hid hg
  clear hy hny hup hg
  have hb1 := boxT w x
  have hx1 := Reg.Ext.alloc w (Obj.cells x.cells.toArray 25)
  have hz1 : (w.alloc (Obj.cells x.cells.toArray 25)).heap.size = w.heap.size + 1 := by simp
  have hb2 := boxT (w.alloc (Obj.cells x.cells.toArray 25)) zT
  have hx2 := Reg.Ext.alloc (w.alloc (Obj.cells x.cells.toArray 25)) (Obj.cells zT.cells.toArray 25)
  rw [hz1] at hb2
  have HT0 := Lib.hid h
  have HB1 := Lib.hid (hb1.ext hx2)
  have HB2 := Lib.hid hb2
  have HX2 := Lib.hid (hx1.trans hx2)
  have HXD := Lib.hid hx
  have HU := Lib.hid hu
  have hgd := good_any x hx
  rw [hgood] at hgd
  have HGD := Lib.hid hgd
  clear h hb1 hb2 hx1 hx2 hx hu hgd hgood
  go_enter Tryd.func15, Tryd.ntmps15
  go_upto_region 1 with (fail)
  rw [z38]
  clear hz1
  generalize (w.alloc (Obj.cells x.cells.toArray 25)).alloc (Obj.cells zT.cells.toArray 25) = w2 at *
  generalize hg3 : w.heap.size = g3 at *
  have HG3 := Lib.hid hg3
  clear hg3
  go_upto_region 3 with (fail)
  refine wp_region_lit ?_
  refine wpList_ldm rfl 25 (.tmp 3) rfl g3 0 rfl x.cells _ (Lib.hid (blk_rng HB1.out)) undT (by rw [x.len HXD.out]; exact sizeT) ?_
  simp only [Act.put, Act.eval, List.setIfInBounds_toArray, List.set_cons_zero, List.set_cons_succ, Nat.reduceAdd, Array.getD_eq_getD_getElem?, List.getElem?_toArray, List.getElem?_cons_succ, List.getElem?_cons_zero, Option.getD_some]
  repeat go_step
  refine (HGD.out _).mono ?_
  rintro e w3 ⟨rfl, hx3⟩
  rename_i hK
  refine hK _ _ ?_
  clear hK
  have HB1 := Lib.hid (HB1.out.ext hx3)
  have HB2 := Lib.hid (HB2.out.ext hx3)
  have HX3 := Lib.hid (HX2.out.trans hx3)
  clear hx3 HX2
  have HT3 := Lib.hid (HT0.out.ext HX3.out)
  have HFI := Lib.hid (find_any HT3.out HU.out x HXD.out hl)
  go_upto_region 5 with (fail)
  refine wp_region_lit ?_
  iterate 3 go_step
  refine wpList_ldm rfl 25 (.tmp 3) rfl g3 0 rfl x.cells _ (Lib.hid (blk_rng HB1.out)) undT (by rw [x.len HXD.out]; exact sizeT) ?_
  simp only [Act.put, Act.eval, List.setIfInBounds_toArray, List.set_cons_zero, List.set_cons_succ, Nat.reduceAdd, Array.getD_eq_getD_getElem?, List.getElem?_toArray, List.getElem?_cons_succ, List.getElem?_cons_zero, Option.getD_some]
  repeat go_step
  refine (HFI.out).mono ?_
  rintro e w5 ⟨rfl, hx5⟩
  rename_i hK
  refine hK _ _ ?_
  clear hK
  have HB1 := Lib.hid (HB1.out.ext hx5)
  have HB2 := Lib.hid (HB2.out.ext hx5)
  have HX5 := Lib.hid (HX3.out.trans hx5)
  have HT5 := Lib.hid (HT3.out.ext hx5)
  clear hx5 HX3 HT3 HFI HGD
  rw [HGT.out]
  generalize Nmd.lo nm (nm x) l = lo at *
  dsimp only [Option.isSome]
  rcases HT5.out.row.form with ⟨_, h2⟩ | ⟨g, cap, h2, _, _, _, _⟩
  · rw [h2] at hlt; exact absurd hlt (Nat.not_lt_zero _)
  subst h2
  go_upto_region 7 with (fail)
  have HT6 := Lib.hid (HT5.out.ext (Reg.Ext.drew w5))
  have c0 := HT6.out.c.1
  have HR6 := Lib.hid (blk_rng (HB1.out.ext (Reg.Ext.drew w5)))
  obtain ⟨p1, p2, p3⟩ := HT6.out.put lo hlt x HXD.out
  have P1 := Lib.hid p1
  have P2 := Lib.hid p2
  have P3 := Lib.hid p3
  clear p1 p2 p3
  go_still_tail 7, (by kernel_rfl)
  repeat (first | refine still_ldm rfl _ _ rfl g3 0 rfl x.cells _ HR6 undT (by rw [x.len HXD.out]; exact sizeT) ?_ | still_step)
  refine wpStill_nil ?_
  change wpList _ _ _ _ _ w5.drew
  refine wpList_store_mid rfl 25 _ _ rfl g (lo * 38) x.cells.toArray rfl rfl (by rw [List.size_toArray, x.len HXD.out]; exact P3.out) (by rw [List.size_toArray, x.len HXD.out]; exact sizeT) (all_oneCell_toArray (T.one _)) ?_
  simp only [List.toList_toArray]
  simp only [Act.put, Act.eval, List.setIfInBounds_toArray, List.set_cons_zero, List.set_cons_succ, Nat.reduceAdd, Array.getD_eq_getD_getElem?, List.getElem?_toArray, List.getElem?_cons_succ, List.getElem?_cons_zero, Option.getD_some]
  have HT7 := Lib.hid P1.out
  have HTT := Lib.hid ((TTurn.ext (HX5.out.trans (Reg.Ext.drew w5))).trans P2.out)
  have HB7 : Hid (Blk (w5.drew.setCells g (lo * 38) x.cells) (g3 + 1) 25 zT.cells) := Lib.hid ((HB2.out.ext (Reg.Ext.drew w5)).but (But.setCells g _ _ _) (fun e => by have h1 := HT0.out.lt (i := g) (.inr rfl); rw [HG3.out] at h1; omega))
  clear P1 P2 P3 HT6 HR6 c0
  generalize w5.drew.setCells g (lo * 38) x.cells = w7 at *
  go_upto_region 8 with (fail)
  refine wp_region_lit ?_
  refine wpList_val rfl (.agg zT.cells.toArray) (by as_aux_lemma => kernel_rfl) ?_
  simp only [Act.put, Act.eval, List.setIfInBounds_toArray, List.set_cons_zero, List.set_cons_succ, Nat.reduceAdd, Array.getD_eq_getD_getElem?, List.getElem?_toArray, List.getElem?_cons_succ, List.getElem?_cons_zero, Option.getD_some]
  refine wpList_store_mid rfl 25 _ _ rfl (g3 + 1) 0 (zT).cells.toArray rfl ?_ ((HB7.out).there _ (by have e1 := (zT).len rfl; have e2 := (zT).len rfl; rw [List.size_toArray]; omega)) (by rw [List.size_toArray, (zT).len rfl]; exact sizeT) (all_oneCell_toArray (T.one _)) ?_
  · rfl
  simp only [List.toList_toArray]
  simp only [Act.put, Act.eval, List.setIfInBounds_toArray, List.set_cons_zero, List.set_cons_succ, Nat.reduceAdd, Array.getD_eq_getD_getElem?, List.getElem?_toArray, List.getElem?_cons_succ, List.getElem?_cons_zero, Option.getD_some]
  have HB8 := Lib.hid (HB7.out.setAll zT.cells rfl)
  have HT8 := Lib.hid (HT7.out.but (But.setCells (g3 + 1) zT.cells 0 w7) (fun o => by have h1 := HT0.out.lt (i := g3 + 1) o; rw [HG3.out] at h1; omega))
  have HTU := Lib.hid (HTT.out.but (But.setCells (g3 + 1) zT.cells 0 w7) (by rw [HG3.out]; omega))
  generalize w7.setCells (g3 + 1) 0 zT.cells = w8 at *
  go_wp2_with fail
  exact bodyPost_ret (results_tk3 rfl _ _ (g3 + 1) 25 zT.cells.toArray (0, 0) rfl HB8.out (by exact sizeT)) rfl ⟨rfl, _, HT8.out, HTU.out⟩
set_option maxRecDepth 100000 in
set_option maxHeartbeats 2000000 in
theorem put_room {w : World} {b : Nat} {v : Value} {l : List T} {most : Int} (h : Tb 62 w b v l most) (hu : Nmd.Up nm l) (hl : l.length ≤ 1000) (x : T) (hx : x.dig.length = 32) (hgood : goodT x = true) (hg : Nmd.get nm (nm x) l = none) (hm : ((Nmd.ins nm x l).length : Int) ≤ most) :
    Calls Tryd.prog 15 #[.pointer (some ⟨b, 0, none⟩), .agg x.cells.toArray] w (ResP b w v none (Nmd.ins nm x l) most) := by
  have HGT := Lib.hid hg
  have HM := Lib.hid hm
  clear hg hm
  have hb1 := boxT w x
  have hx1 := Reg.Ext.alloc w (Obj.cells x.cells.toArray 25)
  have hz1 : (w.alloc (Obj.cells x.cells.toArray 25)).heap.size = w.heap.size + 1 := by simp
  have hb2 := boxT (w.alloc (Obj.cells x.cells.toArray 25)) zT
  have hx2 := Reg.Ext.alloc (w.alloc (Obj.cells x.cells.toArray 25)) (Obj.cells zT.cells.toArray 25)
  rw [hz1] at hb2
  have HT0 := Lib.hid h
  have HB1 := Lib.hid (hb1.ext hx2)
  have HB2 := Lib.hid hb2
  have HX2 := Lib.hid (hx1.trans hx2)
  have HXD := Lib.hid hx
  have HU := Lib.hid hu
  have hgd := good_any x hx
  rw [hgood] at hgd
  have HGD := Lib.hid hgd
  clear h hb1 hb2 hx1 hx2 hx hu hgd hgood
  go_enter Tryd.func15, Tryd.ntmps15
  go_upto_region 1 with (fail)
  rw [z38]
  clear hz1
  generalize (w.alloc (Obj.cells x.cells.toArray 25)).alloc (Obj.cells zT.cells.toArray 25) = w2 at *
  generalize hg3 : w.heap.size = g3 at *
  have HG3 := Lib.hid hg3
  clear hg3
  go_upto_region 3 with (fail)
  refine wp_region_lit ?_
  refine wpList_ldm rfl 25 (.tmp 3) rfl g3 0 rfl x.cells _ (Lib.hid (blk_rng HB1.out)) undT (by rw [x.len HXD.out]; exact sizeT) ?_
  simp only [Act.put, Act.eval, List.setIfInBounds_toArray, List.set_cons_zero, List.set_cons_succ, Nat.reduceAdd, Array.getD_eq_getD_getElem?, List.getElem?_toArray, List.getElem?_cons_succ, List.getElem?_cons_zero, Option.getD_some]
  repeat go_step
  refine (HGD.out _).mono ?_
  rintro e w3 ⟨rfl, hx3⟩
  rename_i hK
  refine hK _ _ ?_
  clear hK
  have HB1 := Lib.hid (HB1.out.ext hx3)
  have HB2 := Lib.hid (HB2.out.ext hx3)
  have HX3 := Lib.hid (HX2.out.trans hx3)
  clear hx3 HX2
  have HT3 := Lib.hid (HT0.out.ext HX3.out)
  have HFI := Lib.hid (find_any HT3.out HU.out x HXD.out hl)
  go_upto_region 5 with (fail)
  refine wp_region_lit ?_
  iterate 3 go_step
  refine wpList_ldm rfl 25 (.tmp 3) rfl g3 0 rfl x.cells _ (Lib.hid (blk_rng HB1.out)) undT (by rw [x.len HXD.out]; exact sizeT) ?_
  simp only [Act.put, Act.eval, List.setIfInBounds_toArray, List.set_cons_zero, List.set_cons_succ, Nat.reduceAdd, Array.getD_eq_getD_getElem?, List.getElem?_toArray, List.getElem?_cons_succ, List.getElem?_cons_zero, Option.getD_some]
  repeat go_step
  refine (HFI.out).mono ?_
  rintro e w5 ⟨rfl, hx5⟩
  rename_i hK
  refine hK _ _ ?_
  clear hK
  have HB1 := Lib.hid (HB1.out.ext hx5)
  have HB2 := Lib.hid (HB2.out.ext hx5)
  have HX5 := Lib.hid (HX3.out.trans hx5)
  have HT5 := Lib.hid (HT3.out.ext hx5)
  clear hx5 HX3 HT3 HFI HGD
  rw [HGT.out]
  have HNG := Lib.hid (Nmd.get_none HGT.out)
  have hil := Nmd.ins_lo HU.out HNG.out
  have HIL := Lib.hid hil
  clear hil
  have hlo := Nmd.lo_le (nm := nm) (nm x) l
  generalize Nmd.lo nm (nm x) l = lo at *
  dsimp only [Option.isSome]
  go_upto_region 9 with (fail)
  have HT6 := Lib.hid (HT5.out.ext (Reg.Ext.drew w5))
  have HB1 := Lib.hid (HB1.out.ext (Reg.Ext.drew w5))
  have HB2 := Lib.hid (HB2.out.ext (Reg.Ext.drew w5))
  have HX6 := Lib.hid (HX5.out.trans (Reg.Ext.drew w5))
  refine Ordl.begins (S := fun w' => w'.cell? ⟨b, 0, none⟩ = some v ∧ w'.rangeAt g3 0 x.cells) (z := 11) (by kernel_rfl) ?_
  refine Ordl.Bx.out (?_ : Ordl.Bx (Ordl.Any _ _ _ _ _ _ _ _ _ _))
  clear HT5 HX5
  generalize w5.drew = w6 at *
  have X0 : w6.cell? ⟨b, 0, none⟩ = some v ∧ w6.rangeAt g3 0 x.cells := ⟨HT6.out.c.1, blk_rng HB1.out⟩
  refine Ordl.take (i := 0) (v := .pointer (some ⟨b, 0, none⟩)) rfl (by kernel_rfl) (by kernel_rfl) (by kernel_rfl) (by kernel_rfl) (fun _ _ _ h => h) (.inl ⟨by kernel_rfl, fun w _ => by as_aux_lemma => kernel_rfl⟩) X0 ?_
  simp only [List.getElem_toArray, List.getElem_cons_succ, List.getElem_cons_zero, Act.put, Act.eval, List.setIfInBounds_toArray, List.set_cons_zero, List.set_cons_succ, Nat.reduceAdd, Array.getD_eq_getD_getElem?, List.getElem?_toArray, List.getElem?_cons_succ, List.getElem?_cons_zero, Option.getD_some]
  refine Ordl.take (i := 1) (v := .pointer (some ⟨b, 0, none⟩)) rfl (by kernel_rfl) (by kernel_rfl) (by kernel_rfl) (by kernel_rfl) (fun _ _ _ h => h) (.inl ⟨by kernel_rfl, fun w _ => by as_aux_lemma => kernel_rfl⟩) X0 ?_
  simp only [List.getElem_toArray, List.getElem_cons_succ, List.getElem_cons_zero, Act.put, Act.eval, List.setIfInBounds_toArray, List.set_cons_zero, List.set_cons_succ, Nat.reduceAdd, Array.getD_eq_getD_getElem?, List.getElem?_toArray, List.getElem?_cons_succ, List.getElem?_cons_zero, Option.getD_some]
  refine Ordl.take (i := 2) (v := .pointer (some ⟨b, 0, none⟩)) rfl (by kernel_rfl) (by kernel_rfl) (by kernel_rfl) (by kernel_rfl) (fun _ _ _ h => h) (.inl ⟨by kernel_rfl, fun w _ => by as_aux_lemma => kernel_rfl⟩) X0 ?_
  simp only [List.getElem_toArray, List.getElem_cons_succ, List.getElem_cons_zero, Act.put, Act.eval, List.setIfInBounds_toArray, List.set_cons_zero, List.set_cons_succ, Nat.reduceAdd, Array.getD_eq_getD_getElem?, List.getElem?_toArray, List.getElem?_cons_succ, List.getElem?_cons_zero, Option.getD_some]
  refine Ordl.take (i := 3) (v := .pointer (some ⟨b, 0, none⟩)) rfl (by kernel_rfl) (by kernel_rfl) (by kernel_rfl) (by kernel_rfl) (fun _ _ _ h => h) (.inl ⟨by kernel_rfl, fun w _ => by as_aux_lemma => kernel_rfl⟩) X0 ?_
  simp only [List.getElem_toArray, List.getElem_cons_succ, List.getElem_cons_zero, Act.put, Act.eval, List.setIfInBounds_toArray, List.set_cons_zero, List.set_cons_succ, Nat.reduceAdd, Array.getD_eq_getD_getElem?, List.getElem?_toArray, List.getElem?_cons_succ, List.getElem?_cons_zero, Option.getD_some]
  obtain ⟨A, cap, hv⟩ := HT6.out.row.slice
  subst hv
  refine Ordl.take (i := 4) (v := .slice A l.length cap) rfl (by kernel_rfl) (by kernel_rfl) (by kernel_rfl) (by kernel_rfl) (fun _ _ _ h => h) (yields_load1 (by kernel_rfl) 42 (.tmp 38) rfl ⟨b, 0, none⟩ (by kernel_rfl) (.slice A l.length cap) _ Tryd.underlying42 rfl (fun w h => h.1)) X0 ?_
  simp only [List.getElem_toArray, List.getElem_cons_succ, List.getElem_cons_zero, Act.put, Act.eval, List.setIfInBounds_toArray, List.set_cons_zero, List.set_cons_succ, Nat.reduceAdd, Array.getD_eq_getD_getElem?, List.getElem?_toArray, List.getElem?_cons_succ, List.getElem?_cons_zero, Option.getD_some]
  refine Ordl.take (i := 5) (v := .int .i64 (lo : Int)) rfl (by kernel_rfl) (by kernel_rfl) (by kernel_rfl) (by kernel_rfl) (fun _ _ _ h => h) (.inl ⟨by kernel_rfl, fun w _ => by as_aux_lemma => kernel_rfl⟩) X0 ?_
  simp only [List.getElem_toArray, List.getElem_cons_succ, List.getElem_cons_zero, Act.put, Act.eval, List.setIfInBounds_toArray, List.set_cons_zero, List.set_cons_succ, Nat.reduceAdd, Array.getD_eq_getD_getElem?, List.getElem?_toArray, List.getElem?_cons_succ, List.getElem?_cons_zero, Option.getD_some]
  refine Ordl.take (i := 6) (v := .agg (x).cells.toArray) rfl (by kernel_rfl) (by kernel_rfl) (by kernel_rfl) (by kernel_rfl) (fun _ _ _ h => h) (yieldsIf_load_mid (by kernel_rfl) 25 (.tmp 3) rfl g3 (0) (by kernel_rfl) (x).cells _ (fun w h => h.2) undT rfl (by rw [(x).len HXD.out]; exact sizeT)) X0 ?_
  simp only [List.getElem_toArray, List.getElem_cons_succ, List.getElem_cons_zero, Act.put, Act.eval, List.setIfInBounds_toArray, List.set_cons_zero, List.set_cons_succ, Nat.reduceAdd, Array.getD_eq_getD_getElem?, List.getElem?_toArray, List.getElem?_cons_succ, List.getElem?_cons_zero, Option.getD_some]
  refine Ordl.one (i := 7) (by kernel_rfl) rfl ?_
  refine ⟨?_⟩
  obtain ⟨g7, hg7⟩ : ∃ g, w6.heap.size = g := ⟨_, rfl⟩
  refine wpList_any (by kernel_rfl) (.slice (some ⟨g7, 0, none⟩) 1 1) (w6.alloc (.cells x.cells.toArray 25)) (by rw [← hg7]; exact exec_oneT _ (.tmp 41) rfl x (by kernel_rfl) HXD.out) ?_
  have hb7 := boxT w6 x
  have hx7 := Reg.Ext.alloc w6 (.cells x.cells.toArray 25)
  rw [hg7] at hb7
  generalize w6.alloc (.cells x.cells.toArray 25) = w7 at *
  have HT7 := Lib.hid (HT6.out.ext hx7)
  have HB1 := Lib.hid (HB1.out.ext hx7)
  have HB2 := Lib.hid (HB2.out.ext hx7)
  have HX7 := Lib.hid (HX6.out.trans hx7)
  have HB7 := Lib.hid hb7
  have HS7 := Lib.hid HB2.out.lt
  have HNE : Hid ((Value.slice A l.length cap).ownBlock ≠ some g7) := Lib.hid fun e => by have h1 := HT6.out.lt (.inr e); omega
  have X1 : w7.cell? ⟨b, 0, none⟩ = some (.slice A l.length cap) ∧ w7.rangeAt g3 0 x.cells := ⟨HT7.out.c.1, blk_rng HB1.out⟩
  clear hb7 hx7 hg7 HT6 HX6 X0
  refine Ordl.Bx.out (?_ : Ordl.Bx _)
  refine Ordl.fin X1 ?_
  simp only [List.getElem_toArray, List.getElem_cons_succ, List.getElem_cons_zero, Act.put, Act.eval, List.setIfInBounds_toArray, List.set_cons_zero, List.set_cons_succ, Nat.reduceAdd, Array.getD_eq_getD_getElem?, List.getElem?_toArray, List.getElem?_cons_succ, List.getElem?_cons_zero, Option.getD_some]
  refine Ordl.one (i := 8) (by kernel_rfl) rfl ?_
  refine ⟨?_⟩
  repeat go_step
  refine (insert_any HT7.out.row HT7.out.fit lo hlo x HXD.out g7 HB7.out HNE.out hl).mono ?_
  rintro e w8 ⟨v8, rfl, hr8, hg8, hat8⟩
  have HNT : Hid (∀ i, TO b v8 i → i < g3 ∨ g3 + 1 < i) := Lib.hid fun i hi => by
    rcases hi with rfl | hi
    · have h1 := HT0.out.blk.lt
      rw [HG3.out] at h1
      exact .inl h1
    · rcases hat8 with h1 | h1
      · rw [h1] at hi
        have h2 := HT0.out.lt (.inr hi)
        rw [HG3.out] at h2
        exact .inl h2
      · have h2 := h1 i hi
        have h3 := HS7.out
        exact .inr (by omega)
  have HR8 := Lib.hid hr8
  have HG8 := Lib.hid hg8
  have HA8 := Lib.hid hat8
  have HFI : Hid (Fit (l.take lo ++ x :: l.drop lo)) := Lib.hid fun y hy => by
    rcases List.mem_append.1 hy with hy | hy
    · exact HT7.out.fit y (List.mem_of_mem_take hy)
    · rcases List.mem_cons.1 hy with rfl | hy
      · exact HXD.out
      · exact HT7.out.fit y (List.mem_of_mem_drop hy)
  have HB1 : Hid (Blk w8 g3 25 x.cells) := Lib.hid ((hg8.block g3 HB1.out.lt fun e => by have h1 := HT0.out.lt (.inr e.symm); rw [HG3.out] at h1; omega).trans HB1.out)
  have HB2 : Hid (Blk w8 (g3 + 1) 25 zT.cells) := Lib.hid ((hg8.block (g3 + 1) HB2.out.lt fun e => by have h1 := HT0.out.lt (.inr e.symm); rw [HG3.out] at h1; omega).trans HB2.out)
  have hk8 : Blk w8 b 62 [.slice A l.length cap, .int .i64 most] := (hg8.block b HT7.out.blk.lt fun e => HT7.out.away e.symm).trans HT7.out.blk
  have c0 : w8.cell? ⟨b, 0, none⟩ = some (.slice A l.length cap) := hk8.cell 0
  have f0 := hk8.frozen 0
  have X0 : w8.cell? ⟨b, 0, none⟩ = some (.slice A l.length cap) ∧ w8.rangeAt g3 0 x.cells := ⟨c0, blk_rng HB1.out⟩
  obtain ⟨p1, p2⟩ := HT7.out.turn hg8 hr8 HFI.out hat8
  rw [← HIL.out] at p1
  have P1 := Lib.hid p1
  have P2 := Lib.hid ((TTurn.ext HX7.out).trans p2)
  obtain ⟨A8, c8, hv8⟩ := hr8.slice
  generalize hn8 : (l.take lo ++ x :: l.drop lo).length = n8 at hv8
  have HN8 : Hid ((Nmd.ins nm x l).length = n8) := Lib.hid (by rw [HIL.out]; exact hn8)
  subst hv8
  clear hr8 hg8 hat8 hk8 p1 p2 X1 hn8
  rename_i hK
  refine hK _ _ ?_
  clear hK
  refine Ordl.Bx.out (?_ : Ordl.Bx _)
  refine Ordl.fin X0 ?_
  refine Ordl.one (i := 9) (by kernel_rfl) rfl ?_
  refine ⟨?_⟩
  refine wpList_any (by kernel_rfl) (.pointer (some ⟨b, 0, none⟩)) w8 (by kernel_rfl) ?_
  refine Ordl.Bx.out (?_ : Ordl.Bx _)
  refine Ordl.fin X0 ?_
  simp only [List.getElem_toArray, List.getElem_cons_succ, List.getElem_cons_zero, Act.put, Act.eval, List.setIfInBounds_toArray, List.set_cons_zero, List.set_cons_succ, Nat.reduceAdd, Array.getD_eq_getD_getElem?, List.getElem?_toArray, List.getElem?_cons_succ, List.getElem?_cons_zero, Option.getD_some]
  refine Ordl.take (i := 10) (v := .pointer (some ⟨b, 0, none⟩)) rfl (by kernel_rfl) (by kernel_rfl) (by kernel_rfl) (by kernel_rfl) (fun _ _ _ h => h) (.inl ⟨by kernel_rfl, fun w _ => by as_aux_lemma => kernel_rfl⟩) X0 ?_
  simp only [List.getElem_toArray, List.getElem_cons_succ, List.getElem_cons_zero, Act.put, Act.eval, List.setIfInBounds_toArray, List.set_cons_zero, List.set_cons_succ, Nat.reduceAdd, Array.getD_eq_getD_getElem?, List.getElem?_toArray, List.getElem?_cons_succ, List.getElem?_cons_zero, Option.getD_some]
  refine Ordl.one (i := 11) (by kernel_rfl) rfl ?_
  refine ⟨?_⟩
  repeat go_step
  refine Ordl.Bx.out (?_ : Ordl.Bx _)
  refine Ordl.finz ?_
  refine Ordl.done (by kernel_rfl) ?_ _
  have hgb : g3 ≠ b ∧ g3 + 1 ≠ b := by
    have h1 := HT0.out.blk.lt
    rw [HG3.out] at h1
    omega
  have HB1 := Lib.hid (HB1.out.but (But.set_ b w8 0 (.slice A8 n8 c8)) hgb.1)
  have HB2 := Lib.hid (HB2.out.but (But.set_ b w8 0 (.slice A8 n8 c8)) hgb.2)
  clear X0 c0 f0 HR8 HG8 HA8 HB7 HNE HT7 HX7 hgb
  generalize w8.setCell ⟨b, 0, none⟩ (.slice A8 n8 c8) = w9 at *
  obtain ⟨c0, c1⟩ := P1.out.c
  have qm : decide ((n8 : Int) ≤ most) = true := decide_eq_true (by rw [← HN8.out]; exact HM.out)
  go_upto_region 10 with (fail)
  go_quiet (fail)
  have HT10 := Lib.hid (P1.out.ext (Reg.Ext.drewN w9 nq))
  have HTT := Lib.hid (P2.out.trans (TTurn.ext (Reg.Ext.drewN w9 nq)))
  have HB10 := Lib.hid (HB2.out.ext (Reg.Ext.drewN w9 nq))
  clear P1 P2 HB1 HB2 c0 c1 HT0
  generalize w9.drewN nq = w10 at *
  go_upto_region 11 with (fail)
  refine wp_region_lit ?_
  refine wpList_val rfl (.agg zT.cells.toArray) (by as_aux_lemma => kernel_rfl) ?_
  simp only [Act.put, Act.eval, List.setIfInBounds_toArray, List.set_cons_zero, List.set_cons_succ, Nat.reduceAdd, Array.getD_eq_getD_getElem?, List.getElem?_toArray, List.getElem?_cons_succ, List.getElem?_cons_zero, Option.getD_some]
  refine wpList_store_mid rfl 25 _ _ rfl (g3 + 1) 0 (zT).cells.toArray rfl ?_ ((HB10.out).there _ (by have e1 := (zT).len rfl; have e2 := (zT).len rfl; rw [List.size_toArray]; omega)) (by rw [List.size_toArray, (zT).len rfl]; exact sizeT) (all_oneCell_toArray (T.one _)) ?_
  · rfl
  simp only [List.toList_toArray]
  simp only [Act.put, Act.eval, List.setIfInBounds_toArray, List.set_cons_zero, List.set_cons_succ, Nat.reduceAdd, Array.getD_eq_getD_getElem?, List.getElem?_toArray, List.getElem?_cons_succ, List.getElem?_cons_zero, Option.getD_some]
  have HB11 := Lib.hid (HB10.out.setAll zT.cells rfl)
  have HT11 := Lib.hid (HT10.out.but (But.setCells (g3 + 1) zT.cells 0 w10) (fun o => by have := HNT.out _ o; omega))
  have HTU := Lib.hid (HTT.out.but (But.setCells (g3 + 1) zT.cells 0 w10) (by rw [HG3.out]; omega))
  generalize w10.setCells (g3 + 1) 0 zT.cells = w11 at *
  go_wp2_with fail
  exact bodyPost_ret (results_tk3 rfl _ _ (g3 + 1) 25 zT.cells.toArray (0, 0) rfl HB11.out (by exact sizeT)) rfl ⟨rfl, _, HT11.out, HTU.out⟩
set_option maxRecDepth 100000 in
set_option maxHeartbeats 4000000 in
theorem put_full {w : World} {b : Nat} {v : Value} {l : List T} {most : Int} (h : Tb 62 w b v l most) (hu : Nmd.Up nm l) (hl : l.length ≤ 999) (x : T) (hx : x.dig.length = 32) (hgood : goodT x = true) (hg : Nmd.get nm (nm x) l = none) (hm : most < ((Nmd.ins nm x l).length : Int)) {gz : T} (ho : oldest ((Nmd.ins nm x l).filter (pN x)) = some gz) :
    Calls Tryd.prog 15 #[.pointer (some ⟨b, 0, none⟩), .agg x.cells.toArray] w (ResP b w v (some gz) (Nmd.del nm (nm gz) (Nmd.ins nm x l)) most) := by
  have HGT := Lib.hid hg
  have HM := Lib.hid hm
  have HOO := Lib.hid ho
  have HUI := Lib.hid (hu.ins (Nmd.get_none hg))
  have HLI : Hid ((Nmd.ins nm x l).length ≤ 1000) := Lib.hid (by rw [Nmd.length_ins]; omega)
  have hl : l.length ≤ 1000 := by omega
  clear hg hm ho
  have hb1 := boxT w x
  have hx1 := Reg.Ext.alloc w (Obj.cells x.cells.toArray 25)
  have hz1 : (w.alloc (Obj.cells x.cells.toArray 25)).heap.size = w.heap.size + 1 := by simp
  have hb2 := boxT (w.alloc (Obj.cells x.cells.toArray 25)) zT
  have hx2 := Reg.Ext.alloc (w.alloc (Obj.cells x.cells.toArray 25)) (Obj.cells zT.cells.toArray 25)
  rw [hz1] at hb2
  have HT0 := Lib.hid h
  have HB1 := Lib.hid (hb1.ext hx2)
  have HB2 := Lib.hid hb2
  have HX2 := Lib.hid (hx1.trans hx2)
  have HXD := Lib.hid hx
  have HU := Lib.hid hu
  have hgd := good_any x hx
  rw [hgood] at hgd
  have HGD := Lib.hid hgd
  clear h hb1 hb2 hx1 hx2 hx hu hgd hgood
  go_enter Tryd.func15, Tryd.ntmps15
  go_upto_region 1 with (fail)
  rw [z38]
  clear hz1
  generalize (w.alloc (Obj.cells x.cells.toArray 25)).alloc (Obj.cells zT.cells.toArray 25) = w2 at *
  generalize hg3 : w.heap.size = g3 at *
  have HG3 := Lib.hid hg3
  clear hg3
  go_upto_region 3 with (fail)
  refine wp_region_lit ?_
  refine wpList_ldm rfl 25 (.tmp 3) rfl g3 0 rfl x.cells _ (Lib.hid (blk_rng HB1.out)) undT (by rw [x.len HXD.out]; exact sizeT) ?_
  simp only [Act.put, Act.eval, List.setIfInBounds_toArray, List.set_cons_zero, List.set_cons_succ, Nat.reduceAdd, Array.getD_eq_getD_getElem?, List.getElem?_toArray, List.getElem?_cons_succ, List.getElem?_cons_zero, Option.getD_some]
  repeat go_step
  refine (HGD.out _).mono ?_
  rintro e w3 ⟨rfl, hx3⟩
  rename_i hK
  refine hK _ _ ?_
  clear hK
  have HB1 := Lib.hid (HB1.out.ext hx3)
  have HB2 := Lib.hid (HB2.out.ext hx3)
  have HX3 := Lib.hid (HX2.out.trans hx3)
  clear hx3 HX2
  have HT3 := Lib.hid (HT0.out.ext HX3.out)
  have HFI := Lib.hid (find_any HT3.out HU.out x HXD.out hl)
  go_upto_region 5 with (fail)
  refine wp_region_lit ?_
  iterate 3 go_step
  refine wpList_ldm rfl 25 (.tmp 3) rfl g3 0 rfl x.cells _ (Lib.hid (blk_rng HB1.out)) undT (by rw [x.len HXD.out]; exact sizeT) ?_
  simp only [Act.put, Act.eval, List.setIfInBounds_toArray, List.set_cons_zero, List.set_cons_succ, Nat.reduceAdd, Array.getD_eq_getD_getElem?, List.getElem?_toArray, List.getElem?_cons_succ, List.getElem?_cons_zero, Option.getD_some]
  repeat go_step
  refine (HFI.out).mono ?_
  rintro e w5 ⟨rfl, hx5⟩
  rename_i hK
  refine hK _ _ ?_
  clear hK
  have HB1 := Lib.hid (HB1.out.ext hx5)
  have HB2 := Lib.hid (HB2.out.ext hx5)
  have HX5 := Lib.hid (HX3.out.trans hx5)
  have HT5 := Lib.hid (HT3.out.ext hx5)
  clear hx5 HX3 HT3 HFI HGD
  rw [HGT.out]
  have HNG := Lib.hid (Nmd.get_none HGT.out)
  have hil := Nmd.ins_lo HU.out HNG.out
  have HIL := Lib.hid hil
  clear hil
  have hlo := Nmd.lo_le (nm := nm) (nm x) l
  generalize Nmd.lo nm (nm x) l = lo at *
  dsimp only [Option.isSome]
  go_upto_region 9 with (fail)
  have HT6 := Lib.hid (HT5.out.ext (Reg.Ext.drew w5))
  have HB1 := Lib.hid (HB1.out.ext (Reg.Ext.drew w5))
  have HB2 := Lib.hid (HB2.out.ext (Reg.Ext.drew w5))
  have HX6 := Lib.hid (HX5.out.trans (Reg.Ext.drew w5))
  refine Ordl.begins (S := fun w' => w'.cell? ⟨b, 0, none⟩ = some v ∧ w'.rangeAt g3 0 x.cells) (z := 11) (by kernel_rfl) ?_
  refine Ordl.Bx.out (?_ : Ordl.Bx (Ordl.Any _ _ _ _ _ _ _ _ _ _))
  clear HT5 HX5
  generalize w5.drew = w6 at *
  have X0 : w6.cell? ⟨b, 0, none⟩ = some v ∧ w6.rangeAt g3 0 x.cells := ⟨HT6.out.c.1, blk_rng HB1.out⟩
  refine Ordl.take (i := 0) (v := .pointer (some ⟨b, 0, none⟩)) rfl (by kernel_rfl) (by kernel_rfl) (by kernel_rfl) (by kernel_rfl) (fun _ _ _ h => h) (.inl ⟨by kernel_rfl, fun w _ => by as_aux_lemma => kernel_rfl⟩) X0 ?_
  simp only [List.getElem_toArray, List.getElem_cons_succ, List.getElem_cons_zero, Act.put, Act.eval, List.setIfInBounds_toArray, List.set_cons_zero, List.set_cons_succ, Nat.reduceAdd, Array.getD_eq_getD_getElem?, List.getElem?_toArray, List.getElem?_cons_succ, List.getElem?_cons_zero, Option.getD_some]
  refine Ordl.take (i := 1) (v := .pointer (some ⟨b, 0, none⟩)) rfl (by kernel_rfl) (by kernel_rfl) (by kernel_rfl) (by kernel_rfl) (fun _ _ _ h => h) (.inl ⟨by kernel_rfl, fun w _ => by as_aux_lemma => kernel_rfl⟩) X0 ?_
  simp only [List.getElem_toArray, List.getElem_cons_succ, List.getElem_cons_zero, Act.put, Act.eval, List.setIfInBounds_toArray, List.set_cons_zero, List.set_cons_succ, Nat.reduceAdd, Array.getD_eq_getD_getElem?, List.getElem?_toArray, List.getElem?_cons_succ, List.getElem?_cons_zero, Option.getD_some]
  refine Ordl.take (i := 2) (v := .pointer (some ⟨b, 0, none⟩)) rfl (by kernel_rfl) (by kernel_rfl) (by kernel_rfl) (by kernel_rfl) (fun _ _ _ h => h) (.inl ⟨by kernel_rfl, fun w _ => by as_aux_lemma => kernel_rfl⟩) X0 ?_
  simp only [List.getElem_toArray, List.getElem_cons_succ, List.getElem_cons_zero, Act.put, Act.eval, List.setIfInBounds_toArray, List.set_cons_zero, List.set_cons_succ, Nat.reduceAdd, Array.getD_eq_getD_getElem?, List.getElem?_toArray, List.getElem?_cons_succ, List.getElem?_cons_zero, Option.getD_some]
  refine Ordl.take (i := 3) (v := .pointer (some ⟨b, 0, none⟩)) rfl (by kernel_rfl) (by kernel_rfl) (by kernel_rfl) (by kernel_rfl) (fun _ _ _ h => h) (.inl ⟨by kernel_rfl, fun w _ => by as_aux_lemma => kernel_rfl⟩) X0 ?_
  simp only [List.getElem_toArray, List.getElem_cons_succ, List.getElem_cons_zero, Act.put, Act.eval, List.setIfInBounds_toArray, List.set_cons_zero, List.set_cons_succ, Nat.reduceAdd, Array.getD_eq_getD_getElem?, List.getElem?_toArray, List.getElem?_cons_succ, List.getElem?_cons_zero, Option.getD_some]
  obtain ⟨A, cap, hv⟩ := HT6.out.row.slice
  subst hv
  refine Ordl.take (i := 4) (v := .slice A l.length cap) rfl (by kernel_rfl) (by kernel_rfl) (by kernel_rfl) (by kernel_rfl) (fun _ _ _ h => h) (yields_load1 (by kernel_rfl) 42 (.tmp 38) rfl ⟨b, 0, none⟩ (by kernel_rfl) (.slice A l.length cap) _ Tryd.underlying42 rfl (fun w h => h.1)) X0 ?_
  simp only [List.getElem_toArray, List.getElem_cons_succ, List.getElem_cons_zero, Act.put, Act.eval, List.setIfInBounds_toArray, List.set_cons_zero, List.set_cons_succ, Nat.reduceAdd, Array.getD_eq_getD_getElem?, List.getElem?_toArray, List.getElem?_cons_succ, List.getElem?_cons_zero, Option.getD_some]
  refine Ordl.take (i := 5) (v := .int .i64 (lo : Int)) rfl (by kernel_rfl) (by kernel_rfl) (by kernel_rfl) (by kernel_rfl) (fun _ _ _ h => h) (.inl ⟨by kernel_rfl, fun w _ => by as_aux_lemma => kernel_rfl⟩) X0 ?_
  simp only [List.getElem_toArray, List.getElem_cons_succ, List.getElem_cons_zero, Act.put, Act.eval, List.setIfInBounds_toArray, List.set_cons_zero, List.set_cons_succ, Nat.reduceAdd, Array.getD_eq_getD_getElem?, List.getElem?_toArray, List.getElem?_cons_succ, List.getElem?_cons_zero, Option.getD_some]
  refine Ordl.take (i := 6) (v := .agg (x).cells.toArray) rfl (by kernel_rfl) (by kernel_rfl) (by kernel_rfl) (by kernel_rfl) (fun _ _ _ h => h) (yieldsIf_load_mid (by kernel_rfl) 25 (.tmp 3) rfl g3 (0) (by kernel_rfl) (x).cells _ (fun w h => h.2) undT rfl (by rw [(x).len HXD.out]; exact sizeT)) X0 ?_
  simp only [List.getElem_toArray, List.getElem_cons_succ, List.getElem_cons_zero, Act.put, Act.eval, List.setIfInBounds_toArray, List.set_cons_zero, List.set_cons_succ, Nat.reduceAdd, Array.getD_eq_getD_getElem?, List.getElem?_toArray, List.getElem?_cons_succ, List.getElem?_cons_zero, Option.getD_some]
  refine Ordl.one (i := 7) (by kernel_rfl) rfl ?_
  refine ⟨?_⟩
  obtain ⟨g7, hg7⟩ : ∃ g, w6.heap.size = g := ⟨_, rfl⟩
  refine wpList_any (by kernel_rfl) (.slice (some ⟨g7, 0, none⟩) 1 1) (w6.alloc (.cells x.cells.toArray 25)) (by rw [← hg7]; exact exec_oneT _ (.tmp 41) rfl x (by kernel_rfl) HXD.out) ?_
  have hb7 := boxT w6 x
  have hx7 := Reg.Ext.alloc w6 (.cells x.cells.toArray 25)
  rw [hg7] at hb7
  generalize w6.alloc (.cells x.cells.toArray 25) = w7 at *
  have HT7 := Lib.hid (HT6.out.ext hx7)
  have HB1 := Lib.hid (HB1.out.ext hx7)
  have HB2 := Lib.hid (HB2.out.ext hx7)
  have HX7 := Lib.hid (HX6.out.trans hx7)
  have HB7 := Lib.hid hb7
  have HS7 := Lib.hid HB2.out.lt
  have HNE : Hid ((Value.slice A l.length cap).ownBlock ≠ some g7) := Lib.hid fun e => by have h1 := HT6.out.lt (.inr e); omega
  have X1 : w7.cell? ⟨b, 0, none⟩ = some (.slice A l.length cap) ∧ w7.rangeAt g3 0 x.cells := ⟨HT7.out.c.1, blk_rng HB1.out⟩
  clear hb7 hx7 hg7 HT6 HX6 X0
  refine Ordl.Bx.out (?_ : Ordl.Bx _)
  refine Ordl.fin X1 ?_
  simp only [List.getElem_toArray, List.getElem_cons_succ, List.getElem_cons_zero, Act.put, Act.eval, List.setIfInBounds_toArray, List.set_cons_zero, List.set_cons_succ, Nat.reduceAdd, Array.getD_eq_getD_getElem?, List.getElem?_toArray, List.getElem?_cons_succ, List.getElem?_cons_zero, Option.getD_some]
  refine Ordl.one (i := 8) (by kernel_rfl) rfl ?_
  refine ⟨?_⟩
  repeat go_step
  refine (insert_any HT7.out.row HT7.out.fit lo hlo x HXD.out g7 HB7.out HNE.out hl).mono ?_
  rintro e w8 ⟨v8, rfl, hr8, hg8, hat8⟩
  have HNT : Hid (∀ i, TO b v8 i → i < g3 ∨ g3 + 1 < i) := Lib.hid fun i hi => by
    rcases hi with rfl | hi
    · have h1 := HT0.out.blk.lt
      rw [HG3.out] at h1
      exact .inl h1
    · rcases hat8 with h1 | h1
      · rw [h1] at hi
        have h2 := HT0.out.lt (.inr hi)
        rw [HG3.out] at h2
        exact .inl h2
      · have h2 := h1 i hi
        have h3 := HS7.out
        exact .inr (by omega)
  have HR8 := Lib.hid hr8
  have HG8 := Lib.hid hg8
  have HA8 := Lib.hid hat8
  have HFI : Hid (Fit (l.take lo ++ x :: l.drop lo)) := Lib.hid fun y hy => by
    rcases List.mem_append.1 hy with hy | hy
    · exact HT7.out.fit y (List.mem_of_mem_take hy)
    · rcases List.mem_cons.1 hy with rfl | hy
      · exact HXD.out
      · exact HT7.out.fit y (List.mem_of_mem_drop hy)
  have HB1 : Hid (Blk w8 g3 25 x.cells) := Lib.hid ((hg8.block g3 HB1.out.lt fun e => by have h1 := HT0.out.lt (.inr e.symm); rw [HG3.out] at h1; omega).trans HB1.out)
  have HB2 : Hid (Blk w8 (g3 + 1) 25 zT.cells) := Lib.hid ((hg8.block (g3 + 1) HB2.out.lt fun e => by have h1 := HT0.out.lt (.inr e.symm); rw [HG3.out] at h1; omega).trans HB2.out)
  have hk8 : Blk w8 b 62 [.slice A l.length cap, .int .i64 most] := (hg8.block b HT7.out.blk.lt fun e => HT7.out.away e.symm).trans HT7.out.blk
  have c0 : w8.cell? ⟨b, 0, none⟩ = some (.slice A l.length cap) := hk8.cell 0
  have f0 := hk8.frozen 0
  have X0 : w8.cell? ⟨b, 0, none⟩ = some (.slice A l.length cap) ∧ w8.rangeAt g3 0 x.cells := ⟨c0, blk_rng HB1.out⟩
  obtain ⟨p1, p2⟩ := HT7.out.turn hg8 hr8 HFI.out hat8
  rw [← HIL.out] at p1
  have P1 := Lib.hid p1
  have P2 := Lib.hid ((TTurn.ext HX7.out).trans p2)
  obtain ⟨A8, c8, hv8⟩ := hr8.slice
  generalize hn8 : (l.take lo ++ x :: l.drop lo).length = n8 at hv8
  have HN8 : Hid ((Nmd.ins nm x l).length = n8) := Lib.hid (by rw [HIL.out]; exact hn8)
  subst hv8
  clear hr8 hg8 hat8 hk8 p1 p2 X1 hn8
  rename_i hK
  refine hK _ _ ?_
  clear hK
  refine Ordl.Bx.out (?_ : Ordl.Bx _)
  refine Ordl.fin X0 ?_
  refine Ordl.one (i := 9) (by kernel_rfl) rfl ?_
  refine ⟨?_⟩
  refine wpList_any (by kernel_rfl) (.pointer (some ⟨b, 0, none⟩)) w8 (by kernel_rfl) ?_
  refine Ordl.Bx.out (?_ : Ordl.Bx _)
  refine Ordl.fin X0 ?_
  simp only [List.getElem_toArray, List.getElem_cons_succ, List.getElem_cons_zero, Act.put, Act.eval, List.setIfInBounds_toArray, List.set_cons_zero, List.set_cons_succ, Nat.reduceAdd, Array.getD_eq_getD_getElem?, List.getElem?_toArray, List.getElem?_cons_succ, List.getElem?_cons_zero, Option.getD_some]
  refine Ordl.take (i := 10) (v := .pointer (some ⟨b, 0, none⟩)) rfl (by kernel_rfl) (by kernel_rfl) (by kernel_rfl) (by kernel_rfl) (fun _ _ _ h => h) (.inl ⟨by kernel_rfl, fun w _ => by as_aux_lemma => kernel_rfl⟩) X0 ?_
  simp only [List.getElem_toArray, List.getElem_cons_succ, List.getElem_cons_zero, Act.put, Act.eval, List.setIfInBounds_toArray, List.set_cons_zero, List.set_cons_succ, Nat.reduceAdd, Array.getD_eq_getD_getElem?, List.getElem?_toArray, List.getElem?_cons_succ, List.getElem?_cons_zero, Option.getD_some]
  refine Ordl.one (i := 11) (by kernel_rfl) rfl ?_
  refine ⟨?_⟩
  repeat go_step
  refine Ordl.Bx.out (?_ : Ordl.Bx _)
  refine Ordl.finz ?_
  refine Ordl.done (by kernel_rfl) ?_ _
  have hgb : g3 ≠ b ∧ g3 + 1 ≠ b := by
    have h1 := HT0.out.blk.lt
    rw [HG3.out] at h1
    omega
  have HB1 := Lib.hid (HB1.out.but (But.set_ b w8 0 (.slice A8 n8 c8)) hgb.1)
  have HB2 := Lib.hid (HB2.out.but (But.set_ b w8 0 (.slice A8 n8 c8)) hgb.2)
  clear X0 c0 f0 HR8 HG8 HA8 HB7 HNE HT7 HX7 hgb
  generalize w8.setCell ⟨b, 0, none⟩ (.slice A8 n8 c8) = w9 at *
  obtain ⟨c0, c1⟩ := P1.out.c
  have qm : decide ((n8 : Int) ≤ most) = false := decide_eq_false (by rw [← HN8.out]; have := HM.out; omega)
  go_upto_region 10 with (fail)
  go_quiet (fail)
  have HT10 := Lib.hid (P1.out.ext (Reg.Ext.drewN w9 nq))
  have HTT := Lib.hid (P2.out.trans (TTurn.ext (Reg.Ext.drewN w9 nq)))
  have HB3 := Lib.hid (HB1.out.ext (Reg.Ext.drewN w9 nq))
  have HB4 := Lib.hid (HB2.out.ext (Reg.Ext.drewN w9 nq))
  clear P1 P2 HB1 HB2 c0 c1 HT0
  generalize w9.drewN nq = w10 at *
  have HOL := Lib.hid (oldest_any HT10.out x HXD.out HLI.out HOO.out)
  go_upto_region 12 with (fail)
  refine wp_region_lit ?_
  iterate 3 go_step
  refine wpList_ldm rfl 25 (.tmp 3) rfl g3 0 rfl x.cells _ (Lib.hid (blk_rng HB3.out)) undT (by rw [x.len HXD.out]; exact sizeT) ?_
  simp only [Act.put, Act.eval, List.setIfInBounds_toArray, List.set_cons_zero, List.set_cons_succ, Nat.reduceAdd, Array.getD_eq_getD_getElem?, List.getElem?_toArray, List.getElem?_cons_succ, List.getElem?_cons_zero, Option.getD_some]
  repeat go_step
  refine (HOL.out).mono ?_
  rintro e w12 ⟨k, hk, hkg, rfl, hx12⟩
  rename_i hK
  refine hK _ _ ?_
  clear hK
  have HT12 := Lib.hid (HT10.out.ext hx12)
  have HTT := Lib.hid (HTT.out.trans (TTurn.ext hx12))
  have HB4 := Lib.hid (HB4.out.ext hx12)
  have HKG := Lib.hid hkg
  clear hx12 HT10 HB3 HOL hkg
  have hkn : k < n8 := by rw [← HN8.out]; exact hk
  rcases HT12.out.row.form with ⟨h2, _⟩ | ⟨g8, cap8, h2, _, hg8l, _, _⟩
  · injection h2 with _ h2 _; omega
  injection h2 with h2 hh h3
  clear hh
  subst h2 h3
  have HRG := Lib.hid (LT.range (show LT 0 w12 (.slice (some ⟨g8, 0, none⟩) (Nmd.ins nm x l).length c8) (Nmd.ins nm x l) by rw [HN8.out]; exact HT12.out.row) HT12.out.fit k hk)
  have HGD := Lib.hid (HT12.out.fit _ (List.getElem_mem hk))
  have HDL := Lib.hid (Nmd.del_at HUI.out hk)
  rw [HKG.out] at HRG HGD HDL
  have c0 := HT12.out.c.1
  have HG8L := Lib.hid hg8l
  clear hg8l
  go_upto_region 13 with (fail)
  refine wp_region_lit ?_
  iterate 18 go_step
  refine wpList_ldm rfl 25 (.tmp 65) rfl g8 (k * 38) rfl gz.cells _ HRG undT (by rw [gz.len HGD.out]; exact sizeT) ?_
  simp only [Act.put, Act.eval, List.setIfInBounds_toArray, List.set_cons_zero, List.set_cons_succ, Nat.reduceAdd, Array.getD_eq_getD_getElem?, List.getElem?_toArray, List.getElem?_cons_succ, List.getElem?_cons_zero, Option.getD_some]
  iterate 3 go_step
  have hgz : ∃ g, w12.heap.size = g := ⟨_, rfl⟩
  obtain ⟨g12, hg12⟩ := hgz
  have HG12 := Lib.hid hg12
  clear hg12
  rw [z38]
  obtain ⟨g10, hg10⟩ : ∃ g, (w12).heap.size = g := ⟨_, rfl⟩
  have hb0 := boxT w12 zT
  have hx0 := Reg.Ext.alloc w12 (Obj.cells zT.cells.toArray 25)
  rw [hg10] at hb0 ⊢
  generalize (w12).alloc (Obj.cells zT.cells.toArray 25) = wn at *
  have HG10 := Lib.hid (HG12.out.symm.trans hg10)
  refine wpList_store_mid rfl 25 _ _ rfl g10 0 (gz).cells.toArray rfl ?_ (hb0.there _ (by rw [List.size_toArray, (gz).len HGD.out, zT.len rfl]; exact Nat.le_refl _)) (by rw [List.size_toArray, (gz).len HGD.out]; exact sizeT) (all_oneCell_toArray (T.one _)) ?_
  · rfl
  simp only [List.toList_toArray]
  simp only [Act.put, Act.eval, List.setIfInBounds_toArray, List.set_cons_zero, List.set_cons_succ, Nat.reduceAdd, Array.getD_eq_getD_getElem?, List.getElem?_toArray, List.getElem?_cons_succ, List.getElem?_cons_zero, Option.getD_some]
  have hb1 := hb0.setAll (gz).cells (by rw [(gz).len HGD.out, zT.len rfl])
  have hx1 := hx0.trans_but (But.setCells g10 (gz).cells 0 wn) (by omega)
  clear hb0 hx0 hg10
  generalize wn.setCells g10 0 (gz).cells = w13 at *
  have HT13 := Lib.hid (HT12.out.ext hx1)
  have HTT := Lib.hid (HTT.out.trans (TTurn.ext hx1))
  have HB4 := Lib.hid (HB4.out.ext hx1)
  have HB10 := Lib.hid hb1
  have HBL : Hid (b < g10 ∧ g8 < g10) := Lib.hid (by
    have h1 := HT12.out.blk.lt
    have h2 := HG8L.out
    have h3 := HG12.out
    have h4 := HG10.out
    omega)
  have HS13 : Hid (g3 + 1 < w13.heap.size) := Lib.hid HB4.out.lt
  have c0 := HT13.out.c.1
  clear hx1 hb1 HT12 HRG
  have hkb : k < 1001 := Nat.lt_of_lt_of_le hk (Nat.le_trans HLI.out (by decide))
  have HDA := Lib.hid (delete_any HT13.out.row HT13.out.fit k hk HLI.out)
  go_upto_region 15 with (go_at_call 35; refine (HDA.out).mono ?_; rintro e w14 ⟨v14, rfl, hr14, hg14, hat14⟩; rw [← HDL.out] at hr14; obtain ⟨p1, p2⟩ := HT13.out.turn hg14 hr14 (fun y hy => HT13.out.fit y (Nmd.mem_del.1 hy).1) hat14; have P1 := Lib.hid p1; have P2 := Lib.hid (HTT.out.trans p2); have HB10 := Lib.hid ((hg14.block g10 HB10.out.lt fun e => by have h1 : g10 = g8 := (by injection e); have := HBL.out; omega).trans HB10.out); have HB4 := Lib.hid ((hg14.block (g3 + 1) HB4.out.lt fun e => by have h1 := HNT.out (g3 + 1) (.inr e.symm); omega).trans HB4.out); have hk14 := (hg14.block b HT13.out.blk.lt fun e => HT13.out.away e.symm).trans HT13.out.blk; have c0 := Blk.cell hk14 0; have f0 := Blk.frozen hk14 0; have HNT2 : Hid (¬ TO b v14 (g3 + 1)) := Lib.hid (fun o => by
      rcases o with o | o
      · have h1 := HNT.out b (.inl rfl); omega
      · rcases hat14 with h1 | h1
        · rw [h1] at o; have h2 := HNT.out _ (.inr o); omega
        · have h2 := h1 _ o; have := HS13.out; omega); obtain ⟨A14, c14, hv14⟩ := hr14.slice; generalize List.length _ = n14 at hv14; subst hv14; clear hr14 hg14 hat14 hk14 p1 p2)
  have HB10 := Lib.hid (Blk.but (show Blk w14 g10 25 gz.cells from HB10.out) (But.set_ b w14 0 (.slice A14 n14 c14)) (fun e => by have := HBL.out; omega))
  have HB4 := Lib.hid (Blk.but (show Blk w14 (g3 + 1) 25 zT.cells from HB4.out) (But.set_ b w14 0 (.slice A14 n14 c14)) (fun e => by have := HNT.out b (.inl rfl); omega))
  clear c0 f0 HDA HT13
  generalize w14.setCell ⟨b, 0, none⟩ (.slice A14 n14 c14) = w15 at *
  refine wp_region_lit ?_
  refine wpList_ldm rfl 25 (.tmp 10) rfl g10 0 rfl gz.cells _ (Lib.hid (blk_rng HB10.out)) undT (by rw [gz.len HGD.out]; exact sizeT) ?_
  simp only [Act.put, Act.eval, List.setIfInBounds_toArray, List.set_cons_zero, List.set_cons_succ, Nat.reduceAdd, Array.getD_eq_getD_getElem?, List.getElem?_toArray, List.getElem?_cons_succ, List.getElem?_cons_zero, Option.getD_some]
  refine wpList_store_mid rfl 25 _ _ rfl (g3 + 1) 0 (gz).cells.toArray rfl ?_ ((HB4.out).there _ (by have e1 := (gz).len HGD.out; have e2 := (zT).len rfl; rw [List.size_toArray]; omega)) (by rw [List.size_toArray, (gz).len HGD.out]; exact sizeT) (all_oneCell_toArray (T.one _)) ?_
  · rfl
  simp only [List.toList_toArray]
  simp only [Act.put, Act.eval, List.setIfInBounds_toArray, List.set_cons_zero, List.set_cons_succ, Nat.reduceAdd, Array.getD_eq_getD_getElem?, List.getElem?_toArray, List.getElem?_cons_succ, List.getElem?_cons_zero, Option.getD_some]
  have HB16 := Lib.hid (HB4.out.setAll gz.cells (by rw [gz.len HGD.out, zT.len rfl]))
  have HT16 := Lib.hid (P1.out.but (But.setCells (g3 + 1) gz.cells 0 w15) HNT2.out)
  have HTU := Lib.hid (P2.out.but (But.setCells (g3 + 1) gz.cells 0 w15) (by rw [HG3.out]; omega))
  generalize w15.setCells (g3 + 1) 0 gz.cells = w16 at *
  go_wp2_with fail
  exact bodyPost_ret (results_tk3 rfl _ _ (g3 + 1) 25 gz.cells.toArray (0, 0) rfl HB16.out (by rw [List.size_toArray, gz.len HGD.out]; exact sizeT)) rfl ⟨rfl, _, HT16.out, HTU.out⟩
end Tk
end Go.Proofs.YtcfdlfedmbmidaaDoor
