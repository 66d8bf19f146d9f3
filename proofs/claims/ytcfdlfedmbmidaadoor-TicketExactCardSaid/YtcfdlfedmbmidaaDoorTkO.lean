/- The table: Drop; Put as the plain table has it. -/
import Derived.Test.YtcfdlfedmbmidaaDoorTkN
set_option linter.unusedSimpArgs false
set_option linter.unusedVariables false
set_option linter.unusedSectionVars false
namespace Go.Proofs.YtcfdlfedmbmidaaDoor
open Go Go.RowKit
namespace Tk
section
variable {w : World} {b : Nat} {v : Value} {l : List T} {most : Int}
set_option maxRecDepth 100000 in
set_option maxHeartbeats 1000000 in
theorem drop_any (h : Tb 62 w b v l most) (hu : Nmd.Up nm l) (hl : l.length ≤ 1000) (r t : List UInt8) :
    Calls Tryd.prog 19 #[.pointer (some ⟨b, 0, none⟩), .string ⟨r.toArray⟩, .string ⟨t.toArray⟩] w (ResT 62 b w v (.bool (Nmd.get nm (pair r t) l).isSome) (Nmd.del nm (pair r t) l) most) := by
  have HT := Lib.hid h
  have HU := Lib.hid hu
  have HFI := Lib.hid (find_any h hu (probe r t) rfl hl)
  rw [nm_probe] at HFI
  cases hg : Nmd.get nm (pair r t) l with
  | none =>
    have hdl : Nmd.del nm (pair r t) l = l := Nmd.del_none (Nmd.get_none hg)
    rw [hdl]
    rw [hg] at HFI
    dsimp only [Option.isSome] at HFI ⊢
    clear h hu hg hdl
    generalize Nmd.lo nm (pair r t) l = lo at *
    go_enter Tryd.func19, Tryd.ntmps19
    go_upto_region 3 with (fail)
    refine wp_region_lit ?_
    iterate 9 go_step
    refine wpList_val rfl (.agg (probe r t).cells.toArray) (by as_aux_lemma => kernel_rfl) ?_
    simp only [Act.put, Act.eval, List.setIfInBounds_toArray, List.set_cons_zero, List.set_cons_succ, Nat.reduceAdd, Array.getD_eq_getD_getElem?, List.getElem?_toArray, List.getElem?_cons_succ, List.getElem?_cons_zero, Option.getD_some]
    repeat go_step
    refine (HFI.out).mono ?_
    rintro e w2 ⟨rfl, hx2⟩
    rename_i hK
    refine hK _ _ ?_
    clear hK
    have HX2 := Lib.hid hx2
    clear hx2
    go_wp2_with fail
    go_ret
    exact ⟨rfl, v, HT.out.ext HX2.out, TTurn.ext HX2.out⟩
  | some y =>
    obtain ⟨hlt, hy, hny⟩ := Nmd.at_lo hu hg
    have hdl := Nmd.del_at hu hlt
    rw [hy, hny] at hdl
    rw [hg] at HFI
    dsimp only [Option.isSome] at HFI ⊢
    have HDL := Lib.hid hdl
    clear h hu hg hdl hy hny
    generalize Nmd.lo nm (pair r t) l = lo at *
    go_enter Tryd.func19, Tryd.ntmps19
    go_upto_region 3 with (fail)
    refine wp_region_lit ?_
    iterate 9 go_step
    refine wpList_val rfl (.agg (probe r t).cells.toArray) (by as_aux_lemma => kernel_rfl) ?_
    simp only [Act.put, Act.eval, List.setIfInBounds_toArray, List.set_cons_zero, List.set_cons_succ, Nat.reduceAdd, Array.getD_eq_getD_getElem?, List.getElem?_toArray, List.getElem?_cons_succ, List.getElem?_cons_zero, Option.getD_some]
    repeat go_step
    refine (HFI.out).mono ?_
    rintro e w2 ⟨rfl, hx2⟩
    rename_i hK
    refine hK _ _ ?_
    clear hK
    have HX2 := Lib.hid hx2
    have HT2 := Lib.hid (HT.out.ext hx2)
    clear hx2
    rcases HT2.out.row.form with ⟨_, h2⟩ | ⟨g, cap, h2, _, _, _, _⟩
    · rw [h2] at hlt; exact absurd hlt (Nat.not_lt_zero _)
    subst h2
    have c0 := HT2.out.c.1
    have HDA := Lib.hid (delete_any HT2.out.row HT2.out.fit lo hlt hl)
    go_upto_region 6 with (go_at_call 35; refine (HDA.out).mono ?_; rintro e w14 ⟨v14, rfl, hr14, hg14, hat14⟩; rw [← HDL.out] at hr14; obtain ⟨p1, p2⟩ := HT2.out.turn hg14 hr14 (fun y hy => HT2.out.fit y (Nmd.mem_del.1 hy).1) hat14; have P1 := Lib.hid p1; have P2 := Lib.hid ((TTurn.ext HX2.out).trans p2); have hk14 := (hg14.block b HT2.out.blk.lt fun e => HT2.out.away e.symm).trans HT2.out.blk; have c0 := Blk.cell hk14 0; have f0 := Blk.frozen hk14 0; obtain ⟨A14, c14, hv14⟩ := hr14.slice; generalize List.length _ = n14 at hv14; subst hv14; clear hr14 hg14 hat14 hk14 p1 p2)
    go_wp2_with fail
    go_ret
    exact ⟨rfl, _, P1.out, P2.out⟩
/-- Put of a ticket that can be -/
theorem put_any {p : P} (h : Tb 62 w b v p.l p.most) (hp : Good p) (hl : p.l.length ≤ 999) (x : T) (hx : x.dig.length = 32) (hgood : goodT x = true) :
    Calls Tryd.prog 15 #[.pointer (some ⟨b, 0, none⟩), .agg x.cells.toArray] w (ResP b w v (p.put x).1 (p.put x).2.l p.most) := by
  cases hg : p.get (nm x) with
  | some y =>
    rw [put_old hg]
    exact put_is h hp.up (by omega) x hx hgood hg
  | none =>
    rcases put_new hp hg with ⟨h1, h2⟩ | ⟨h1, g, h2, _, h4⟩
    · rw [h2]
      exact put_room h hp.up (by omega) x hx hgood hg h1
    · rw [h4]
      exact put_full h hp.up hl x hx hgood hg h1 h2
set_option maxRecDepth 100000 in
set_option maxHeartbeats 1000000 in
theorem put_bad (h : Tb 62 w b v l most) (x : T) (hx : x.dig.length = 32) (hgood : goodT x = false) :
    Calls Tryd.prog 15 #[.pointer (some ⟨b, 0, none⟩), .agg x.cells.toArray] w fun e w' => e = .returned (.tuple #[.agg zT.cells.toArray, .bool false, .int .i64 1]) ∧ Reg.Ext w w' := by
  have hb1 := boxT w x
  have hx1 := Reg.Ext.alloc w (Obj.cells x.cells.toArray 25)
  have hz1 : (w.alloc (Obj.cells x.cells.toArray 25)).heap.size = w.heap.size + 1 := by simp
  have hb2 := boxT (w.alloc (Obj.cells x.cells.toArray 25)) zT
  have hx2 := Reg.Ext.alloc (w.alloc (Obj.cells x.cells.toArray 25)) (Obj.cells zT.cells.toArray 25)
  rw [hz1] at hb2
  have HB1 := Lib.hid (hb1.ext hx2)
  have HB2 := Lib.hid hb2
  have HX2 := Lib.hid (hx1.trans hx2)
  have HXD := Lib.hid hx
  have hgd := good_any x hx
  rw [hgood] at hgd
  have HGD := Lib.hid hgd
  clear h hb1 hb2 hx1 hx2 hx hgd hgood hz1
  go_enter Tryd.func15, Tryd.ntmps15
  go_upto_region 1 with (fail)
  rw [z38]
  generalize (w.alloc (Obj.cells x.cells.toArray 25)).alloc (Obj.cells zT.cells.toArray 25) = w2 at *
  generalize hg3 : w.heap.size = g3 at *
  have HG3 := Lib.hid hg3
  clear hg3
  go_upto_region 3 with (fail)
  refine wp_region_lit ?_
  refine wpList_ldm rfl 25 (.tmp 3) rfl g3 0 rfl x.cells _ (Lib.hid (blk_rng HB1.out)) undT (by rw [x.len HXD.out]; exact sizeT) ?_
  simp only [Act.put, Act.eval, List.setIfInBounds_toArray, List.set_cons_zero, List.set_cons_succ, Nat.reduceAdd, Array.getD_eq_getD_getElem?, List.getElem?_toArray, List.getElem?_cons_succ, List.getElem?_cons_zero, Option.getD_some]
  repeat go_step
  refine (HGD.out _).mono ?_
  rintro e w3 ⟨rfl, hx3⟩
  rename_i hK
  refine hK _ _ ?_
  clear hK
  have HB2 := Lib.hid (HB2.out.ext hx3)
  have HX3 := Lib.hid (HX2.out.trans hx3)
  clear hx3 HX2
  go_upto_region 4 with (fail)
  refine wp_region_lit ?_
  refine wpList_val rfl (.agg zT.cells.toArray) (by as_aux_lemma => kernel_rfl) ?_
  simp only [Act.put, Act.eval, List.setIfInBounds_toArray, List.set_cons_zero, List.set_cons_succ, Nat.reduceAdd, Array.getD_eq_getD_getElem?, List.getElem?_toArray, List.getElem?_cons_succ, List.getElem?_cons_zero, Option.getD_some]
  refine wpList_store_mid rfl 25 _ _ rfl (g3 + 1) 0 (zT).cells.toArray rfl ?_ ((HB2.out).there _ (by have e1 := (zT).len rfl; have e2 := (zT).len rfl; rw [List.size_toArray]; omega)) (by rw [List.size_toArray, (zT).len rfl]; exact sizeT) (all_oneCell_toArray (T.one _)) ?_
  · rfl
  simp only [List.toList_toArray]
  simp only [Act.put, Act.eval, List.setIfInBounds_toArray, List.set_cons_zero, List.set_cons_succ, Nat.reduceAdd, Array.getD_eq_getD_getElem?, List.getElem?_toArray, List.getElem?_cons_succ, List.getElem?_cons_zero, Option.getD_some]
  have HB4 := Lib.hid (HB2.out.setAll zT.cells rfl)
  have HX4 := Lib.hid (HX3.out.trans_but (But.setCells (g3 + 1) zT.cells 0 w3) (by rw [HG3.out]; omega))
  generalize w3.setCells (g3 + 1) 0 zT.cells = w4 at *
  go_wp2_with fail
  exact bodyPost_ret (results_tk3 rfl _ _ (g3 + 1) 25 zT.cells.toArray (0, 0) rfl HB4.out (by exact sizeT)) rfl ⟨rfl, HX4.out⟩
end
end Tk
end Go.Proofs.YtcfdlfedmbmidaaDoor
