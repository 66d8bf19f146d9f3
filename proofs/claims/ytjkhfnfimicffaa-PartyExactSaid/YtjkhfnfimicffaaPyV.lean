/- The document's flights: turn, drop. -/
import Derived.Test.YtjkhfnfimicffaaPyT
import Derived.StillTailTactics
import Derived.Deep.MidRow
set_option linter.unusedSimpArgs false
set_option linter.unusedVariables false
set_option linter.unusedSectionVars false
namespace Go.Proofs.Ytjkhfnfimicffaa
open Go Go.RowKit
namespace Py
theorem still_ldm {P : Program} {ops : Array Oper} {rest : List Oper} {o : Oper} {a : Act} {w : World} {Q : Act → Prop} (hw : Region.wanted o (yielded ops a.tmps) = true) (ty : TypeId) (x : Operand) (ho : o.op = .load ty x)
    (g j : Nat) (hx : a.eval x = .pointer (some ⟨g, j, none⟩)) (cs : List Value) (fs : Array Field) (h : Hid (w.rangeAt g j cs)) (hu : P.underlying ty = some (.struct fs))
    (hi : (P.info? ty).map (·.size) = some cs.length) (hk : wpStill P ops w Q rest (a.put o.dst (.agg cs.toArray))) : wpStill P ops w Q (o :: rest) a := by
  unfold wpStill
  rw [if_pos hw]
  unfold Oper.still execOp
  simp only [ho, hx, Instr.loadAt, Instr.sureAddr, Sem.run_bind, Sem.run_pure, Result.andThen_ok, run_loadVar_mid w g j _ cs _ h.out hu rfl hi]
  exact ⟨rfl, hk⟩
theorem boxD (w : World) (d : D) : Blk (w.alloc (Obj.cells d.cells.toArray 54)) w.heap.size 54 d.cells := by
  have := Blk.new w 54 d.cells.toArray
  simpa using this
theorem LD.set_ {w : World} {g cap : Nat} {ds : List D} (h : LD w (.slice (some ⟨g, 0, none⟩) ds.length cap) ds) (hf : Fit ds) (j : Nat) (hj : j < ds.length) (d : D) (hd : d.f.key.dig.length = 32) :
    LD (w.setCells g (j * 38) d.cells) (.slice (some ⟨g, 0, none⟩) ds.length cap) (ds.set j d) ∧ But g w (w.setCells g (j * 38) d.cells) ∧ w.there g (j * 38) 38 := by
  refine ⟨?_, But.setCells g _ _ _, Flt.own_there h (by omega)⟩
  have h1 := Flt.own_sets d.cells (j * 38) w _ h
  rw [Flt.sets_eq _ _ _ (by rw [d.len hd]; unfold dcs; rw [Flt.len hf.len]; omega), d.len hd] at h1
  unfold LD dcs
  rw [List.length_set, Flt.set_ hf.len j hj d]
  exact h1
section
variable {ops : Array Oper} {rest : List Oper} {o : Oper} {a : Act} {Q : Exit → Act → World → Prop}
/-- append(v, row...) for a row that may be none -/
theorem DOw.pushV (hgd : o.guard = none) (s x : Operand) (ho : o.op = .call { callee := .builtin .append, args := #[s, x], argTypes := #[44, 44] })
    (W0 : World) (v u : Value) (ds es : List D) (hs : a.eval s = v) (W : World) (hb : DOw W0 W v ds) (hx : a.eval x = u) (hu : LD W u es) (hfit : Fit es) (hone : ∀ d ∈ es, d.v.oneCell' = true) (hl : ds.length + es.length ≤ 1000)
    (h : ∀ v' w', DOw W0 w' v' (ds ++ es) → wpList Try.prog ops Q rest (a.put o.dst v') w') : wpList Try.prog ops Q (o :: rest) a W := by
  rcases hu.form with ⟨rfl, rfl⟩ | ⟨g, cap, rfl, _, _, _⟩
  · obtain ⟨i, hi, hz, hsz, hby⟩ := flInfo_of
    refine wpList_val hgd v ?_ (h v W (by rw [List.append_nil]; exact hb))
    unfold execOp
    simp only [ho, resolve, invoke, builtin, Sem.run_bind, Sem.run_pure, Result.andThen_ok, List.map_toArray, List.map_cons, List.map_nil, hs, hx, run_append_owned_none (P := Try.prog) (w := W) W0.heap.size 44 o.type 54 i 38 Try.underlying44 hi v ds.length (dcs ds) hb.1]
  · exact DOw.pushAll hgd s x ho W0 v ds es hs W ⟨g, 0, none⟩ cap hb hx (fun j u hj => World.ownsRow.cells hu rfl j u hj) hfit hone hl h
end
/-- what turn and drop leave -/
def ResV (b : Nat) (w : World) (ds : List D) (p : P) (e : Ending) (w' : World) : Prop := e = .returned (.tuple #[]) ∧ ∃ v', RD w' b v' ds p ∧ But b w w' ∧ ∀ g, v'.ownBlock = some g → w.heap.size ≤ g
section
variable {w : World} {b : Nat} {v : Value} {ds : List D} {p : P}
theorem RD.ones (R : RD w b v ds p) : ∀ d ∈ ds, d.v.oneCell' = true := fun d hd => (R.who d hd).one
set_option maxRecDepth 100000 in
set_option maxHeartbeats 1000000 in
theorem turnR (R : RD w b v ds p) (i : Nat) (hi : i < ds.length) (hl : ds.length ≤ 200) (d : D) (hd : d.f.key.dig.length = 32) (hr : RowI 0 w d.v d.f.who) (hb : d.v.ownBlock ≠ some b) :
    Calls Try.prog 31 #[.pointer (some ⟨b, 0, none⟩), .int .i64 (i : Int), .agg d.cells.toArray] w (ResV b w (ds.set i d) { p with fs := p.fs.set i d.f }) := by
  have HI := Lib.hid hi
  rcases R.row.form with ⟨_, h2⟩ | ⟨g, cap, h2, _, _, _⟩
  · rw [h2] at hi; exact absurd hi (Nat.not_lt_zero _)
  subst h2
  have hb1 := boxD w d
  have hx1 := Reg.Ext.alloc w (Obj.cells d.cells.toArray 54)
  have HW0 := Lib.hid R
  have HD := Lib.hid hd
  have HRo := Lib.hid hr
  have HBo := Lib.hid hb
  clear R hd hr hb
  go_enter Try.func31, Try.ntmps31
  go_upto_region 1 with (fail)
  generalize w.alloc (Obj.cells d.cells.toArray 54) = w1 at *
  generalize hg1 : w.heap.size = g1 at *
  have HR1 := Lib.hid (HW0.out.ext hx1)
  have HB1 := Lib.hid hb1
  have HX1 := Lib.hid hx1
  have HN := Lib.hid (DOw.new (Reg.Ext.refl w1))
  have c0 := ((HR1.out.ext (Reg.Ext.alloc w1 (.cells #[] 54))).c).1
  clear hb1 hx1
  go_upto_region 2 with (refine DOw.pushV rfl (.tmp 7) (.tmp 11) rfl w1 _ _ [] ds rfl _ HN.out rfl (HR1.out.ext (Reg.Ext.alloc _ _)).row HR1.out.fit HR1.out.ones (by show 0 + ds.length ≤ 1000; omega) ?_; intro v2 w2 hf2; rw [List.nil_append] at hf2; obtain ⟨k1, k2⟩ := HR1.out.shut hf2 HR1.out.fit (fun e he => (HR1.out.ext hf2.2).who e he) (fun e he => .inl he) HR1.out.fs rfl rfl; have c0 := (HR1.out.ext hf2.2).c.1; have f0 := (HR1.out.ext hf2.2).blk.frozen 0; have HK1 := Lib.hid k1; have HK2 := Lib.hid k2; have HF2 := Lib.hid hf2; obtain ⟨A2, cap2, hv2⟩ := hf2.ld.slice; subst hv2; clear k1 k2 hf2)
  rcases HF2.out.ld.form with ⟨_, h2⟩ | ⟨g2, cap3, h2, hlt2, _, _⟩
  · rw [h2] at hi; exact absurd hi (Nat.not_lt_zero _)
  injection h2 with h2 hh h3
  clear hh
  subst h2 h3
  have HGE := Lib.hid (HF2.out.ge (g := g2) rfl)
  have hbn : b ≠ g2 := fun e => by have := HR1.out.blk.lt; have := HGE.out; omega
  have hB3 : Hid (Blk (w2.setCell ⟨b, 0, none⟩ (.slice (some ⟨g2, 0, none⟩) ds.length cap2)) g1 54 d.cells) := Lib.hid ((HB1.out.ext HF2.out.2).but (But.set_ b w2 0 _) (fun e => by have := HW0.out.blk.lt; omega))
  have hrow3 : Hid (RowI 0 (w2.setCell ⟨b, 0, none⟩ (.slice (some ⟨g2, 0, none⟩) ds.length cap2)) d.v d.f.who) := Lib.hid (RowI.same (RowI.ext HRo.out (HX1.out.trans HF2.out.2)) fun x hx => (But.set_ b w2 0 (.slice (some ⟨g2, 0, none⟩) ds.length cap2)).block x (Go.Proofs.Ytjkhfnfimicffaa.own_lt (RowI.ext HRo.out (HX1.out.trans HF2.out.2)) hx) fun e => HBo.out (by injection e with e; rw [← e]; exact hx))
  clear c0 f0 hlt2
  generalize w2.setCell ⟨b, 0, none⟩ (.slice (some ⟨g2, 0, none⟩) ds.length cap2) = w3 at *
  have HK1d := Lib.hid (HK1.out.ext (Reg.Ext.drew w3))
  have c0 := HK1d.out.c.1
  obtain ⟨s1, s2, s3⟩ := HK1d.out.row.set_ HK1d.out.fit i hi d HD.out
  have S1 := Lib.hid s1
  have S2 := Lib.hid s2
  have S3 := Lib.hid s3
  clear s1 s2 s3
  have hR9 := Lib.hid (blk_rng (hB3.out.ext (Reg.Ext.drew w3)))
  go_still_tail 7, (by kernel_rfl)
  repeat (first | refine still_ldm rfl _ _ rfl g1 0 rfl d.cells _ hR9 undF (by rw [d.len HD.out]; exact sizeF) ?_ | still_step)
  refine wpStill_nil ?_
  change wpList _ _ _ _ _ w3.drew
  refine wpList_store_mid rfl 54 _ _ rfl g2 (i * 38) d.cells.toArray rfl rfl (by rw [List.size_toArray, d.len HD.out]; exact S3.out) (by rw [List.size_toArray, d.len HD.out]; exact sizeF) (all_oneCell_toArray (d.one HRo.out.one)) ?_
  simp only [List.toList_toArray]
  simp only [Act.put, Act.eval, List.setIfInBounds_toArray, List.set_cons_zero, List.set_cons_succ, Nat.reduceAdd, Array.getD_eq_getD_getElem?, List.getElem?_toArray, List.getElem?_cons_succ, List.getElem?_cons_zero, Option.getD_some]
  go_wp2_with fail
  go_end0
  have hw1 := HX1.out.size
  refine ⟨rfl, _, ⟨?_, S1.out, ?_, ?_, ?_, HK1.out.away, ?_⟩, ?_, fun x hx => ?_⟩
  · exact HK1d.out.blk.but S2.out hbn
  · show (ds.set i d).map D.f = p.fs.set i d.f
    rw [List.map_set, HK1.out.fs]
  · intro e he
    rcases List.mem_or_eq_of_mem_set he with h1 | h1
    · exact HK1.out.fit e h1
    · rw [h1]; exact HD.out
  · intro e he
    have hx : RowI 0 w3.drew e.v e.f.who ∧ ∀ y, e.v.ownBlock = some y → y < w1.heap.size := by
      rcases List.mem_or_eq_of_mem_set he with h1 | h1
      · exact ⟨HK1d.out.who e h1, fun y hy => Go.Proofs.Ytjkhfnfimicffaa.own_lt (HR1.out.who e h1) hy⟩
      · rw [h1]; exact ⟨RowI.ext hrow3.out (Reg.Ext.drew w3), fun y hy => Nat.lt_of_lt_of_le (Go.Proofs.Ytjkhfnfimicffaa.own_lt HRo.out hy) hw1⟩
    exact RowI.same hx.1 fun y hy => S2.out.block y (Go.Proofs.Ytjkhfnfimicffaa.own_lt hx.1 hy) fun e1 => by injection e1 with e1; have := hx.2 y hy; have := HGE.out; omega
  · intro e he
    rcases List.mem_or_eq_of_mem_set he with h1 | h1
    · exact HK1.out.far e h1
    · rw [h1]; exact HBo.out
  · have h1 : But b w w3 := (But.of_ext HX1.out).trans HK2.out.1
    refine ⟨S2.out.os.trans h1.os, S2.out.tape.trans h1.tape, S2.out.output.trans h1.output, Nat.le_trans h1.size S2.out.size, fun x hx hxb => ?_⟩
    exact (S2.out.block x (Nat.lt_of_lt_of_le hx h1.size) fun e1 => by injection e1 with e1; have := HGE.out; omega).trans (h1.block x hx hxb)
  · have : g2 = x := by injection hx
    have := HGE.out
    omega
set_option maxRecDepth 100000 in
set_option maxHeartbeats 1000000 in
theorem dropR (R : RD w b v ds p) (i : Nat) (hi : i < ds.length) (hl : ds.length ≤ 200) :
    Calls Try.prog 32 #[.pointer (some ⟨b, 0, none⟩), .int .i64 (i : Int)] w (ResV b w (ds.take i ++ ds.drop (i + 1)) { p with fs := p.fs.take i ++ p.fs.drop (i + 1) }) := by
  have HR := Lib.hid R
  rcases R.row.form with ⟨_, h2⟩ | ⟨g, cap, h2, hgl, hnc, hcm⟩
  · rw [h2] at hi; exact absurd hi (Nat.not_lt_zero _)
  subst h2
  clear R
  unfold maxLen at hcm
  have HN := Lib.hid (DOw.new (Reg.Ext.refl w))
  have hx6 := Reg.Ext.alloc w (.cells #[] 54)
  have HX := Lib.hid hx6
  have c0 := (HR.out.ext hx6).c.1
  have HLT : Hid ((ds.take i).length = i) := Lib.hid (by rw [List.length_take]; omega)
  have HLD : Hid ((ds.drop (i + 1)).length = ds.length - (i + 1)) := Lib.hid List.length_drop
  have HF1 : Hid (Fit (ds.take i)) := Lib.hid fun e he => HR.out.fit e (List.mem_of_mem_take he)
  have HF2 : Hid (Fit (ds.drop (i + 1))) := Lib.hid fun e he => HR.out.fit e (List.mem_of_mem_drop he)
  have HO1 : Hid (∀ e ∈ ds.take i, e.v.oneCell' = true) := Lib.hid fun e he => HR.out.ones e (List.mem_of_mem_take he)
  have HO2 : Hid (∀ e ∈ ds.drop (i + 1), e.v.oneCell' = true) := Lib.hid fun e he => HR.out.ones e (List.mem_of_mem_drop he)
  have HMM : Hid (∀ e ∈ ds.take i ++ ds.drop (i + 1), e ∈ ds) := Lib.hid fun e he => (List.mem_append.1 he).elim List.mem_of_mem_take List.mem_of_mem_drop
  have HSH : Hid (∀ v' w', DOw w w' v' (ds.take i ++ ds.drop (i + 1)) → RD (w'.setCell ⟨b, 0, none⟩ v') b v' (ds.take i ++ ds.drop (i + 1)) { p with fs := p.fs.take i ++ p.fs.drop (i + 1) } ∧ But b w (w'.setCell ⟨b, 0, none⟩ v') ∧ ∀ g, v'.ownBlock = some g → w.heap.size ≤ g) := Lib.hid fun v' w' hf => by
    obtain ⟨k1, k2⟩ := HR.out.shut (q := { p with fs := p.fs.take i ++ p.fs.drop (i + 1) }) hf (fun e he => HR.out.fit e (HMM.out e he)) (fun e he => (HR.out.ext hf.2).who e (HMM.out e he)) (fun e he => .inl (HMM.out e he)) (by rw [List.map_append, List.map_take, List.map_drop, HR.out.fs]) rfl rfl
    exact ⟨k1, k2.1, fun g hg => hf.ge hg⟩
  clear hx6
  by_cases hc : cap = i + 1
  · subst hc
    have HZ : Hid (ds.drop (i + 1) = []) := Lib.hid (List.drop_of_length_le hnc)
    go_enter Try.func32, Try.ntmps32
    go_wp2_with (first
      | (refine DOw.pushAll rfl (.tmp 5) (.tmp 11) rfl w _ [] (ds.take i) rfl _ ⟨g, 0, none⟩ (i + 1) HN.out (by rw [HLT.out]; rfl) ((HR.out.ext HX.out).row.head HR.out.fit i) HF1.out HO1.out (by rw [HLT.out]; show 0 + i ≤ 1000; omega) ?_; intro v2 w2 hf2; have F2 := Lib.hid hf2; have c0 := (HR.out.ext hf2.2).c.1; clear hf2)
      | (refine DOw.pushAll rfl (.tmp 14) (.tmp 21) rfl w _ (ds.take i) [] rfl _ ⟨g, 0, none⟩ 0 F2.out rfl (fun j u hj => by cases hj) (fun e he => by cases he) (fun e he => by cases he) (by rw [HLT.out]; show i + 0 ≤ 1000; omega) ?_; intro v3 w3 hf3; rw [← HZ.out] at hf3; have S3 := Lib.hid (HSH.out v3 w3 hf3); have c0 := (HR.out.ext hf3.2).c.1; have f0 := (HR.out.ext hf3.2).blk.frozen 0; obtain ⟨A3, cap3, hv3⟩ := hf3.ld.slice; generalize List.length _ = n3 at hv3; subst hv3; clear hf3))
    go_end0
    exact ⟨rfl, _, S3.out⟩
  · go_enter Try.func32, Try.ntmps32
    go_wp2_with (first
      | (refine DOw.pushAll rfl (.tmp 5) (.tmp 11) rfl w _ [] (ds.take i) rfl _ ⟨g, 0, none⟩ cap HN.out (by rw [HLT.out]; rfl) ((HR.out.ext HX.out).row.head HR.out.fit i) HF1.out HO1.out (by rw [HLT.out]; show 0 + i ≤ 1000; omega) ?_; intro v2 w2 hf2; have F2 := Lib.hid hf2; have c0 := (HR.out.ext hf2.2).c.1; clear hf2)
      | (refine DOw.pushAll rfl (.tmp 14) (.tmp 21) rfl w _ (ds.take i) (ds.drop (i + 1)) rfl _ ⟨g, (i + 1) * 38, none⟩ (cap - (i + 1)) F2.out (by rw [HLD.out]; rfl) ((HR.out.ext F2.out.2).row.tail HR.out.fit (i + 1)) HF2.out HO2.out (by rw [HLT.out, HLD.out]; omega) ?_; intro v3 w3 hf3; have S3 := Lib.hid (HSH.out v3 w3 hf3); have c0 := (HR.out.ext hf3.2).c.1; have f0 := (HR.out.ext hf3.2).blk.frozen 0; obtain ⟨A3, cap3, hv3⟩ := hf3.ld.slice; generalize List.length _ = n3 at hv3; subst hv3; clear hf3))
    go_end0
    exact ⟨rfl, _, S3.out⟩
end
end Py
end Go.Proofs.Ytjkhfnfimicffaa
