/- The document's flights: Join. -/
import Derived.Test.YtjkhfnfimicffaaPyX
import Derived.BigQuiet
set_option linter.unusedSimpArgs false
set_option linter.unusedVariables false
set_option linter.unusedSectionVars false
namespace Go.Proofs.Ytjkhfnfimicffaa
open Go Go.RowKit
namespace Py
theorem DOw.pushG {ops : Array Oper} {rest : List Oper} {o : Oper} {a : Act} {Q : Exit → Act → World → Prop} (hgd : o.guard = none) (s x : Operand) (ho : o.op = .call { callee := .builtin .append, args := #[s, x], argTypes := #[44, 44] })
    (W0 : World) (v u : Value) (ds es : List D) (hs : a.eval s = v) (W : World) (hb : DOw W0 W v ds) (hx : a.eval x = u) (hu : LD W u es) (hfit : Fit es) (hone : ∀ d ∈ es, d.v.oneCell' = true) (hl : ds.length + es.length ≤ 1000)
    (h : ∀ v' w', DOw W0 w' v' (ds ++ es) → W.grownBy w' v.ownBlock → (v'.ownBlock = v.ownBlock ∨ v'.ownBlock = some W.heap.size) → wpList Try.prog ops Q rest (a.put o.dst v') w') : wpList Try.prog ops Q (o :: rest) a W := by
  obtain ⟨i, hi, hz, hsz, hby⟩ := flInfo_of
  rcases hu.form with ⟨rfl, rfl⟩ | ⟨g, cap, rfl, _, _, _⟩
  · refine wpList_val hgd v ?_ (h v W (by rw [List.append_nil]; exact hb) (World.grownBy.refl W _) (.inl rfl))
    unfold execOp
    simp only [ho, resolve, invoke, builtin, Sem.run_bind, Sem.run_pure, Result.andThen_ok, List.map_toArray, List.map_cons, List.map_nil, hs, hx, run_append_owned_none (P := Try.prog) (w := W) W0.heap.size 44 o.type 54 i 38 Try.underlying44 hi v ds.length (dcs ds) hb.1]
  · refine Go.wpList_append_own_at W hgd s x 44 ho W0.heap.size 54 i (.agg zD.cells.toArray) 38 112 Try.underlying44 hi hz hsz hby rfl (by decide) v ds.length (dcs ds) hs hb.1 ⟨g, 0, none⟩ es.length cap (dcs es) hx (Flt.len hfit.len) (fun j u hj => World.ownsRow.cells hu rfl j u hj) ?_ (by unfold maxLen; omega) (by omega) hb.2.size ?_
    · intro u hu
      obtain ⟨d, hd, hu⟩ := List.mem_flatMap.1 hu
      exact d.one (hone d hd) u hu
    · intro v' w' ho' hg _ hat
      refine h v' w' ⟨?_, Below.grown hb.2 hg hb.2.size fun k hk => (hb.1.lt k hk).1⟩ hg hat
      rw [List.length_append, show dcs (ds ++ es) = dcs ds ++ dcs es from List.flatMap_append]
      exact ho'
theorem LD.lone {w : World} {g : Nat} {d : D} (hd : d.f.key.dig.length = 32) (h : Blk w g 54 d.cells) : LD w (.slice (some ⟨g, 0, none⟩) 1 1) [d] := by
  refine ⟨by simp [dcs, d.len hd], .inr ⟨g, 1, d.cells.toArray, rfl, Nat.zero_le _, h, Nat.le_refl _, by unfold maxLen; omega, by simp [d.len hd], ?_⟩⟩
  simp [dcs]
  exact List.take_of_length_le (by rw [d.len hd]; omega)
theorem RowI.lone {w : World} {g : Nat} {x : Int} (h : Blk w g 3 [.int .i64 x]) : RowI 0 w (.slice (some ⟨g, 0, none⟩) 1 1) [x] :=
  ⟨rfl, .inr ⟨g, 1, #[.int .i64 x], rfl, Nat.zero_le _, h, Nat.le_refl _, by unfold maxLen; omega, rfl, rfl⟩⟩
/-- the new flight, as it is made piece by piece in any order -/
structure Sg (W0 w : World) (ds : List D) (f : Fl) (o1 : Option Nat) (oV : Option Value) (ox od : Option Nat) : Prop where
  ext : Reg.Ext W0 w
  one : ∀ g, o1 = some g → DOw W0 w (.slice (some ⟨g, 0, none⟩) 0 0) []
  row : ∀ v, oV = some v → DOw W0 w v ds
  num : ∀ g x, ox = some g → f.who = [x] → Blk w g 3 [.int .i64 x]
  fl : ∀ g gx, od = some g → ox = some gx → Blk w g 54 (⟨f, .slice (some ⟨gx, 0, none⟩) 1 1⟩ : D).cells
  new : ∀ g, (o1 = some g ∨ ox = some g ∨ od = some g) → W0.heap.size ≤ g ∧ g < w.heap.size
  nx : ∀ g gx, o1 = some g → (ox = some gx ∨ od = some gx) → g ≠ gx
  nv : ∀ v gx, oV = some v → (ox = some gx ∨ od = some gx) → v.ownBlock ≠ some gx
section
variable {W0 w : World} {ds : List D} {f : Fl} {o1 : Option Nat} {oV : Option Value} {ox od : Option Nat}
theorem Sg.start (W0 : World) (ds : List D) (f : Fl) : Sg W0 W0 ds f none none none none :=
  ⟨Reg.Ext.refl _, fun g e => (by cases e), fun g e => (by cases e), fun g x e => (by cases e), fun g gx e => (by cases e), fun g e => (by rcases e with e | e | e <;> cases e), fun g gx e => (by cases e), fun v gx e => (by cases e)⟩
theorem Sg.e1 (s : Sg W0 w ds f none oV ox od) : Sg W0 (w.alloc (.cells #[] 54)) ds f (some w.heap.size) oV ox od := by
  have hx := Reg.Ext.alloc w (.cells #[] 54)
  have hz : (w.alloc (.cells #[] 54)).heap.size = w.heap.size + 1 := by simp
  refine ⟨s.ext.trans hx, fun g e => ?_, fun v e => (s.row v e).later hx, fun g x e e2 => (s.num g x e e2).ext hx, fun g gx e e2 => (s.fl g gx e e2).ext hx, fun g e => ?_, fun g gx e e2 => ?_, s.nv⟩
  · injection e with e; subst e; exact DOw.new s.ext
  · rcases e with e | e
    · injection e with e; subst e; have := s.ext.size; omega
    · have := s.new g (.inr e); omega
  · injection e with e; subst e
    have := s.new gx (.inr e2); omega
theorem Sg.e13 (s : Sg W0 w ds f o1 oV none none) {x : Int} (hf : f.who = [x]) : Sg W0 (w.alloc (.cells #[.int .i64 x] 3)) ds f o1 oV (some w.heap.size) none := by
  have hx := Reg.Ext.alloc w (.cells #[.int .i64 x] 3)
  have hz : (w.alloc (.cells #[.int .i64 x] 3)).heap.size = w.heap.size + 1 := by simp
  refine ⟨s.ext.trans hx, fun g e => (s.one g e).later hx, fun v e => (s.row v e).later hx, fun g y e e2 => ?_, fun g gx e => (by cases e), fun g e => ?_, fun g gx e e2 => ?_, fun v gx e e2 => ?_⟩
  · injection e with e; subst e
    rw [hf] at e2
    injection e2 with e2; subst e2
    exact Blk.new _ _ _
  · rcases e with e | e | e
    · have := s.new g (.inl e); omega
    · injection e with e; subst e; have := s.ext.size; omega
    · cases e
  · rcases e2 with e2 | e2
    · injection e2 with e2; subst e2; have := s.new g (.inl e); omega
    · cases e2
  · rcases e2 with e2 | e2
    · injection e2 with e2; subst e2
      intro e3; have := (World.ownsRow.lt (s.row v e).1 _ e3).2; omega
    · cases e2
theorem Sg.e15 {gx : Nat} (s : Sg W0 w ds f o1 oV (some gx) none) : Sg W0 (w.alloc (.cells (⟨f, .slice (some ⟨gx, 0, none⟩) 1 1⟩ : D).cells.toArray 54)) ds f o1 oV (some gx) (some w.heap.size) := by
  have hx := Reg.Ext.alloc w (.cells (⟨f, .slice (some ⟨gx, 0, none⟩) 1 1⟩ : D).cells.toArray 54)
  have hz : (w.alloc (.cells (⟨f, .slice (some ⟨gx, 0, none⟩) 1 1⟩ : D).cells.toArray 54)).heap.size = w.heap.size + 1 := by simp
  refine ⟨s.ext.trans hx, fun g e => (s.one g e).later hx, fun v e => (s.row v e).later hx, fun g y e e2 => (s.num g y e e2).ext hx, fun g gy e e2 => ?_, fun g e => ?_, fun g gy e e2 => ?_, fun v gy e e2 => ?_⟩
  · injection e with e; subst e
    injection e2 with e2; subst e2
    exact boxD w _
  · rcases e with e | e | e
    · have := s.new g (.inl e); omega
    · have := s.new g (.inr (.inl e)); omega
    · injection e with e; subst e; have := s.ext.size; omega
  · rcases e2 with e2 | e2
    · exact s.nx g gy e (.inl e2)
    · injection e2 with e2; subst e2; have := s.new g (.inl e); omega
  · rcases e2 with e2 | e2
    · exact s.nv v gy e (.inl e2)
    · injection e2 with e2; subst e2
      intro e3; have := (World.ownsRow.lt (s.row v e).1 _ e3).2; omega
theorem Sg.e6 {g1 : Nat} {w' : World} {v : Value} (s : Sg W0 w ds f (some g1) none ox od) (h : DOw W0 w' v ds) (hg : w.grownBy w' (some g1)) (hat : v.ownBlock = some g1 ∨ v.ownBlock = some w.heap.size) : Sg W0 w' ds f none (some v) ox od := by
  have hz := hg.size
  refine ⟨h.2, fun g e => (by cases e), fun u e => (by injection e with e; subst e; exact h), fun g y e e2 => ?_, fun g gy e e2 => ?_, fun g e => ?_, fun g gy e => (by cases e), fun u gy e e2 => ?_⟩
  · exact (s.num g y e e2).but hg (Ne.symm (s.nx g1 g rfl (.inl e)))
  · exact (s.fl g gy e e2).but hg (Ne.symm (s.nx g1 g rfl (.inr e)))
  · rcases e with e | e
    · cases e
    · have := s.new g (.inr e); omega
  · injection e with e; subst e
    have h1 := s.nx g1 gy rfl e2
    have h2 := s.new gy (.inr e2)
    rcases hat with h3 | h3 <;> rw [h3] <;> intro h4 <;> injection h4 with h4 <;> omega
end
section
variable {w : World} {b : Nat} {v : Value} {ds : List D} {p : P}
set_option maxRecDepth 100000 in
theorem joinR_two (R : RD w b v ds p) (k : Ky) (hkd : k.dig.length = 32) (x : Int) (hl : ds.length ≤ 200) (hw : ∀ d ∈ ds, d.f.who.length ≤ 1000000) {m : Nat} (h : pWh x p.fs = some m) :
    Calls Try.prog 18 #[.pointer (some ⟨b, 0, none⟩), .agg k.cells.toArray, .int .i64 x] w (ResR b w v ds (.tuple #[.int .i64 0, .bool false, .int .i64 9]) p) := by
  have hb1 := boxK w k
  have hx1 := Reg.Ext.alloc w (Obj.cells k.cells.toArray 33)
  have HX := Lib.hid hx1
  have HR := Lib.hid (R.ext hx1)
  have hp := whereR HR.out x (by omega) hw
  rw [h] at hp
  have HP : Hid (Calls Try.prog 22 #[.pointer (some ⟨b, 0, none⟩), .int .i64 x] (w.alloc (Obj.cells k.cells.toArray 33)) fun e w' => e = .returned (.int .i64 (m : Int)) ∧ w' = w.alloc (Obj.cells k.cells.toArray 33)) := Lib.hid hp
  clear R hp h hw hb1 hx1
  go_enter Try.func18, Try.ntmps18
  go_upto_region 1 with (fail)
  generalize w.alloc (Obj.cells k.cells.toArray 33) = w1 at *
  go_wp2_with (go_at_call 22; refine HP.out.mono ?_; rintro e w' ⟨rfl, rfl⟩)
  refine bodyPost_ret (results_tmp3 rfl _ _ _) rfl ?_
  exact ⟨rfl, _, _, HR.out, RTurn.ext HX.out⟩
set_option maxRecDepth 100000 in
theorem joinR_full (R : RD w b v ds p) (k : Ky) (hkd : k.dig.length = 32) (x : Int) (hl : ds.length ≤ 200) (hw : ∀ d ∈ ds, d.f.who.length ≤ 1000000) (h : pWh x p.fs = none) (h2 : pKey k p.fs = none) (hm : p.most ≤ (ds.length : Int)) :
    Calls Try.prog 18 #[.pointer (some ⟨b, 0, none⟩), .agg k.cells.toArray, .int .i64 x] w (ResR b w v ds (.tuple #[.int .i64 0, .bool false, .int .i64 6]) p) := by
  have qm : decide (p.most ≤ (ds.length : Int)) = true := decide_eq_true hm
  clear hm
  obtain ⟨A, cap, hv⟩ := R.row.slice
  subst hv
  have hb1 := boxK w k
  have hx1 := Reg.Ext.alloc w (Obj.cells k.cells.toArray 33)
  have HX := Lib.hid hx1
  have HR := Lib.hid (R.ext hx1)
  have hp := whereR HR.out x (by omega) hw
  rw [h] at hp
  have HP : Hid (Calls Try.prog 22 #[.pointer (some ⟨b, 0, none⟩), .int .i64 x] (w.alloc (Obj.cells k.cells.toArray 33)) fun e w' => e = .returned (.int .i64 (-1)) ∧ w' = w.alloc (Obj.cells k.cells.toArray 33)) := Lib.hid hp
  have HKD := Lib.hid hkd
  have hlt := R.blk.lt
  clear hp h hx1
  go_enter Try.func18, Try.ntmps18
  go_upto_region 1 with (fail)
  generalize w.alloc (Obj.cells k.cells.toArray 33) = w1 at *
  generalize hg1 : w.heap.size = g1 at *
  have HG1 := Lib.hid hg1
  have HB1 := Lib.hid hb1
  have HLT := Lib.hid hlt
  clear hb1 hg1 hlt
  go_upto_region 3 with (go_at_call 22; refine HP.out.mono ?_; rintro e w' ⟨rfl, rfl⟩)
  have HF : Hid (Calls Try.prog 21 #[.pointer (some ⟨b, 0, none⟩), .agg k.cells.toArray] w' fun e1 w2 => e1 = .returned (.int .i64 (-1)) ∧ Reg.Ext w' w2) := Lib.hid (by
    have hf := findR HR.out k HKD.out (by omega)
    rw [h2] at hf
    exact hf)
  clear h2 HP
  refine wp_region_lit ?_
  iterate 3 go_step
  refine wpList_ldm rfl 33 (.tmp 4) rfl g1 0 rfl k.cells _ (Lib.hid (blk_rng HB1.out)) undK (by rw [k.len HKD.out]; exact sizeK) ?_
  simp only [Act.put, Act.eval, List.setIfInBounds_toArray, List.set_cons_zero, List.set_cons_succ, Nat.reduceAdd, Array.getD_eq_getD_getElem?, List.getElem?_toArray, List.getElem?_cons_succ, List.getElem?_cons_zero, Option.getD_some]
  repeat go_step
  refine HF.out.mono ?_
  rintro e1 wj ⟨rfl, hx2⟩
  rename_i hK
  refine hK _ _ ?_
  clear hK HF
  have HR2 := Lib.hid (HR.out.ext hx2)
  have HX2 := Lib.hid (HX.out.trans hx2)
  have HB2 := Lib.hid (HB1.out.ext hx2)
  clear hx2 HR HX HB1
  clear R hw
  obtain ⟨c0, c1, c2⟩ := HR2.out.c
  go_upto_region 9 with (fail)
  go_quiet (fail)
  go_wp2_with fail
  refine bodyPost_ret (results_tmp3 rfl _ _ _) rfl ?_
  exact ⟨rfl, _, _, HR2.out.ext (Reg.Ext.drewN _ _), RTurn.ext (HX2.out.trans (Reg.Ext.drewN _ _))⟩
set_option maxRecDepth 100000 in
set_option maxHeartbeats 4000000 in
theorem joinR_more (R : RD w b v ds p) (k : Ky) (hkd : k.dig.length = 32) (x : Int) (hl : ds.length ≤ 200) (hw : ∀ d ∈ ds, d.f.who.length ≤ 1000000) (h : pWh x p.fs = none) {m : Nat} (hmd : m < ds.length) (h2 : pKey k p.fs = some m) (d : D) (hds : ds[m] = d) :
    Calls Try.prog 18 #[.pointer (some ⟨b, 0, none⟩), .agg k.cells.toArray, .int .i64 x] w (ResR b w v ds (.tuple #[.int .i64 d.f.id, .bool false, .int .i64 0]) { p with fs := p.fs.set m { d.f with who := d.f.who ++ [x] } }) := by
  rcases R.row.form with ⟨_, h3⟩ | ⟨g, cap, h3, _, _, _⟩
  · rw [h3] at hmd; exact absurd hmd (Nat.not_lt_zero _)
  subst h3
  have hme : d ∈ ds := hds ▸ List.getElem_mem hmd
  have HWL := Lib.hid (hw _ hme)
  have hb1 := boxK w k
  have hx1 := Reg.Ext.alloc w (Obj.cells k.cells.toArray 33)
  have HX := Lib.hid hx1
  have HR := Lib.hid (R.ext hx1)
  have hp := whereR HR.out x (by omega) hw
  rw [h] at hp
  have HP : Hid (Calls Try.prog 22 #[.pointer (some ⟨b, 0, none⟩), .int .i64 x] (w.alloc (Obj.cells k.cells.toArray 33)) fun e w' => e = .returned (.int .i64 (-1)) ∧ w' = w.alloc (Obj.cells k.cells.toArray 33)) := Lib.hid hp
  have HKD := Lib.hid hkd
  have hlt := R.blk.lt
  clear hp h hx1
  go_enter Try.func18, Try.ntmps18
  go_upto_region 1 with (fail)
  generalize w.alloc (Obj.cells k.cells.toArray 33) = w1 at *
  generalize hg1 : w.heap.size = g1 at *
  have HG1 := Lib.hid hg1
  have HB1 := Lib.hid hb1
  have HLT := Lib.hid hlt
  clear hb1 hg1 hlt
  go_upto_region 3 with (go_at_call 22; refine HP.out.mono ?_; rintro e w' ⟨rfl, rfl⟩)
  have HF : Hid (Calls Try.prog 21 #[.pointer (some ⟨b, 0, none⟩), .agg k.cells.toArray] w' fun e1 w2 => e1 = .returned (.int .i64 (m : Int)) ∧ Reg.Ext w' w2) := Lib.hid (by
    have hf := findR HR.out k HKD.out (by omega)
    rw [h2] at hf
    exact hf)
  clear h2 HP
  refine wp_region_lit ?_
  iterate 3 go_step
  refine wpList_ldm rfl 33 (.tmp 4) rfl g1 0 rfl k.cells _ (Lib.hid (blk_rng HB1.out)) undK (by rw [k.len HKD.out]; exact sizeK) ?_
  simp only [Act.put, Act.eval, List.setIfInBounds_toArray, List.set_cons_zero, List.set_cons_succ, Nat.reduceAdd, Array.getD_eq_getD_getElem?, List.getElem?_toArray, List.getElem?_cons_succ, List.getElem?_cons_zero, Option.getD_some]
  repeat go_step
  refine HF.out.mono ?_
  rintro e1 wj ⟨rfl, hx2⟩
  rename_i hK
  refine hK _ _ ?_
  clear hK HF
  have HR2 := Lib.hid (HR.out.ext hx2)
  have HX2 := Lib.hid (HX.out.trans hx2)
  have HB2 := Lib.hid (HB1.out.ext hx2)
  clear hx2 HR HX HB1
  have c0 := HR2.out.c.1
  have HRG : Hid (wj.rangeAt g (m * 38) d.cells) := Lib.hid (hds ▸ HR2.out.row.range HR2.out.fit m hmd)
  have HD := Lib.hid (HR2.out.fit _ hme)
  have HRW := Lib.hid (HR2.out.who _ hme)
  have HFR := Lib.hid (HR2.out.far _ hme)
  have hwl := HWL.out
  clear R hw hme hds
  go_upto_region 5 with (fail)
  refine wp_region_lit ?_
  iterate 18 go_step
  refine wpList_ldm rfl 54 (.tmp 25) rfl g (m * 38) rfl d.cells _ HRG undF (by rw [d.len HD.out]; exact sizeF) ?_
  simp only [Act.put, Act.eval, List.setIfInBounds_toArray, List.set_cons_zero, List.set_cons_succ, Nat.reduceAdd, Array.getD_eq_getD_getElem?, List.getElem?_toArray, List.getElem?_cons_succ, List.getElem?_cons_zero, Option.getD_some]
  iterate 3 go_step
  rw [zD_cells]
  obtain ⟨g7, hg7⟩ : ∃ g, (wj).heap.size = g := ⟨_, rfl⟩
  have hb0 := boxD wj zD
  have hx0 := Reg.Ext.alloc wj (Obj.cells zD.cells.toArray 54)
  rw [hg7] at hb0 ⊢
  generalize (wj).alloc (Obj.cells zD.cells.toArray 54) = w1 at *
  refine wpList_store_mid rfl 54 _ _ rfl g7 0 d.cells.toArray rfl rfl (hb0.there _ (by rw [List.size_toArray, d.len HD.out, zD.len rfl]; exact Nat.le_refl _)) (by rw [List.size_toArray, d.len HD.out]; exact sizeF) (all_oneCell_toArray (d.one HRW.out.one)) ?_
  simp only [List.toList_toArray]
  simp only [Act.put, Act.eval, List.setIfInBounds_toArray, List.set_cons_zero, List.set_cons_succ, Nat.reduceAdd, Array.getD_eq_getD_getElem?, List.getElem?_toArray, List.getElem?_cons_succ, List.getElem?_cons_zero, Option.getD_some]
  have hb1 := hb0.setAll d.cells (by rw [d.len HD.out, zD.len rfl])
  have hx1 := hx0.trans_but (But.setCells g7 d.cells 0 w1) (by omega)
  have HX1 := Lib.hid hx1
  have HB1 := Lib.hid hb1
  clear hb0 hx0 hx1 hb1
  generalize w1.setCells g7 0 d.cells = w2 at *
  have HG7 : Hid (wj.heap.size ≤ g7) := Lib.hid (by rw [hg7]; exact Nat.le_refl _)
  clear hg7 c0 HRG
  have y7 : w2.cell? ⟨g7, 37, none⟩ = some d.v := (HB1.out.cell 37).trans (D.at37 d HD.out)
  have y7a := (Reg.Ext.alloc w2 (.cells #[] 3)).at_ y7
  have HY7 := Lib.hid y7
  have HN := Lib.hid (IOw.new (Reg.Ext.refl w2))
  clear y7
  go_upto_region 7 with (first
    | (refine IOw.pushV rfl (.tmp 27) (.tmp 29) rfl w2 _ _ [] d.f.who rfl _ HN.out rfl (RowI.ext HRW.out (HX1.out.trans (Reg.Ext.alloc _ _))) (by show 0 + d.f.who.length ≤ 1000000; omega) ?_; intro v4 w4 h4; rw [List.nil_append] at h4; have H4 := Lib.hid h4; clear h4)
    | (refine IOw.push rfl (.tmp 30) (.tmp 32) rfl w2 v4 d.f.who x rfl _ w4.heap.size (H4.out.later (Reg.Ext.alloc _ _)) rfl ((Blk.new _ _ _).cell 0) hwl ?_; intro v5 w5 h5; obtain ⟨A8, c8, hv5⟩ := h5.slice; generalize hn8 : (d.f.who ++ [x]).length = n8 at hv5; have HN8 := Lib.hid hn8; subst hv5; have y8 := h5.2.at_ HY7.out; have f8 := (HB1.out.ext h5.2).frozen 37; have H5 := Lib.hid h5; clear h5 hn8 y7a))
  have hX2 := HX1.out.trans H5.out.2
  have hg72 := HB1.out.lt
  have HX3 : Hid (Reg.Ext wj (w5.setCell ⟨g7, 37, none⟩ (.slice A8 n8 c8))) := Lib.hid (hX2.trans_but (But.set_ g7 w5 37 _) HG7.out)
  have HB3 : Hid (Blk (w5.setCell ⟨g7, 37, none⟩ (.slice A8 n8 c8)) g7 54 (⟨{ d.f with who := d.f.who ++ [x] }, .slice A8 n8 c8⟩ : D).cells) := Lib.hid (by
    have := (HB1.out.ext H5.out.2).set_ 37 (.slice A8 n8 c8)
    rw [set37 d HD.out (d.f.who ++ [x])] at this
    exact this)
  have HR3 : Hid (RowI 0 (w5.setCell ⟨g7, 37, none⟩ (.slice A8 n8 c8)) (.slice A8 n8 c8) (d.f.who ++ [x])) := Lib.hid (RowI.same H5.out.zero fun y hy => (But.set_ g7 w5 37 _).block y (Go.Proofs.Ytjkhfnfimicffaa.own_lt H5.out.1 hy) fun e => by injection e with e; have := H5.out.ge hy; omega)
  have HGE : Hid (∀ y, (Value.slice A8 n8 c8).ownBlock = some y → wj.heap.size ≤ y) := Lib.hid fun y hy => by have := H5.out.ge hy; have := HX1.out.size; omega
  clear hX2 hg72 H5 H4 HN y8 f8 HY7
  generalize w5.setCell ⟨g7, 37, none⟩ (.slice A8 n8 c8) = w3 at *
  obtain ⟨d1, hd1⟩ : ∃ d1 : D, d1 = ⟨{ d.f with who := d.f.who ++ [x] }, .slice A8 n8 c8⟩ := ⟨_, rfl⟩
  have HD1 : Hid (d1.f.key.dig.length = 32) := Lib.hid (by rw [hd1]; exact HD.out)
  have HE1 : Hid (d1.f = { d.f with who := d.f.who ++ [x] } ∧ d1.v = .slice A8 n8 c8) := Lib.hid (by rw [hd1]; exact ⟨rfl, rfl⟩)
  rw [← hd1] at HB3
  have HT := Lib.hid (turnR (HR2.out.ext HX3.out) m hmd hl d1 HD1.out (by rw [hd1]; exact HR3.out) (fun e => by rw [hd1] at e; have := HGE.out b e; have := HR2.out.blk.lt; omega))
  clear hd1
  refine wp_region_lit ?_
  iterate 6 go_step
  refine wpList_ldm rfl 54 (.tmp 10) rfl g7 0 rfl d1.cells _ (Lib.hid (blk_rng HB3.out)) undF (by rw [d1.len HD1.out]; exact sizeF) ?_
  simp only [Act.put, Act.eval, List.setIfInBounds_toArray, List.set_cons_zero, List.set_cons_succ, Nat.reduceAdd, Array.getD_eq_getD_getElem?, List.getElem?_toArray, List.getElem?_cons_succ, List.getElem?_cons_zero, Option.getD_some]
  repeat go_step
  refine HT.out.mono ?_
  rintro e w6 ⟨rfl, v6, hr6, hb6, hv6⟩
  rename_i hK
  refine hK _ _ ?_
  clear hK HT
  have hgb : g7 ≠ b := fun e => by have := HG7.out; have := HR2.out.blk.lt; omega
  have x0 : w6.cell? ⟨g7, 0, none⟩ = some (.int .i64 d.f.id) := by
    have h1 := (HB3.out.cell 0).trans d1.at0
    rw [HE1.out.1] at h1
    exact hb6.at_ h1 hgb
  have HR6 := Lib.hid hr6
  have HB6 : Hid (But b w w6) := Lib.hid ((But.of_ext (HX2.out.trans HX3.out)).trans hb6)
  have hs3 := (HX2.out.trans HX3.out).size
  have hs2 := HX2.out.size
  have HV6 : Hid (∀ y, v6.ownBlock = some y → w.heap.size ≤ y) := Lib.hid fun y hy => by have := hv6 y hy; omega
  have HMS : Hid (∀ e ∈ ds.set m d1, e ∈ ds ∨ ∀ y, e.v.ownBlock = some y → w.heap.size ≤ y) := Lib.hid fun e he => by
    rcases List.mem_or_eq_of_mem_set he with h1 | h1
    · exact .inl h1
    · rw [h1, HE1.out.2]; exact .inr fun y hy => by have := HGE.out y hy; omega
  clear hr6 hb6 hv6 hs3 hs2
  go_wp2_with fail
  refine bodyPost_ret (results_tmp3 rfl _ _ _) rfl ?_
  rw [← HE1.out.1]
  exact ⟨rfl, v6, _, HR6.out, RTurn.of HB6.out HV6.out HMS.out⟩
theorem RD.setLast {w : World} {b : Nat} {v : Value} {ds : List D} {p : P} (R : RD w b v ds p) (n : Int) : RD (w.setCell ⟨b, 2, none⟩ (.int .i64 n)) b v ds { p with last := n } := by
  have hb := But.set_ b w 2 (.int .i64 n)
  refine ⟨R.blk.set_ 2 (.int .i64 n), own_same R.row fun g hg => hb.block g (R.row.lt hg) fun e => R.away (by injection e with e; rw [← e]; exact hg), R.fs, R.fit, fun d hd => (R.who d hd).same fun g hg => hb.block g (Go.Proofs.Ytjkhfnfimicffaa.own_lt (R.who d hd) hg) fun e => R.far d hd (by injection e with e; rw [← e]; exact hg), R.away, R.far⟩
theorem exec_oneF (W : World) {ρ : Operand → Value} {o : Oper} (x : Operand) (ho : o.op = .buildSlice 44 1 #[(0, x)]) (d : D) (hx : ρ x = .agg d.cells.toArray) (hd : d.f.key.dig.length = 32) :
    (execOp ρ o).run Try.prog W = .ok (.value (.slice (some ⟨W.heap.size, 0, none⟩) 1 1)) (W.alloc (.cells d.cells.toArray 54)) := by
  obtain ⟨i, hi, hz, hsz, hby⟩ := flInfo_of
  exact One.exec_one_row W _ o x 44 54 d.cells.toArray ho hx i _ Try.underlying44 hi hz (by rw [hsz, List.size_toArray, d.len hd]) (by rw [List.size_toArray, d.len hd]; omega) (by rw [List.size_toArray, d.len hd]; omega)
theorem built_fillF (parts : List (Nat × Value)) : Try.prog.built 54 parts = Instr.fill ((#[(0, 1), (1, 36), (37, 1)] : Array (Nat × Nat))[·]?) zD.cells.toArray parts := by kernel_rfl
theorem fill_step (lay : Nat → Option (Nat × Nat)) (i off size : Nat) (e : lay i = some (off, size)) (v : Value) (l pre mid post : List Value) (hv : v.cells = l.toArray) (h1 : l.length = size) (h2 : mid.length = size) (h3 : pre.length = off) (rest : List (Nat × Value)) :
    Instr.fill lay (pre ++ mid ++ post).toArray ((i, v) :: rest) = Instr.fill lay (pre ++ l ++ post).toArray rest := by
  have a := fold_at off l pre (mid ++ post) 0 (by rw [h3]; rfl) (by rw [List.length_append]; omega)
  have hd : (mid ++ post).drop l.length = post := by rw [h1, ← h2]; exact List.drop_left
  rw [hd, ← List.append_assoc] at a
  conv => lhs; unfold Instr.fill
  simp only [e, hv, List.size_toArray]
  rw [if_neg (by simp; omega)]
  rw [← Array.foldl_toList, Array.toList_zipIdx, a]
theorem fill_kF (k : Ky) (hk : k.dig.length = 32) (i : Int) (l : List Int) (A : Option Addr) (n c : Nat) : Instr.fill ((#[(0, 1), (1, 36), (37, 1)] : Array (Nat × Nat))[·]?) zD.cells.toArray [(0, .int .i64 i), (1, .agg k.cells.toArray), (2, .slice A n c)] = some (⟨⟨i, k, l⟩, .slice A n c⟩ : D).cells.toArray := by
  have e0 : zD.cells = [] ++ [Value.int .i64 0] ++ (zD.f.key.cells ++ [Value.slice none 0 0]) := rfl
  have h2 := fill_step ((#[(0, 1), (1, 36), (37, 1)] : Array (Nat × Nat))[·]?) 1 1 36 rfl (.agg k.cells.toArray) k.cells [.int .i64 i] zD.f.key.cells [.slice none 0 0] rfl (k.len hk) rfl rfl [(2, .slice A n c)]
  have h3 := fill_step ((#[(0, 1), (1, 36), (37, 1)] : Array (Nat × Nat))[·]?) 2 37 1 rfl (.slice A n c) [.slice A n c] ([.int .i64 i] ++ k.cells) [.slice none 0 0] [] rfl rfl rfl (by rw [List.length_append, k.len hk]; rfl) []
  rw [List.append_nil, List.append_nil] at h3
  rw [e0, fill_step _ 0 0 1 rfl (.int .i64 i) [.int .i64 i] [] [.int .i64 0] _ rfl rfl rfl rfl]
  refine (h2.trans h3).trans ?_
  rfl
theorem exec_buildF {w : World} {ρ : Operand → Value} {o : Oper} (x0 x1 x2 : Operand) (ho : o.op = .build 54 #[(0, x0), (1, x1), (2, x2)]) (i : Int) (k : Ky) (hk : k.dig.length = 32) (l : List Int) (A : Option Addr) (n c : Nat) (h0 : ρ x0 = .int .i64 i) (h1 : ρ x1 = .agg k.cells.toArray) (h2 : ρ x2 = .slice A n c) :
    (execOp ρ o).run Try.prog w = .ok (.value (.agg (⟨⟨i, k, l⟩, .slice A n c⟩ : D).cells.toArray)) w := by
  have hb : (Instr.build 54 #[(0, .int .i64 i), (1, .agg k.cells.toArray), (2, .slice A n c)]).run Try.prog w = .ok (.agg (⟨⟨i, k, l⟩, .slice A n c⟩ : D).cells.toArray) w := by
    refine run_build w _ _ _ ?_
    rw [built_fillF]
    exact fill_kF k hk i l A n c
  unfold execOp
  simp only [ho, Sem.run_bind, List.map_toArray, List.map_cons, List.map_nil, h0, h1, h2, hb, Result.andThen_ok, Sem.run_pure]
set_option maxRecDepth 100000 in
set_option maxHeartbeats 4000000 in
theorem joinR_new {fs : List Fl} {mo la : Int} (R : RD w b v ds ⟨fs, mo, la⟩) (k : Ky) (hkd : k.dig.length = 32) (x : Int) (hl : ds.length ≤ 200) (hw : ∀ d ∈ ds, d.f.who.length ≤ 1000000) (h : pWh x fs = none) (h2 : pKey k fs = none) (hm : (ds.length : Int) < mo) (hla : 0 ≤ la) (hlb : la ≤ 1000000) :
    Calls Try.prog 18 #[.pointer (some ⟨b, 0, none⟩), .agg k.cells.toArray, .int .i64 x] w (ResR b w v ds (.tuple #[.int .i64 (la + 1), .bool true, .int .i64 0]) ⟨fs ++ [⟨la + 1, k, [x]⟩], mo, la + 1⟩) := by
  have qm : decide (mo ≤ (ds.length : Int)) = false := decide_eq_false (by omega)
  clear hm
  obtain ⟨A, cap, hv⟩ := R.row.slice
  subst hv
  have hb1 := boxK w k
  have hx1 := Reg.Ext.alloc w (Obj.cells k.cells.toArray 33)
  have HX := Lib.hid hx1
  have HR := Lib.hid (R.ext hx1)
  have hp := whereR HR.out x (by omega) hw
  rw [h] at hp
  have HP : Hid (Calls Try.prog 22 #[.pointer (some ⟨b, 0, none⟩), .int .i64 x] (w.alloc (Obj.cells k.cells.toArray 33)) fun e w' => e = .returned (.int .i64 (-1)) ∧ w' = w.alloc (Obj.cells k.cells.toArray 33)) := Lib.hid hp
  have HKD := Lib.hid hkd
  have hlt := R.blk.lt
  clear hp h hx1
  go_enter Try.func18, Try.ntmps18
  go_upto_region 1 with (fail)
  generalize w.alloc (Obj.cells k.cells.toArray 33) = w1 at *
  generalize hg1 : w.heap.size = g1 at *
  have HG1 := Lib.hid hg1
  have HB1 := Lib.hid hb1
  have HLT := Lib.hid hlt
  clear hb1 hg1 hlt
  go_upto_region 3 with (go_at_call 22; refine HP.out.mono ?_; rintro e w' ⟨rfl, rfl⟩)
  have HF : Hid (Calls Try.prog 21 #[.pointer (some ⟨b, 0, none⟩), .agg k.cells.toArray] w' fun e1 w2 => e1 = .returned (.int .i64 (-1)) ∧ Reg.Ext w' w2) := Lib.hid (by
    have hf := findR HR.out k HKD.out (by omega)
    rw [h2] at hf
    exact hf)
  clear h2 HP
  refine wp_region_lit ?_
  iterate 3 go_step
  refine wpList_ldm rfl 33 (.tmp 4) rfl g1 0 rfl k.cells _ (Lib.hid (blk_rng HB1.out)) undK (by rw [k.len HKD.out]; exact sizeK) ?_
  simp only [Act.put, Act.eval, List.setIfInBounds_toArray, List.set_cons_zero, List.set_cons_succ, Nat.reduceAdd, Array.getD_eq_getD_getElem?, List.getElem?_toArray, List.getElem?_cons_succ, List.getElem?_cons_zero, Option.getD_some]
  repeat go_step
  refine HF.out.mono ?_
  rintro e1 wj ⟨rfl, hx2⟩
  rename_i hK
  refine hK _ _ ?_
  clear hK HF
  have HR2 := Lib.hid (HR.out.ext hx2)
  have HX2 := Lib.hid (HX.out.trans hx2)
  have HB2 := Lib.hid (HB1.out.ext hx2)
  clear hx2 HR HX HB1
  clear R hw
  obtain ⟨c0, c1, c2⟩ := HR2.out.c
  dsimp only at c1 c2
  go_upto_region 9 with (fail)
  go_quiet (fail)
  have HR3 := Lib.hid (HR2.out.ext (Reg.Ext.drewN wj nq))
  have HX3 := Lib.hid (HX2.out.trans (Reg.Ext.drewN wj nq))
  have HB3 := Lib.hid (HB2.out.ext (Reg.Ext.drewN wj nq))
  clear HR2 HX2 HB2 c0 c1 c2
  generalize wj.drewN nq = w3 at *
  obtain ⟨c0, c1, c2⟩ := HR3.out.c
  dsimp only at c1 c2
  have f2 := HR3.out.blk.frozen 2
  go_upto_region 12 with (fail)
  have HR4 : Hid (RD (w3.setCell ⟨b, 2, none⟩ (.int .i64 (la + 1))) b (.slice A ds.length cap) ds ⟨fs, mo, la + 1⟩) := Lib.hid (HR3.out.setLast (la + 1))
  have HT4 : Hid (RTurn b w (.slice A ds.length cap) ds (w3.setCell ⟨b, 2, none⟩ (.int .i64 (la + 1))) (.slice A ds.length cap) ds) := Lib.hid ⟨(But.of_ext HX3.out).trans (But.set_ b w3 2 _), fun i hi => .inl hi⟩
  have HB4 : Hid (Blk (w3.setCell ⟨b, 2, none⟩ (.int .i64 (la + 1))) g1 33 k.cells) := Lib.hid (HB3.out.but (But.set_ b w3 2 _) (fun e => by have := HG1.out; have := HLT.out; omega))
  clear HR3 HX3 HB3 c0 c1 c2 f2
  generalize w3.setCell ⟨b, 2, none⟩ (.int .i64 (la + 1)) = w5 at *
  refine Ordl.begins (S := fun w' => Reg.Ext (w5).drew w') (z := 19) (by kernel_rfl) ?_
  refine Ordl.Bx.out (?_ : Ordl.Bx (Ordl.Any _ _ _ _ _ _ _ _ _ _))
  have X0 : Reg.Ext (w5).drew (w5).drew := Reg.Ext.refl _
  have HR6 := Lib.hid (HR4.out.ext (Reg.Ext.drew w5))
  have HT6 := Lib.hid (HT4.out.trans (RTurn.ext (Reg.Ext.drew w5)))
  have HB6 := Lib.hid (HB4.out.ext (Reg.Ext.drew w5))
  clear HR4 HT4 HB4
  generalize w5.drew = w6 at *
  obtain ⟨c0, c1, c2⟩ := HR6.out.c
  dsimp only at c1 c2
  have S0 := Lib.hid (Sg.start w6 ds ⟨la + 1, k, [x]⟩)
  refine Ordl.take (i := 0) (v := .pointer (some ⟨b, 0, none⟩)) rfl (by kernel_rfl) (by kernel_rfl) (by kernel_rfl) (by kernel_rfl) (fun _ _ _ h => h) (.inl ⟨by kernel_rfl, fun w _ => by as_aux_lemma => kernel_rfl⟩) X0 ?_
  simp only [List.getElem_toArray, List.getElem_cons_succ, List.getElem_cons_zero, Act.put, Act.eval, List.setIfInBounds_toArray, List.set_cons_zero, List.set_cons_succ, Nat.reduceAdd, Array.getD_eq_getD_getElem?, List.getElem?_toArray, List.getElem?_cons_succ, List.getElem?_cons_zero, Option.getD_some]
  refine Ordl.take (i := 2) (v := .pointer (some ⟨b, 0, none⟩)) rfl (by kernel_rfl) (by kernel_rfl) (by kernel_rfl) (by kernel_rfl) (fun _ _ _ h => h) (.inl ⟨by kernel_rfl, fun w _ => by as_aux_lemma => kernel_rfl⟩) X0 ?_
  simp only [List.getElem_toArray, List.getElem_cons_succ, List.getElem_cons_zero, Act.put, Act.eval, List.setIfInBounds_toArray, List.set_cons_zero, List.set_cons_succ, Nat.reduceAdd, Array.getD_eq_getD_getElem?, List.getElem?_toArray, List.getElem?_cons_succ, List.getElem?_cons_zero, Option.getD_some]
  refine Ordl.take (i := 3) (v := .pointer (some ⟨b, 0, none⟩)) rfl (by kernel_rfl) (by kernel_rfl) (by kernel_rfl) (by kernel_rfl) (fun _ _ _ h => h) (.inl ⟨by kernel_rfl, fun w _ => by as_aux_lemma => kernel_rfl⟩) X0 ?_
  simp only [List.getElem_toArray, List.getElem_cons_succ, List.getElem_cons_zero, Act.put, Act.eval, List.setIfInBounds_toArray, List.set_cons_zero, List.set_cons_succ, Nat.reduceAdd, Array.getD_eq_getD_getElem?, List.getElem?_toArray, List.getElem?_cons_succ, List.getElem?_cons_zero, Option.getD_some]
  refine Ordl.take (i := 4) (v := .pointer (some ⟨b, 0, none⟩)) rfl (by kernel_rfl) (by kernel_rfl) (by kernel_rfl) (by kernel_rfl) (fun _ _ _ h => h) (.inl ⟨by kernel_rfl, fun w _ => by as_aux_lemma => kernel_rfl⟩) X0 ?_
  simp only [List.getElem_toArray, List.getElem_cons_succ, List.getElem_cons_zero, Act.put, Act.eval, List.setIfInBounds_toArray, List.set_cons_zero, List.set_cons_succ, Nat.reduceAdd, Array.getD_eq_getD_getElem?, List.getElem?_toArray, List.getElem?_cons_succ, List.getElem?_cons_zero, Option.getD_some]
  refine Ordl.take (i := 5) (v := .slice A ds.length cap) rfl (by kernel_rfl) (by kernel_rfl) (by kernel_rfl) (by kernel_rfl) (fun _ _ _ h => h) (yields_load1 (by kernel_rfl) 44 (.tmp 62) rfl ⟨b, 0, none⟩ (by kernel_rfl) (.slice A ds.length cap) _ Try.underlying44 rfl (fun w h => h.at_ c0)) X0 ?_
  simp only [List.getElem_toArray, List.getElem_cons_succ, List.getElem_cons_zero, Act.put, Act.eval, List.setIfInBounds_toArray, List.set_cons_zero, List.set_cons_succ, Nat.reduceAdd, Array.getD_eq_getD_getElem?, List.getElem?_toArray, List.getElem?_cons_succ, List.getElem?_cons_zero, Option.getD_some]
  refine Ordl.take (i := 7) (v := .pointer (some ⟨b, 0, none⟩)) rfl (by kernel_rfl) (by kernel_rfl) (by kernel_rfl) (by kernel_rfl) (fun _ _ _ h => h) (.inl ⟨by kernel_rfl, fun w _ => by as_aux_lemma => kernel_rfl⟩) X0 ?_
  simp only [List.getElem_toArray, List.getElem_cons_succ, List.getElem_cons_zero, Act.put, Act.eval, List.setIfInBounds_toArray, List.set_cons_zero, List.set_cons_succ, Nat.reduceAdd, Array.getD_eq_getD_getElem?, List.getElem?_toArray, List.getElem?_cons_succ, List.getElem?_cons_zero, Option.getD_some]
  refine Ordl.take (i := 8) (v := .pointer (some ⟨b, 0, none⟩)) rfl (by kernel_rfl) (by kernel_rfl) (by kernel_rfl) (by kernel_rfl) (fun _ _ _ h => h) (.inl ⟨by kernel_rfl, fun w _ => by as_aux_lemma => kernel_rfl⟩) X0 ?_
  simp only [List.getElem_toArray, List.getElem_cons_succ, List.getElem_cons_zero, Act.put, Act.eval, List.setIfInBounds_toArray, List.set_cons_zero, List.set_cons_succ, Nat.reduceAdd, Array.getD_eq_getD_getElem?, List.getElem?_toArray, List.getElem?_cons_succ, List.getElem?_cons_zero, Option.getD_some]
  refine Ordl.take (i := 9) (v := .pointer (some ⟨b, 2, none⟩)) rfl (by kernel_rfl) (by kernel_rfl) (by kernel_rfl) (by kernel_rfl) (fun _ _ _ h => h) (.inl ⟨by kernel_rfl, fun w _ => by as_aux_lemma => kernel_rfl⟩) X0 ?_
  simp only [List.getElem_toArray, List.getElem_cons_succ, List.getElem_cons_zero, Act.put, Act.eval, List.setIfInBounds_toArray, List.set_cons_zero, List.set_cons_succ, Nat.reduceAdd, Array.getD_eq_getD_getElem?, List.getElem?_toArray, List.getElem?_cons_succ, List.getElem?_cons_zero, Option.getD_some]
  refine Ordl.take (i := 10) (v := .int .i64 (la + 1)) rfl (by kernel_rfl) (by kernel_rfl) (by kernel_rfl) (by kernel_rfl) (fun _ _ _ h => h) (yields_load1 (by kernel_rfl) 3 (.tmp 67) rfl ⟨b, 2, none⟩ (by kernel_rfl) (.int .i64 (la + 1)) _ Try.underlying3 rfl (fun w h => h.at_ c2)) X0 ?_
  simp only [List.getElem_toArray, List.getElem_cons_succ, List.getElem_cons_zero, Act.put, Act.eval, List.setIfInBounds_toArray, List.set_cons_zero, List.set_cons_succ, Nat.reduceAdd, Array.getD_eq_getD_getElem?, List.getElem?_toArray, List.getElem?_cons_succ, List.getElem?_cons_zero, Option.getD_some]
  refine Ordl.take (i := 11) (v := .agg (k).cells.toArray) rfl (by kernel_rfl) (by kernel_rfl) (by kernel_rfl) (by kernel_rfl) (fun _ _ _ h => h) (yieldsIf_load_mid (by kernel_rfl) 33 (.tmp 4) rfl g1 (0) (by kernel_rfl) (k).cells _ (fun w h => rng_ext (blk_rng HB6.out) h) undK rfl (by rw [(k).len HKD.out]; exact sizeK)) X0 ?_
  simp only [List.getElem_toArray, List.getElem_cons_succ, List.getElem_cons_zero, Act.put, Act.eval, List.setIfInBounds_toArray, List.set_cons_zero, List.set_cons_succ, Nat.reduceAdd, Array.getD_eq_getD_getElem?, List.getElem?_toArray, List.getElem?_cons_succ, List.getElem?_cons_zero, Option.getD_some]
  refine Ordl.take (i := 12) (v := .int .i64 x) rfl (by kernel_rfl) (by kernel_rfl) (by kernel_rfl) (by kernel_rfl) (fun _ _ _ h => h) (.inl ⟨by kernel_rfl, fun w _ => by as_aux_lemma => kernel_rfl⟩) X0 ?_
  simp only [List.getElem_toArray, List.getElem_cons_succ, List.getElem_cons_zero, Act.put, Act.eval, List.setIfInBounds_toArray, List.set_cons_zero, List.set_cons_succ, Nat.reduceAdd, Array.getD_eq_getD_getElem?, List.getElem?_toArray, List.getElem?_cons_succ, List.getElem?_cons_zero, Option.getD_some]
  refine Ordl.two (i := 1) (j := 13) (by kernel_rfl) rfl rfl ?_ ?_
  · skip
    refine ⟨?_⟩
    obtain ⟨gA, hgA⟩ : ∃ g, (w6).heap.size = g := ⟨_, rfl⟩
    have SA := Lib.hid S0.out.e1
    rw [hgA] at SA
    refine wpList_any (by kernel_rfl) (.slice (some ⟨gA, 0, none⟩) 0 0) ((w6).alloc (.cells #[] 54)) (by rw [← hgA]; kernel_rfl) ?_
    generalize (w6).alloc (.cells #[] 54) = wA at *
    clear hgA
    have X0 := SA.out.ext
    refine Ordl.Bx.out (?_ : Ordl.Bx _)
    refine Ordl.fin X0 ?_
    simp only [List.getElem_toArray, List.getElem_cons_succ, List.getElem_cons_zero, Act.put, Act.eval, List.setIfInBounds_toArray, List.set_cons_zero, List.set_cons_succ, Nat.reduceAdd, Array.getD_eq_getD_getElem?, List.getElem?_toArray, List.getElem?_cons_succ, List.getElem?_cons_zero, Option.getD_some]
    refine Ordl.two (i := 6) (j := 13) (by kernel_rfl) rfl rfl ?_ ?_
    · skip
      refine ⟨?_⟩
      refine DOw.pushG rfl (.tmp 59) (.tmp 63) rfl w6 _ _ [] ds rfl _ (SA.out.one _ rfl) rfl ((HR6.out.ext SA.out.ext).row) HR6.out.fit HR6.out.ones (by show 0 + ds.length ≤ 1000; omega) ?_
      intro v6 wB hf6 hg6 hat6
      rw [List.nil_append] at hf6
      have SB := Lib.hid (SA.out.e6 hf6 hg6 hat6)
      clear hf6 hg6 hat6
      have X0 := SB.out.ext
      refine Ordl.Bx.out (?_ : Ordl.Bx _)
      refine Ordl.fin X0 ?_
      simp only [List.getElem_toArray, List.getElem_cons_succ, List.getElem_cons_zero, Act.put, Act.eval, List.setIfInBounds_toArray, List.set_cons_zero, List.set_cons_succ, Nat.reduceAdd, Array.getD_eq_getD_getElem?, List.getElem?_toArray, List.getElem?_cons_succ, List.getElem?_cons_zero, Option.getD_some]
      refine Ordl.one (i := 13) (by kernel_rfl) rfl ?_
      refine ⟨?_⟩
      obtain ⟨gx, hgx⟩ : ∃ g, (wB).heap.size = g := ⟨_, rfl⟩
      have SC := Lib.hid (SB.out.e13 (x := x) rfl)
      rw [hgx] at SC
      refine wpList_any (by kernel_rfl) (.slice (some ⟨gx, 0, none⟩) 1 1) ((wB).alloc (.cells #[.int .i64 x] 3)) (by rw [← hgx]; kernel_rfl) ?_
      generalize (wB).alloc (.cells #[.int .i64 x] 3) = wC at *
      clear hgx
      have X0 := SC.out.ext
      refine Ordl.Bx.out (?_ : Ordl.Bx _)
      refine Ordl.fin X0 ?_
      simp only [List.getElem_toArray, List.getElem_cons_succ, List.getElem_cons_zero, Act.put, Act.eval, List.setIfInBounds_toArray, List.set_cons_zero, List.set_cons_succ, Nat.reduceAdd, Array.getD_eq_getD_getElem?, List.getElem?_toArray, List.getElem?_cons_succ, List.getElem?_cons_zero, Option.getD_some]
      refine Ordl.take (i := 14) (v := .agg (⟨⟨la + 1, k, [x]⟩, .slice (some ⟨gx, 0, none⟩) 1 1⟩ : D).cells.toArray) rfl (by kernel_rfl) (by kernel_rfl) (by kernel_rfl) (by kernel_rfl) (fun _ _ _ h => h) (.inl ⟨by kernel_rfl, fun w hS => exec_buildF (.tmp 68) (.tmp 69) (.tmp 71) rfl (la + 1) k HKD.out [x] (some ⟨gx, 0, none⟩) 1 1 (by kernel_rfl) (by kernel_rfl) (by kernel_rfl)⟩) X0 ?_
      simp only [List.getElem_toArray, List.getElem_cons_succ, List.getElem_cons_zero, Act.put, Act.eval, List.setIfInBounds_toArray, List.set_cons_zero, List.set_cons_succ, Nat.reduceAdd, Array.getD_eq_getD_getElem?, List.getElem?_toArray, List.getElem?_cons_succ, List.getElem?_cons_zero, Option.getD_some]
      refine Ordl.one (i := 15) (by kernel_rfl) rfl ?_
      refine ⟨?_⟩
      obtain ⟨gd, hgd⟩ : ∃ g, (wC).heap.size = g := ⟨_, rfl⟩
      have SD := Lib.hid SC.out.e15
      rw [hgd] at SD
      refine wpList_any (by kernel_rfl) (.slice (some ⟨gd, 0, none⟩) 1 1) ((wC).alloc (.cells (⟨⟨la + 1, k, [x]⟩, .slice (some ⟨gx, 0, none⟩) 1 1⟩ : D).cells.toArray 54)) (by rw [← hgd]; exact exec_oneF _ (.tmp 72) rfl _ (by kernel_rfl) HKD.out) ?_
      generalize (wC).alloc (.cells (⟨⟨la + 1, k, [x]⟩, .slice (some ⟨gx, 0, none⟩) 1 1⟩ : D).cells.toArray 54) = wD at *
      clear hgd
      have X0 := SD.out.ext
      refine Ordl.Bx.out (?_ : Ordl.Bx _)
      refine Ordl.fin X0 ?_
      simp only [List.getElem_toArray, List.getElem_cons_succ, List.getElem_cons_zero, Act.put, Act.eval, List.setIfInBounds_toArray, List.set_cons_zero, List.set_cons_succ, Nat.reduceAdd, Array.getD_eq_getD_getElem?, List.getElem?_toArray, List.getElem?_cons_succ, List.getElem?_cons_zero, Option.getD_some]
      refine Ordl.one (i := 16) (by kernel_rfl) rfl ?_
      refine ⟨?_⟩
      refine DOw.pushG rfl (.tmp 64) (.tmp 73) rfl w6 _ _ ds [⟨⟨la + 1, k, [x]⟩, .slice (some ⟨gx, 0, none⟩) 1 1⟩] rfl _ (SD.out.row _ rfl) rfl (LD.lone HKD.out (SD.out.fl _ _ rfl rfl)) (fun e he => by rw [List.mem_singleton.1 he]; exact HKD.out) (fun e he => by rw [List.mem_singleton.1 he]; rfl) (by show ds.length + 1 ≤ 1000; omega) ?_
      intro v7 w7 hf7 hg7 hat7
      have hrow : RowI 0 w7 (.slice (some ⟨gx, 0, none⟩) 1 1) [x] := RowI.lone ((hg7.block gx (SD.out.num gx x rfl rfl).lt fun e => SD.out.nv v6 gx rfl (.inl rfl) e.symm).trans (SD.out.num gx x rfl rfl))
      obtain ⟨k1, k2⟩ := HR6.out.shut (q := { fs := fs ++ [⟨la + 1, k, [x]⟩], most := mo, last := la + 1 }) hf7 (fun e he => by
        rcases List.mem_append.1 he with h1 | h1
        · exact HR6.out.fit e h1
        · rw [List.mem_singleton.1 h1]; exact HKD.out) (fun e he => by
        rcases List.mem_append.1 he with h1 | h1
        · exact (HR6.out.ext hf7.2).who e h1
        · rw [List.mem_singleton.1 h1]; exact hrow) (fun e he => by
        rcases List.mem_append.1 he with h1 | h1
        · exact .inl h1
        · rw [List.mem_singleton.1 h1]; exact .inr fun y hy => by
            have h2 : gx = y := by injection hy
            have := (SD.out.new gx (.inr (.inl rfl))).1
            omega) (by rw [List.map_append, HR6.out.fs]; rfl) rfl rfl
      have c7 := (HR6.out.ext hf7.2).c.1
      have f7 := (HR6.out.ext hf7.2).blk.frozen 0
      have X0 := hf7.2
      have HK1 := Lib.hid k1
      have HK2 := Lib.hid k2
      obtain ⟨A7, cp7, hv7⟩ := hf7.ld.slice
      generalize List.length _ = n7 at hv7
      subst hv7
      clear k1 k2 hf7 hg7 hat7 hrow
      refine Ordl.Bx.out (?_ : Ordl.Bx _)
      refine Ordl.fin X0 ?_
      simp only [List.getElem_toArray, List.getElem_cons_succ, List.getElem_cons_zero, Act.put, Act.eval, List.setIfInBounds_toArray, List.set_cons_zero, List.set_cons_succ, Nat.reduceAdd, Array.getD_eq_getD_getElem?, List.getElem?_toArray, List.getElem?_cons_succ, List.getElem?_cons_zero, Option.getD_some]
      refine Ordl.one (i := 17) (by kernel_rfl) rfl ?_
      refine ⟨?_⟩
      refine wpList_any (by kernel_rfl) (.pointer (some ⟨b, 0, none⟩)) w7 (by kernel_rfl) ?_
      refine Ordl.Bx.out (?_ : Ordl.Bx _)
      refine Ordl.fin X0 ?_
      simp only [List.getElem_toArray, List.getElem_cons_succ, List.getElem_cons_zero, Act.put, Act.eval, List.setIfInBounds_toArray, List.set_cons_zero, List.set_cons_succ, Nat.reduceAdd, Array.getD_eq_getD_getElem?, List.getElem?_toArray, List.getElem?_cons_succ, List.getElem?_cons_zero, Option.getD_some]
      refine Ordl.take (i := 18) (v := .pointer (some ⟨b, 0, none⟩)) rfl (by kernel_rfl) (by kernel_rfl) (by kernel_rfl) (by kernel_rfl) (fun _ _ _ h => h) (.inl ⟨by kernel_rfl, fun w _ => by as_aux_lemma => kernel_rfl⟩) X0 ?_
      simp only [List.getElem_toArray, List.getElem_cons_succ, List.getElem_cons_zero, Act.put, Act.eval, List.setIfInBounds_toArray, List.set_cons_zero, List.set_cons_succ, Nat.reduceAdd, Array.getD_eq_getD_getElem?, List.getElem?_toArray, List.getElem?_cons_succ, List.getElem?_cons_zero, Option.getD_some]
      refine Ordl.one (i := 19) (by kernel_rfl) rfl ?_
      refine ⟨?_⟩
      repeat go_step
      refine Ordl.Bx.out (?_ : Ordl.Bx _)
      refine Ordl.finz ?_
      refine Ordl.done (by kernel_rfl) ?_ _
      obtain ⟨e0, e1, e2⟩ := HK1.out.c
      go_wp2_with fail
      refine bodyPost_ret (results_tmp3 rfl _ _ _) rfl ?_
      exact ⟨rfl, _, _, HK1.out, HT6.out.trans HK2.out⟩
    · skip
      refine ⟨?_⟩
      obtain ⟨gx, hgx⟩ : ∃ g, (wA).heap.size = g := ⟨_, rfl⟩
      have SB := Lib.hid (SA.out.e13 (x := x) rfl)
      rw [hgx] at SB
      refine wpList_any (by kernel_rfl) (.slice (some ⟨gx, 0, none⟩) 1 1) ((wA).alloc (.cells #[.int .i64 x] 3)) (by rw [← hgx]; kernel_rfl) ?_
      generalize (wA).alloc (.cells #[.int .i64 x] 3) = wB at *
      clear hgx
      have X0 := SB.out.ext
      refine Ordl.Bx.out (?_ : Ordl.Bx _)
      refine Ordl.fin X0 ?_
      simp only [List.getElem_toArray, List.getElem_cons_succ, List.getElem_cons_zero, Act.put, Act.eval, List.setIfInBounds_toArray, List.set_cons_zero, List.set_cons_succ, Nat.reduceAdd, Array.getD_eq_getD_getElem?, List.getElem?_toArray, List.getElem?_cons_succ, List.getElem?_cons_zero, Option.getD_some]
      refine Ordl.take (i := 14) (v := .agg (⟨⟨la + 1, k, [x]⟩, .slice (some ⟨gx, 0, none⟩) 1 1⟩ : D).cells.toArray) rfl (by kernel_rfl) (by kernel_rfl) (by kernel_rfl) (by kernel_rfl) (fun _ _ _ h => h) (.inl ⟨by kernel_rfl, fun w hS => exec_buildF (.tmp 68) (.tmp 69) (.tmp 71) rfl (la + 1) k HKD.out [x] (some ⟨gx, 0, none⟩) 1 1 (by kernel_rfl) (by kernel_rfl) (by kernel_rfl)⟩) X0 ?_
      simp only [List.getElem_toArray, List.getElem_cons_succ, List.getElem_cons_zero, Act.put, Act.eval, List.setIfInBounds_toArray, List.set_cons_zero, List.set_cons_succ, Nat.reduceAdd, Array.getD_eq_getD_getElem?, List.getElem?_toArray, List.getElem?_cons_succ, List.getElem?_cons_zero, Option.getD_some]
      refine Ordl.two (i := 6) (j := 15) (by kernel_rfl) rfl rfl ?_ ?_
      · skip
        refine ⟨?_⟩
        refine DOw.pushG rfl (.tmp 59) (.tmp 63) rfl w6 _ _ [] ds rfl _ (SB.out.one _ rfl) rfl ((HR6.out.ext SB.out.ext).row) HR6.out.fit HR6.out.ones (by show 0 + ds.length ≤ 1000; omega) ?_
        intro v6 wC hf6 hg6 hat6
        rw [List.nil_append] at hf6
        have SC := Lib.hid (SB.out.e6 hf6 hg6 hat6)
        clear hf6 hg6 hat6
        have X0 := SC.out.ext
        refine Ordl.Bx.out (?_ : Ordl.Bx _)
        refine Ordl.fin X0 ?_
        simp only [List.getElem_toArray, List.getElem_cons_succ, List.getElem_cons_zero, Act.put, Act.eval, List.setIfInBounds_toArray, List.set_cons_zero, List.set_cons_succ, Nat.reduceAdd, Array.getD_eq_getD_getElem?, List.getElem?_toArray, List.getElem?_cons_succ, List.getElem?_cons_zero, Option.getD_some]
        refine Ordl.one (i := 15) (by kernel_rfl) rfl ?_
        refine ⟨?_⟩
        obtain ⟨gd, hgd⟩ : ∃ g, (wC).heap.size = g := ⟨_, rfl⟩
        have SD := Lib.hid SC.out.e15
        rw [hgd] at SD
        refine wpList_any (by kernel_rfl) (.slice (some ⟨gd, 0, none⟩) 1 1) ((wC).alloc (.cells (⟨⟨la + 1, k, [x]⟩, .slice (some ⟨gx, 0, none⟩) 1 1⟩ : D).cells.toArray 54)) (by rw [← hgd]; exact exec_oneF _ (.tmp 72) rfl _ (by kernel_rfl) HKD.out) ?_
        generalize (wC).alloc (.cells (⟨⟨la + 1, k, [x]⟩, .slice (some ⟨gx, 0, none⟩) 1 1⟩ : D).cells.toArray 54) = wD at *
        clear hgd
        have X0 := SD.out.ext
        refine Ordl.Bx.out (?_ : Ordl.Bx _)
        refine Ordl.fin X0 ?_
        simp only [List.getElem_toArray, List.getElem_cons_succ, List.getElem_cons_zero, Act.put, Act.eval, List.setIfInBounds_toArray, List.set_cons_zero, List.set_cons_succ, Nat.reduceAdd, Array.getD_eq_getD_getElem?, List.getElem?_toArray, List.getElem?_cons_succ, List.getElem?_cons_zero, Option.getD_some]
        refine Ordl.one (i := 16) (by kernel_rfl) rfl ?_
        refine ⟨?_⟩
        refine DOw.pushG rfl (.tmp 64) (.tmp 73) rfl w6 _ _ ds [⟨⟨la + 1, k, [x]⟩, .slice (some ⟨gx, 0, none⟩) 1 1⟩] rfl _ (SD.out.row _ rfl) rfl (LD.lone HKD.out (SD.out.fl _ _ rfl rfl)) (fun e he => by rw [List.mem_singleton.1 he]; exact HKD.out) (fun e he => by rw [List.mem_singleton.1 he]; rfl) (by show ds.length + 1 ≤ 1000; omega) ?_
        intro v7 w7 hf7 hg7 hat7
        have hrow : RowI 0 w7 (.slice (some ⟨gx, 0, none⟩) 1 1) [x] := RowI.lone ((hg7.block gx (SD.out.num gx x rfl rfl).lt fun e => SD.out.nv v6 gx rfl (.inl rfl) e.symm).trans (SD.out.num gx x rfl rfl))
        obtain ⟨k1, k2⟩ := HR6.out.shut (q := { fs := fs ++ [⟨la + 1, k, [x]⟩], most := mo, last := la + 1 }) hf7 (fun e he => by
          rcases List.mem_append.1 he with h1 | h1
          · exact HR6.out.fit e h1
          · rw [List.mem_singleton.1 h1]; exact HKD.out) (fun e he => by
          rcases List.mem_append.1 he with h1 | h1
          · exact (HR6.out.ext hf7.2).who e h1
          · rw [List.mem_singleton.1 h1]; exact hrow) (fun e he => by
          rcases List.mem_append.1 he with h1 | h1
          · exact .inl h1
          · rw [List.mem_singleton.1 h1]; exact .inr fun y hy => by
              have h2 : gx = y := by injection hy
              have := (SD.out.new gx (.inr (.inl rfl))).1
              omega) (by rw [List.map_append, HR6.out.fs]; rfl) rfl rfl
        have c7 := (HR6.out.ext hf7.2).c.1
        have f7 := (HR6.out.ext hf7.2).blk.frozen 0
        have X0 := hf7.2
        have HK1 := Lib.hid k1
        have HK2 := Lib.hid k2
        obtain ⟨A7, cp7, hv7⟩ := hf7.ld.slice
        generalize List.length _ = n7 at hv7
        subst hv7
        clear k1 k2 hf7 hg7 hat7 hrow
        refine Ordl.Bx.out (?_ : Ordl.Bx _)
        refine Ordl.fin X0 ?_
        simp only [List.getElem_toArray, List.getElem_cons_succ, List.getElem_cons_zero, Act.put, Act.eval, List.setIfInBounds_toArray, List.set_cons_zero, List.set_cons_succ, Nat.reduceAdd, Array.getD_eq_getD_getElem?, List.getElem?_toArray, List.getElem?_cons_succ, List.getElem?_cons_zero, Option.getD_some]
        refine Ordl.one (i := 17) (by kernel_rfl) rfl ?_
        refine ⟨?_⟩
        refine wpList_any (by kernel_rfl) (.pointer (some ⟨b, 0, none⟩)) w7 (by kernel_rfl) ?_
        refine Ordl.Bx.out (?_ : Ordl.Bx _)
        refine Ordl.fin X0 ?_
        simp only [List.getElem_toArray, List.getElem_cons_succ, List.getElem_cons_zero, Act.put, Act.eval, List.setIfInBounds_toArray, List.set_cons_zero, List.set_cons_succ, Nat.reduceAdd, Array.getD_eq_getD_getElem?, List.getElem?_toArray, List.getElem?_cons_succ, List.getElem?_cons_zero, Option.getD_some]
        refine Ordl.take (i := 18) (v := .pointer (some ⟨b, 0, none⟩)) rfl (by kernel_rfl) (by kernel_rfl) (by kernel_rfl) (by kernel_rfl) (fun _ _ _ h => h) (.inl ⟨by kernel_rfl, fun w _ => by as_aux_lemma => kernel_rfl⟩) X0 ?_
        simp only [List.getElem_toArray, List.getElem_cons_succ, List.getElem_cons_zero, Act.put, Act.eval, List.setIfInBounds_toArray, List.set_cons_zero, List.set_cons_succ, Nat.reduceAdd, Array.getD_eq_getD_getElem?, List.getElem?_toArray, List.getElem?_cons_succ, List.getElem?_cons_zero, Option.getD_some]
        refine Ordl.one (i := 19) (by kernel_rfl) rfl ?_
        refine ⟨?_⟩
        repeat go_step
        refine Ordl.Bx.out (?_ : Ordl.Bx _)
        refine Ordl.finz ?_
        refine Ordl.done (by kernel_rfl) ?_ _
        obtain ⟨e0, e1, e2⟩ := HK1.out.c
        go_wp2_with fail
        refine bodyPost_ret (results_tmp3 rfl _ _ _) rfl ?_
        exact ⟨rfl, _, _, HK1.out, HT6.out.trans HK2.out⟩
      · skip
        refine ⟨?_⟩
        obtain ⟨gd, hgd⟩ : ∃ g, (wB).heap.size = g := ⟨_, rfl⟩
        have SC := Lib.hid SB.out.e15
        rw [hgd] at SC
        refine wpList_any (by kernel_rfl) (.slice (some ⟨gd, 0, none⟩) 1 1) ((wB).alloc (.cells (⟨⟨la + 1, k, [x]⟩, .slice (some ⟨gx, 0, none⟩) 1 1⟩ : D).cells.toArray 54)) (by rw [← hgd]; exact exec_oneF _ (.tmp 72) rfl _ (by kernel_rfl) HKD.out) ?_
        generalize (wB).alloc (.cells (⟨⟨la + 1, k, [x]⟩, .slice (some ⟨gx, 0, none⟩) 1 1⟩ : D).cells.toArray 54) = wC at *
        clear hgd
        have X0 := SC.out.ext
        refine Ordl.Bx.out (?_ : Ordl.Bx _)
        refine Ordl.fin X0 ?_
        simp only [List.getElem_toArray, List.getElem_cons_succ, List.getElem_cons_zero, Act.put, Act.eval, List.setIfInBounds_toArray, List.set_cons_zero, List.set_cons_succ, Nat.reduceAdd, Array.getD_eq_getD_getElem?, List.getElem?_toArray, List.getElem?_cons_succ, List.getElem?_cons_zero, Option.getD_some]
        refine Ordl.one (i := 6) (by kernel_rfl) rfl ?_
        refine ⟨?_⟩
        refine DOw.pushG rfl (.tmp 59) (.tmp 63) rfl w6 _ _ [] ds rfl _ (SC.out.one _ rfl) rfl ((HR6.out.ext SC.out.ext).row) HR6.out.fit HR6.out.ones (by show 0 + ds.length ≤ 1000; omega) ?_
        intro v6 wD hf6 hg6 hat6
        rw [List.nil_append] at hf6
        have SD := Lib.hid (SC.out.e6 hf6 hg6 hat6)
        clear hf6 hg6 hat6
        have X0 := SD.out.ext
        refine Ordl.Bx.out (?_ : Ordl.Bx _)
        refine Ordl.fin X0 ?_
        simp only [List.getElem_toArray, List.getElem_cons_succ, List.getElem_cons_zero, Act.put, Act.eval, List.setIfInBounds_toArray, List.set_cons_zero, List.set_cons_succ, Nat.reduceAdd, Array.getD_eq_getD_getElem?, List.getElem?_toArray, List.getElem?_cons_succ, List.getElem?_cons_zero, Option.getD_some]
        refine Ordl.one (i := 16) (by kernel_rfl) rfl ?_
        refine ⟨?_⟩
        refine DOw.pushG rfl (.tmp 64) (.tmp 73) rfl w6 _ _ ds [⟨⟨la + 1, k, [x]⟩, .slice (some ⟨gx, 0, none⟩) 1 1⟩] rfl _ (SD.out.row _ rfl) rfl (LD.lone HKD.out (SD.out.fl _ _ rfl rfl)) (fun e he => by rw [List.mem_singleton.1 he]; exact HKD.out) (fun e he => by rw [List.mem_singleton.1 he]; rfl) (by show ds.length + 1 ≤ 1000; omega) ?_
        intro v7 w7 hf7 hg7 hat7
        have hrow : RowI 0 w7 (.slice (some ⟨gx, 0, none⟩) 1 1) [x] := RowI.lone ((hg7.block gx (SD.out.num gx x rfl rfl).lt fun e => SD.out.nv v6 gx rfl (.inl rfl) e.symm).trans (SD.out.num gx x rfl rfl))
        obtain ⟨k1, k2⟩ := HR6.out.shut (q := { fs := fs ++ [⟨la + 1, k, [x]⟩], most := mo, last := la + 1 }) hf7 (fun e he => by
          rcases List.mem_append.1 he with h1 | h1
          · exact HR6.out.fit e h1
          · rw [List.mem_singleton.1 h1]; exact HKD.out) (fun e he => by
          rcases List.mem_append.1 he with h1 | h1
          · exact (HR6.out.ext hf7.2).who e h1
          · rw [List.mem_singleton.1 h1]; exact hrow) (fun e he => by
          rcases List.mem_append.1 he with h1 | h1
          · exact .inl h1
          · rw [List.mem_singleton.1 h1]; exact .inr fun y hy => by
              have h2 : gx = y := by injection hy
              have := (SD.out.new gx (.inr (.inl rfl))).1
              omega) (by rw [List.map_append, HR6.out.fs]; rfl) rfl rfl
        have c7 := (HR6.out.ext hf7.2).c.1
        have f7 := (HR6.out.ext hf7.2).blk.frozen 0
        have X0 := hf7.2
        have HK1 := Lib.hid k1
        have HK2 := Lib.hid k2
        obtain ⟨A7, cp7, hv7⟩ := hf7.ld.slice
        generalize List.length _ = n7 at hv7
        subst hv7
        clear k1 k2 hf7 hg7 hat7 hrow
        refine Ordl.Bx.out (?_ : Ordl.Bx _)
        refine Ordl.fin X0 ?_
        simp only [List.getElem_toArray, List.getElem_cons_succ, List.getElem_cons_zero, Act.put, Act.eval, List.setIfInBounds_toArray, List.set_cons_zero, List.set_cons_succ, Nat.reduceAdd, Array.getD_eq_getD_getElem?, List.getElem?_toArray, List.getElem?_cons_succ, List.getElem?_cons_zero, Option.getD_some]
        refine Ordl.one (i := 17) (by kernel_rfl) rfl ?_
        refine ⟨?_⟩
        refine wpList_any (by kernel_rfl) (.pointer (some ⟨b, 0, none⟩)) w7 (by kernel_rfl) ?_
        refine Ordl.Bx.out (?_ : Ordl.Bx _)
        refine Ordl.fin X0 ?_
        simp only [List.getElem_toArray, List.getElem_cons_succ, List.getElem_cons_zero, Act.put, Act.eval, List.setIfInBounds_toArray, List.set_cons_zero, List.set_cons_succ, Nat.reduceAdd, Array.getD_eq_getD_getElem?, List.getElem?_toArray, List.getElem?_cons_succ, List.getElem?_cons_zero, Option.getD_some]
        refine Ordl.take (i := 18) (v := .pointer (some ⟨b, 0, none⟩)) rfl (by kernel_rfl) (by kernel_rfl) (by kernel_rfl) (by kernel_rfl) (fun _ _ _ h => h) (.inl ⟨by kernel_rfl, fun w _ => by as_aux_lemma => kernel_rfl⟩) X0 ?_
        simp only [List.getElem_toArray, List.getElem_cons_succ, List.getElem_cons_zero, Act.put, Act.eval, List.setIfInBounds_toArray, List.set_cons_zero, List.set_cons_succ, Nat.reduceAdd, Array.getD_eq_getD_getElem?, List.getElem?_toArray, List.getElem?_cons_succ, List.getElem?_cons_zero, Option.getD_some]
        refine Ordl.one (i := 19) (by kernel_rfl) rfl ?_
        refine ⟨?_⟩
        repeat go_step
        refine Ordl.Bx.out (?_ : Ordl.Bx _)
        refine Ordl.finz ?_
        refine Ordl.done (by kernel_rfl) ?_ _
        obtain ⟨e0, e1, e2⟩ := HK1.out.c
        go_wp2_with fail
        refine bodyPost_ret (results_tmp3 rfl _ _ _) rfl ?_
        exact ⟨rfl, _, _, HK1.out, HT6.out.trans HK2.out⟩
  · skip
    refine ⟨?_⟩
    obtain ⟨gx, hgx⟩ : ∃ g, (w6).heap.size = g := ⟨_, rfl⟩
    have SA := Lib.hid (S0.out.e13 (x := x) rfl)
    rw [hgx] at SA
    refine wpList_any (by kernel_rfl) (.slice (some ⟨gx, 0, none⟩) 1 1) ((w6).alloc (.cells #[.int .i64 x] 3)) (by rw [← hgx]; kernel_rfl) ?_
    generalize (w6).alloc (.cells #[.int .i64 x] 3) = wA at *
    clear hgx
    have X0 := SA.out.ext
    refine Ordl.Bx.out (?_ : Ordl.Bx _)
    refine Ordl.fin X0 ?_
    simp only [List.getElem_toArray, List.getElem_cons_succ, List.getElem_cons_zero, Act.put, Act.eval, List.setIfInBounds_toArray, List.set_cons_zero, List.set_cons_succ, Nat.reduceAdd, Array.getD_eq_getD_getElem?, List.getElem?_toArray, List.getElem?_cons_succ, List.getElem?_cons_zero, Option.getD_some]
    refine Ordl.take (i := 14) (v := .agg (⟨⟨la + 1, k, [x]⟩, .slice (some ⟨gx, 0, none⟩) 1 1⟩ : D).cells.toArray) rfl (by kernel_rfl) (by kernel_rfl) (by kernel_rfl) (by kernel_rfl) (fun _ _ _ h => h) (.inl ⟨by kernel_rfl, fun w hS => exec_buildF (.tmp 68) (.tmp 69) (.tmp 71) rfl (la + 1) k HKD.out [x] (some ⟨gx, 0, none⟩) 1 1 (by kernel_rfl) (by kernel_rfl) (by kernel_rfl)⟩) X0 ?_
    simp only [List.getElem_toArray, List.getElem_cons_succ, List.getElem_cons_zero, Act.put, Act.eval, List.setIfInBounds_toArray, List.set_cons_zero, List.set_cons_succ, Nat.reduceAdd, Array.getD_eq_getD_getElem?, List.getElem?_toArray, List.getElem?_cons_succ, List.getElem?_cons_zero, Option.getD_some]
    refine Ordl.two (i := 1) (j := 15) (by kernel_rfl) rfl rfl ?_ ?_
    · skip
      refine ⟨?_⟩
      obtain ⟨gA, hgA⟩ : ∃ g, (wA).heap.size = g := ⟨_, rfl⟩
      have SB := Lib.hid SA.out.e1
      rw [hgA] at SB
      refine wpList_any (by kernel_rfl) (.slice (some ⟨gA, 0, none⟩) 0 0) ((wA).alloc (.cells #[] 54)) (by rw [← hgA]; kernel_rfl) ?_
      generalize (wA).alloc (.cells #[] 54) = wB at *
      clear hgA
      have X0 := SB.out.ext
      refine Ordl.Bx.out (?_ : Ordl.Bx _)
      refine Ordl.fin X0 ?_
      simp only [List.getElem_toArray, List.getElem_cons_succ, List.getElem_cons_zero, Act.put, Act.eval, List.setIfInBounds_toArray, List.set_cons_zero, List.set_cons_succ, Nat.reduceAdd, Array.getD_eq_getD_getElem?, List.getElem?_toArray, List.getElem?_cons_succ, List.getElem?_cons_zero, Option.getD_some]
      refine Ordl.two (i := 6) (j := 15) (by kernel_rfl) rfl rfl ?_ ?_
      · skip
        refine ⟨?_⟩
        refine DOw.pushG rfl (.tmp 59) (.tmp 63) rfl w6 _ _ [] ds rfl _ (SB.out.one _ rfl) rfl ((HR6.out.ext SB.out.ext).row) HR6.out.fit HR6.out.ones (by show 0 + ds.length ≤ 1000; omega) ?_
        intro v6 wC hf6 hg6 hat6
        rw [List.nil_append] at hf6
        have SC := Lib.hid (SB.out.e6 hf6 hg6 hat6)
        clear hf6 hg6 hat6
        have X0 := SC.out.ext
        refine Ordl.Bx.out (?_ : Ordl.Bx _)
        refine Ordl.fin X0 ?_
        simp only [List.getElem_toArray, List.getElem_cons_succ, List.getElem_cons_zero, Act.put, Act.eval, List.setIfInBounds_toArray, List.set_cons_zero, List.set_cons_succ, Nat.reduceAdd, Array.getD_eq_getD_getElem?, List.getElem?_toArray, List.getElem?_cons_succ, List.getElem?_cons_zero, Option.getD_some]
        refine Ordl.one (i := 15) (by kernel_rfl) rfl ?_
        refine ⟨?_⟩
        obtain ⟨gd, hgd⟩ : ∃ g, (wC).heap.size = g := ⟨_, rfl⟩
        have SD := Lib.hid SC.out.e15
        rw [hgd] at SD
        refine wpList_any (by kernel_rfl) (.slice (some ⟨gd, 0, none⟩) 1 1) ((wC).alloc (.cells (⟨⟨la + 1, k, [x]⟩, .slice (some ⟨gx, 0, none⟩) 1 1⟩ : D).cells.toArray 54)) (by rw [← hgd]; exact exec_oneF _ (.tmp 72) rfl _ (by kernel_rfl) HKD.out) ?_
        generalize (wC).alloc (.cells (⟨⟨la + 1, k, [x]⟩, .slice (some ⟨gx, 0, none⟩) 1 1⟩ : D).cells.toArray 54) = wD at *
        clear hgd
        have X0 := SD.out.ext
        refine Ordl.Bx.out (?_ : Ordl.Bx _)
        refine Ordl.fin X0 ?_
        simp only [List.getElem_toArray, List.getElem_cons_succ, List.getElem_cons_zero, Act.put, Act.eval, List.setIfInBounds_toArray, List.set_cons_zero, List.set_cons_succ, Nat.reduceAdd, Array.getD_eq_getD_getElem?, List.getElem?_toArray, List.getElem?_cons_succ, List.getElem?_cons_zero, Option.getD_some]
        refine Ordl.one (i := 16) (by kernel_rfl) rfl ?_
        refine ⟨?_⟩
        refine DOw.pushG rfl (.tmp 64) (.tmp 73) rfl w6 _ _ ds [⟨⟨la + 1, k, [x]⟩, .slice (some ⟨gx, 0, none⟩) 1 1⟩] rfl _ (SD.out.row _ rfl) rfl (LD.lone HKD.out (SD.out.fl _ _ rfl rfl)) (fun e he => by rw [List.mem_singleton.1 he]; exact HKD.out) (fun e he => by rw [List.mem_singleton.1 he]; rfl) (by show ds.length + 1 ≤ 1000; omega) ?_
        intro v7 w7 hf7 hg7 hat7
        have hrow : RowI 0 w7 (.slice (some ⟨gx, 0, none⟩) 1 1) [x] := RowI.lone ((hg7.block gx (SD.out.num gx x rfl rfl).lt fun e => SD.out.nv v6 gx rfl (.inl rfl) e.symm).trans (SD.out.num gx x rfl rfl))
        obtain ⟨k1, k2⟩ := HR6.out.shut (q := { fs := fs ++ [⟨la + 1, k, [x]⟩], most := mo, last := la + 1 }) hf7 (fun e he => by
          rcases List.mem_append.1 he with h1 | h1
          · exact HR6.out.fit e h1
          · rw [List.mem_singleton.1 h1]; exact HKD.out) (fun e he => by
          rcases List.mem_append.1 he with h1 | h1
          · exact (HR6.out.ext hf7.2).who e h1
          · rw [List.mem_singleton.1 h1]; exact hrow) (fun e he => by
          rcases List.mem_append.1 he with h1 | h1
          · exact .inl h1
          · rw [List.mem_singleton.1 h1]; exact .inr fun y hy => by
              have h2 : gx = y := by injection hy
              have := (SD.out.new gx (.inr (.inl rfl))).1
              omega) (by rw [List.map_append, HR6.out.fs]; rfl) rfl rfl
        have c7 := (HR6.out.ext hf7.2).c.1
        have f7 := (HR6.out.ext hf7.2).blk.frozen 0
        have X0 := hf7.2
        have HK1 := Lib.hid k1
        have HK2 := Lib.hid k2
        obtain ⟨A7, cp7, hv7⟩ := hf7.ld.slice
        generalize List.length _ = n7 at hv7
        subst hv7
        clear k1 k2 hf7 hg7 hat7 hrow
        refine Ordl.Bx.out (?_ : Ordl.Bx _)
        refine Ordl.fin X0 ?_
        simp only [List.getElem_toArray, List.getElem_cons_succ, List.getElem_cons_zero, Act.put, Act.eval, List.setIfInBounds_toArray, List.set_cons_zero, List.set_cons_succ, Nat.reduceAdd, Array.getD_eq_getD_getElem?, List.getElem?_toArray, List.getElem?_cons_succ, List.getElem?_cons_zero, Option.getD_some]
        refine Ordl.one (i := 17) (by kernel_rfl) rfl ?_
        refine ⟨?_⟩
        refine wpList_any (by kernel_rfl) (.pointer (some ⟨b, 0, none⟩)) w7 (by kernel_rfl) ?_
        refine Ordl.Bx.out (?_ : Ordl.Bx _)
        refine Ordl.fin X0 ?_
        simp only [List.getElem_toArray, List.getElem_cons_succ, List.getElem_cons_zero, Act.put, Act.eval, List.setIfInBounds_toArray, List.set_cons_zero, List.set_cons_succ, Nat.reduceAdd, Array.getD_eq_getD_getElem?, List.getElem?_toArray, List.getElem?_cons_succ, List.getElem?_cons_zero, Option.getD_some]
        refine Ordl.take (i := 18) (v := .pointer (some ⟨b, 0, none⟩)) rfl (by kernel_rfl) (by kernel_rfl) (by kernel_rfl) (by kernel_rfl) (fun _ _ _ h => h) (.inl ⟨by kernel_rfl, fun w _ => by as_aux_lemma => kernel_rfl⟩) X0 ?_
        simp only [List.getElem_toArray, List.getElem_cons_succ, List.getElem_cons_zero, Act.put, Act.eval, List.setIfInBounds_toArray, List.set_cons_zero, List.set_cons_succ, Nat.reduceAdd, Array.getD_eq_getD_getElem?, List.getElem?_toArray, List.getElem?_cons_succ, List.getElem?_cons_zero, Option.getD_some]
        refine Ordl.one (i := 19) (by kernel_rfl) rfl ?_
        refine ⟨?_⟩
        repeat go_step
        refine Ordl.Bx.out (?_ : Ordl.Bx _)
        refine Ordl.finz ?_
        refine Ordl.done (by kernel_rfl) ?_ _
        obtain ⟨e0, e1, e2⟩ := HK1.out.c
        go_wp2_with fail
        refine bodyPost_ret (results_tmp3 rfl _ _ _) rfl ?_
        exact ⟨rfl, _, _, HK1.out, HT6.out.trans HK2.out⟩
      · skip
        refine ⟨?_⟩
        obtain ⟨gd, hgd⟩ : ∃ g, (wB).heap.size = g := ⟨_, rfl⟩
        have SC := Lib.hid SB.out.e15
        rw [hgd] at SC
        refine wpList_any (by kernel_rfl) (.slice (some ⟨gd, 0, none⟩) 1 1) ((wB).alloc (.cells (⟨⟨la + 1, k, [x]⟩, .slice (some ⟨gx, 0, none⟩) 1 1⟩ : D).cells.toArray 54)) (by rw [← hgd]; exact exec_oneF _ (.tmp 72) rfl _ (by kernel_rfl) HKD.out) ?_
        generalize (wB).alloc (.cells (⟨⟨la + 1, k, [x]⟩, .slice (some ⟨gx, 0, none⟩) 1 1⟩ : D).cells.toArray 54) = wC at *
        clear hgd
        have X0 := SC.out.ext
        refine Ordl.Bx.out (?_ : Ordl.Bx _)
        refine Ordl.fin X0 ?_
        simp only [List.getElem_toArray, List.getElem_cons_succ, List.getElem_cons_zero, Act.put, Act.eval, List.setIfInBounds_toArray, List.set_cons_zero, List.set_cons_succ, Nat.reduceAdd, Array.getD_eq_getD_getElem?, List.getElem?_toArray, List.getElem?_cons_succ, List.getElem?_cons_zero, Option.getD_some]
        refine Ordl.one (i := 6) (by kernel_rfl) rfl ?_
        refine ⟨?_⟩
        refine DOw.pushG rfl (.tmp 59) (.tmp 63) rfl w6 _ _ [] ds rfl _ (SC.out.one _ rfl) rfl ((HR6.out.ext SC.out.ext).row) HR6.out.fit HR6.out.ones (by show 0 + ds.length ≤ 1000; omega) ?_
        intro v6 wD hf6 hg6 hat6
        rw [List.nil_append] at hf6
        have SD := Lib.hid (SC.out.e6 hf6 hg6 hat6)
        clear hf6 hg6 hat6
        have X0 := SD.out.ext
        refine Ordl.Bx.out (?_ : Ordl.Bx _)
        refine Ordl.fin X0 ?_
        simp only [List.getElem_toArray, List.getElem_cons_succ, List.getElem_cons_zero, Act.put, Act.eval, List.setIfInBounds_toArray, List.set_cons_zero, List.set_cons_succ, Nat.reduceAdd, Array.getD_eq_getD_getElem?, List.getElem?_toArray, List.getElem?_cons_succ, List.getElem?_cons_zero, Option.getD_some]
        refine Ordl.one (i := 16) (by kernel_rfl) rfl ?_
        refine ⟨?_⟩
        refine DOw.pushG rfl (.tmp 64) (.tmp 73) rfl w6 _ _ ds [⟨⟨la + 1, k, [x]⟩, .slice (some ⟨gx, 0, none⟩) 1 1⟩] rfl _ (SD.out.row _ rfl) rfl (LD.lone HKD.out (SD.out.fl _ _ rfl rfl)) (fun e he => by rw [List.mem_singleton.1 he]; exact HKD.out) (fun e he => by rw [List.mem_singleton.1 he]; rfl) (by show ds.length + 1 ≤ 1000; omega) ?_
        intro v7 w7 hf7 hg7 hat7
        have hrow : RowI 0 w7 (.slice (some ⟨gx, 0, none⟩) 1 1) [x] := RowI.lone ((hg7.block gx (SD.out.num gx x rfl rfl).lt fun e => SD.out.nv v6 gx rfl (.inl rfl) e.symm).trans (SD.out.num gx x rfl rfl))
        obtain ⟨k1, k2⟩ := HR6.out.shut (q := { fs := fs ++ [⟨la + 1, k, [x]⟩], most := mo, last := la + 1 }) hf7 (fun e he => by
          rcases List.mem_append.1 he with h1 | h1
          · exact HR6.out.fit e h1
          · rw [List.mem_singleton.1 h1]; exact HKD.out) (fun e he => by
          rcases List.mem_append.1 he with h1 | h1
          · exact (HR6.out.ext hf7.2).who e h1
          · rw [List.mem_singleton.1 h1]; exact hrow) (fun e he => by
          rcases List.mem_append.1 he with h1 | h1
          · exact .inl h1
          · rw [List.mem_singleton.1 h1]; exact .inr fun y hy => by
              have h2 : gx = y := by injection hy
              have := (SD.out.new gx (.inr (.inl rfl))).1
              omega) (by rw [List.map_append, HR6.out.fs]; rfl) rfl rfl
        have c7 := (HR6.out.ext hf7.2).c.1
        have f7 := (HR6.out.ext hf7.2).blk.frozen 0
        have X0 := hf7.2
        have HK1 := Lib.hid k1
        have HK2 := Lib.hid k2
        obtain ⟨A7, cp7, hv7⟩ := hf7.ld.slice
        generalize List.length _ = n7 at hv7
        subst hv7
        clear k1 k2 hf7 hg7 hat7 hrow
        refine Ordl.Bx.out (?_ : Ordl.Bx _)
        refine Ordl.fin X0 ?_
        simp only [List.getElem_toArray, List.getElem_cons_succ, List.getElem_cons_zero, Act.put, Act.eval, List.setIfInBounds_toArray, List.set_cons_zero, List.set_cons_succ, Nat.reduceAdd, Array.getD_eq_getD_getElem?, List.getElem?_toArray, List.getElem?_cons_succ, List.getElem?_cons_zero, Option.getD_some]
        refine Ordl.one (i := 17) (by kernel_rfl) rfl ?_
        refine ⟨?_⟩
        refine wpList_any (by kernel_rfl) (.pointer (some ⟨b, 0, none⟩)) w7 (by kernel_rfl) ?_
        refine Ordl.Bx.out (?_ : Ordl.Bx _)
        refine Ordl.fin X0 ?_
        simp only [List.getElem_toArray, List.getElem_cons_succ, List.getElem_cons_zero, Act.put, Act.eval, List.setIfInBounds_toArray, List.set_cons_zero, List.set_cons_succ, Nat.reduceAdd, Array.getD_eq_getD_getElem?, List.getElem?_toArray, List.getElem?_cons_succ, List.getElem?_cons_zero, Option.getD_some]
        refine Ordl.take (i := 18) (v := .pointer (some ⟨b, 0, none⟩)) rfl (by kernel_rfl) (by kernel_rfl) (by kernel_rfl) (by kernel_rfl) (fun _ _ _ h => h) (.inl ⟨by kernel_rfl, fun w _ => by as_aux_lemma => kernel_rfl⟩) X0 ?_
        simp only [List.getElem_toArray, List.getElem_cons_succ, List.getElem_cons_zero, Act.put, Act.eval, List.setIfInBounds_toArray, List.set_cons_zero, List.set_cons_succ, Nat.reduceAdd, Array.getD_eq_getD_getElem?, List.getElem?_toArray, List.getElem?_cons_succ, List.getElem?_cons_zero, Option.getD_some]
        refine Ordl.one (i := 19) (by kernel_rfl) rfl ?_
        refine ⟨?_⟩
        repeat go_step
        refine Ordl.Bx.out (?_ : Ordl.Bx _)
        refine Ordl.finz ?_
        refine Ordl.done (by kernel_rfl) ?_ _
        obtain ⟨e0, e1, e2⟩ := HK1.out.c
        go_wp2_with fail
        refine bodyPost_ret (results_tmp3 rfl _ _ _) rfl ?_
        exact ⟨rfl, _, _, HK1.out, HT6.out.trans HK2.out⟩
    · skip
      refine ⟨?_⟩
      obtain ⟨gd, hgd⟩ : ∃ g, (wA).heap.size = g := ⟨_, rfl⟩
      have SB := Lib.hid SA.out.e15
      rw [hgd] at SB
      refine wpList_any (by kernel_rfl) (.slice (some ⟨gd, 0, none⟩) 1 1) ((wA).alloc (.cells (⟨⟨la + 1, k, [x]⟩, .slice (some ⟨gx, 0, none⟩) 1 1⟩ : D).cells.toArray 54)) (by rw [← hgd]; exact exec_oneF _ (.tmp 72) rfl _ (by kernel_rfl) HKD.out) ?_
      generalize (wA).alloc (.cells (⟨⟨la + 1, k, [x]⟩, .slice (some ⟨gx, 0, none⟩) 1 1⟩ : D).cells.toArray 54) = wB at *
      clear hgd
      have X0 := SB.out.ext
      refine Ordl.Bx.out (?_ : Ordl.Bx _)
      refine Ordl.fin X0 ?_
      simp only [List.getElem_toArray, List.getElem_cons_succ, List.getElem_cons_zero, Act.put, Act.eval, List.setIfInBounds_toArray, List.set_cons_zero, List.set_cons_succ, Nat.reduceAdd, Array.getD_eq_getD_getElem?, List.getElem?_toArray, List.getElem?_cons_succ, List.getElem?_cons_zero, Option.getD_some]
      refine Ordl.one (i := 1) (by kernel_rfl) rfl ?_
      refine ⟨?_⟩
      obtain ⟨gA, hgA⟩ : ∃ g, (wB).heap.size = g := ⟨_, rfl⟩
      have SC := Lib.hid SB.out.e1
      rw [hgA] at SC
      refine wpList_any (by kernel_rfl) (.slice (some ⟨gA, 0, none⟩) 0 0) ((wB).alloc (.cells #[] 54)) (by rw [← hgA]; kernel_rfl) ?_
      generalize (wB).alloc (.cells #[] 54) = wC at *
      clear hgA
      have X0 := SC.out.ext
      refine Ordl.Bx.out (?_ : Ordl.Bx _)
      refine Ordl.fin X0 ?_
      simp only [List.getElem_toArray, List.getElem_cons_succ, List.getElem_cons_zero, Act.put, Act.eval, List.setIfInBounds_toArray, List.set_cons_zero, List.set_cons_succ, Nat.reduceAdd, Array.getD_eq_getD_getElem?, List.getElem?_toArray, List.getElem?_cons_succ, List.getElem?_cons_zero, Option.getD_some]
      refine Ordl.one (i := 6) (by kernel_rfl) rfl ?_
      refine ⟨?_⟩
      refine DOw.pushG rfl (.tmp 59) (.tmp 63) rfl w6 _ _ [] ds rfl _ (SC.out.one _ rfl) rfl ((HR6.out.ext SC.out.ext).row) HR6.out.fit HR6.out.ones (by show 0 + ds.length ≤ 1000; omega) ?_
      intro v6 wD hf6 hg6 hat6
      rw [List.nil_append] at hf6
      have SD := Lib.hid (SC.out.e6 hf6 hg6 hat6)
      clear hf6 hg6 hat6
      have X0 := SD.out.ext
      refine Ordl.Bx.out (?_ : Ordl.Bx _)
      refine Ordl.fin X0 ?_
      simp only [List.getElem_toArray, List.getElem_cons_succ, List.getElem_cons_zero, Act.put, Act.eval, List.setIfInBounds_toArray, List.set_cons_zero, List.set_cons_succ, Nat.reduceAdd, Array.getD_eq_getD_getElem?, List.getElem?_toArray, List.getElem?_cons_succ, List.getElem?_cons_zero, Option.getD_some]
      refine Ordl.one (i := 16) (by kernel_rfl) rfl ?_
      refine ⟨?_⟩
      refine DOw.pushG rfl (.tmp 64) (.tmp 73) rfl w6 _ _ ds [⟨⟨la + 1, k, [x]⟩, .slice (some ⟨gx, 0, none⟩) 1 1⟩] rfl _ (SD.out.row _ rfl) rfl (LD.lone HKD.out (SD.out.fl _ _ rfl rfl)) (fun e he => by rw [List.mem_singleton.1 he]; exact HKD.out) (fun e he => by rw [List.mem_singleton.1 he]; rfl) (by show ds.length + 1 ≤ 1000; omega) ?_
      intro v7 w7 hf7 hg7 hat7
      have hrow : RowI 0 w7 (.slice (some ⟨gx, 0, none⟩) 1 1) [x] := RowI.lone ((hg7.block gx (SD.out.num gx x rfl rfl).lt fun e => SD.out.nv v6 gx rfl (.inl rfl) e.symm).trans (SD.out.num gx x rfl rfl))
      obtain ⟨k1, k2⟩ := HR6.out.shut (q := { fs := fs ++ [⟨la + 1, k, [x]⟩], most := mo, last := la + 1 }) hf7 (fun e he => by
        rcases List.mem_append.1 he with h1 | h1
        · exact HR6.out.fit e h1
        · rw [List.mem_singleton.1 h1]; exact HKD.out) (fun e he => by
        rcases List.mem_append.1 he with h1 | h1
        · exact (HR6.out.ext hf7.2).who e h1
        · rw [List.mem_singleton.1 h1]; exact hrow) (fun e he => by
        rcases List.mem_append.1 he with h1 | h1
        · exact .inl h1
        · rw [List.mem_singleton.1 h1]; exact .inr fun y hy => by
            have h2 : gx = y := by injection hy
            have := (SD.out.new gx (.inr (.inl rfl))).1
            omega) (by rw [List.map_append, HR6.out.fs]; rfl) rfl rfl
      have c7 := (HR6.out.ext hf7.2).c.1
      have f7 := (HR6.out.ext hf7.2).blk.frozen 0
      have X0 := hf7.2
      have HK1 := Lib.hid k1
      have HK2 := Lib.hid k2
      obtain ⟨A7, cp7, hv7⟩ := hf7.ld.slice
      generalize List.length _ = n7 at hv7
      subst hv7
      clear k1 k2 hf7 hg7 hat7 hrow
      refine Ordl.Bx.out (?_ : Ordl.Bx _)
      refine Ordl.fin X0 ?_
      simp only [List.getElem_toArray, List.getElem_cons_succ, List.getElem_cons_zero, Act.put, Act.eval, List.setIfInBounds_toArray, List.set_cons_zero, List.set_cons_succ, Nat.reduceAdd, Array.getD_eq_getD_getElem?, List.getElem?_toArray, List.getElem?_cons_succ, List.getElem?_cons_zero, Option.getD_some]
      refine Ordl.one (i := 17) (by kernel_rfl) rfl ?_
      refine ⟨?_⟩
      refine wpList_any (by kernel_rfl) (.pointer (some ⟨b, 0, none⟩)) w7 (by kernel_rfl) ?_
      refine Ordl.Bx.out (?_ : Ordl.Bx _)
      refine Ordl.fin X0 ?_
      simp only [List.getElem_toArray, List.getElem_cons_succ, List.getElem_cons_zero, Act.put, Act.eval, List.setIfInBounds_toArray, List.set_cons_zero, List.set_cons_succ, Nat.reduceAdd, Array.getD_eq_getD_getElem?, List.getElem?_toArray, List.getElem?_cons_succ, List.getElem?_cons_zero, Option.getD_some]
      refine Ordl.take (i := 18) (v := .pointer (some ⟨b, 0, none⟩)) rfl (by kernel_rfl) (by kernel_rfl) (by kernel_rfl) (by kernel_rfl) (fun _ _ _ h => h) (.inl ⟨by kernel_rfl, fun w _ => by as_aux_lemma => kernel_rfl⟩) X0 ?_
      simp only [List.getElem_toArray, List.getElem_cons_succ, List.getElem_cons_zero, Act.put, Act.eval, List.setIfInBounds_toArray, List.set_cons_zero, List.set_cons_succ, Nat.reduceAdd, Array.getD_eq_getD_getElem?, List.getElem?_toArray, List.getElem?_cons_succ, List.getElem?_cons_zero, Option.getD_some]
      refine Ordl.one (i := 19) (by kernel_rfl) rfl ?_
      refine ⟨?_⟩
      repeat go_step
      refine Ordl.Bx.out (?_ : Ordl.Bx _)
      refine Ordl.finz ?_
      refine Ordl.done (by kernel_rfl) ?_ _
      obtain ⟨e0, e1, e2⟩ := HK1.out.c
      go_wp2_with fail
      refine bodyPost_ret (results_tmp3 rfl _ _ _) rfl ?_
      exact ⟨rfl, _, _, HK1.out, HT6.out.trans HK2.out⟩
/-- Join -/
theorem joinR (R : RD w b v ds p) (hg : Good p) (k : Ky) (hkd : k.dig.length = 32) (x : Int) (hl : ds.length ≤ 200) (hw : ∀ d ∈ ds, d.f.who.length ≤ 1000000) (hlb : p.last ≤ 1000000) :
    Calls Try.prog 18 #[.pointer (some ⟨b, 0, none⟩), .agg k.cells.toArray, .int .i64 x] w (ResR b w v ds (.tuple #[.int .i64 (p.join k x).1.1, .bool (p.join k x).1.2.1, .int .i64 (p.join k x).1.2.2]) (p.join k x).2) := by
  cases h : pWh x p.fs with
  | some m =>
    have e : p.join k x = ((0, false, 9), p) := by
      unfold Py.P.join
      rw [wh_idx, h, Option.bind_some, List.getElem?_eq_getElem (idx_lt h)]
    rw [e]
    exact joinR_two R k hkd x hl hw h
  | none =>
    have hwn : wh x p.fs = none := by rw [wh_idx, h]; rfl
    cases h2 : pKey k p.fs with
    | some m =>
      have hm := idx_lt h2
      have hmd : m < ds.length := by rw [R.length]; exact hm
      have e : p.join k x = ((ds[m].f.id, false, 0), { p with fs := p.fs.set m { ds[m].f with who := ds[m].f.who ++ [x] } }) := by
        unfold Py.P.join
        rw [hwn, key_idx, h2, Option.bind_some, List.getElem?_eq_getElem hm]
        dsimp only
        rw [upd_set hg.up hm, R.at_ m hmd]
      rw [e]
      exact joinR_more R k hkd x hl hw h hmd h2 _ rfl
    | none =>
      have hkn : find k p.fs = none := by rw [key_idx, h2]; rfl
      by_cases hm : (p.fs.length : Int) ≥ p.most
      · have e : p.join k x = ((0, false, 6), p) := by
          unfold Py.P.join
          rw [hwn, hkn]
          dsimp only
          rw [if_pos hm]
        rw [e]
        exact joinR_full R k hkd x hl hw h h2 (by rw [R.length]; exact hm)
      · have e : p.join k x = ((p.last + 1, true, 0), ⟨p.fs ++ [⟨p.last + 1, k, [x]⟩], p.most, p.last + 1⟩) := by
          unfold Py.P.join
          rw [hwn, hkn]
          dsimp only
          rw [if_neg hm]
        rw [e]
        obtain ⟨fs, mo, la⟩ := p
        exact joinR_new R k hkd x hl hw h h2 (by have := R.length; dsimp only at this hm; omega) hg.last hlb
end
end Py
end Go.Proofs.Ytjkhfnfimicffaa
