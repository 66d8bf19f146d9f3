/- The document's tables: rows of a call's own; Same. -/
import Derived.Test.YtcfdlfedmbmidaaDoorTkO
set_option linter.unusedSimpArgs false
set_option linter.unusedVariables false
set_option linter.unusedSectionVars false
namespace Go.Proofs.YtcfdlfedmbmidaaDoor
open Go Go.RowKit
namespace Tk

/-- v owns just these tickets, in a block made since W0; all that there was in W0 is as it was -/
def TOw (W0 w : World) (v : Value) (ds : List T) : Prop := LT W0.heap.size w v ds ∧ Reg.Ext W0 w
theorem LT.weak {B : Nat} {w : World} {v : Value} {l : List T} (h : LT B w v l) : LT 0 w v l :=
  ⟨h.1, h.2.imp id fun ⟨g, cap, cur, e, _, rest⟩ => ⟨g, cap, cur, e, Nat.zero_le _, rest⟩⟩
theorem LT.ext {B : Nat} {w w' : World} {v : Value} {l : List T} (h : LT B w v l) (hx : Reg.Ext w w') : LT B w' v l := own_keep h fun g hg => hx.block g (h.lt hg).2
theorem TOw.new {W0 w : World} (hx : Reg.Ext W0 w) : TOw W0 (w.alloc (.cells #[] 25)) (.slice (some ⟨w.heap.size, 0, none⟩) 0 0) [] :=
  ⟨World.ownsRow_made w #[] 0 hx.size (Nat.zero_le _) rfl, hx.trans (Reg.Ext.alloc _ _)⟩
theorem TOw.later {W0 w w' : World} {v : Value} {ds : List T} (h : TOw W0 w v ds) (hx : Reg.Ext w w') : TOw W0 w' v ds := ⟨h.1.ext hx, h.2.trans hx⟩
theorem TOw.ge {W0 w : World} {v : Value} {ds : List T} (h : TOw W0 w v ds) {g : Nat} (hg : v.ownBlock = some g) : W0.heap.size ≤ g := (World.ownsRow.lt h.1 g hg).1
theorem Tb.shut {T0 : TypeId} {w w' : World} {b : Nat} {v v' : Value} {l l' : List T} {most : Int} (h : Tb T0 w b v l most) (ho : TOw w w' v' l') (hf : Fit l') :
    Tb T0 (w'.setCell ⟨b, 0, none⟩ v') b v' l' most ∧ TTurn b w v (w'.setCell ⟨b, 0, none⟩ v') v' :=
  h.turn ⟨ho.2.os, ho.2.tape, ho.2.output, ho.2.size, fun i hi _ => ho.2.block i hi⟩ ho.1.weak hf (.inr fun _ hg => ho.ge hg)
section
variable {ops : Array Oper} {rest : List Oper} {o : Oper} {a : Act} {Q : Exit → Act → World → Prop}
theorem TOw.push (hgd : o.guard = none) (s x : Operand) (ho : o.op = .call { callee := .builtin .append, args := #[s, x], argTypes := #[42, 42] }) (W0 W : World) (v : Value) (ds : List T) (y : T) (hy : y.dig.length = 32) (gx : Nat) (hs : a.eval s = v) (hb : TOw W0 W v ds) (hx : a.eval x = .slice (some ⟨gx, 0, none⟩) 1 1) (hnew : Blk W gx 25 y.cells) (hl : ds.length ≤ 1000)
    (h : ∀ v' w', TOw W0 w' v' (ds ++ [y]) → wpList Tryd.prog ops Q rest (a.put o.dst v') w') : wpList Tryd.prog ops Q (o :: rest) a W := by
  obtain ⟨i, hi, hz, hsz, hby⟩ := tkInfo_of
  refine Go.wpList_append_own_at W hgd s x 42 ho W0.heap.size 25 i (.agg zT.cells.toArray) 38 104 Tryd.underlying42 hi hz hsz hby rfl (by decide) v ds.length (flat ds) hs hb.1 ⟨gx, 0, none⟩ 1 1 y.cells hx (y.len hy) (fun j u hj => by rw [Addr.add_mid, Nat.zero_add, hnew.cell]; exact hj) y.one (by unfold maxLen; omega) (by omega) hb.2.size ?_
  intro v' w' ho' hg _ hat
  refine h v' w' ⟨?_, Below.grown hb.2 hg hb.2.size fun k hk => (hb.1.lt hk).1⟩
  unfold LT
  rw [List.length_append, show flat (ds ++ [y]) = flat ds ++ y.cells by simp [flat]]
  exact ho'
theorem one_ticket (hgd : o.guard = none) (x : Operand) (ho : o.op = .buildSlice 42 1 #[(0, x)]) (y : T) (hx : a.eval x = .agg y.cells.toArray) (hy : y.dig.length = 32) (W : World)
    (h : wpList Tryd.prog ops Q rest (a.put o.dst (.slice (some ⟨W.heap.size, 0, none⟩) 1 1)) (W.alloc (.cells y.cells.toArray 25))) : wpList Tryd.prog ops Q (o :: rest) a W :=
  One.wpList_valw hgd _ (exec_oneT W x ho y hx hy) h
end
set_option maxRecDepth 100000 in
set_option maxHeartbeats 1000000 in
theorem sameR_any {B1 B2 : Nat} {w : World} {v u : Value} {l m : List T} (h1 : LT B1 w v l) (f1 : Fit l) (h2 : LT B2 w u m) (f2 : Fit m) (hl : l.length ≤ 1000) :
    Calls Tryd.prog 22 #[v, u] w fun e w' => e = .returned (.bool (decide (l = m))) ∧ Reg.Ext w w' := by
  have H1 := Lib.hid h1
  have H2 := Lib.hid h2
  have F1 := Lib.hid f1
  have F2 := Lib.hid f2
  obtain ⟨A1, c1, hv1⟩ := h1.slice
  obtain ⟨A2, c2, hv2⟩ := h2.slice
  subst hv1 hv2
  clear h1 h2 f1 f2
  by_cases hlm : l.length = m.length
  · have qn : ((l.length : Int) != (m.length : Int)) = false := by rw [hlm]; simp
    have HLM := Lib.hid hlm
    clear hlm
    go_enter Tryd.func22, Tryd.ntmps22
    go_wp2_with fail
    clear qn
    go_loopw [5] (fun i wr => ∃ k : Nat, i = .int .i64 (k : Int) ∧ k ≤ l.length ∧ Hid (l.take k = m.take k) ∧ Hid (Reg.Ext w wr)) (fun i _ => l.length - (intOf i).toNat)
    case atStart => exact ⟨0, rfl, Nat.zero_le _, Lib.hid rfl, Lib.hid (Reg.Ext.refl _)⟩
    case round =>
      obtain ⟨k, rfl, hk, HE, HXr⟩ := hrel
      by_cases hkl : k < l.length
      · have hkm : k < m.length := by have := HLM.out; omega
        rcases H1.out.form with ⟨_, e1⟩ | ⟨g1, cap1, e1, _, _, _, _⟩
        · rw [e1] at hkl; exact absurd hkl (Nat.not_lt_zero _)
        injection e1 with e1 hh e2
        clear hh
        subst e1 e2
        rcases H2.out.form with ⟨_, e1⟩ | ⟨g2, cap2, e1, _, _, _, _⟩
        · rw [e1] at hkm; exact absurd hkm (Nat.not_lt_zero _)
        injection e1 with e1 hh e2
        clear hh
        subst e1 e2
        have HR1 := Lib.hid (rng_ext (H1.out.range F1.out k hkl) HXr.out)
        have HR2 := Lib.hid (rng_ext (H2.out.range F2.out k hkm) HXr.out)
        have HD1 := Lib.hid (F1.out _ (List.getElem_mem hkl))
        have HD2 := Lib.hid (F2.out _ (List.getElem_mem hkm))
        have HTY : Hid (l[k] = m[k] → l.take (k + 1) = m.take (k + 1)) := Lib.hid fun h => by
          rw [List.take_succ_eq_append_getElem hkl, List.take_succ_eq_append_getElem hkm, HE.out, h]
        have HTN : Hid (l[k] ≠ m[k] → l ≠ m) := Lib.hid fun h e => h (by subst e; rfl)
        generalize l[k] = x at *
        generalize m[k] = y at *
        have hli : (k : Int) < (l.length : Int) := by omega
        have hmi : (k : Int) < (m.length : Int) := by omega
        go_upto_region 6 with (fail)
        by_cases hxy : x = y
        · have HE2 := Lib.hid (HTY.out hxy)
          have qb : decide (x = y) = true := decide_eq_true hxy
          clear hxy
          refine Ordl.begins (S := fun w' => Reg.Ext (wr).drew w') (z := 99) (by kernel_rfl) ?_
          refine Ordl.Bx.out (?_ : Ordl.Bx (Ordl.Any _ _ _ _ _ _ _ _ _ _))
          have X0 : Reg.Ext (wr).drew (wr).drew := Reg.Ext.refl _
          have HX5 := Lib.hid (HXr.out.trans (Reg.Ext.drew wr))
          have HR3 := Lib.hid (rng_ext HR1.out (Reg.Ext.drew wr))
          have HR4 := Lib.hid (rng_ext HR2.out (Reg.Ext.drew wr))
          clear HXr HR1 HR2
          generalize wr.drew = w4 at *
          refine Ordl.take (i := 0) (v := .slice (some ⟨g1, 0, none⟩) l.length c1) rfl (by kernel_rfl) (by kernel_rfl) (by kernel_rfl) (by kernel_rfl) (fun _ _ _ h => h) (.inl ⟨by kernel_rfl, fun w _ => by as_aux_lemma => kernel_rfl⟩) X0 ?_
          simp only [List.getElem_toArray, List.getElem_cons_succ, List.getElem_cons_zero, Act.put, Act.eval, List.setIfInBounds_toArray, List.set_cons_zero, List.set_cons_succ, Nat.reduceAdd, Array.getD_eq_getD_getElem?, List.getElem?_toArray, List.getElem?_cons_succ, List.getElem?_cons_zero, Option.getD_some]
          refine Ordl.take (i := 1) (v := .int .i64 (k : Int)) rfl (by kernel_rfl) (by kernel_rfl) (by kernel_rfl) (by kernel_rfl) (fun _ _ _ h => h) (.inl ⟨by kernel_rfl, fun w _ => by as_aux_lemma => kernel_rfl⟩) X0 ?_
          simp only [List.getElem_toArray, List.getElem_cons_succ, List.getElem_cons_zero, Act.put, Act.eval, List.setIfInBounds_toArray, List.set_cons_zero, List.set_cons_succ, Nat.reduceAdd, Array.getD_eq_getD_getElem?, List.getElem?_toArray, List.getElem?_cons_succ, List.getElem?_cons_zero, Option.getD_some]
          refine Ordl.take (i := 2) (v := .pointer (some ⟨g1, k * 38, none⟩)) rfl (by kernel_rfl) (by kernel_rfl) (by kernel_rfl) (by kernel_rfl) (fun _ _ _ h => h) (.inl ⟨by kernel_rfl, fun w hS => exec_idxT (cap := c1) (.tmp 17) (.tmp 18) rfl (by kernel_rfl) (by kernel_rfl) hkl w⟩) X0 ?_
          simp only [List.getElem_toArray, List.getElem_cons_succ, List.getElem_cons_zero, Act.put, Act.eval, List.setIfInBounds_toArray, List.set_cons_zero, List.set_cons_succ, Nat.reduceAdd, Array.getD_eq_getD_getElem?, List.getElem?_toArray, List.getElem?_cons_succ, List.getElem?_cons_zero, Option.getD_some]
          refine Ordl.take (i := 3) (v := .agg (x).cells.toArray) rfl (by kernel_rfl) (by kernel_rfl) (by kernel_rfl) (by kernel_rfl) (fun _ _ _ h => h) (yieldsIf_load_mid (by kernel_rfl) 25 (.tmp 19) rfl g1 (k * 38) (by kernel_rfl) (x).cells _ (fun w h => rng_ext HR3.out h) undT rfl (by rw [(x).len HD1.out]; exact sizeT)) X0 ?_
          simp only [List.getElem_toArray, List.getElem_cons_succ, List.getElem_cons_zero, Act.put, Act.eval, List.setIfInBounds_toArray, List.set_cons_zero, List.set_cons_succ, Nat.reduceAdd, Array.getD_eq_getD_getElem?, List.getElem?_toArray, List.getElem?_cons_succ, List.getElem?_cons_zero, Option.getD_some]
          refine Ordl.take (i := 4) (v := .slice (some ⟨g2, 0, none⟩) m.length c2) rfl (by kernel_rfl) (by kernel_rfl) (by kernel_rfl) (by kernel_rfl) (fun _ _ _ h => h) (.inl ⟨by kernel_rfl, fun w _ => by as_aux_lemma => kernel_rfl⟩) X0 ?_
          simp only [List.getElem_toArray, List.getElem_cons_succ, List.getElem_cons_zero, Act.put, Act.eval, List.setIfInBounds_toArray, List.set_cons_zero, List.set_cons_succ, Nat.reduceAdd, Array.getD_eq_getD_getElem?, List.getElem?_toArray, List.getElem?_cons_succ, List.getElem?_cons_zero, Option.getD_some]
          refine Ordl.take (i := 5) (v := .int .i64 (k : Int)) rfl (by kernel_rfl) (by kernel_rfl) (by kernel_rfl) (by kernel_rfl) (fun _ _ _ h => h) (.inl ⟨by kernel_rfl, fun w _ => by as_aux_lemma => kernel_rfl⟩) X0 ?_
          simp only [List.getElem_toArray, List.getElem_cons_succ, List.getElem_cons_zero, Act.put, Act.eval, List.setIfInBounds_toArray, List.set_cons_zero, List.set_cons_succ, Nat.reduceAdd, Array.getD_eq_getD_getElem?, List.getElem?_toArray, List.getElem?_cons_succ, List.getElem?_cons_zero, Option.getD_some]
          refine Ordl.take (i := 6) (v := .pointer (some ⟨g2, k * 38, none⟩)) rfl (by kernel_rfl) (by kernel_rfl) (by kernel_rfl) (by kernel_rfl) (fun _ _ _ h => h) (.inl ⟨by kernel_rfl, fun w hS => exec_idxT (cap := c2) (.tmp 21) (.tmp 22) rfl (by kernel_rfl) (by kernel_rfl) hkm w⟩) X0 ?_
          simp only [List.getElem_toArray, List.getElem_cons_succ, List.getElem_cons_zero, Act.put, Act.eval, List.setIfInBounds_toArray, List.set_cons_zero, List.set_cons_succ, Nat.reduceAdd, Array.getD_eq_getD_getElem?, List.getElem?_toArray, List.getElem?_cons_succ, List.getElem?_cons_zero, Option.getD_some]
          refine Ordl.take (i := 7) (v := .agg (y).cells.toArray) rfl (by kernel_rfl) (by kernel_rfl) (by kernel_rfl) (by kernel_rfl) (fun _ _ _ h => h) (yieldsIf_load_mid (by kernel_rfl) 25 (.tmp 23) rfl g2 (k * 38) (by kernel_rfl) (y).cells _ (fun w h => rng_ext HR4.out h) undT rfl (by rw [(y).len HD2.out]; exact sizeT)) X0 ?_
          simp only [List.getElem_toArray, List.getElem_cons_succ, List.getElem_cons_zero, Act.put, Act.eval, List.setIfInBounds_toArray, List.set_cons_zero, List.set_cons_succ, Nat.reduceAdd, Array.getD_eq_getD_getElem?, List.getElem?_toArray, List.getElem?_cons_succ, List.getElem?_cons_zero, Option.getD_some]
          refine Ordl.take (i := 8) (v := .bool (!decide (x = y))) rfl (by kernel_rfl) (by kernel_rfl) (by kernel_rfl) (by kernel_rfl) (fun _ _ _ h => h) (.inl ⟨by kernel_rfl, fun w hS => exec_neqT x y HD1.out HD2.out (.tmp 20) (.tmp 24) rfl (by kernel_rfl) (by kernel_rfl)⟩) X0 ?_
          simp only [List.getElem_toArray, List.getElem_cons_succ, List.getElem_cons_zero, Act.put, Act.eval, List.setIfInBounds_toArray, List.set_cons_zero, List.set_cons_succ, Nat.reduceAdd, Array.getD_eq_getD_getElem?, List.getElem?_toArray, List.getElem?_cons_succ, List.getElem?_cons_zero, Option.getD_some]
          rw [qb]
          refine Ordl.done (by kernel_rfl) ?_ _
          clear X0
          go_wp2_with fail
          go_roundw
          case rel => exact ⟨k + 1, by go_num, by omega, HE2, HX5⟩
          case measure => simp [intOf]; omega
        · have HV : Hid (decide (l = m) = false) := Lib.hid (decide_eq_false (HTN.out hxy))
          have qb : decide (x = y) = false := decide_eq_false hxy
          clear hxy
          refine Ordl.begins (S := fun w' => Reg.Ext (wr).drew w') (z := 99) (by kernel_rfl) ?_
          refine Ordl.Bx.out (?_ : Ordl.Bx (Ordl.Any _ _ _ _ _ _ _ _ _ _))
          have X0 : Reg.Ext (wr).drew (wr).drew := Reg.Ext.refl _
          have HX5 := Lib.hid (HXr.out.trans (Reg.Ext.drew wr))
          have HR3 := Lib.hid (rng_ext HR1.out (Reg.Ext.drew wr))
          have HR4 := Lib.hid (rng_ext HR2.out (Reg.Ext.drew wr))
          clear HXr HR1 HR2
          generalize wr.drew = w4 at *
          refine Ordl.take (i := 0) (v := .slice (some ⟨g1, 0, none⟩) l.length c1) rfl (by kernel_rfl) (by kernel_rfl) (by kernel_rfl) (by kernel_rfl) (fun _ _ _ h => h) (.inl ⟨by kernel_rfl, fun w _ => by as_aux_lemma => kernel_rfl⟩) X0 ?_
          simp only [List.getElem_toArray, List.getElem_cons_succ, List.getElem_cons_zero, Act.put, Act.eval, List.setIfInBounds_toArray, List.set_cons_zero, List.set_cons_succ, Nat.reduceAdd, Array.getD_eq_getD_getElem?, List.getElem?_toArray, List.getElem?_cons_succ, List.getElem?_cons_zero, Option.getD_some]
          refine Ordl.take (i := 1) (v := .int .i64 (k : Int)) rfl (by kernel_rfl) (by kernel_rfl) (by kernel_rfl) (by kernel_rfl) (fun _ _ _ h => h) (.inl ⟨by kernel_rfl, fun w _ => by as_aux_lemma => kernel_rfl⟩) X0 ?_
          simp only [List.getElem_toArray, List.getElem_cons_succ, List.getElem_cons_zero, Act.put, Act.eval, List.setIfInBounds_toArray, List.set_cons_zero, List.set_cons_succ, Nat.reduceAdd, Array.getD_eq_getD_getElem?, List.getElem?_toArray, List.getElem?_cons_succ, List.getElem?_cons_zero, Option.getD_some]
          refine Ordl.take (i := 2) (v := .pointer (some ⟨g1, k * 38, none⟩)) rfl (by kernel_rfl) (by kernel_rfl) (by kernel_rfl) (by kernel_rfl) (fun _ _ _ h => h) (.inl ⟨by kernel_rfl, fun w hS => exec_idxT (cap := c1) (.tmp 17) (.tmp 18) rfl (by kernel_rfl) (by kernel_rfl) hkl w⟩) X0 ?_
          simp only [List.getElem_toArray, List.getElem_cons_succ, List.getElem_cons_zero, Act.put, Act.eval, List.setIfInBounds_toArray, List.set_cons_zero, List.set_cons_succ, Nat.reduceAdd, Array.getD_eq_getD_getElem?, List.getElem?_toArray, List.getElem?_cons_succ, List.getElem?_cons_zero, Option.getD_some]
          refine Ordl.take (i := 3) (v := .agg (x).cells.toArray) rfl (by kernel_rfl) (by kernel_rfl) (by kernel_rfl) (by kernel_rfl) (fun _ _ _ h => h) (yieldsIf_load_mid (by kernel_rfl) 25 (.tmp 19) rfl g1 (k * 38) (by kernel_rfl) (x).cells _ (fun w h => rng_ext HR3.out h) undT rfl (by rw [(x).len HD1.out]; exact sizeT)) X0 ?_
          simp only [List.getElem_toArray, List.getElem_cons_succ, List.getElem_cons_zero, Act.put, Act.eval, List.setIfInBounds_toArray, List.set_cons_zero, List.set_cons_succ, Nat.reduceAdd, Array.getD_eq_getD_getElem?, List.getElem?_toArray, List.getElem?_cons_succ, List.getElem?_cons_zero, Option.getD_some]
          refine Ordl.take (i := 4) (v := .slice (some ⟨g2, 0, none⟩) m.length c2) rfl (by kernel_rfl) (by kernel_rfl) (by kernel_rfl) (by kernel_rfl) (fun _ _ _ h => h) (.inl ⟨by kernel_rfl, fun w _ => by as_aux_lemma => kernel_rfl⟩) X0 ?_
          simp only [List.getElem_toArray, List.getElem_cons_succ, List.getElem_cons_zero, Act.put, Act.eval, List.setIfInBounds_toArray, List.set_cons_zero, List.set_cons_succ, Nat.reduceAdd, Array.getD_eq_getD_getElem?, List.getElem?_toArray, List.getElem?_cons_succ, List.getElem?_cons_zero, Option.getD_some]
          refine Ordl.take (i := 5) (v := .int .i64 (k : Int)) rfl (by kernel_rfl) (by kernel_rfl) (by kernel_rfl) (by kernel_rfl) (fun _ _ _ h => h) (.inl ⟨by kernel_rfl, fun w _ => by as_aux_lemma => kernel_rfl⟩) X0 ?_
          simp only [List.getElem_toArray, List.getElem_cons_succ, List.getElem_cons_zero, Act.put, Act.eval, List.setIfInBounds_toArray, List.set_cons_zero, List.set_cons_succ, Nat.reduceAdd, Array.getD_eq_getD_getElem?, List.getElem?_toArray, List.getElem?_cons_succ, List.getElem?_cons_zero, Option.getD_some]
          refine Ordl.take (i := 6) (v := .pointer (some ⟨g2, k * 38, none⟩)) rfl (by kernel_rfl) (by kernel_rfl) (by kernel_rfl) (by kernel_rfl) (fun _ _ _ h => h) (.inl ⟨by kernel_rfl, fun w hS => exec_idxT (cap := c2) (.tmp 21) (.tmp 22) rfl (by kernel_rfl) (by kernel_rfl) hkm w⟩) X0 ?_
          simp only [List.getElem_toArray, List.getElem_cons_succ, List.getElem_cons_zero, Act.put, Act.eval, List.setIfInBounds_toArray, List.set_cons_zero, List.set_cons_succ, Nat.reduceAdd, Array.getD_eq_getD_getElem?, List.getElem?_toArray, List.getElem?_cons_succ, List.getElem?_cons_zero, Option.getD_some]
          refine Ordl.take (i := 7) (v := .agg (y).cells.toArray) rfl (by kernel_rfl) (by kernel_rfl) (by kernel_rfl) (by kernel_rfl) (fun _ _ _ h => h) (yieldsIf_load_mid (by kernel_rfl) 25 (.tmp 23) rfl g2 (k * 38) (by kernel_rfl) (y).cells _ (fun w h => rng_ext HR4.out h) undT rfl (by rw [(y).len HD2.out]; exact sizeT)) X0 ?_
          simp only [List.getElem_toArray, List.getElem_cons_succ, List.getElem_cons_zero, Act.put, Act.eval, List.setIfInBounds_toArray, List.set_cons_zero, List.set_cons_succ, Nat.reduceAdd, Array.getD_eq_getD_getElem?, List.getElem?_toArray, List.getElem?_cons_succ, List.getElem?_cons_zero, Option.getD_some]
          refine Ordl.take (i := 8) (v := .bool (!decide (x = y))) rfl (by kernel_rfl) (by kernel_rfl) (by kernel_rfl) (by kernel_rfl) (fun _ _ _ h => h) (.inl ⟨by kernel_rfl, fun w hS => exec_neqT x y HD1.out HD2.out (.tmp 20) (.tmp 24) rfl (by kernel_rfl) (by kernel_rfl)⟩) X0 ?_
          simp only [List.getElem_toArray, List.getElem_cons_succ, List.getElem_cons_zero, Act.put, Act.eval, List.setIfInBounds_toArray, List.set_cons_zero, List.set_cons_succ, Nat.reduceAdd, Array.getD_eq_getD_getElem?, List.getElem?_toArray, List.getElem?_cons_succ, List.getElem?_cons_zero, Option.getD_some]
          rw [qb]
          refine Ordl.done (by kernel_rfl) ?_ _
          clear X0
          go_wp2_with fail
          go_ret
          exact ⟨by rw [HV.out]; rfl, HX5.out⟩
      · have hke : k = l.length := by omega
        subst hke
        have HV : Hid (decide (l = m) = true) := Lib.hid (decide_eq_true (by have := HE.out; rw [List.take_length, HLM.out, List.take_length] at this; exact this))
        go_wp2_with fail
        go_ret
        exact ⟨by rw [HV.out]; rfl, HXr.out⟩
  · have qn : ((l.length : Int) != (m.length : Int)) = true := by rw [bne_iff_ne]; omega
    have HV : Hid (decide (l = m) = false) := Lib.hid (decide_eq_false fun e => hlm (by rw [e]))
    clear hlm
    go_enter Tryd.func22, Tryd.ntmps22
    go_wp2_with fail
    go_ret
    exact ⟨by rw [HV.out]; rfl, Reg.Ext.refl _⟩
end Tk
end Go.Proofs.YtcfdlfedmbmidaaDoor
