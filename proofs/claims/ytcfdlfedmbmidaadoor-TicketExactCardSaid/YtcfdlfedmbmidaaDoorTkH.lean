/- slices.BinarySearchFunc over tickets; find. -/
import Derived.Test.YtcfdlfedmbmidaaDoorTkG
set_option linter.unusedSimpArgs false
set_option linter.unusedVariables false
set_option linter.unusedSectionVars false
namespace Go.Proofs.YtcfdlfedmbmidaaDoor
open Go Go.RowKit
namespace Tk
theorem exec_idxT {ρ : Operand → Value} {o : Oper} (x ix : Operand) (ho : o.op = .indexAddr 42 x ix) {g len cap j : Nat} (hx : ρ x = .slice (some ⟨g, 0, none⟩) len cap) (hi : ρ ix = .int .i64 (j : Int)) (hj : j < len) (w : World) :
    (execOp ρ o).run Tryd.prog w = .ok (.value (.pointer (some ⟨g, j * 38, none⟩))) w := by
  have h1 : (Instr.indexAt 42 (.slice (some ⟨g, 0, none⟩) len cap) (.int .i64 (j : Int))).run Tryd.prog w = .ok (.pointer (some ⟨g, j * 38, none⟩)) w := by
    have h2 := run_indexAt_slice (P := Tryd.prog) (w := w) 42 ⟨g, 0, none⟩ len cap .i64 (j : Int) (by kernel_rfl)
    rw [if_pos ⟨by omega, by omega⟩] at h2
    rw [h2]
    have hs : (Go.sizeOf (Tryd.prog.elem 42)).run Tryd.prog w = .ok 38 w := by as_aux_lemma => kernel_rfl
    rw [hs, Result.andThen_ok, Int.toNat_natCast, Addr.add_mid, Nat.zero_add]
  simp [execOp, ho, hx, hi, h1, Result.andThen]
set_option maxRecDepth 100000 in
theorem bsearch_any {w : World} {v : Value} {l : List T} (h : LT 0 w v l) (hf : Fit l) (hu : Nmd.Up nm l) (x : T) (hx : x.dig.length = 32) (hl : l.length ≤ 1000) :
    Calls Tryd.prog 46 #[v, .agg x.cells.toArray, .func (.func 47) #[] #[]] w fun e w' => e = .returned (.tuple #[.int .i64 (Nmd.lo nm (nm x) l : Int), .bool (Nmd.get nm (nm x) l).isSome]) ∧ Reg.Ext w w' := by
  have hb1 := boxT w x
  have hx1 := Reg.Ext.alloc w (Obj.cells x.cells.toArray 25)
  obtain ⟨A, cap, hv⟩ := h.slice
  subst hv
  have HL := Lib.hid h
  have HF := Lib.hid hf
  have HU := Lib.hid hu
  have HXD := Lib.hid hx
  have hlo := Nmd.lo_le (nm := nm) (nm x) l
  have HLO : Hid (∀ j (hj : j < l.length), nm l[j] < nm x ↔ j < Nmd.lo nm (nm x) l) := Lib.hid fun j hj => Nmd.lo_lt hu j hj
  have HFN : Hid (∀ hlt : Nmd.lo nm (nm x) l < l.length, (Nmd.get nm (nm x) l).isSome = (byTag l[Nmd.lo nm (nm x) l] x == 0)) := Lib.hid fun hlt => by
    rw [Bool.eq_iff_iff, beq_iff_eq, byTag_zero]
    cases hg : Nmd.get nm (nm x) l with
    | none => exact ⟨fun e => (by cases e), fun e => absurd e (Nmd.no_lo hu hg hlt)⟩
    | some y =>
      obtain ⟨hl2, he, hy⟩ := Nmd.at_lo hu hg
      exact ⟨fun _ => by rw [he]; exact hy, fun _ => rfl⟩
  have HFE : Hid (¬ Nmd.lo nm (nm x) l < l.length → (Nmd.get nm (nm x) l).isSome = false) := Lib.hid fun hlt => by
    cases hg : Nmd.get nm (nm x) l with
    | none => rfl
    | some y => exact absurd (Nmd.at_lo hu hg).1 hlt
  clear h hf hu hx
  generalize Nmd.lo nm (nm x) l = lo at *
  generalize (Nmd.get nm (nm x) l).isSome = fnd at *
  go_enter Tryd.func46, Tryd.ntmps46
  go_upto_region 1 with (fail)
  generalize w.alloc (Obj.cells x.cells.toArray 25) = w1 at *
  generalize w.heap.size = g1 at *
  have HB := Lib.hid hb1
  have HX := Lib.hid hx1
  clear hb1 hx1
  go_wp2_with fail
  go_loopw [9, 10, 11] (fun i j _ wr => ∃ a b : Nat, i = .int .i64 (a : Int) ∧ j = .int .i64 (b : Int) ∧ a ≤ lo ∧ lo ≤ b ∧ b ≤ l.length ∧ Hid (Reg.Ext w1 wr)) (fun i j _ _ => (intOf j).toNat - (intOf i).toNat)
  case atStart => exact ⟨0, l.length, rfl, rfl, Nat.zero_le _, hlo, Nat.le_refl _, Lib.hid (Reg.Ext.refl _)⟩
  case round =>
    obtain ⟨a, b, rfl, rfl, ha, hb, hbl, HXr⟩ := hrel
    by_cases hab : a < b
    · go_upto_region 5 with (fail)
      obtain ⟨m, hm⟩ : ∃ m : Nat, m = (a + b) / 2 := ⟨_, rfl⟩
      have hmz : ((a : Int) + (b : Int)) / 2 = (m : Int) := by omega
      have hma : a ≤ m := by omega
      have hmb : m < b := by omega
      have hml : m < l.length := by omega
      rw [hmz]
      clear hm hmz
      rcases HL.out.form with ⟨_, h2⟩ | ⟨g, cap', h2, _, _, _, _⟩
      · rw [h2] at hml; exact absurd hml (Nat.not_lt_zero _)
      injection h2 with h2 hh h3
      clear hh
      subst h2 h3
      have HRG := Lib.hid (HL.out.range HF.out m hml)
      have HLM := Lib.hid (HLO.out m hml)
      have HD := Lib.hid (HF.out _ (List.getElem_mem hml))
      generalize l[m] = y at *
      refine Ordl.begins (S := fun w' => Reg.Ext (wr).drew w') (z := 99) (by kernel_rfl) ?_
      refine Ordl.Bx.out (?_ : Ordl.Bx (Ordl.Any _ _ _ _ _ _ _ _ _ _))
      have X0 : Reg.Ext (wr).drew (wr).drew := Reg.Ext.refl _
      have HXd := Lib.hid (HXr.out.trans (Reg.Ext.drew wr))
      clear HXr
      generalize wr.drew = w2 at *
      refine Ordl.take (i := 0) (v := .func (.func 47) #[] #[]) rfl (by kernel_rfl) (by kernel_rfl) (by kernel_rfl) (by kernel_rfl) (fun _ _ _ h => h) (.inl ⟨by kernel_rfl, fun w _ => by as_aux_lemma => kernel_rfl⟩) X0 ?_
      simp only [List.getElem_toArray, List.getElem_cons_succ, List.getElem_cons_zero, Act.put, Act.eval, List.setIfInBounds_toArray, List.set_cons_zero, List.set_cons_succ, Nat.reduceAdd, Array.getD_eq_getD_getElem?, List.getElem?_toArray, List.getElem?_cons_succ, List.getElem?_cons_zero, Option.getD_some]
      refine Ordl.take (i := 1) (v := .slice (some ⟨g, 0, none⟩) l.length cap) rfl (by kernel_rfl) (by kernel_rfl) (by kernel_rfl) (by kernel_rfl) (fun _ _ _ h => h) (.inl ⟨by kernel_rfl, fun w _ => by as_aux_lemma => kernel_rfl⟩) X0 ?_
      simp only [List.getElem_toArray, List.getElem_cons_succ, List.getElem_cons_zero, Act.put, Act.eval, List.setIfInBounds_toArray, List.set_cons_zero, List.set_cons_succ, Nat.reduceAdd, Array.getD_eq_getD_getElem?, List.getElem?_toArray, List.getElem?_cons_succ, List.getElem?_cons_zero, Option.getD_some]
      refine Ordl.take (i := 2) (v := .int .i64 (m : Int)) rfl (by kernel_rfl) (by kernel_rfl) (by kernel_rfl) (by kernel_rfl) (fun _ _ _ h => h) (.inl ⟨by kernel_rfl, fun w _ => by as_aux_lemma => kernel_rfl⟩) X0 ?_
      simp only [List.getElem_toArray, List.getElem_cons_succ, List.getElem_cons_zero, Act.put, Act.eval, List.setIfInBounds_toArray, List.set_cons_zero, List.set_cons_succ, Nat.reduceAdd, Array.getD_eq_getD_getElem?, List.getElem?_toArray, List.getElem?_cons_succ, List.getElem?_cons_zero, Option.getD_some]
      refine Ordl.take (i := 3) (v := .pointer (some ⟨g, m * 38, none⟩)) rfl (by kernel_rfl) (by kernel_rfl) (by kernel_rfl) (by kernel_rfl) (fun _ _ _ h => h) (.inl ⟨by kernel_rfl, fun w hS => exec_idxT (cap := cap) (.tmp 25) (.tmp 26) rfl (by kernel_rfl) (by kernel_rfl) hml w⟩) X0 ?_
      simp only [List.getElem_toArray, List.getElem_cons_succ, List.getElem_cons_zero, Act.put, Act.eval, List.setIfInBounds_toArray, List.set_cons_zero, List.set_cons_succ, Nat.reduceAdd, Array.getD_eq_getD_getElem?, List.getElem?_toArray, List.getElem?_cons_succ, List.getElem?_cons_zero, Option.getD_some]
      refine Ordl.take (i := 4) (v := .agg (y).cells.toArray) rfl (by kernel_rfl) (by kernel_rfl) (by kernel_rfl) (by kernel_rfl) (fun _ _ _ h => h) (yieldsIf_load_mid (by kernel_rfl) 25 (.tmp 27) rfl g (m * 38) (by kernel_rfl) (y).cells _ (fun w h => rng_ext HRG.out ((HX.out.trans HXd.out).trans h)) undT rfl (by rw [(y).len HD.out]; exact sizeT)) X0 ?_
      simp only [List.getElem_toArray, List.getElem_cons_succ, List.getElem_cons_zero, Act.put, Act.eval, List.setIfInBounds_toArray, List.set_cons_zero, List.set_cons_succ, Nat.reduceAdd, Array.getD_eq_getD_getElem?, List.getElem?_toArray, List.getElem?_cons_succ, List.getElem?_cons_zero, Option.getD_some]
      refine Ordl.take (i := 5) (v := .agg (x).cells.toArray) rfl (by kernel_rfl) (by kernel_rfl) (by kernel_rfl) (by kernel_rfl) (fun _ _ _ h => h) (yieldsIf_load_mid (by kernel_rfl) 25 (.tmp 4) rfl g1 (0) (by kernel_rfl) (x).cells _ (fun w h => rng_ext (blk_rng HB.out) (HXd.out.trans h)) undT rfl (by rw [(x).len HXD.out]; exact sizeT)) X0 ?_
      simp only [List.getElem_toArray, List.getElem_cons_succ, List.getElem_cons_zero, Act.put, Act.eval, List.setIfInBounds_toArray, List.set_cons_zero, List.set_cons_succ, Nat.reduceAdd, Array.getD_eq_getD_getElem?, List.getElem?_toArray, List.getElem?_cons_succ, List.getElem?_cons_zero, Option.getD_some]
      refine Ordl.one (i := 6) (by kernel_rfl) rfl ?_
      refine ⟨?_⟩
      repeat go_step
      refine (byTag_any y x w2).mono ?_
      rintro e w3 ⟨rfl, hx3⟩
      have HX3 := Lib.hid (HXd.out.trans hx3)
      have X1 := hx3
      clear hx3 X0 HXd
      rename_i hK
      refine hK _ _ ?_
      clear hK
      refine Ordl.Bx.out (?_ : Ordl.Bx _)
      refine Ordl.fin X1 ?_
      have X0 := X1
      by_cases hlt : m < lo
      · have q : decide (byTag y x < 0) = true := decide_eq_true (byTag_neg.2 (HLM.out.2 hlt))
        refine Ordl.take (i := 7) (v := .bool (decide (byTag y x < 0))) rfl (by kernel_rfl) (by kernel_rfl) (by kernel_rfl) (by kernel_rfl) (fun _ _ _ h => h) (.inl ⟨by kernel_rfl, fun w _ => by as_aux_lemma => kernel_rfl⟩) X0 ?_
        simp only [List.getElem_toArray, List.getElem_cons_succ, List.getElem_cons_zero, Act.put, Act.eval, List.setIfInBounds_toArray, List.set_cons_zero, List.set_cons_succ, Nat.reduceAdd, Array.getD_eq_getD_getElem?, List.getElem?_toArray, List.getElem?_cons_succ, List.getElem?_cons_zero, Option.getD_some]
        rw [q]
        refine Ordl.done (by kernel_rfl) ?_ _
        clear q X0 X1
        go_wp2_with fail
        go_roundw
        case rel => exact ⟨m + 1, b, by go_num, rfl, by omega, hb, hbl, HX3⟩
        case measure => simp [intOf]; omega
      · have q : decide (byTag y x < 0) = false := decide_eq_false fun e => hlt (HLM.out.1 (byTag_neg.1 e))
        refine Ordl.take (i := 7) (v := .bool (decide (byTag y x < 0))) rfl (by kernel_rfl) (by kernel_rfl) (by kernel_rfl) (by kernel_rfl) (fun _ _ _ h => h) (.inl ⟨by kernel_rfl, fun w _ => by as_aux_lemma => kernel_rfl⟩) X0 ?_
        simp only [List.getElem_toArray, List.getElem_cons_succ, List.getElem_cons_zero, Act.put, Act.eval, List.setIfInBounds_toArray, List.set_cons_zero, List.set_cons_succ, Nat.reduceAdd, Array.getD_eq_getD_getElem?, List.getElem?_toArray, List.getElem?_cons_succ, List.getElem?_cons_zero, Option.getD_some]
        rw [q]
        refine Ordl.done (by kernel_rfl) ?_ _
        clear q X0 X1
        go_wp2_with fail
        go_roundw
        case rel => exact ⟨a, m, rfl, rfl, ha, by omega, by omega, HX3⟩
        case measure => simp [intOf]; omega
    · have hal : a = lo := by omega
      subst hal
      by_cases hln : a < l.length
      · go_upto_region 8 with (fail)
        rcases HL.out.form with ⟨_, h2⟩ | ⟨g, cap', h2, _, _, _, _⟩
        · rw [h2] at hln; exact absurd hln (Nat.not_lt_zero _)
        injection h2 with h2 hh h3
        clear hh
        subst h2 h3
        have HRG := Lib.hid (HL.out.range HF.out a hln)
        have HD := Lib.hid (HF.out _ (List.getElem_mem hln))
        have HFD := Lib.hid (HFN.out hln)
        generalize l[a] = y at *
        refine Ordl.begins (S := fun w' => Reg.Ext (wr).drew w') (z := 99) (by kernel_rfl) ?_
        refine Ordl.Bx.out (?_ : Ordl.Bx (Ordl.Any _ _ _ _ _ _ _ _ _ _))
        have X0 : Reg.Ext (wr).drew (wr).drew := Reg.Ext.refl _
        have HXd := Lib.hid (HXr.out.trans (Reg.Ext.drew wr))
        clear HXr
        generalize wr.drew = w2 at *
        have q0 : decide ((a : Int) < (l.length : Int)) = true := decide_eq_true (by omega)
        refine Ordl.take (i := 0) (v := .int .i64 (a : Int)) rfl (by kernel_rfl) (by kernel_rfl) (by kernel_rfl) (by kernel_rfl) (fun _ _ _ h => h) (.inl ⟨by kernel_rfl, fun w _ => by as_aux_lemma => kernel_rfl⟩) X0 ?_
        simp only [List.getElem_toArray, List.getElem_cons_succ, List.getElem_cons_zero, Act.put, Act.eval, List.setIfInBounds_toArray, List.set_cons_zero, List.set_cons_succ, Nat.reduceAdd, Array.getD_eq_getD_getElem?, List.getElem?_toArray, List.getElem?_cons_succ, List.getElem?_cons_zero, Option.getD_some]
        refine Ordl.take (i := 1) (v := .int .i64 (a : Int)) rfl (by kernel_rfl) (by kernel_rfl) (by kernel_rfl) (by kernel_rfl) (fun _ _ _ h => h) (.inl ⟨by kernel_rfl, fun w _ => by as_aux_lemma => kernel_rfl⟩) X0 ?_
        simp only [List.getElem_toArray, List.getElem_cons_succ, List.getElem_cons_zero, Act.put, Act.eval, List.setIfInBounds_toArray, List.set_cons_zero, List.set_cons_succ, Nat.reduceAdd, Array.getD_eq_getD_getElem?, List.getElem?_toArray, List.getElem?_cons_succ, List.getElem?_cons_zero, Option.getD_some]
        refine Ordl.take (i := 2) (v := .int .i64 (l.length : Int)) rfl (by kernel_rfl) (by kernel_rfl) (by kernel_rfl) (by kernel_rfl) (fun _ _ _ h => h) (.inl ⟨by kernel_rfl, fun w _ => by as_aux_lemma => kernel_rfl⟩) X0 ?_
        simp only [List.getElem_toArray, List.getElem_cons_succ, List.getElem_cons_zero, Act.put, Act.eval, List.setIfInBounds_toArray, List.set_cons_zero, List.set_cons_succ, Nat.reduceAdd, Array.getD_eq_getD_getElem?, List.getElem?_toArray, List.getElem?_cons_succ, List.getElem?_cons_zero, Option.getD_some]
        refine Ordl.take (i := 3) (v := .bool (decide ((a : Int) < (l.length : Int)))) rfl (by kernel_rfl) (by kernel_rfl) (by kernel_rfl) (by kernel_rfl) (fun _ _ _ h => h) (.inl ⟨by kernel_rfl, fun w _ => by as_aux_lemma => kernel_rfl⟩) X0 ?_
        simp only [List.getElem_toArray, List.getElem_cons_succ, List.getElem_cons_zero, Act.put, Act.eval, List.setIfInBounds_toArray, List.set_cons_zero, List.set_cons_succ, Nat.reduceAdd, Array.getD_eq_getD_getElem?, List.getElem?_toArray, List.getElem?_cons_succ, List.getElem?_cons_zero, Option.getD_some]
        rw [q0]
        refine Ordl.take (i := 4) (v := .bool true) rfl (by kernel_rfl) (by kernel_rfl) (by kernel_rfl) (by kernel_rfl) (fun _ _ _ h => h) (.inl ⟨by kernel_rfl, fun w _ => by as_aux_lemma => kernel_rfl⟩) X0 ?_
        simp only [List.getElem_toArray, List.getElem_cons_succ, List.getElem_cons_zero, Act.put, Act.eval, List.setIfInBounds_toArray, List.set_cons_zero, List.set_cons_succ, Nat.reduceAdd, Array.getD_eq_getD_getElem?, List.getElem?_toArray, List.getElem?_cons_succ, List.getElem?_cons_zero, Option.getD_some]
        refine Ordl.take (i := 5) (v := .func (.func 47) #[] #[]) rfl (by kernel_rfl) (by kernel_rfl) (by kernel_rfl) (by kernel_rfl) (fun _ _ _ h => h) (.inl ⟨by kernel_rfl, fun w _ => by as_aux_lemma => kernel_rfl⟩) X0 ?_
        simp only [List.getElem_toArray, List.getElem_cons_succ, List.getElem_cons_zero, Act.put, Act.eval, List.setIfInBounds_toArray, List.set_cons_zero, List.set_cons_succ, Nat.reduceAdd, Array.getD_eq_getD_getElem?, List.getElem?_toArray, List.getElem?_cons_succ, List.getElem?_cons_zero, Option.getD_some]
        refine Ordl.take (i := 6) (v := .slice (some ⟨g, 0, none⟩) l.length cap) rfl (by kernel_rfl) (by kernel_rfl) (by kernel_rfl) (by kernel_rfl) (fun _ _ _ h => h) (.inl ⟨by kernel_rfl, fun w _ => by as_aux_lemma => kernel_rfl⟩) X0 ?_
        simp only [List.getElem_toArray, List.getElem_cons_succ, List.getElem_cons_zero, Act.put, Act.eval, List.setIfInBounds_toArray, List.set_cons_zero, List.set_cons_succ, Nat.reduceAdd, Array.getD_eq_getD_getElem?, List.getElem?_toArray, List.getElem?_cons_succ, List.getElem?_cons_zero, Option.getD_some]
        refine Ordl.take (i := 7) (v := .int .i64 (a : Int)) rfl (by kernel_rfl) (by kernel_rfl) (by kernel_rfl) (by kernel_rfl) (fun _ _ _ h => h) (.inl ⟨by kernel_rfl, fun w _ => by as_aux_lemma => kernel_rfl⟩) X0 ?_
        simp only [List.getElem_toArray, List.getElem_cons_succ, List.getElem_cons_zero, Act.put, Act.eval, List.setIfInBounds_toArray, List.set_cons_zero, List.set_cons_succ, Nat.reduceAdd, Array.getD_eq_getD_getElem?, List.getElem?_toArray, List.getElem?_cons_succ, List.getElem?_cons_zero, Option.getD_some]
        refine Ordl.take (i := 8) (v := .pointer (some ⟨g, a * 38, none⟩)) rfl (by kernel_rfl) (by kernel_rfl) (by kernel_rfl) (by kernel_rfl) (fun _ _ _ h => h) (.inl ⟨by kernel_rfl, fun w hS => exec_idxT (cap := cap) (.tmp 41) (.tmp 42) rfl (by kernel_rfl) (by kernel_rfl) hln w⟩) X0 ?_
        simp only [List.getElem_toArray, List.getElem_cons_succ, List.getElem_cons_zero, Act.put, Act.eval, List.setIfInBounds_toArray, List.set_cons_zero, List.set_cons_succ, Nat.reduceAdd, Array.getD_eq_getD_getElem?, List.getElem?_toArray, List.getElem?_cons_succ, List.getElem?_cons_zero, Option.getD_some]
        refine Ordl.take (i := 9) (v := .agg (y).cells.toArray) rfl (by kernel_rfl) (by kernel_rfl) (by kernel_rfl) (by kernel_rfl) (fun _ _ _ h => h) (yieldsIf_load_mid (by kernel_rfl) 25 (.tmp 43) rfl g (a * 38) (by kernel_rfl) (y).cells _ (fun w h => rng_ext HRG.out ((HX.out.trans HXd.out).trans h)) undT rfl (by rw [(y).len HD.out]; exact sizeT)) X0 ?_
        simp only [List.getElem_toArray, List.getElem_cons_succ, List.getElem_cons_zero, Act.put, Act.eval, List.setIfInBounds_toArray, List.set_cons_zero, List.set_cons_succ, Nat.reduceAdd, Array.getD_eq_getD_getElem?, List.getElem?_toArray, List.getElem?_cons_succ, List.getElem?_cons_zero, Option.getD_some]
        refine Ordl.take (i := 10) (v := .agg (x).cells.toArray) rfl (by kernel_rfl) (by kernel_rfl) (by kernel_rfl) (by kernel_rfl) (fun _ _ _ h => h) (yieldsIf_load_mid (by kernel_rfl) 25 (.tmp 4) rfl g1 (0) (by kernel_rfl) (x).cells _ (fun w h => rng_ext (blk_rng HB.out) (HXd.out.trans h)) undT rfl (by rw [(x).len HXD.out]; exact sizeT)) X0 ?_
        simp only [List.getElem_toArray, List.getElem_cons_succ, List.getElem_cons_zero, Act.put, Act.eval, List.setIfInBounds_toArray, List.set_cons_zero, List.set_cons_succ, Nat.reduceAdd, Array.getD_eq_getD_getElem?, List.getElem?_toArray, List.getElem?_cons_succ, List.getElem?_cons_zero, Option.getD_some]
        refine Ordl.one (i := 11) (by kernel_rfl) rfl ?_
        refine ⟨?_⟩
        repeat go_step
        refine (byTag_any y x w2).mono ?_
        rintro e w3 ⟨rfl, hx3⟩
        have HX3 := Lib.hid (HXd.out.trans hx3)
        have X1 := hx3
        clear hx3 X0 HXd
        rename_i hK
        refine hK _ _ ?_
        clear hK
        refine Ordl.Bx.out (?_ : Ordl.Bx _)
        refine Ordl.fin X1 ?_
        have X0 := X1
        refine Ordl.take (i := 12) (v := .bool (byTag y x == 0)) rfl (by kernel_rfl) (by kernel_rfl) (by kernel_rfl) (by kernel_rfl) (fun _ _ _ h => h) (.inl ⟨by kernel_rfl, fun w _ => by as_aux_lemma => kernel_rfl⟩) X0 ?_
        simp only [List.getElem_toArray, List.getElem_cons_succ, List.getElem_cons_zero, Act.put, Act.eval, List.setIfInBounds_toArray, List.set_cons_zero, List.set_cons_succ, Nat.reduceAdd, Array.getD_eq_getD_getElem?, List.getElem?_toArray, List.getElem?_cons_succ, List.getElem?_cons_zero, Option.getD_some]
        rw [← HFD.out]
        refine Ordl.take (i := 13) (v := .bool fnd) rfl (by kernel_rfl) (by kernel_rfl) (by kernel_rfl) (by kernel_rfl) (fun _ _ _ h => h) (.inl ⟨by kernel_rfl, fun w _ => by as_aux_lemma => kernel_rfl⟩) X0 ?_
        simp only [List.getElem_toArray, List.getElem_cons_succ, List.getElem_cons_zero, Act.put, Act.eval, List.setIfInBounds_toArray, List.set_cons_zero, List.set_cons_succ, Nat.reduceAdd, Array.getD_eq_getD_getElem?, List.getElem?_toArray, List.getElem?_cons_succ, List.getElem?_cons_zero, Option.getD_some]
        refine Ordl.take (i := 14) (v := .int .i64 (a : Int)) rfl (by kernel_rfl) (by kernel_rfl) (by kernel_rfl) (by kernel_rfl) (fun _ _ _ h => h) (.inl ⟨by kernel_rfl, fun w _ => by as_aux_lemma => kernel_rfl⟩) X0 ?_
        simp only [List.getElem_toArray, List.getElem_cons_succ, List.getElem_cons_zero, Act.put, Act.eval, List.setIfInBounds_toArray, List.set_cons_zero, List.set_cons_succ, Nat.reduceAdd, Array.getD_eq_getD_getElem?, List.getElem?_toArray, List.getElem?_cons_succ, List.getElem?_cons_zero, Option.getD_some]
        refine Ordl.take (i := 15) (v := .bool fnd) rfl (by kernel_rfl) (by kernel_rfl) (by kernel_rfl) (by kernel_rfl) (fun _ _ _ h => h) (.inl ⟨by kernel_rfl, fun w _ => by as_aux_lemma => kernel_rfl⟩) X0 ?_
        simp only [List.getElem_toArray, List.getElem_cons_succ, List.getElem_cons_zero, Act.put, Act.eval, List.setIfInBounds_toArray, List.set_cons_zero, List.set_cons_succ, Nat.reduceAdd, Array.getD_eq_getD_getElem?, List.getElem?_toArray, List.getElem?_cons_succ, List.getElem?_cons_zero, Option.getD_some]
        refine Ordl.done (by kernel_rfl) ?_ _
        clear X0 X1
        go_wp2_with fail
        go_ret2
        exact ⟨rfl, HX.out.trans HX3.out⟩
      · have hfe := HFE.out hln
        subst hfe
        go_upto_region 8 with (fail)
        go_quiet (fail)
        go_wp2_with fail
        go_ret2
        exact ⟨rfl, (HX.out.trans HXr.out).trans (Reg.Ext.drewN _ _)⟩
set_option maxRecDepth 100000 in
theorem find_any {w : World} {b : Nat} {v : Value} {l : List T} {most : Int} (h : Tb 62 w b v l most) (hu : Nmd.Up nm l) (x : T) (hx : x.dig.length = 32) (hl : l.length ≤ 1000) :
    Calls Tryd.prog 32 #[.pointer (some ⟨b, 0, none⟩), .agg x.cells.toArray] w fun e w' => e = .returned (.tuple #[.int .i64 (Nmd.lo nm (nm x) l : Int), .bool (Nmd.get nm (nm x) l).isSome]) ∧ Reg.Ext w w' := by
  have hb1 := boxT w x
  have hx1 := Reg.Ext.alloc w (Obj.cells x.cells.toArray 25)
  have HT := Lib.hid (h.ext hx1)
  have HXD := Lib.hid hx
  have HU := Lib.hid hu
  obtain ⟨lo, hlo⟩ : ∃ a, Nmd.lo nm (nm x) l = a := ⟨_, rfl⟩
  obtain ⟨fnd, hfnd⟩ : ∃ a, (Nmd.get nm (nm x) l).isSome = a := ⟨_, rfl⟩
  rw [hlo, hfnd]
  have HLO := Lib.hid hlo
  have HFD := Lib.hid hfnd
  clear h hx hu hlo hfnd
  go_enter Tryd.func32, Tryd.ntmps32
  go_upto_region 1 with (fail)
  generalize w.alloc (Obj.cells x.cells.toArray 25) = w1 at *
  generalize w.heap.size = g1 at *
  refine Ordl.begins (S := fun w' => Reg.Ext (w1).drew w') (z := 99) (by kernel_rfl) ?_
  refine Ordl.Bx.out (?_ : Ordl.Bx (Ordl.Any _ _ _ _ _ _ _ _ _ _))
  have X0 : Reg.Ext (w1).drew (w1).drew := Reg.Ext.refl _
  have HT2 := Lib.hid (HT.out.ext (Reg.Ext.drew w1))
  have HB2 := Lib.hid hb1.drew
  have HX2 := Lib.hid (hx1.trans (Reg.Ext.drew w1))
  clear HT hb1 hx1
  generalize w1.drew = w2 at *
  have c0 := HT2.out.c.1
  have HBS := Lib.hid (bsearch_any HT2.out.row HT2.out.fit HU.out x HXD.out hl)
  rw [HLO.out, HFD.out] at HBS
  refine Ordl.take (i := 0) (v := .pointer (some ⟨b, 0, none⟩)) rfl (by kernel_rfl) (by kernel_rfl) (by kernel_rfl) (by kernel_rfl) (fun _ _ _ h => h) (.inl ⟨by kernel_rfl, fun w _ => by as_aux_lemma => kernel_rfl⟩) X0 ?_
  simp only [List.getElem_toArray, List.getElem_cons_succ, List.getElem_cons_zero, Act.put, Act.eval, List.setIfInBounds_toArray, List.set_cons_zero, List.set_cons_succ, Nat.reduceAdd, Array.getD_eq_getD_getElem?, List.getElem?_toArray, List.getElem?_cons_succ, List.getElem?_cons_zero, Option.getD_some]
  refine Ordl.take (i := 1) (v := .pointer (some ⟨b, 0, none⟩)) rfl (by kernel_rfl) (by kernel_rfl) (by kernel_rfl) (by kernel_rfl) (fun _ _ _ h => h) (.inl ⟨by kernel_rfl, fun w _ => by as_aux_lemma => kernel_rfl⟩) X0 ?_
  simp only [List.getElem_toArray, List.getElem_cons_succ, List.getElem_cons_zero, Act.put, Act.eval, List.setIfInBounds_toArray, List.set_cons_zero, List.set_cons_succ, Nat.reduceAdd, Array.getD_eq_getD_getElem?, List.getElem?_toArray, List.getElem?_cons_succ, List.getElem?_cons_zero, Option.getD_some]
  refine Ordl.take (i := 2) (v := .pointer (some ⟨b, 0, none⟩)) rfl (by kernel_rfl) (by kernel_rfl) (by kernel_rfl) (by kernel_rfl) (fun _ _ _ h => h) (.inl ⟨by kernel_rfl, fun w _ => by as_aux_lemma => kernel_rfl⟩) X0 ?_
  simp only [List.getElem_toArray, List.getElem_cons_succ, List.getElem_cons_zero, Act.put, Act.eval, List.setIfInBounds_toArray, List.set_cons_zero, List.set_cons_succ, Nat.reduceAdd, Array.getD_eq_getD_getElem?, List.getElem?_toArray, List.getElem?_cons_succ, List.getElem?_cons_zero, Option.getD_some]
  obtain ⟨A, cap, hv⟩ := HT2.out.row.slice
  subst hv
  refine Ordl.take (i := 3) (v := .slice A l.length cap) rfl (by kernel_rfl) (by kernel_rfl) (by kernel_rfl) (by kernel_rfl) (fun _ _ _ h => h) (yields_load1 (by kernel_rfl) 42 (.tmp 8) rfl ⟨b, 0, none⟩ (by kernel_rfl) (.slice A l.length cap) _ Tryd.underlying42 rfl (fun w h => h.at_ c0)) X0 ?_
  simp only [List.getElem_toArray, List.getElem_cons_succ, List.getElem_cons_zero, Act.put, Act.eval, List.setIfInBounds_toArray, List.set_cons_zero, List.set_cons_succ, Nat.reduceAdd, Array.getD_eq_getD_getElem?, List.getElem?_toArray, List.getElem?_cons_succ, List.getElem?_cons_zero, Option.getD_some]
  refine Ordl.take (i := 4) (v := .agg (x).cells.toArray) rfl (by kernel_rfl) (by kernel_rfl) (by kernel_rfl) (by kernel_rfl) (fun _ _ _ h => h) (yieldsIf_load_mid (by kernel_rfl) 25 (.tmp 3) rfl g1 (0) (by kernel_rfl) (x).cells _ (fun w h => rng_ext (blk_rng HB2.out) h) undT rfl (by rw [(x).len HXD.out]; exact sizeT)) X0 ?_
  simp only [List.getElem_toArray, List.getElem_cons_succ, List.getElem_cons_zero, Act.put, Act.eval, List.setIfInBounds_toArray, List.set_cons_zero, List.set_cons_succ, Nat.reduceAdd, Array.getD_eq_getD_getElem?, List.getElem?_toArray, List.getElem?_cons_succ, List.getElem?_cons_zero, Option.getD_some]
  refine Ordl.one (i := 5) (by kernel_rfl) rfl ?_
  refine ⟨?_⟩
  repeat go_step
  refine (HBS.out).mono ?_
  rintro e w3 ⟨rfl, hx3⟩
  have HX3 := Lib.hid (HX2.out.trans hx3)
  have X1 := hx3
  clear hx3 X0 HX2 c0
  rename_i hK
  refine hK _ _ ?_
  clear hK
  refine Ordl.Bx.out (?_ : Ordl.Bx _)
  refine Ordl.fin X1 ?_
  have X0 := X1
  refine Ordl.take (i := 6) (v := .int .i64 (lo : Int)) rfl (by kernel_rfl) (by kernel_rfl) (by kernel_rfl) (by kernel_rfl) (fun _ _ _ h => h) (.inl ⟨by kernel_rfl, fun w _ => by as_aux_lemma => kernel_rfl⟩) X0 ?_
  simp only [List.getElem_toArray, List.getElem_cons_succ, List.getElem_cons_zero, Act.put, Act.eval, List.setIfInBounds_toArray, List.set_cons_zero, List.set_cons_succ, Nat.reduceAdd, Array.getD_eq_getD_getElem?, List.getElem?_toArray, List.getElem?_cons_succ, List.getElem?_cons_zero, Option.getD_some]
  refine Ordl.take (i := 7) (v := .bool fnd) rfl (by kernel_rfl) (by kernel_rfl) (by kernel_rfl) (by kernel_rfl) (fun _ _ _ h => h) (.inl ⟨by kernel_rfl, fun w _ => by as_aux_lemma => kernel_rfl⟩) X0 ?_
  simp only [List.getElem_toArray, List.getElem_cons_succ, List.getElem_cons_zero, Act.put, Act.eval, List.setIfInBounds_toArray, List.set_cons_zero, List.set_cons_succ, Nat.reduceAdd, Array.getD_eq_getD_getElem?, List.getElem?_toArray, List.getElem?_cons_succ, List.getElem?_cons_zero, Option.getD_some]
  refine Ordl.take (i := 8) (v := .int .i64 (lo : Int)) rfl (by kernel_rfl) (by kernel_rfl) (by kernel_rfl) (by kernel_rfl) (fun _ _ _ h => h) (.inl ⟨by kernel_rfl, fun w _ => by as_aux_lemma => kernel_rfl⟩) X0 ?_
  simp only [List.getElem_toArray, List.getElem_cons_succ, List.getElem_cons_zero, Act.put, Act.eval, List.setIfInBounds_toArray, List.set_cons_zero, List.set_cons_succ, Nat.reduceAdd, Array.getD_eq_getD_getElem?, List.getElem?_toArray, List.getElem?_cons_succ, List.getElem?_cons_zero, Option.getD_some]
  refine Ordl.take (i := 9) (v := .bool fnd) rfl (by kernel_rfl) (by kernel_rfl) (by kernel_rfl) (by kernel_rfl) (fun _ _ _ h => h) (.inl ⟨by kernel_rfl, fun w _ => by as_aux_lemma => kernel_rfl⟩) X0 ?_
  simp only [List.getElem_toArray, List.getElem_cons_succ, List.getElem_cons_zero, Act.put, Act.eval, List.setIfInBounds_toArray, List.set_cons_zero, List.set_cons_succ, Nat.reduceAdd, Array.getD_eq_getD_getElem?, List.getElem?_toArray, List.getElem?_cons_succ, List.getElem?_cons_zero, Option.getD_some]
  refine Ordl.done (by kernel_rfl) ?_ _
  clear X0 X1
  go_wp2_with fail
  go_ret2
  exact ⟨rfl, HX3.out⟩
end Tk
end Go.Proofs.YtcfdlfedmbmidaaDoor
