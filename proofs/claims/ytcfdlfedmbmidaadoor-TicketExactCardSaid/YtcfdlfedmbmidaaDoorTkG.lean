/- Two tickets are compared; where a ticket stands. -/
import Derived.Test.YtcfdlfedmbmidaaDoorTkE
import Derived.Test.YtcfdlfedmbmidaaDoorTkF
import Derived.Test.YtcfdlfedmbmidaaDoorOrdl
import Derived.Test.YtcfdlfedmbmidaaDoorWords
import Derived.Sort.Walk0
import Derived.BigQuiet
import Derived.BigRegion
import Derived.Deep.Cut
import Derived.Deep.CutBlock
import Derived.Deep.DeepCutAuto
import Derived.Lib.Hide
set_option linter.unusedSimpArgs false
set_option linter.unusedVariables false
set_option linter.unusedSectionVars false
namespace Go.Proofs.YtcfdlfedmbmidaaDoor
open Go Go.RowKit
namespace Tk
theorem nan_any (a : List UInt8) (w : World) : Calls Tryd.prog 72 #[.string ⟨a.toArray⟩] w fun e w' => e = .returned (.bool false) ∧ w' = w := by
  go_enter Tryd.func72, Tryd.ntmps72
  go_wp2_with fail
  go_ret
  exact ⟨rfl, rfl⟩
theorem compare_any (a b : List UInt8) (w : World) : Calls Tryd.prog 59 #[.string ⟨a.toArray⟩, .string ⟨b.toArray⟩] w fun e w' => e = .returned (.int .i64 (cmpB a b)) ∧ w' = w := by
  have HN := Lib.hid nan_any
  by_cases h1 : a < b
  · have q1 : Op.bytesLess a b = true := (bytesLess_eq _ _).trans (decide_eq_true h1)
    have hc : cmpB a b = -1 := if_pos h1
    rw [hc]
    clear hc h1
    go_enter Tryd.func59, Tryd.ntmps59
    go_wp2_with (go_at_call 72; refine (HN.out _ _).mono ?_; rintro e w' ⟨rfl, rfl⟩)
    go_ret
    exact ⟨rfl, rfl⟩
  · have q1 : Op.bytesLess a b = false := (bytesLess_eq _ _).trans (decide_eq_false h1)
    by_cases h2 : b < a
    · have q2 : Op.bytesLess b a = true := (bytesLess_eq _ _).trans (decide_eq_true h2)
      have q3 : (a == b) = false := beq_eq_false_iff_ne.2 fun e => by rw [e] at h2; exact List.lt_irrefl _ h2
      have hc : cmpB a b = 1 := by unfold cmpB; rw [if_neg h1, if_pos h2]
      rw [hc]
      clear hc h1 h2
      go_enter Tryd.func59, Tryd.ntmps59
      go_wp2_with (go_at_call 72; refine (HN.out _ _).mono ?_; rintro e w' ⟨rfl, rfl⟩)
      go_ret
      exact ⟨rfl, rfl⟩
    · have q2 : Op.bytesLess b a = false := (bytesLess_eq _ _).trans (decide_eq_false h2)
      have q3 : (a == b) = true := beq_iff_eq.2 (List.le_antisymm (List.not_lt.1 h2) (List.not_lt.1 h1))
      have hc : cmpB a b = 0 := by unfold cmpB; rw [if_neg h1, if_neg h2]
      rw [hc]
      clear hc h1 h2
      go_enter Tryd.func59, Tryd.ntmps59
      go_wp2_with (go_at_call 72; refine (HN.out _ _).mono ?_; rintro e w' ⟨rfl, rfl⟩)
      go_ret
      exact ⟨rfl, rfl⟩
def orP (u v : Int) : Int := if u ≠ 0 then u else v
theorem orP_pos {u v : Int} (h : u ≠ 0) : orP u v = u := if_pos h
theorem orP_neg {u v : Int} (h : u = 0) : orP u v = v := if_neg (fun k => k h)
theorem or_any (w : World) (g : Nat) (u v : Int) (h : Blk w g 3 [.int .i64 u, .int .i64 v]) : Calls Tryd.prog 58 #[.slice (some ⟨g, 0, none⟩) 2 2] w fun e w' => e = .returned (.int .i64 (orP u v)) ∧ w' = w := by
  have y0 : w.cell? ⟨g, 0, none⟩ = some (.int .i64 u) := h.cell 0
  have y1 : w.cell? ⟨g, 1, none⟩ = some (.int .i64 v) := h.cell 1
  clear h
  go_enter Tryd.func58, Tryd.ntmps58
  go_wp2_with fail
  go_loopw [5, 8] (fun _ j wr => ∃ k : Nat, j = .int .i64 (k : Int) ∧ k ≤ 2 ∧ Hid ((0 < k → u = 0) ∧ (1 < k → v = 0)) ∧ wr = w) (fun _ j _ => 2 - (intOf j).toNat)
  case atStart => exact ⟨0, rfl, by omega, Lib.hid ⟨fun h => absurd h (Nat.lt_irrefl _), fun h => absurd h (by decide)⟩, rfl⟩
  case round =>
    obtain ⟨k, rfl, hk, HA, rfl⟩ := hrel
    match k, hk with
    | 0, _ =>
      by_cases hu : u = 0
      · have q : (u != 0) = false := by rw [hu]; rfl
        have HU := Lib.hid hu
        clear hu HA
        go_wp2_with fail
        go_roundw
        case rel => exact ⟨1, rfl, by omega, Lib.hid ⟨fun _ => HU.out, fun h => absurd h (by decide)⟩, trivial⟩
        case measure => simp [intOf]
      · have q : (u != 0) = true := bne_iff_ne.2 hu
        have HU := Lib.hid hu
        clear hu HA
        go_wp2_with fail
        go_ret
        rw [orP_pos HU.out]
        exact ⟨rfl, rfl⟩
    | 1, _ =>
      have HU := Lib.hid (HA.out.1 (by decide))
      by_cases hu : v = 0
      · have q : (v != 0) = false := by rw [hu]; rfl
        have HV := Lib.hid hu
        clear hu HA
        go_wp2_with fail
        go_roundw
        case rel => exact ⟨2, rfl, by omega, Lib.hid ⟨fun _ => HU.out, fun _ => HV.out⟩, trivial⟩
        case measure => simp [intOf]
      · have q : (v != 0) = true := bne_iff_ne.2 hu
        clear hu HA
        go_wp2_with fail
        go_ret
        rw [orP_neg HU.out]
        exact ⟨rfl, rfl⟩
    | 2, _ =>
      have HU := Lib.hid (HA.out.1 (by decide))
      have HV := Lib.hid (HA.out.2 (by decide))
      clear HA
      go_wp2_with fail
      go_ret
      rw [orP_neg HU.out, HV.out]
      exact ⟨rfl, rfl⟩
set_option maxRecDepth 100000 in
theorem byTag_any (x y : T) (w : World) : Calls Tryd.prog 47 #[.agg x.cells.toArray, .agg y.cells.toArray] w fun e w' => e = .returned (.int .i64 (byTag x y)) ∧ Reg.Ext w w' := by
  have hb1 := boxT w x
  have hx1 := Reg.Ext.alloc w (Obj.cells x.cells.toArray 25)
  obtain ⟨g1, hg1⟩ : ∃ g, w.heap.size = g := ⟨_, rfl⟩
  have hz1 : (w.alloc (Obj.cells x.cells.toArray 25)).heap.size = g1 + 1 := by simp [hg1]
  have hb2 := boxT (w.alloc (Obj.cells x.cells.toArray 25)) y
  have hx2 := Reg.Ext.alloc (w.alloc (Obj.cells x.cells.toArray 25)) (Obj.cells y.cells.toArray 25)
  rw [hz1] at hb2
  rw [hg1] at hb1
  have HB1 := Lib.hid (hb1.ext hx2)
  have HB2 := Lib.hid hb2
  have HX := Lib.hid (hx1.trans hx2)
  clear hb1 hb2 hx1 hx2
  go_enter Tryd.func47, Tryd.ntmps47
  go_upto_region 1 with (fail)
  rw [hg1] at *
  clear hz1 hg1
  generalize (w.alloc (Obj.cells x.cells.toArray 25)).alloc (Obj.cells y.cells.toArray 25) = w2 at *
  skip
  refine Ordl.begins (S := fun w' => Reg.Ext (w2).drew w') (z := 99) (by kernel_rfl) ?_
  refine Ordl.Bx.out (?_ : Ordl.Bx (Ordl.Any _ _ _ _ _ _ _ _ _ _))
  have X0 : Reg.Ext (w2).drew (w2).drew := Reg.Ext.refl _
  have c0 : w2.drew.cell? ⟨g1, 0, none⟩ = some (.string ⟨x.repo.toArray⟩) := HB1.out.drew.cell 0
  have c1 : w2.drew.cell? ⟨g1, 1, none⟩ = some (.string ⟨x.tag.toArray⟩) := HB1.out.drew.cell 1
  have d0 : w2.drew.cell? ⟨g1 + 1, 0, none⟩ = some (.string ⟨y.repo.toArray⟩) := HB2.out.drew.cell 0
  have d1 : w2.drew.cell? ⟨g1 + 1, 1, none⟩ = some (.string ⟨y.tag.toArray⟩) := HB2.out.drew.cell 1
  have HX3 := Lib.hid (HX.out.trans (Reg.Ext.drew w2))
  clear HX HB1 HB2
  generalize w2.drew = w3 at *
  refine Ordl.take (i := 0) (v := .pointer (some ⟨g1, 0, none⟩)) rfl (by kernel_rfl) (by kernel_rfl) (by kernel_rfl) (by kernel_rfl) (fun _ _ _ h => h) (.inl ⟨by kernel_rfl, fun w _ => by as_aux_lemma => kernel_rfl⟩) X0 ?_
  simp only [List.getElem_toArray, List.getElem_cons_succ, List.getElem_cons_zero, Act.put, Act.eval, List.setIfInBounds_toArray, List.set_cons_zero, List.set_cons_succ, Nat.reduceAdd, Array.getD_eq_getD_getElem?, List.getElem?_toArray, List.getElem?_cons_succ, List.getElem?_cons_zero, Option.getD_some]
  refine Ordl.take (i := 1) (v := .string ⟨x.repo.toArray⟩) rfl (by kernel_rfl) (by kernel_rfl) (by kernel_rfl) (by kernel_rfl) (fun _ _ _ h => h) (yields_load1 (by kernel_rfl) 9 (.tmp 5) rfl ⟨g1, 0, none⟩ (by kernel_rfl) (.string ⟨x.repo.toArray⟩) _ Tryd.underlying9 rfl (fun w h => h.at_ c0)) X0 ?_
  simp only [List.getElem_toArray, List.getElem_cons_succ, List.getElem_cons_zero, Act.put, Act.eval, List.setIfInBounds_toArray, List.set_cons_zero, List.set_cons_succ, Nat.reduceAdd, Array.getD_eq_getD_getElem?, List.getElem?_toArray, List.getElem?_cons_succ, List.getElem?_cons_zero, Option.getD_some]
  refine Ordl.take (i := 2) (v := .pointer (some ⟨g1 + 1, 0, none⟩)) rfl (by kernel_rfl) (by kernel_rfl) (by kernel_rfl) (by kernel_rfl) (fun _ _ _ h => h) (.inl ⟨by kernel_rfl, fun w _ => by as_aux_lemma => kernel_rfl⟩) X0 ?_
  simp only [List.getElem_toArray, List.getElem_cons_succ, List.getElem_cons_zero, Act.put, Act.eval, List.setIfInBounds_toArray, List.set_cons_zero, List.set_cons_succ, Nat.reduceAdd, Array.getD_eq_getD_getElem?, List.getElem?_toArray, List.getElem?_cons_succ, List.getElem?_cons_zero, Option.getD_some]
  refine Ordl.take (i := 3) (v := .string ⟨y.repo.toArray⟩) rfl (by kernel_rfl) (by kernel_rfl) (by kernel_rfl) (by kernel_rfl) (fun _ _ _ h => h) (yields_load1 (by kernel_rfl) 9 (.tmp 7) rfl ⟨g1 + 1, 0, none⟩ (by kernel_rfl) (.string ⟨y.repo.toArray⟩) _ Tryd.underlying9 rfl (fun w h => h.at_ d0)) X0 ?_
  simp only [List.getElem_toArray, List.getElem_cons_succ, List.getElem_cons_zero, Act.put, Act.eval, List.setIfInBounds_toArray, List.set_cons_zero, List.set_cons_succ, Nat.reduceAdd, Array.getD_eq_getD_getElem?, List.getElem?_toArray, List.getElem?_cons_succ, List.getElem?_cons_zero, Option.getD_some]
  refine Ordl.take (i := 5) (v := .pointer (some ⟨g1, 1, none⟩)) rfl (by kernel_rfl) (by kernel_rfl) (by kernel_rfl) (by kernel_rfl) (fun _ _ _ h => h) (.inl ⟨by kernel_rfl, fun w _ => by as_aux_lemma => kernel_rfl⟩) X0 ?_
  simp only [List.getElem_toArray, List.getElem_cons_succ, List.getElem_cons_zero, Act.put, Act.eval, List.setIfInBounds_toArray, List.set_cons_zero, List.set_cons_succ, Nat.reduceAdd, Array.getD_eq_getD_getElem?, List.getElem?_toArray, List.getElem?_cons_succ, List.getElem?_cons_zero, Option.getD_some]
  refine Ordl.take (i := 6) (v := .string ⟨x.tag.toArray⟩) rfl (by kernel_rfl) (by kernel_rfl) (by kernel_rfl) (by kernel_rfl) (fun _ _ _ h => h) (yields_load1 (by kernel_rfl) 9 (.tmp 10) rfl ⟨g1, 1, none⟩ (by kernel_rfl) (.string ⟨x.tag.toArray⟩) _ Tryd.underlying9 rfl (fun w h => h.at_ c1)) X0 ?_
  simp only [List.getElem_toArray, List.getElem_cons_succ, List.getElem_cons_zero, Act.put, Act.eval, List.setIfInBounds_toArray, List.set_cons_zero, List.set_cons_succ, Nat.reduceAdd, Array.getD_eq_getD_getElem?, List.getElem?_toArray, List.getElem?_cons_succ, List.getElem?_cons_zero, Option.getD_some]
  refine Ordl.take (i := 7) (v := .pointer (some ⟨g1 + 1, 1, none⟩)) rfl (by kernel_rfl) (by kernel_rfl) (by kernel_rfl) (by kernel_rfl) (fun _ _ _ h => h) (.inl ⟨by kernel_rfl, fun w _ => by as_aux_lemma => kernel_rfl⟩) X0 ?_
  simp only [List.getElem_toArray, List.getElem_cons_succ, List.getElem_cons_zero, Act.put, Act.eval, List.setIfInBounds_toArray, List.set_cons_zero, List.set_cons_succ, Nat.reduceAdd, Array.getD_eq_getD_getElem?, List.getElem?_toArray, List.getElem?_cons_succ, List.getElem?_cons_zero, Option.getD_some]
  refine Ordl.take (i := 8) (v := .string ⟨y.tag.toArray⟩) rfl (by kernel_rfl) (by kernel_rfl) (by kernel_rfl) (by kernel_rfl) (fun _ _ _ h => h) (yields_load1 (by kernel_rfl) 9 (.tmp 12) rfl ⟨g1 + 1, 1, none⟩ (by kernel_rfl) (.string ⟨y.tag.toArray⟩) _ Tryd.underlying9 rfl (fun w h => h.at_ d1)) X0 ?_
  simp only [List.getElem_toArray, List.getElem_cons_succ, List.getElem_cons_zero, Act.put, Act.eval, List.setIfInBounds_toArray, List.set_cons_zero, List.set_cons_succ, Nat.reduceAdd, Array.getD_eq_getD_getElem?, List.getElem?_toArray, List.getElem?_cons_succ, List.getElem?_cons_zero, Option.getD_some]
  clear c0 c1 d0 d1
  refine Ordl.one (i := 4) (by kernel_rfl) rfl ?_
  refine ⟨?_⟩
  repeat go_step
  refine (compare_any _ _ _).mono ?_
  rintro e w4 ⟨rfl, rfl⟩
  rename_i hK
  refine hK _ _ ?_
  clear hK
  refine Ordl.Bx.out (?_ : Ordl.Bx _)
  refine Ordl.fin X0 ?_
  refine Ordl.one (i := 9) (by kernel_rfl) rfl ?_
  refine ⟨?_⟩
  repeat go_step
  refine (compare_any _ _ _).mono ?_
  rintro e w5 ⟨rfl, rfl⟩
  rename_i hK
  refine hK _ _ ?_
  clear hK
  refine Ordl.Bx.out (?_ : Ordl.Bx _)
  refine Ordl.fin X0 ?_
  refine Ordl.one (i := 10) (by kernel_rfl) rfl ?_
  refine ⟨?_⟩
  refine wpList_any (by kernel_rfl) (.slice (some ⟨w5.heap.size, 0, none⟩) 2 2) (w5.alloc (.cells #[.int .i64 (cmpB x.repo y.repo), .int .i64 (cmpB x.tag y.tag)] 3)) (by kernel_rfl) ?_
  have hb6 := Blk.new w5 3 #[.int .i64 (cmpB x.repo y.repo), .int .i64 (cmpB x.tag y.tag)]
  have hx6 := Reg.Ext.alloc w5 (.cells #[.int .i64 (cmpB x.repo y.repo), .int .i64 (cmpB x.tag y.tag)] 3)
  have HX6 := Lib.hid (HX3.out.trans hx6)
  have X1 := X0.trans hx6
  obtain ⟨g6, hg6⟩ : ∃ g, w5.heap.size = g := ⟨_, rfl⟩
  rw [hg6] at hb6 ⊢
  clear hx6 hg6 HX3 X0
  generalize w5.alloc (.cells #[.int .i64 (cmpB x.repo y.repo), .int .i64 (cmpB x.tag y.tag)] 3) = w6 at *
  have HB6 := Lib.hid hb6
  clear hb6
  refine Ordl.Bx.out (?_ : Ordl.Bx _)
  refine Ordl.fin X1 ?_
  simp only [List.getElem_toArray, List.getElem_cons_succ, List.getElem_cons_zero, Act.put, Act.eval, List.setIfInBounds_toArray, List.set_cons_zero, List.set_cons_succ, Nat.reduceAdd, Array.getD_eq_getD_getElem?, List.getElem?_toArray, List.getElem?_cons_succ, List.getElem?_cons_zero, Option.getD_some]
  refine Ordl.one (i := 11) (by kernel_rfl) rfl ?_
  refine ⟨?_⟩
  repeat go_step
  refine (or_any _ _ _ _ HB6.out).mono ?_
  rintro e w7 ⟨rfl, rfl⟩
  have X0 := X1
  rename_i hK
  refine hK _ _ ?_
  clear hK
  refine Ordl.Bx.out (?_ : Ordl.Bx _)
  refine Ordl.fin X0 ?_
  refine Ordl.take (i := 12) (v := .int .i64 (orP (cmpB x.repo y.repo) (cmpB x.tag y.tag))) rfl (by kernel_rfl) (by kernel_rfl) (by kernel_rfl) (by kernel_rfl) (fun _ _ _ h => h) (.inl ⟨by kernel_rfl, fun w _ => by as_aux_lemma => kernel_rfl⟩) X0 ?_
  simp only [List.getElem_toArray, List.getElem_cons_succ, List.getElem_cons_zero, Act.put, Act.eval, List.setIfInBounds_toArray, List.set_cons_zero, List.set_cons_succ, Nat.reduceAdd, Array.getD_eq_getD_getElem?, List.getElem?_toArray, List.getElem?_cons_succ, List.getElem?_cons_zero, Option.getD_some]
  refine Ordl.done (by kernel_rfl) ?_ _
  go_wp2_with fail
  go_ret
  exact ⟨rfl, HX6.out⟩
end Tk
end Go.Proofs.YtcfdlfedmbmidaaDoor
