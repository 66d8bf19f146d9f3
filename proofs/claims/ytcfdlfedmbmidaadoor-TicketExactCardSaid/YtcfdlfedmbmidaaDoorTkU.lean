/- The document's tables: Drop, ahead. -/
import Derived.Test.YtcfdlfedmbmidaaDoorTkS
import Derived.Test.YtcfdlfedmbmidaaDoorTkQ
set_option linter.unusedSimpArgs false
set_option linter.unusedVariables false
set_option linter.unusedSectionVars false
namespace Go.Proofs.YtcfdlfedmbmidaaDoor
open Go Go.RowKit
namespace Tk
theorem del_len (n : Nmd.Nm) (l : List T) : (Nmd.del nm n l).length ≤ l.length := List.length_filter_le _ _
set_option maxRecDepth 100000 in
theorem ahead_any (x y : T) (hx : x.dig.length = 32) (hy : y.dig.length = 32) (w : World) : Calls Tryd.prog 36 #[.agg x.cells.toArray, .agg y.cells.toArray] w fun e w' => e = .returned (.bool (decide (nm x < nm y))) ∧ Reg.Ext w w' := by
  have hb1 := boxT w x
  have hb2 := boxT (w.alloc (Obj.cells x.cells.toArray 25)) y
  have hx1 := Reg.Ext.alloc w (Obj.cells x.cells.toArray 25)
  have hx2 := Reg.Ext.alloc (w.alloc (Obj.cells x.cells.toArray 25)) (Obj.cells y.cells.toArray 25)
  have HX := Lib.hid (hx1.trans hx2)
  rw [size_up] at hb2
  replace hb1 := hb1.ext hx2
  have c0 : ((w.alloc (Obj.cells x.cells.toArray 25)).alloc (Obj.cells y.cells.toArray 25)).cell? ⟨w.heap.size, 0, none⟩ = some (.string ⟨x.repo.toArray⟩) := hb1.cell 0
  have c1 : ((w.alloc (Obj.cells x.cells.toArray 25)).alloc (Obj.cells y.cells.toArray 25)).cell? ⟨w.heap.size, 1, none⟩ = some (.string ⟨x.tag.toArray⟩) := hb1.cell 1
  have d0 : ((w.alloc (Obj.cells x.cells.toArray 25)).alloc (Obj.cells y.cells.toArray 25)).cell? ⟨w.heap.size + 1, 0, none⟩ = some (.string ⟨y.repo.toArray⟩) := hb2.cell 0
  have d1 : ((w.alloc (Obj.cells x.cells.toArray 25)).alloc (Obj.cells y.cells.toArray 25)).cell? ⟨w.heap.size + 1, 1, none⟩ = some (.string ⟨y.tag.toArray⟩) := hb2.cell 1
  have hnm : nm x < nm y ↔ x.repo < y.repo ∨ (x.repo = y.repo ∧ x.tag < y.tag) := pair_lt
  have HM := Lib.hid hnm
  clear hb1 hb2 hx1 hx2 hx hy hnm
  by_cases hr : x.repo = y.repo
  · have HR := Lib.hid hr
    rw [hr] at c0
    clear hr
    go_enter Tryd.func36, Tryd.ntmps36
    go_wp2_with fail
    go_ret
    have hb : Op.bytesLess x.tag y.tag = decide (nm x < nm y) := by
      rw [bytesLess_eq, decide_eq_decide, HM.out]
      have := HR.out
      exact ⟨fun h => .inr ⟨this, h⟩, fun h => h.elim (fun h => absurd (this ▸ h) (List.lt_irrefl _)) (·.2)⟩
    exact ⟨by rw [← hb]; rfl, HX.out⟩
  · have hr2 : (x.repo == y.repo) = false := beq_eq_false_iff_ne.2 hr
    have HR := Lib.hid hr
    clear hr
    go_enter Tryd.func36, Tryd.ntmps36
    go_wp2_with fail
    go_ret
    have hb : Op.bytesLess x.repo y.repo = decide (nm x < nm y) := by
      rw [bytesLess_eq, decide_eq_decide, HM.out]
      exact ⟨.inl, fun h => h.elim id fun h => absurd h.1 HR.out⟩
    exact ⟨by rw [← hb]; rfl, HX.out⟩
section
variable {w : World} {b : Nat} {v : Value} {l : List T} {most : Int}
set_option maxRecDepth 100000 in
set_option maxHeartbeats 1000000 in
theorem dropR_any (h : Tb 44 w b v l most) (hl : l.length ≤ 1000) (r t : List UInt8) : Calls Tryd.prog 20 #[.pointer (some ⟨b, 0, none⟩), .string ⟨r.toArray⟩, .string ⟨t.toArray⟩] w
    (ResT 44 b w v (.bool (decide ((Nmd.del nm (pair r t) l).length < l.length))) (Nmd.del nm (pair r t) l) most) := by
  have HT := Lib.hid h
  obtain ⟨A, cap, hv⟩ := h.row.slice
  subst hv
  clear h
  have HN := Lib.hid (TOw.new (Reg.Ext.refl w))
  go_enter Tryd.func20, Tryd.ntmps20
  go_wp2_with fail
  go_loopw [7, 8] (fun o i wr => ∃ k : Nat, i = .int .i64 (k : Int) ∧ k ≤ l.length ∧ Hid (TOw w wr o (Nmd.del nm (pair r t) (l.take k)))) (fun _ i _ => l.length - (intOf i).toNat)
  case atStart => exact ⟨0, rfl, Nat.zero_le _, HN⟩
  case round =>
    obtain ⟨k, rfl, hk, HO⟩ := hrel
    have HX := Lib.hid HO.out.2
    have c0 := (HT.out.ext HX.out).c.1
    by_cases hkl : k < l.length
    · rcases HT.out.row.form with ⟨_, e1⟩ | ⟨g, cap1, e1, _, _, _, _⟩
      · rw [e1] at hkl; exact absurd hkl (Nat.not_lt_zero _)
      injection e1 with e1 hh e2
      clear hh
      subst e1 e2
      have HR1 := Lib.hid (rng_ext (HT.out.row.range HT.out.fit k hkl) HX.out)
      have HD1 := Lib.hid (HT.out.fit _ (List.getElem_mem hkl))
      have HDH : Hid (nm l[k] = pair r t → Nmd.del nm (pair r t) (l.take (k + 1)) = Nmd.del nm (pair r t) (l.take k)) := Lib.hid fun h => del_here hkl h
      have HDS : Hid (nm l[k] ≠ pair r t → Nmd.del nm (pair r t) (l.take (k + 1)) = Nmd.del nm (pair r t) (l.take k) ++ [l[k]]) := Lib.hid fun h => del_skip hkl h
      have HLK : Hid ((Nmd.del nm (pair r t) (l.take k)).length ≤ 1000) := Lib.hid (by have := del_len (pair r t) (l.take k); rw [List.length_take] at this; omega)
      have d0 : wr.cell? ⟨g, k * 38, none⟩ = some (.string ⟨l[k].repo.toArray⟩) := HX.out.at_ (HT.out.row.at_ HT.out.fit k hkl 0 (by omega))
      have d1 : wr.cell? ⟨g, k * 38 + 1, none⟩ = some (.string ⟨l[k].tag.toArray⟩) := HX.out.at_ (HT.out.row.at_ HT.out.fit k hkl 1 (by omega))
      generalize l[k] = y at *
      by_cases hr : y.repo = r
      · by_cases ht : y.tag = t
        · have hq := HDH.out (nm_is.2 ⟨hr, ht⟩)
          rw [← hq] at HO
          rw [hr] at d0
          rw [ht] at d1
          clear hr ht hq
          go_wp2_with fail
          go_roundw
          case rel => exact ⟨k + 1, by go_num, by omega, HO⟩
          case measure => simp [intOf]; omega
        · have HE2 := Lib.hid (HDS.out fun h => ht (nm_is.1 h).2)
          have ht2 : (y.tag != t) = true := bne_iff_ne.2 ht
          have ht3 : (y.tag == t) = false := beq_eq_false_iff_ne.2 ht
          rw [hr] at d0
          clear hr ht
          go_upto_region 6 with (fail)
          refine wp_region_lit ?_
          iterate 21 go_step
          refine wpList_ldm rfl 25 (.tmp 48) rfl g (k * 38) rfl y.cells _ HR1 undT (by rw [y.len HD1.out]; exact sizeT) ?_
          simp only [Act.put, Act.eval, List.setIfInBounds_toArray, List.set_cons_zero, List.set_cons_succ, Nat.reduceAdd, Array.getD_eq_getD_getElem?, List.getElem?_toArray, List.getElem?_cons_succ, List.getElem?_cons_zero, Option.getD_some]
          refine one_ticket rfl (.tmp 49) rfl y rfl HD1.out wr ?_
          simp only [Act.put, Act.eval, List.setIfInBounds_toArray, List.set_cons_zero, List.set_cons_succ, Nat.reduceAdd, Array.getD_eq_getD_getElem?, List.getElem?_toArray, List.getElem?_cons_succ, List.getElem?_cons_zero, Option.getD_some]
          refine TOw.push rfl (.tmp 42) (.tmp 50) rfl w _ u7 _ y HD1.out wr.heap.size rfl (HO.out.later (Reg.Ext.alloc _ _)) rfl (boxT wr y) HLK.out ?_
          intro v5 w5 ho5
          rw [← HE2.out] at ho5
          have HO5 := Lib.hid ho5
          clear ho5
          simp only [Act.put, Act.eval, List.setIfInBounds_toArray, List.set_cons_zero, List.set_cons_succ, Nat.reduceAdd, Array.getD_eq_getD_getElem?, List.getElem?_toArray, List.getElem?_cons_succ, List.getElem?_cons_zero, Option.getD_some]
          clear c0
          go_wp2_with fail
          go_roundw
          case rel => exact ⟨k + 1, by go_num, by omega, HO5⟩
          case measure => simp [intOf]; omega
      · have HE2 := Lib.hid (HDS.out fun h => hr (nm_is.1 h).1)
        have hr2 : (y.repo != r) = true := bne_iff_ne.2 hr
        have hr3 : (y.repo == r) = false := beq_eq_false_iff_ne.2 hr
        clear hr
        go_upto_region 6 with (fail)
        refine wp_region_lit ?_
        iterate 21 go_step
        refine wpList_ldm rfl 25 (.tmp 48) rfl g (k * 38) rfl y.cells _ HR1 undT (by rw [y.len HD1.out]; exact sizeT) ?_
        simp only [Act.put, Act.eval, List.setIfInBounds_toArray, List.set_cons_zero, List.set_cons_succ, Nat.reduceAdd, Array.getD_eq_getD_getElem?, List.getElem?_toArray, List.getElem?_cons_succ, List.getElem?_cons_zero, Option.getD_some]
        refine one_ticket rfl (.tmp 49) rfl y rfl HD1.out wr ?_
        simp only [Act.put, Act.eval, List.setIfInBounds_toArray, List.set_cons_zero, List.set_cons_succ, Nat.reduceAdd, Array.getD_eq_getD_getElem?, List.getElem?_toArray, List.getElem?_cons_succ, List.getElem?_cons_zero, Option.getD_some]
        refine TOw.push rfl (.tmp 42) (.tmp 50) rfl w _ u7 _ y HD1.out wr.heap.size rfl (HO.out.later (Reg.Ext.alloc _ _)) rfl (boxT wr y) HLK.out ?_
        intro v5 w5 ho5
        rw [← HE2.out] at ho5
        have HO5 := Lib.hid ho5
        clear ho5
        simp only [Act.put, Act.eval, List.setIfInBounds_toArray, List.set_cons_zero, List.set_cons_succ, Nat.reduceAdd, Array.getD_eq_getD_getElem?, List.getElem?_toArray, List.getElem?_cons_succ, List.getElem?_cons_zero, Option.getD_some]
        clear c0
        go_wp2_with fail
        go_roundw
        case rel => exact ⟨k + 1, by go_num, by omega, HO5⟩
        case measure => simp [intOf]; omega
    · have hke : k = l.length := by omega
      subst hke
      rw [List.take_length] at HO
      obtain ⟨k1, k2⟩ := HT.out.shut HO.out (fun y hy => HT.out.fit y (Nmd.mem_del.1 hy).1)
      obtain ⟨A5, cap5, hv5⟩ := HO.out.1.slice
      have f0 := (HT.out.ext HX.out).blk.frozen 0
      have HK1 := Lib.hid k1
      have HK2 := Lib.hid k2
      generalize Nmd.del nm (pair r t) l = l' at *
      subst hv5
      clear k1 k2
      go_wp2_with fail
      go_ret
      have hq : decide ((l'.length : Int) < (l.length : Int)) = decide (l'.length < l.length) := decide_eq_decide.2 (by omega)
      exact ⟨by rw [← hq]; rfl, _, HK1.out, HK2.out⟩
end
end Tk
end Go.Proofs.YtcfdlfedmbmidaaDoor
