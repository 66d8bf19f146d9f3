/- The document's tables: Get, Drop, ahead. -/
import Derived.Test.YtcfdlfedmbmidaaDoorTkR
set_option linter.unusedSimpArgs false
set_option linter.unusedVariables false
set_option linter.unusedSectionVars false
namespace Go.Proofs.YtcfdlfedmbmidaaDoor
open Go Go.RowKit
namespace Tk

theorem get_here {l : List T} {k : Nat} {n : Nmd.Nm} (hk : k < l.length) (h0 : Nmd.get nm n (l.take k) = none) (h : nm l[k] = n) : Nmd.get nm n l = some l[k] := by
  have e : l = l.take k ++ l[k] :: l.drop (k + 1) := by rw [← List.drop_eq_getElem_cons hk, List.take_append_drop]
  have : Nmd.get nm n (l.take k ++ l[k] :: l.drop (k + 1)) = some l[k] := by
    unfold Nmd.get at h0 ⊢
    rw [List.find?_append, h0, Option.none_or, List.find?_cons, h, beq_self_eq_true]
  rw [← e] at this
  exact this
theorem get_skip {l : List T} {k : Nat} {n : Nmd.Nm} (hk : k < l.length) (h0 : Nmd.get nm n (l.take k) = none) (h : nm l[k] ≠ n) : Nmd.get nm n (l.take (k + 1)) = none := by
  unfold Nmd.get at h0 ⊢
  rw [List.take_succ_eq_append_getElem hk, List.find?_append, h0, Option.none_or, List.find?_cons, beq_eq_false_iff_ne.2 h]
  rfl
theorem del_here {l : List T} {k : Nat} {n : Nmd.Nm} (hk : k < l.length) (h : nm l[k] = n) : Nmd.del nm n (l.take (k + 1)) = Nmd.del nm n (l.take k) := by
  unfold Nmd.del
  rw [List.take_succ_eq_append_getElem hk, List.filter_append, List.filter_cons_of_neg (by rw [h]; simp), List.filter_nil, List.append_nil]
theorem del_skip {l : List T} {k : Nat} {n : Nmd.Nm} (hk : k < l.length) (h : nm l[k] ≠ n) : Nmd.del nm n (l.take (k + 1)) = Nmd.del nm n (l.take k) ++ [l[k]] := by
  unfold Nmd.del
  rw [List.take_succ_eq_append_getElem hk, List.filter_append, List.filter_cons_of_pos (by simpa using h), List.filter_nil]
theorem nm_is {y : T} {r t : List UInt8} : nm y = pair r t ↔ y.repo = r ∧ y.tag = t := pair_inj
section
variable {w : World} {b : Nat} {v : Value} {l : List T} {most : Int}
set_option maxRecDepth 100000 in
set_option maxHeartbeats 1000000 in
theorem getR_any (h : Tb 44 w b v l most) (hl : l.length ≤ 1000) (r t : List UInt8) : Calls Tryd.prog 18 #[.pointer (some ⟨b, 0, none⟩), .string ⟨r.toArray⟩, .string ⟨t.toArray⟩] w fun e w' => e = .returned (.tuple #[.agg ((Nmd.get nm (pair r t) l).getD zT).cells.toArray, .bool (Nmd.get nm (pair r t) l).isSome]) ∧ Reg.Ext w w' := by
  have hb0 := boxT w zT
  have hx0 := Reg.Ext.alloc w (Obj.cells zT.cells.toArray 25)
  have HT := Lib.hid (h.ext hx0)
  obtain ⟨A, cap, hv⟩ := h.row.slice
  subst hv
  clear h
  go_enter Tryd.func18, Tryd.ntmps18
  go_upto_region 1 with (fail)
  rw [z38]
  generalize w.alloc (Obj.cells zT.cells.toArray 25) = w1 at *
  generalize hg6 : w.heap.size = g6 at *
  have HG6 := Lib.hid hg6
  have HB := Lib.hid hb0
  have HX := Lib.hid hx0
  clear hb0 hx0 hg6
  have c0 := HT.out.c.1
  go_wp2_with fail
  go_loopw [8] (fun i wr => ∃ k : Nat, i = .int .i64 (k : Int) ∧ k ≤ l.length ∧ Hid (Nmd.get nm (pair r t) (l.take k) = none) ∧ w1 = wr) (fun i _ => l.length - (intOf i).toNat)
  case atStart => exact ⟨0, rfl, Nat.zero_le _, Lib.hid rfl, rfl⟩
  case round =>
    obtain ⟨k, rfl, hk, HE, rfl⟩ := hrel
    by_cases hkl : k < l.length
    · rcases HT.out.row.form with ⟨_, e1⟩ | ⟨g, cap1, e1, _, _, _, _⟩
      · rw [e1] at hkl; exact absurd hkl (Nat.not_lt_zero _)
      injection e1 with e1 hh e2
      clear hh
      subst e1 e2
      have HR1 := Lib.hid (HT.out.row.range HT.out.fit k hkl)
      have HD1 := Lib.hid (HT.out.fit _ (List.getElem_mem hkl))
      have HGH : Hid (nm l[k] = pair r t → Nmd.get nm (pair r t) l = some l[k]) := Lib.hid fun h => get_here hkl HE.out h
      have HGS : Hid (nm l[k] ≠ pair r t → Nmd.get nm (pair r t) (l.take (k + 1)) = none) := Lib.hid fun h => get_skip hkl HE.out h
      have d0 : w1.cell? ⟨g, k * 38, none⟩ = some (.string ⟨l[k].repo.toArray⟩) := HT.out.row.at_ HT.out.fit k hkl 0 (by omega)
      have d1 : w1.cell? ⟨g, k * 38 + 1, none⟩ = some (.string ⟨l[k].tag.toArray⟩) := HT.out.row.at_ HT.out.fit k hkl 1 (by omega)
      generalize l[k] = y at *
      by_cases hr : y.repo = r
      · rw [hr] at d0
        by_cases ht : y.tag = t
        · rw [ht] at d1
          have HG := Lib.hid (HGH.out (nm_is.2 ⟨hr, ht⟩))
          clear hr ht
          go_upto_region 5 with (fail)
          refine wp_region_lit ?_
          iterate 18 go_step
          refine wpList_ldm rfl 25 (.tmp 45) rfl g (k * 38) rfl y.cells _ HR1 undT (by rw [y.len HD1.out]; exact sizeT) ?_
          simp only [Act.put, Act.eval, List.setIfInBounds_toArray, List.set_cons_zero, List.set_cons_succ, Nat.reduceAdd, Array.getD_eq_getD_getElem?, List.getElem?_toArray, List.getElem?_cons_succ, List.getElem?_cons_zero, Option.getD_some]
          refine wpList_store_mid rfl 25 _ _ rfl g6 0 (y).cells.toArray rfl ?_ ((HB.out).there _ (by have e1 := (y).len HD1.out; have e2 := (zT).len rfl; rw [List.size_toArray]; omega)) (by rw [List.size_toArray, (y).len HD1.out]; exact sizeT) (all_oneCell_toArray (T.one _)) ?_
          · rfl
          simp only [List.toList_toArray]
          simp only [Act.put, Act.eval, List.setIfInBounds_toArray, List.set_cons_zero, List.set_cons_succ, Nat.reduceAdd, Array.getD_eq_getD_getElem?, List.getElem?_toArray, List.getElem?_cons_succ, List.getElem?_cons_zero, Option.getD_some]
          have HB3 := Lib.hid (HB.out.setAll y.cells (by rw [y.len HD1.out]; rfl))
          have HX3 := Lib.hid (HX.out.trans_but (But.setCells g6 y.cells 0 w1) (by rw [HG6.out]; exact Nat.le_refl _))
          clear c0 d0 d1
          generalize w1.setCells g6 0 y.cells = w3 at *
          go_wp2_with fail
          refine bodyPost_ret (results_tk rfl _ _ g6 25 y.cells.toArray (0, 0) rfl HB3.out (by rw [List.size_toArray, y.len HD1.out]; exact sizeT)) rfl ⟨?_, HX3.out⟩
          rw [HG.out]
          rfl
        · have HE2 := Lib.hid (HGS.out fun h => ht (nm_is.1 h).2)
          have ht2 : (y.tag == t) = false := beq_eq_false_iff_ne.2 ht
          clear hr ht
          go_wp2_with fail
          go_roundw
          case rel => exact ⟨k + 1, by go_num, by omega, HE2, trivial⟩
          case measure => simp [intOf]; omega
      · have HE2 := Lib.hid (HGS.out fun h => hr (nm_is.1 h).1)
        have hr2 : (y.repo == r) = false := beq_eq_false_iff_ne.2 hr
        clear hr
        go_wp2_with fail
        go_roundw
        case rel => exact ⟨k + 1, by go_num, by omega, HE2, trivial⟩
        case measure => simp [intOf]; omega
    · have hke : k = l.length := by omega
      subst hke
      have HG : Hid (Nmd.get nm (pair r t) l = none) := Lib.hid (by have := HE.out; rw [List.take_length] at this; exact this)
      go_upto_region 6 with (fail)
      refine wp_region_lit ?_
      refine wpList_val rfl (.agg zT.cells.toArray) (by as_aux_lemma => kernel_rfl) ?_
      simp only [Act.put, Act.eval, List.setIfInBounds_toArray, List.set_cons_zero, List.set_cons_succ, Nat.reduceAdd, Array.getD_eq_getD_getElem?, List.getElem?_toArray, List.getElem?_cons_succ, List.getElem?_cons_zero, Option.getD_some]
      refine wpList_store_mid rfl 25 _ _ rfl g6 0 (zT).cells.toArray rfl ?_ ((HB.out).there _ (by have e1 := (zT).len rfl; have e2 := (zT).len rfl; rw [List.size_toArray]; omega)) (by rw [List.size_toArray, (zT).len rfl]; exact sizeT) (all_oneCell_toArray (T.one _)) ?_
      · rfl
      simp only [List.toList_toArray]
      simp only [Act.put, Act.eval, List.setIfInBounds_toArray, List.set_cons_zero, List.set_cons_succ, Nat.reduceAdd, Array.getD_eq_getD_getElem?, List.getElem?_toArray, List.getElem?_cons_succ, List.getElem?_cons_zero, Option.getD_some]
      have HB3 := Lib.hid (HB.out.setAll zT.cells rfl)
      have HX3 := Lib.hid (HX.out.trans_but (But.setCells g6 zT.cells 0 w1) (by rw [HG6.out]; exact Nat.le_refl _))
      clear c0
      generalize w1.setCells g6 0 zT.cells = w3 at *
      go_wp2_with fail
      refine bodyPost_ret (results_tk rfl _ _ g6 25 zT.cells.toArray (0, 0) rfl HB3.out (by exact sizeT)) rfl ⟨?_, HX3.out⟩
      rw [HG.out]
      rfl
end
end Tk
end Go.Proofs.YtcfdlfedmbmidaaDoor
