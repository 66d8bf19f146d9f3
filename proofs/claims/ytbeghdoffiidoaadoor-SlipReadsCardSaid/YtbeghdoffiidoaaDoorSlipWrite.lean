/- The walk of slip.Write. -/
import Derived.Test.YtbeghdoffiidoaaDoorSlipGood2
import Derived.Test.YtbeghdoffiidoaaDoorSlipFrame
set_option linter.unusedSimpArgs false
set_option linter.unusedVariables false
set_option linter.unusedSectionVars false
namespace Go.Proofs.YtbeghdoffiidoaaDoor
open Go.RowKit
namespace Slp
open Bld (Is be8 len1)
def body (x : S) : List UInt8 := [UInt8.ofNat x.k.toNat] ++ (if (flds x.k).names then (len1 x.repo :: x.repo.data.toList) ++ (len1 x.tag :: x.tag.data.toList) else []) ++ (if (flds x.k).digest then x.dig else [])
  ++ (if (flds x.k).thing then (len1 x.typ :: x.typ.data.toList) ++ be8 x.size.toNat else []) ++ (if (flds x.k).at_ then be8 x.at_.toNat else [])
theorem good_bounds {x : S} (h : good x = true) : known x.k = true ∧ ((flds x.k).names = true → x.repo.size ≤ 128 ∧ x.tag.size ≤ 128) ∧ x.typ.size ≤ 100 ∧ 0 ≤ x.size ∧ x.size ≤ 1048576 ∧ 0 ≤ x.at_ ∧ x.at_ ≤ 1099511627776 := by
  unfold good bounds names128 at h
  simp only [Bool.and_eq_true, Bool.or_eq_true, Bool.not_eq_true', decide_eq_true_eq] at h
  obtain ⟨h1, -, h3, h4, h5, h6⟩ := h
  refine ⟨h1, fun hn => ?_, h4, h5.1, h5.2, h6.1, h6.2⟩
  rcases h3 with h3 | h3
  · rw [hn] at h3; cases h3
  · exact ⟨h3.1.2, h3.2.2⟩
set_option maxRecDepth 100000 in
set_option maxHeartbeats 4000000 in
theorem write_bad (x : S) (hx : x.dig.length = 32) (hg : good x = false) (w : World) :
    Calls Tryd.prog 9 #[.agg x.cells.toArray] w fun e w' => e = .returned (.tuple #[.string ⟨#[]⟩, .int .i64 1]) ∧ Reg.Ext w w' := by
  have hb1 := boxS w x
  have hx1 := Reg.Ext.alloc w (Obj.cells x.cells.toArray 25)
  have CG := Lib.hid (good_any x hx)
  rw [hg] at CG
  go_enter Tryd.func9, Tryd.ntmps9
  go_upto_region 1 with (fail)
  generalize w.alloc (Obj.cells x.cells.toArray 25) = w1 at *
  refine wp_region_lit ?_
  refine wpList_load_row rfl 25 _ rfl w.heap.size rfl 25 x.cells.toArray (0, 0) _ hb1 undS rfl (by rw [List.size_toArray, cells_length x hx]; exact size38) ?_
  simp only [Act.put, Act.eval, List.setIfInBounds_toArray, List.set_cons_zero, List.set_cons_succ, Nat.reduceAdd, Array.getD_eq_getD_getElem?, List.getElem?_toArray, List.getElem?_cons_succ, List.getElem?_cons_zero, Option.getD_some]
  clear hb1
  go_wp2_with fail
  refine (CG.out _).mono ?_
  rintro e w2 ⟨rfl, x2⟩
  have X := Lib.hid (hx1.trans x2)
  clear x2 hx1
  go_wp2_with fail
  go_ret2
  exact ⟨rfl, X.out⟩
end Slp
end Go.Proofs.YtbeghdoffiidoaaDoor
