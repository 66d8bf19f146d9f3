/- The reference's functions of chapter 4: hex, Print. -/
import Derived.Test.YtdoplndijlfabaaDoorStampParse
import Derived.Test.YtdoplndijlfabaaDoorHexRefH
set_option linter.unusedSimpArgs false
set_option linter.unusedVariables false
set_option linter.unusedSectionVars false
namespace Go.Proofs.YtdoplndijlfabaaDoor
open Go.RowKit
namespace Stp
set_option maxHeartbeats 2000000 in
theorem hexD_any (l : List UInt8) (hl : l.length = 32) (w : World) :
    Calls Tryd.prog 45 #[.agg (l.map byteV).toArray] w fun e w' => e = .returned (.string ⟨(HexP.hex l).toArray⟩) ∧ Reg.Ext w w' := by
  have hcv := box_str (box_blk w l) hl
  have HX := Lib.hid (Reg.Ext.alloc w (Obj.cells (l.map byteV).toArray 24))
  go_enter Tryd.func45, Tryd.ntmps45
  go_wp2_with fail
  clear hcv
  refine (Hex.hexR_any ⟨l.toArray⟩ _ (by rw [siz]; omega)).mono ?_
  rintro e w2 ⟨rfl, x2⟩
  rw [lst]
  have HX2 := Lib.hid (HX.out.trans x2)
  clear HX x2
  go_wp2_with fail
  go_ret
  exact ⟨rfl, HX2.out⟩
set_option maxHeartbeats 2000000 in
theorem printR_any (l : List UInt8) (hl : l.length = 32) (w : World) :
    Calls Tryd.prog 30 #[.agg (l.map byteV).toArray] w fun e w' => e = .returned (.string ⟨(pA ++ HexP.hex l).toArray⟩) ∧ Reg.Ext w w' := by
  have hb := box_blk w l
  have HX := Lib.hid (Reg.Ext.alloc w (Obj.cells (l.map byteV).toArray 24))
  go_enter Tryd.func30, Tryd.ntmps30
  go_upto_region 1 with (fail)
  generalize w.alloc (Obj.cells (l.map byteV).toArray 24) = w1 at *
  refine wp_region_lit ?_
  refine wpList_load_row rfl 24 _ rfl w.heap.size rfl 24 (l.map byteV).toArray (0, 0) _ hb Tryd.underlying24 rfl (by rw [List.size_toArray, List.length_map, hl]; kernel_rfl) ?_
  simp only [Act.put, Act.eval, List.setIfInBounds_toArray, List.set_cons_zero, List.set_cons_succ, Nat.reduceAdd, Array.getD_eq_getD_getElem?, List.getElem?_toArray, List.getElem?_cons_succ, List.getElem?_cons_zero, Option.getD_some]
  clear hb
  go_wp2_with fail
  refine (hexD_any l hl _).mono ?_
  rintro e w2 ⟨rfl, x2⟩
  have HX2 := Lib.hid (HX.out.trans x2)
  clear HX x2
  have hsz : (⟨(HexP.hex l).toArray⟩ : ByteArray).size ≤ 64 := by rw [siz, HexP.hex_length]; omega
  obtain ⟨D, hD⟩ : ∃ D : ByteArray, D = ⟨(HexP.hex l).toArray⟩ := ⟨_, rfl⟩
  rw [← hD] at hsz ⊢
  have HV := Lib.hid (show (⟨(pA ++ HexP.hex l).toArray⟩ : ByteArray) = ⟨pA.toArray⟩ ++ D by rw [hD]; exact ba_ext (by simp))
  clear hD
  go_wp2_with fail
  go_ret
  exact ⟨by rw [HV.out]; rfl, HX2.out⟩
end Stp
end Go.Proofs.YtdoplndijlfabaaDoor
