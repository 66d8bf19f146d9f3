/- The reference's function of chapter 4: Of. -/
import Derived.Test.YtnaijnhpgalmjaaDoorStampAwake
import Derived.Test.YtnaijnhpgalmjaaDoorShaRefOf
set_option linter.unusedSimpArgs false
set_option linter.unusedVariables false
set_option linter.unusedSectionVars false
namespace Go.Proofs.YtnaijnhpgalmjaaDoor
open Go.RowKit
namespace Stp
open ShaP (sum)
set_option maxRecDepth 100000 in
set_option maxHeartbeats 2000000 in
theorem ofR_any' (s : ByteArray) (L : List UInt8) (hL : sum s.data.toList = L) (hl : L.length = 32) (w : World) (hs : s.size ≤ 274877906944) :
    Calls Tryd.prog 17 #[.string s] w fun e w' => e = .returned (.agg (L.map byteV).toArray) ∧ Reg.Ext w w' := by
  have HC : ∀ w : World, Calls Tryd.prog 24 #[.string s] w fun e w' => e = .returned (.agg (L.map byteV).toArray) ∧ Reg.Ext w w' := by
    intro w
    have := ShaR.refOf_any s w hs
    rw [hL] at this
    exact this
  clear hL
  go_enter Tryd.func17, Tryd.ntmps17
  go_wp2_with fail
  rw [zlit]
  have hb0 := box_blk w zeros
  have hx0 := Reg.Ext.alloc w (Obj.cells (zeros.map byteV).toArray 23)
  generalize w.alloc (Obj.cells (zeros.map byteV).toArray 23) = w0 at *
  have HB0 := Lib.hid hb0
  have HX0 := Lib.hid hx0
  clear hb0 hx0
  generalize hgg : w.heap.size = g at HB0 ⊢
  have hgl : w.heap.size ≤ g := by omega
  clear hgg
  refine (HC _).mono ?_
  rintro e w2 ⟨rfl, x2⟩
  have HX2 := Lib.hid (HX0.out.trans x2)
  have HB2 := Lib.hid (HB0.out.ext x2)
  clear x2 HB0 HX0 HC
  rename_i hK
  refine hK _ _ ?_
  refine wpList_store_mid rfl 23 _ _ rfl g 0 ((L).map byteV).toArray rfl rfl (HB2.out.there _ (by rw [List.size_toArray, List.length_map, hl]; simp [zeros_len])) (by rw [List.size_toArray, List.length_map, hl]; kernel_rfl) ?_ ?_
  · refine all_oneCell_toArray fun v hv => ?_
    obtain ⟨x, _, rfl⟩ := List.mem_map.1 hv
    rfl
  simp only [List.toList_toArray]
  simp only [Act.put, Act.eval, List.setIfInBounds_toArray, List.set_cons_zero, List.set_cons_succ, Nat.reduceAdd, Array.getD_eq_getD_getElem?, List.getElem?_toArray, List.getElem?_cons_succ, List.getElem?_cons_zero, Option.getD_some]
  have HB3 := Lib.hid (HB2.out.setAll (L.map byteV) (by rw [List.length_map, List.length_map, hl, zeros_len]))
  have HX3 := Lib.hid (HX2.out.trans_but (But.setCells g (L.map byteV) 0 w2) hgl)
  generalize w2.setCells g 0 (L.map byteV) = w3 at *
  go_wp2_with fail
  exact bodyPost_ret (results_cell_row rfl _ _ g 23 (L.map byteV).toArray (0, 0) _ rfl HB3.out Tryd.underlying23 rfl (by rw [List.size_toArray, List.length_map, hl]; kernel_rfl)) rfl ⟨rfl, HX3.out⟩
end Stp
end Go.Proofs.YtnaijnhpgalmjaaDoor
