/- The walks of package sha: New, Copy. -/
import Derived.Test.YthgbhpeidngjmaaDoorShaDo
set_option linter.unusedSimpArgs false
set_option linter.unusedVariables false
set_option linter.unusedSectionVars false
namespace Go.Proofs.YthgbhpeidngjmaaDoor
open Go.RowKit
namespace Sha
open ShaP

/-- the table of the first state -/
def StartIs (w : World) : Prop := ∀ i, i < 8 → w.cell? ⟨0, i, none⟩ = some (((state []).list.map wv).getD i undef)
theorem StartIs.below {B : Nat} {w w' : World} (h : StartIs w) (hb : Below B w w') (hB : 0 < B) : StartIs w' := fun i hi => by
  rw [World.cell?_of_block (w := w) (a := ⟨0, i, none⟩) (hb.block _ hB)]
  exact h i hi

def zeros74 : Array Value := ((List.replicate 8 (Value.int .u32 0)) ++ (List.replicate 64 (Value.int .u8 0)) ++ [Value.int .i64 0, Value.int .i64 0]).toArray
theorem zero_sha : ∀ w, (zeroValue 41).run Tryd.prog w = .ok (.agg zeros74) w := fun w => by
  as_aux_lemma => kernel_rfl
set_option maxRecDepth 100000 in
set_option maxHeartbeats 1000000 in
theorem copy_any (p T : Nat) (st : S8) (rest : List UInt8) (f size : Nat) (w : World) (h : At w p T st rest f size) :
    Calls Tryd.prog 13 #[.pointer (some ⟨p, 0, none⟩)] w fun e w' => ∃ p', e = .returned (.pointer (some ⟨p', 0, none⟩)) ∧ w.heap.size ≤ p' ∧ At w' p' 41 st rest f size ∧ Reg.Ext w w' := by
  have H := Lib.hid h
  clear h
  go_enter Tryd.func13, Tryd.ntmps13
  have hz := zero_sha w
  go_upto_region 3 with (fail)
  refine wp_region_lit ?_
  iterate 6 go_step
  have hlen : (cellsOf st rest f size).length = 74 := by have := H.out.1; simp [cellsOf, S8.list]; omega
  refine wpList_load_row rfl 41 _ rfl p rfl T (cellsOf st rest f size).toArray (0, 0) _ H.out.2 Tryd.underlying41 rfl (by rw [List.size_toArray, hlen]; kernel_rfl) ?_
  simp only [Act.put, Act.eval, List.setIfInBounds_toArray, List.set_cons_zero, List.set_cons_succ, Nat.reduceAdd, Array.getD_eq_getD_getElem?, List.getElem?_toArray, List.getElem?_cons_succ, List.getElem?_cons_zero, Option.getD_some]
  iterate 3 go_step
  have hb2 := Blk.new w 41 zeros74
  have hx2 := Reg.Ext.alloc w (Obj.cells zeros74 41)
  generalize w.alloc (Obj.cells zeros74 41) = w2 at *
  refine wpList_store_mid rfl 41 _ _ rfl w.heap.size 0 (cellsOf st rest f size).toArray rfl rfl (hb2.there _ (by rw [List.size_toArray, hlen]; exact Nat.le_refl _)) (by rw [List.size_toArray, hlen]; kernel_rfl) ?_ ?_
  · refine all_oneCell_toArray fun v hv => ?_
    simp only [cellsOf, List.mem_append, List.mem_map, List.mem_cons, List.not_mem_nil, or_false] at hv
    rcases hv with (⟨x, _, rfl⟩ | ⟨x, _, rfl⟩) | rfl | rfl <;> rfl
  have HB3 := hb2.setAll (cellsOf st rest f size) (by rw [hlen]; rfl)
  have HX3 := Lib.hid (hx2.trans_but (But.setCells w.heap.size (cellsOf st rest f size) 0 w2) (Nat.le_refl _))
  have HA := Lib.hid (show At (w2.setCells w.heap.size 0 (cellsOf st rest f size)) w.heap.size 41 st rest f size from ⟨H.out.1, HB3⟩)
  clear hb2 hx2 HB3 hz
  simp only [List.toList_toArray]
  generalize w2.setCells w.heap.size 0 (cellsOf st rest f size) = w3 at *
  clear w2
  simp only [Act.put, Act.eval, List.setIfInBounds_toArray, List.set_cons_zero, List.set_cons_succ, Nat.reduceAdd, Array.getD_eq_getD_getElem?, List.getElem?_toArray, List.getElem?_cons_succ, List.getElem?_cons_zero, Option.getD_some]
  go_wp2
  go_ret
  exact ⟨_, rfl, Nat.le_refl _, HA.out, HX3.out⟩
set_option maxRecDepth 100000 in
set_option maxHeartbeats 1000000 in
theorem new_any (w : World) (h : StartIs w) :
    Calls Tryd.prog 7 #[] w fun e w' => ∃ p', e = .returned (.pointer (some ⟨p', 0, none⟩)) ∧ w.heap.size ≤ p' ∧ Abs w' p' 41 [] 0 ∧ Reg.Ext w w' := by
  have key : ∃ a b c d e f g i : W, state [] = ⟨a, b, c, d, e, f, g, i⟩ := ⟨_, _, _, _, _, _, _, _, rfl⟩
  obtain ⟨a, b, c, d, e, f, g, i, hst⟩ := key
  unfold StartIs at h
  rw [hst] at h
  have s0 : w.cell? ⟨0, 0, none⟩ = some (.int .u32 (nv a : Int)) := h 0 (by omega)
  have s1 : w.cell? ⟨0, 1, none⟩ = some (.int .u32 (nv b : Int)) := h 1 (by omega)
  have s2 : w.cell? ⟨0, 2, none⟩ = some (.int .u32 (nv c : Int)) := h 2 (by omega)
  have s3 : w.cell? ⟨0, 3, none⟩ = some (.int .u32 (nv d : Int)) := h 3 (by omega)
  have s4 : w.cell? ⟨0, 4, none⟩ = some (.int .u32 (nv e : Int)) := h 4 (by omega)
  have s5 : w.cell? ⟨0, 5, none⟩ = some (.int .u32 (nv f : Int)) := h 5 (by omega)
  have s6 : w.cell? ⟨0, 6, none⟩ = some (.int .u32 (nv g : Int)) := h 6 (by omega)
  have s7 : w.cell? ⟨0, 7, none⟩ = some (.int .u32 (nv i : Int)) := h 7 (by omega)
  have hz := zero_sha w
  have HST := Lib.hid hst
  clear h hst
  go_enter Tryd.func7, Tryd.ntmps7
  go_wp2_with fail
  go_ret
  refine ⟨_, rfl, Nat.le_refl _, ⟨List.replicate 64 0, ⟨rfl, ?_⟩, rfl⟩, Reg.Ext.alloc _ _⟩
  rw [HST.out]
  exact Blk.new w 41 _
end Sha
end Go.Proofs.YthgbhpeidngjmaaDoor
