/- The walks of package stamp: behind, Parse. -/
import Derived.Test.YtdoplndijlfabaaDoorStampPrint
import Derived.Test.YtdoplndijlfabaaDoorPrefix
import Derived.Laws.ResultCell
set_option linter.unusedSimpArgs false
set_option linter.unusedVariables false
set_option linter.unusedSectionVars false
namespace Go.Proofs.YtdoplndijlfabaaDoor
open Go.RowKit
namespace Stp
theorem results_row2 {P : Program} {fn : Func} {p u : Tmp} {ty : TypeId} (h : fn.results = #[.cell p ty, .tmp u]) (tmps : Array Value) (w : World) (g : Nat) (t : TypeId) (cs : Array Value) (fr : Nat × Nat) (d : TypeDesc)
    (hp : tmps.getD p undef = .pointer (some ⟨g, 0, none⟩)) (hg : w.heap[g]? = some (.cells cs t fr))
    (hu : P.underlying ty = some d) (hd : (match d with | .struct _ | .array _ _ => true | _ => false) = true) (hi : (P.info? ty).map (·.size) = some cs.size) :
    (results fn tmps).run P w = .ok (.tuple #[.agg cs, tmps.getD u undef]) w := by
  rw [results_cell_tmp h, hp]
  simp [asAddr, run_loadVar_row w g t ty cs fr d hg hu hd hi]
def beh (first s : List UInt8) : Option (List UInt8) :=
  if Pre.has first s then (match HexP.unhex (s.drop first.length) with
    | some m => if m.length = 32 then some m else none
    | none => none) else none
def zeros : List UInt8 := List.replicate 32 0
def behV (first s : List UInt8) : Value := match beh first s with
  | some m => .tuple #[.agg (m.map byteV).toArray, .bool true]
  | none => .tuple #[.agg (zeros.map byteV).toArray, .bool false]
theorem zlit : (#[Value.int .u8 0, Value.int .u8 0, Value.int .u8 0, Value.int .u8 0, Value.int .u8 0, Value.int .u8 0, Value.int .u8 0, Value.int .u8 0, Value.int .u8 0, Value.int .u8 0, Value.int .u8 0, Value.int .u8 0, Value.int .u8 0, Value.int .u8 0, Value.int .u8 0, Value.int .u8 0, Value.int .u8 0, Value.int .u8 0, Value.int .u8 0, Value.int .u8 0, Value.int .u8 0, Value.int .u8 0, Value.int .u8 0, Value.int .u8 0, Value.int .u8 0, Value.int .u8 0, Value.int .u8 0, Value.int .u8 0, Value.int .u8 0, Value.int .u8 0, Value.int .u8 0, Value.int .u8 0] : Array Value) = (zeros.map byteV).toArray := by rfl
theorem zeros_len : zeros.length = 32 := by simp [zeros]
set_option maxRecDepth 100000 in
set_option maxHeartbeats 2000000 in
theorem behind_any (s p : ByteArray) (w : World) (hs : s.size ≤ 274877906944) (hp : p.size ≤ 274877906944) :
    Calls Tryd.prog 52 #[.string s, .string p] w fun e w' => e = .returned (behV p.data.toList s.data.toList) ∧ Reg.Ext w w' := by
  go_enter Tryd.func52, Tryd.ntmps52
  go_wp2_with fail
  rw [zlit]
  have hb0 := box_blk w zeros
  have hx0 := Reg.Ext.alloc w (Obj.cells (zeros.map byteV).toArray 24)
  generalize w.alloc (Obj.cells (zeros.map byteV).toArray 24) = w0 at *
  have HB0 := Lib.hid hb0
  have HX0 := Lib.hid hx0
  clear hb0 hx0
  generalize hgg : w.heap.size = g at HB0 ⊢
  have hgl : w.heap.size ≤ g := by omega
  clear hgg
  refine (Pre.cut_any s p w0 (by omega) (by omega)).mono ?_
  rintro e w' ⟨rfl, rfl⟩
  cases hh : Pre.has p.data.toList s.data.toList with
  | false =>
    have HV := Lib.hid (show behV p.data.toList s.data.toList = .tuple #[.agg (zeros.map byteV).toArray, .bool false] by unfold behV beh; rw [hh]; rfl)
    rw [show Pre.cutV p s = .tuple #[.string s, .bool false] by unfold Pre.cutV; rw [hh]; rfl]
    clear hh
    go_upto_region 3 with (fail)
    refine wp_region_lit ?_
    refine wpList_load_row rfl 24 _ rfl g rfl 24 ((zeros).map byteV).toArray (0, 0) _ HB0.out Tryd.underlying24 rfl (by rw [List.size_toArray, List.length_map, zeros_len]; kernel_rfl) ?_
    simp only [Act.put, Act.eval, List.setIfInBounds_toArray, List.set_cons_zero, List.set_cons_succ, Nat.reduceAdd, Array.getD_eq_getD_getElem?, List.getElem?_toArray, List.getElem?_cons_succ, List.getElem?_cons_zero, Option.getD_some]
    refine wpList_store_mid rfl 24 _ _ rfl g 0 ((zeros).map byteV).toArray rfl rfl (HB0.out.there _ (by rw [List.size_toArray]; exact Nat.le_refl _)) (by rw [List.size_toArray, List.length_map, zeros_len]; kernel_rfl) ?_ ?_
    · refine all_oneCell_toArray fun v hv => ?_
      obtain ⟨x, _, rfl⟩ := List.mem_map.1 hv
      rfl
    simp only [List.toList_toArray]
    simp only [Act.put, Act.eval, List.setIfInBounds_toArray, List.set_cons_zero, List.set_cons_succ, Nat.reduceAdd, Array.getD_eq_getD_getElem?, List.getElem?_toArray, List.getElem?_cons_succ, List.getElem?_cons_zero, Option.getD_some]
    have HBN := Lib.hid (HB0.out.setAll ((zeros).map byteV) rfl)
    have HXN := Lib.hid (HX0.out.trans_but (But.setCells g ((zeros).map byteV) 0 w0) hgl)
    generalize w0.setCells g 0 ((zeros).map byteV) = wn at *
    go_wp2_with fail
    exact bodyPost_ret (results_row2 rfl _ _ g 24 ((zeros).map byteV).toArray (0, 0) _ rfl HBN.out Tryd.underlying24 rfl (by rw [List.size_toArray, List.length_map, zeros_len]; kernel_rfl)) rfl ⟨by rw [HV.out]; rfl, HXN.out⟩
  | true =>
    have hle := Pre.has_le hh
    have hd : s.data.toList.drop p.data.toList.length = (s.extract p.size s.size).data.toList := by rw [ext_from, len_data]
    have hxs : (s.extract p.size s.size).size ≤ 274877906944 := ext_le _ _ _ hs
    have hB : beh p.data.toList s.data.toList = (match HexP.unhex (s.extract p.size s.size).data.toList with
        | some m => if m.length = 32 then some m else none
        | none => none) := by unfold beh; rw [hh, if_pos rfl, hd]
    rw [show Pre.cutV p s = .tuple #[.string (s.extract p.size s.size), .bool true] by unfold Pre.cutV; rw [hh]; rfl]
    clear hh hd
    generalize s.extract p.size s.size = r at *
    go_wp2_with fail
    refine (Hex.unhex_any r w0 hxs).mono ?_
    rintro e w1 ⟨rfl, x1⟩
    have HX1 := Lib.hid (HX0.out.trans x1)
    have HB1 := Lib.hid (HB0.out.ext x1)
    clear x1 HX0 HB0
    cases hu : HexP.unhex r.data.toList with
    | none =>
      have HV := Lib.hid (show behV p.data.toList s.data.toList = .tuple #[.agg (zeros.map byteV).toArray, .bool false] by unfold behV; rw [hB, hu])
      rw [show Hex.unhexV r.data.toList = .tuple #[.string ⟨#[]⟩, .int .i64 3] by unfold Hex.unhexV; rw [hu]]
      clear hu hB
      go_upto_region 6 with (fail)
      refine wp_region_lit ?_
      refine wpList_load_row rfl 24 _ rfl g rfl 24 ((zeros).map byteV).toArray (0, 0) _ HB1.out Tryd.underlying24 rfl (by rw [List.size_toArray, List.length_map, zeros_len]; kernel_rfl) ?_
      simp only [Act.put, Act.eval, List.setIfInBounds_toArray, List.set_cons_zero, List.set_cons_succ, Nat.reduceAdd, Array.getD_eq_getD_getElem?, List.getElem?_toArray, List.getElem?_cons_succ, List.getElem?_cons_zero, Option.getD_some]
      refine wpList_store_mid rfl 24 _ _ rfl g 0 ((zeros).map byteV).toArray rfl rfl (HB1.out.there _ (by rw [List.size_toArray]; exact Nat.le_refl _)) (by rw [List.size_toArray, List.length_map, zeros_len]; kernel_rfl) ?_ ?_
      · refine all_oneCell_toArray fun v hv => ?_
        obtain ⟨x, _, rfl⟩ := List.mem_map.1 hv
        rfl
      simp only [List.toList_toArray]
      simp only [Act.put, Act.eval, List.setIfInBounds_toArray, List.set_cons_zero, List.set_cons_succ, Nat.reduceAdd, Array.getD_eq_getD_getElem?, List.getElem?_toArray, List.getElem?_cons_succ, List.getElem?_cons_zero, Option.getD_some]
      have HBN := Lib.hid (HB1.out.setAll ((zeros).map byteV) rfl)
      have HXN := Lib.hid (HX1.out.trans_but (But.setCells g ((zeros).map byteV) 0 w1) hgl)
      generalize w1.setCells g 0 ((zeros).map byteV) = wn at *
      go_wp2_with fail
      exact bodyPost_ret (results_row2 rfl _ _ g 24 ((zeros).map byteV).toArray (0, 0) _ rfl HBN.out Tryd.underlying24 rfl (by rw [List.size_toArray, List.length_map, zeros_len]; kernel_rfl)) rfl ⟨by rw [HV.out]; rfl, HXN.out⟩
    | some m =>
      rw [show Hex.unhexV r.data.toList = .tuple #[.string ⟨m.toArray⟩, .int .i64 0] by unfold Hex.unhexV; rw [hu]]
      obtain ⟨M, hM⟩ : ∃ M : ByteArray, M = ⟨m.toArray⟩ := ⟨_, rfl⟩
      have hMl : M.data.toList = m := by rw [hM]
      have hMs : M.size = m.length := by rw [← len_data, hMl]
      rw [← hM]
      clear hM
      by_cases h32 : m.length = 32
      · have HV := Lib.hid (show behV p.data.toList s.data.toList = .tuple #[.agg (m.map byteV).toArray, .bool true] by unfold behV; rw [hB, hu]; simp only; rw [if_pos h32])
        have d1 : ((M.size : Int) != 32) = false := by rw [bne_eq_false_iff_eq]; omega
        clear hu hB
        go_upto_region 7 with (fail)
        refine wp_region_lit ?_
        iterate 6 go_step
        have hz : (zeros.map byteV).length = 32 := by rw [List.length_map, zeros_len]
        refine wpList_copy_str rfl _ _ _ _ rfl 5 Tryd.underlying53 (fun _ => by kernel_rfl) g 0 32 32 rfl M rfl (fun j hj => by rw [Nat.zero_add, HB1.out.cellAt (by omega)]; rfl) (fun j _ => HB1.out.frozen _) ?_
        have hmin : min M.size 32 = 32 := by omega
        have hl1 : ((M.data.toList.take (min M.size 32)).map byteV) = m.map byteV := by rw [hmin, hMl, List.take_of_length_le (by omega)]
        rw [hl1]
        have HB2 := Lib.hid (HB1.out.setAll (m.map byteV) (by rw [List.length_map, hz]; exact h32))
        have HX2 := Lib.hid (HX1.out.trans_but (But.setCells g (m.map byteV) 0 w1) hgl)
        generalize w1.setCells g 0 (m.map byteV) = w2 at *
        clear hmin hl1 hz
        simp only [Act.put, Act.eval, List.setIfInBounds_toArray, List.set_cons_zero, List.set_cons_succ, Nat.reduceAdd, Array.getD_eq_getD_getElem?, List.getElem?_toArray, List.getElem?_cons_succ, List.getElem?_cons_zero, Option.getD_some]
        go_upto_region 8 with (fail)
        refine wp_region_lit ?_
        refine wpList_load_row rfl 24 _ rfl g rfl 24 ((m).map byteV).toArray (0, 0) _ HB2.out Tryd.underlying24 rfl (by rw [List.size_toArray, List.length_map, h32]; kernel_rfl) ?_
        simp only [Act.put, Act.eval, List.setIfInBounds_toArray, List.set_cons_zero, List.set_cons_succ, Nat.reduceAdd, Array.getD_eq_getD_getElem?, List.getElem?_toArray, List.getElem?_cons_succ, List.getElem?_cons_zero, Option.getD_some]
        refine wpList_store_mid rfl 24 _ _ rfl g 0 ((m).map byteV).toArray rfl rfl (HB2.out.there _ (by rw [List.size_toArray]; exact Nat.le_refl _)) (by rw [List.size_toArray, List.length_map, h32]; kernel_rfl) ?_ ?_
        · refine all_oneCell_toArray fun v hv => ?_
          obtain ⟨x, _, rfl⟩ := List.mem_map.1 hv
          rfl
        simp only [List.toList_toArray]
        simp only [Act.put, Act.eval, List.setIfInBounds_toArray, List.set_cons_zero, List.set_cons_succ, Nat.reduceAdd, Array.getD_eq_getD_getElem?, List.getElem?_toArray, List.getElem?_cons_succ, List.getElem?_cons_zero, Option.getD_some]
        have HBN := Lib.hid (HB2.out.setAll ((m).map byteV) rfl)
        have HXN := Lib.hid (HX2.out.trans_but (But.setCells g ((m).map byteV) 0 w2) hgl)
        generalize w2.setCells g 0 ((m).map byteV) = wn at *
        go_wp2_with fail
        exact bodyPost_ret (results_row2 rfl _ _ g 24 ((m).map byteV).toArray (0, 0) _ rfl HBN.out Tryd.underlying24 rfl (by rw [List.size_toArray, List.length_map, h32]; kernel_rfl)) rfl ⟨by rw [HV.out]; rfl, HXN.out⟩
      · have HV := Lib.hid (show behV p.data.toList s.data.toList = .tuple #[.agg (zeros.map byteV).toArray, .bool false] by unfold behV; rw [hB, hu]; simp only; rw [if_neg h32])
        have d1 : ((M.size : Int) != 32) = true := by rw [bne_iff_ne]; omega
        clear hu hB
        go_upto_region 6 with (fail)
        refine wp_region_lit ?_
        refine wpList_load_row rfl 24 _ rfl g rfl 24 ((zeros).map byteV).toArray (0, 0) _ HB1.out Tryd.underlying24 rfl (by rw [List.size_toArray, List.length_map, zeros_len]; kernel_rfl) ?_
        simp only [Act.put, Act.eval, List.setIfInBounds_toArray, List.set_cons_zero, List.set_cons_succ, Nat.reduceAdd, Array.getD_eq_getD_getElem?, List.getElem?_toArray, List.getElem?_cons_succ, List.getElem?_cons_zero, Option.getD_some]
        refine wpList_store_mid rfl 24 _ _ rfl g 0 ((zeros).map byteV).toArray rfl rfl (HB1.out.there _ (by rw [List.size_toArray]; exact Nat.le_refl _)) (by rw [List.size_toArray, List.length_map, zeros_len]; kernel_rfl) ?_ ?_
        · refine all_oneCell_toArray fun v hv => ?_
          obtain ⟨x, _, rfl⟩ := List.mem_map.1 hv
          rfl
        simp only [List.toList_toArray]
        simp only [Act.put, Act.eval, List.setIfInBounds_toArray, List.set_cons_zero, List.set_cons_succ, Nat.reduceAdd, Array.getD_eq_getD_getElem?, List.getElem?_toArray, List.getElem?_cons_succ, List.getElem?_cons_zero, Option.getD_some]
        have HBN := Lib.hid (HB1.out.setAll ((zeros).map byteV) rfl)
        have HXN := Lib.hid (HX1.out.trans_but (But.setCells g ((zeros).map byteV) 0 w1) hgl)
        generalize w1.setCells g 0 ((zeros).map byteV) = wn at *
        go_wp2_with fail
        exact bodyPost_ret (results_row2 rfl _ _ g 24 ((zeros).map byteV).toArray (0, 0) _ rfl HBN.out Tryd.underlying24 rfl (by rw [List.size_toArray, List.length_map, zeros_len]; kernel_rfl)) rfl ⟨by rw [HV.out]; rfl, HXN.out⟩
def behL (first s : List UInt8) : List UInt8 := (beh first s).getD zeros
def behB (first s : List UInt8) : Bool := (beh first s).isSome
theorem behV_two (first s : List UInt8) : behV first s = .tuple #[.agg ((behL first s).map byteV).toArray, .bool (behB first s)] := by
  unfold behV behL behB
  cases beh first s <;> rfl
theorem beh_len {first s m : List UInt8} (h : beh first s = some m) : m.length = 32 := by
  unfold beh at h
  split at h
  · split at h
    · split at h
      · injection h with h; subst h; assumption
      · cases h
    · cases h
  · cases h
theorem behL_len (first s : List UInt8) : (behL first s).length = 32 := by
  unfold behL
  cases h : beh first s with
  | none => exact zeros_len
  | some m => exact beh_len h
def parV (first s : List UInt8) : Value := .tuple #[.agg ((behL first s).map byteV).toArray, .int .i64 (if behB first s then 0 else 3)]
set_option maxRecDepth 100000 in
set_option maxHeartbeats 2000000 in
theorem parse_any (s : ByteArray) (w : World) (hs : s.size ≤ 274877906944) :
    Calls Tryd.prog 38 #[.string s] w fun e w' => e = .returned (parV pA s.data.toList) ∧ Reg.Ext w w' := by
  go_enter Tryd.func38, Tryd.ntmps38
  go_wp2_with fail
  rw [zlit]
  have hb0 := box_blk w zeros
  have hx0 := Reg.Ext.alloc w (Obj.cells (zeros.map byteV).toArray 24)
  generalize w.alloc (Obj.cells (zeros.map byteV).toArray 24) = w0 at *
  have HB0 := Lib.hid hb0
  have HX0 := Lib.hid hx0
  clear hb0 hx0
  generalize hgg : w.heap.size = g at HB0 ⊢
  have hgl : w.heap.size ≤ g := by omega
  clear hgg
  refine (behind_any s ⟨pA.toArray⟩ w0 hs (by rw [siz]; decide)).mono ?_
  rintro e w1 ⟨rfl, x1⟩
  rw [lst, behV_two]
  have hV : parV pA s.data.toList = .tuple #[.agg ((behL pA s.data.toList).map byteV).toArray, .int .i64 (if behB pA s.data.toList then 0 else 3)] := rfl
  have HV := Lib.hid hV
  clear hV
  have HX1 := Lib.hid (HX0.out.trans x1)
  have HB1 := Lib.hid (HB0.out.ext x1)
  have hl := behL_len pA s.data.toList
  generalize behL pA s.data.toList = L at *
  generalize behB pA s.data.toList = b at *
  clear x1 HX0 HB0
  rename_i hK
  refine hK _ _ ?_
  iterate 12 go_step
  rw [zlit]
  have hbf := box_blk w1 zeros
  have hxf := Reg.Ext.alloc w1 (Obj.cells (zeros.map byteV).toArray 24)
  have hxs := hxf.trans_but (But.setCells w1.heap.size ((L).map byteV) 0 _) (Nat.le_refl _)
  generalize w1.alloc (Obj.cells (zeros.map byteV).toArray 24) = wf at *
  have HBF := Lib.hid hbf
  clear hbf hxf
  refine wpList_store_mid rfl 24 _ _ rfl w1.heap.size 0 ((L).map byteV).toArray rfl rfl (HBF.out.there _ (by rw [List.size_toArray, List.length_map, hl]; simp [zeros_len])) (by rw [List.size_toArray, List.length_map, hl]; kernel_rfl) ?_ ?_
  · refine all_oneCell_toArray fun v hv => ?_
    obtain ⟨x, _, rfl⟩ := List.mem_map.1 hv
    rfl
  simp only [List.toList_toArray]
  simp only [Act.put, Act.eval, List.setIfInBounds_toArray, List.set_cons_zero, List.set_cons_succ, Nat.reduceAdd, Array.getD_eq_getD_getElem?, List.getElem?_toArray, List.getElem?_cons_succ, List.getElem?_cons_zero, Option.getD_some]
  have hbs := HBF.out.setAll ((L).map byteV) (by rw [List.length_map, List.length_map, hl, zeros_len])
  generalize wf.setCells w1.heap.size 0 ((L).map byteV) = w2 at *
  have B2 := Lib.hid hbs
  have X2 := Lib.hid hxs
  clear hbs hxs HBF
  generalize hgf : w1.heap.size = g2 at *
  have hne2 : w1.heap.size ≤ g2 := by omega
  clear hgf
  have hgg2 : g ≠ g2 := by have := HB1.out.lt; omega
  have R2 := Lib.hid (HB1.out.ext X2.out)
  have HX2 := Lib.hid (HX1.out.trans X2.out)
  clear X2 HX1 HB1
  cases b with
  | false =>
    go_upto_region 3 with (fail)
    refine wp_region_lit ?_
    refine wpList_load_row rfl 24 _ rfl g2 rfl 24 (L.map byteV).toArray (0, 0) _ B2.out Tryd.underlying24 rfl (by rw [List.size_toArray, List.length_map, hl]; kernel_rfl) ?_
    simp only [Act.put, Act.eval, List.setIfInBounds_toArray, List.set_cons_zero, List.set_cons_succ, Nat.reduceAdd, Array.getD_eq_getD_getElem?, List.getElem?_toArray, List.getElem?_cons_succ, List.getElem?_cons_zero, Option.getD_some]
    refine wpList_store_mid rfl 24 _ _ rfl g 0 ((L).map byteV).toArray rfl rfl (R2.out.there _ (by rw [List.size_toArray, List.length_map, hl]; simp [zeros_len])) (by rw [List.size_toArray, List.length_map, hl]; kernel_rfl) ?_ ?_
    · refine all_oneCell_toArray fun v hv => ?_
      obtain ⟨x, _, rfl⟩ := List.mem_map.1 hv
      rfl
    simp only [List.toList_toArray]
    simp only [Act.put, Act.eval, List.setIfInBounds_toArray, List.set_cons_zero, List.set_cons_succ, Nat.reduceAdd, Array.getD_eq_getD_getElem?, List.getElem?_toArray, List.getElem?_cons_succ, List.getElem?_cons_zero, Option.getD_some]
    have HB3 := Lib.hid (R2.out.setAll (L.map byteV) (by rw [List.length_map, List.length_map, hl, zeros_len]))
    have HX3 := Lib.hid (HX2.out.trans_but (But.setCells g (L.map byteV) 0 w2) hgl)
    generalize w2.setCells g 0 (L.map byteV) = w3 at *
    go_wp2_with fail
    exact bodyPost_ret (results_row2 rfl _ _ g 24 (L.map byteV).toArray (0, 0) _ rfl HB3.out Tryd.underlying24 rfl (by rw [List.size_toArray, List.length_map, hl]; kernel_rfl)) rfl ⟨by rw [HV.out]; rfl, HX3.out⟩
  | true =>
    go_upto_region 4 with (fail)
    refine wp_region_lit ?_
    refine wpList_load_row rfl 24 _ rfl g2 rfl 24 (L.map byteV).toArray (0, 0) _ B2.out Tryd.underlying24 rfl (by rw [List.size_toArray, List.length_map, hl]; kernel_rfl) ?_
    simp only [Act.put, Act.eval, List.setIfInBounds_toArray, List.set_cons_zero, List.set_cons_succ, Nat.reduceAdd, Array.getD_eq_getD_getElem?, List.getElem?_toArray, List.getElem?_cons_succ, List.getElem?_cons_zero, Option.getD_some]
    refine wpList_store_mid rfl 24 _ _ rfl g 0 ((L).map byteV).toArray rfl rfl (R2.out.there _ (by rw [List.size_toArray, List.length_map, hl]; simp [zeros_len])) (by rw [List.size_toArray, List.length_map, hl]; kernel_rfl) ?_ ?_
    · refine all_oneCell_toArray fun v hv => ?_
      obtain ⟨x, _, rfl⟩ := List.mem_map.1 hv
      rfl
    simp only [List.toList_toArray]
    simp only [Act.put, Act.eval, List.setIfInBounds_toArray, List.set_cons_zero, List.set_cons_succ, Nat.reduceAdd, Array.getD_eq_getD_getElem?, List.getElem?_toArray, List.getElem?_cons_succ, List.getElem?_cons_zero, Option.getD_some]
    have HB3 := Lib.hid (R2.out.setAll (L.map byteV) (by rw [List.length_map, List.length_map, hl, zeros_len]))
    have HX3 := Lib.hid (HX2.out.trans_but (But.setCells g (L.map byteV) 0 w2) hgl)
    generalize w2.setCells g 0 (L.map byteV) = w3 at *
    go_wp2_with fail
    exact bodyPost_ret (results_row2 rfl _ _ g 24 (L.map byteV).toArray (0, 0) _ rfl HB3.out Tryd.underlying24 rfl (by rw [List.size_toArray, List.length_map, hl]; kernel_rfl)) rfl ⟨by rw [HV.out]; rfl, HX3.out⟩
end Stp
end Go.Proofs.YtdoplndijlfabaaDoor
