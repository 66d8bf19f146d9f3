/- The reference's function of chapter 4: Behind. -/
import Derived.Test.YtdoplndijlfabaaDoorStampRefD
import Derived.Test.YtdoplndijlfabaaDoorHexRef2
set_option linter.unusedSimpArgs false
set_option linter.unusedVariables false
set_option linter.unusedSectionVars false
namespace Go.Proofs.YtdoplndijlfabaaDoor
open Go.RowKit
namespace Stp
def cpy (l : List UInt8) (i : Nat) : List UInt8 := l.take i ++ List.replicate (32 - i) 0
theorem cpy_zero (l : List UInt8) : cpy l 0 = zeros := by simp [cpy, zeros]
theorem cpy_len (l : List UInt8) (h : l.length = 32) (i : Nat) (hi : i ≤ 32) : (cpy l i).length = 32 := by
  unfold cpy
  rw [List.length_append, List.length_take, List.length_replicate]; omega
theorem cpy_set (l : List UInt8) (h : l.length = 32) (i : Nat) (hi : i < l.length) : (cpy l i).set i l[i] = cpy l (i + 1) := by
  unfold cpy
  rw [List.set_append_right _ _ (by rw [List.length_take]; omega), List.length_take, show i - min i l.length = 0 by omega, show 32 - i = (32 - (i + 1)) + 1 by omega, List.replicate_succ, List.set_cons_zero,
    List.take_succ_eq_append_getElem hi, List.append_assoc]
  rfl
theorem cpy_end (l : List UInt8) (h : l.length = 32) : cpy l 32 = l := by
  unfold cpy
  rw [List.take_of_length_le (by omega)]; simp
theorem beh_size {first s : List UInt8} (h : s.length ≠ first.length + 64) : beh first s = none := by
  cases hb : beh first s with
  | none => rfl
  | some m =>
    exfalso
    have hl := beh_len hb
    unfold beh at hb
    split at hb
    · rename_i hp
      unfold Pre.has at hp
      rw [List.isPrefixOf_iff_prefix] at hp
      have hle := hp.length_le
      split at hb
      · rename_i m' hm
        split at hb
        · injection hb with hb
          subst hb
          have := HexP.unhex_length hm
          rw [List.length_drop] at this
          omega
        · cases hb
      · cases hb
    · cases hb
set_option maxRecDepth 100000 in
set_option maxHeartbeats 4000000 in
theorem behindR_any (p s : ByteArray) (w : World) (hs : s.size ≤ 274877906944) (hp : p.size ≤ 274877906944) :
    Calls Tryd.prog 23 #[.string p, .string s] w fun e w' => e = .returned (behV p.data.toList s.data.toList) ∧ Reg.Ext w w' := by
  go_enter Tryd.func23, Tryd.ntmps23
  go_upto_region 1 with (fail)
  rw [zlit]
  have hb4 := box_blk w zeros
  have hx4 := Reg.Ext.alloc w (Obj.cells (zeros.map byteV).toArray 24)
  have hs4 : (w.alloc (Obj.cells (zeros.map byteV).toArray 24)).heap.size = w.heap.size + 1 := Array.size_push _
  generalize w.alloc (Obj.cells (zeros.map byteV).toArray 24) = w4 at *
  refine wp_region_lit ?_
  iterate 6 go_step
  rw [zlit]
  have hb6 := box_blk w4 zeros
  have hx6 := Reg.Ext.alloc w4 (Obj.cells (zeros.map byteV).toArray 24)
  generalize w4.alloc (Obj.cells (zeros.map byteV).toArray 24) = w5 at *
  rw [hs4] at hb6
  have HB4 := Lib.hid (hb4.ext hx6)
  have HB6 := Lib.hid hb6
  have HX := Lib.hid (hx4.trans hx6)
  clear hb4 hx4 hb6 hx6 hs4
  generalize hgg : w.heap.size = g4 at HB4 HB6 ⊢
  have hg4 : w.heap.size ≤ g4 := by omega
  have L46 : g4 < g4 + 1 := by omega
  generalize hgh : g4 + 1 = g6 at HB6 L46 ⊢
  have hg6 : w.heap.size ≤ g6 := by omega
  clear hgg hgh
  refine wpList_store_mid rfl 24 _ _ rfl g6 0 (zeros.map byteV).toArray rfl rfl (HB6.out.there _ (by rw [List.size_toArray]; exact Nat.le_refl _)) (by rw [List.size_toArray, List.length_map, zeros_len]; kernel_rfl) ?_ ?_
  · refine all_oneCell_toArray fun v hv => ?_
    obtain ⟨x, _, rfl⟩ := List.mem_map.1 hv
    rfl
  simp only [List.toList_toArray]
  simp only [Act.put, Act.eval, List.setIfInBounds_toArray, List.set_cons_zero, List.set_cons_succ, Nat.reduceAdd, Array.getD_eq_getD_getElem?, List.getElem?_toArray, List.getElem?_cons_succ, List.getElem?_cons_zero, Option.getD_some]
  have hbs := HB6.out.setAll (zeros.map byteV) rfl
  have HB4 := Lib.hid (HB4.out.but (But.setCells g6 (zeros.map byteV) 0 w5) (by omega))
  have HX := Lib.hid (HX.out.trans_but (But.setCells g6 (zeros.map byteV) 0 w5) hg6)
  generalize w5.setCells g6 0 (zeros.map byteV) = w6 at *
  have HB6 := Lib.hid hbs
  clear hbs
  by_cases hsz : s.size = p.size + 64
  · have d1 : ((s.size : Int) != (p.size : Int) + 64) = false := by rw [bne_eq_false_iff_eq]; omega
    have hle : p.size ≤ s.size := by omega
    have hpre := Pre.ext_pre s p hle
    have HSZ := Lib.hid hsz
    clear hsz
    cases hh : Pre.has p.data.toList s.data.toList with
    | false =>
      rw [hh] at hpre
      have HV := Lib.hid (show behV p.data.toList s.data.toList = .tuple #[.agg (zeros.map byteV).toArray, .bool false] by unfold behV beh; rw [hh]; rfl)
      clear hh
      go_upto_region 3 with (fail)
      refine wp_region_lit ?_
      refine wpList_load_row rfl 24 _ rfl g6 rfl 24 ((zeros).map byteV).toArray (0, 0) _ HB6.out Tryd.underlying24 rfl (by rw [List.size_toArray, List.length_map, zeros_len]; kernel_rfl) ?_
      simp only [Act.put, Act.eval, List.setIfInBounds_toArray, List.set_cons_zero, List.set_cons_succ, Nat.reduceAdd, Array.getD_eq_getD_getElem?, List.getElem?_toArray, List.getElem?_cons_succ, List.getElem?_cons_zero, Option.getD_some]
      refine wpList_store_mid rfl 24 _ _ rfl g4 0 ((zeros).map byteV).toArray rfl rfl (HB4.out.there _ (by simp [zeros_len, zeros_len])) (by rw [List.size_toArray, List.length_map, zeros_len]; kernel_rfl) ?_ ?_
      · refine all_oneCell_toArray fun v hv => ?_
        obtain ⟨x, _, rfl⟩ := List.mem_map.1 hv
        rfl
      simp only [List.toList_toArray]
      simp only [Act.put, Act.eval, List.setIfInBounds_toArray, List.set_cons_zero, List.set_cons_succ, Nat.reduceAdd, Array.getD_eq_getD_getElem?, List.getElem?_toArray, List.getElem?_cons_succ, List.getElem?_cons_zero, Option.getD_some]
      have HBN := Lib.hid (HB4.out.setAll ((zeros).map byteV) (by simp [zeros_len, zeros_len]))
      have HXN := Lib.hid (HX.out.trans_but (But.setCells g4 ((zeros).map byteV) 0 _) hg4)
      generalize World.setCells _ g4 0 ((zeros).map byteV) = wn at *
      go_wp2_with fail
      exact bodyPost_ret (results_row2 rfl _ _ g4 24 ((zeros).map byteV).toArray (0, 0) _ rfl HBN.out Tryd.underlying24 rfl (by rw [List.size_toArray, List.length_map, zeros_len]; kernel_rfl)) rfl ⟨by rw [HV.out]; rfl, HXN.out⟩
    | true =>
      rw [hh] at hpre
      have hd : s.data.toList.drop p.data.toList.length = (s.extract p.size s.size).data.toList := by rw [ext_from, len_data]
      have hB : beh p.data.toList s.data.toList = (match HexP.unhex (s.extract p.size s.size).data.toList with
          | some m => if m.length = 32 then some m else none
          | none => none) := by unfold beh; rw [hh, if_pos rfl, hd]; rfl
      have hrs : (s.extract p.size s.size).size = 64 := by rw [← len_data, ← hd, List.length_drop, len_data, len_data, HSZ.out]; omega
      clear hh hd
      go_wp2_with fail
      generalize s.extract p.size s.size = r at *
      refine (Hex.unhexR_any r w6 (by omega)).mono ?_
      rintro e w7 ⟨rfl, x7⟩
      have HX := Lib.hid (HX.out.trans x7)
      have HB4 := Lib.hid (HB4.out.ext x7)
      have HB6 := Lib.hid (HB6.out.ext x7)
      clear x7
      cases hu : HexP.unhex r.data.toList with
      | none =>
        have HV := Lib.hid (show behV p.data.toList s.data.toList = .tuple #[.agg (zeros.map byteV).toArray, .bool false] by unfold behV; rw [hB, hu])
        rw [show Hex.unhexV r.data.toList = .tuple #[.string ⟨#[]⟩, .int .i64 3] by unfold Hex.unhexV; rw [hu]]
        clear hu hB
        go_upto_region 6 with (fail)
        refine wp_region_lit ?_
        refine wpList_load_row rfl 24 _ rfl g6 rfl 24 ((zeros).map byteV).toArray (0, 0) _ HB6.out Tryd.underlying24 rfl (by rw [List.size_toArray, List.length_map, zeros_len]; kernel_rfl) ?_
        simp only [Act.put, Act.eval, List.setIfInBounds_toArray, List.set_cons_zero, List.set_cons_succ, Nat.reduceAdd, Array.getD_eq_getD_getElem?, List.getElem?_toArray, List.getElem?_cons_succ, List.getElem?_cons_zero, Option.getD_some]
        refine wpList_store_mid rfl 24 _ _ rfl g4 0 ((zeros).map byteV).toArray rfl rfl (HB4.out.there _ (by simp [zeros_len, zeros_len])) (by rw [List.size_toArray, List.length_map, zeros_len]; kernel_rfl) ?_ ?_
        · refine all_oneCell_toArray fun v hv => ?_
          obtain ⟨x, _, rfl⟩ := List.mem_map.1 hv
          rfl
        simp only [List.toList_toArray]
        simp only [Act.put, Act.eval, List.setIfInBounds_toArray, List.set_cons_zero, List.set_cons_succ, Nat.reduceAdd, Array.getD_eq_getD_getElem?, List.getElem?_toArray, List.getElem?_cons_succ, List.getElem?_cons_zero, Option.getD_some]
        have HBN := Lib.hid (HB4.out.setAll ((zeros).map byteV) (by simp [zeros_len, zeros_len]))
        have HXN := Lib.hid (HX.out.trans_but (But.setCells g4 ((zeros).map byteV) 0 _) hg4)
        generalize World.setCells _ g4 0 ((zeros).map byteV) = wn at *
        go_wp2_with fail
        exact bodyPost_ret (results_row2 rfl _ _ g4 24 ((zeros).map byteV).toArray (0, 0) _ rfl HBN.out Tryd.underlying24 rfl (by rw [List.size_toArray, List.length_map, zeros_len]; kernel_rfl)) rfl ⟨by rw [HV.out]; rfl, HXN.out⟩
      | some m =>
        rw [show Hex.unhexV r.data.toList = .tuple #[.string ⟨m.toArray⟩, .int .i64 0] by unfold Hex.unhexV; rw [hu]]
        have h32 : m.length = 32 := by
          have := HexP.unhex_length hu
          rw [len_data] at this
          omega
        obtain ⟨M, hM⟩ : ∃ M : ByteArray, M = ⟨m.toArray⟩ := ⟨_, rfl⟩
        have hMl : M.data.toList = m := by rw [hM]
        have hMs : M.size = 32 := by rw [← len_data, hMl, h32]
        rw [← hM]
        have HV := Lib.hid (show behV p.data.toList s.data.toList = .tuple #[.agg (m.map byteV).toArray, .bool true] by unfold behV; rw [hB, hu]; simp only; rw [if_pos h32])
        have HM := Lib.hid hMl
        have HB6' : Hid (Blk w7 g6 24 ((cpy m 0).map byteV)) := by
          show Blk _ _ _ _
          rw [cpy_zero]; exact HB6.out
        clear hu hB hM hMl HB6
        go_wp2_with fail
        go_loopw [9] (fun i wr => ∃ k : Nat, k ≤ 32 ∧ i = .int .i64 k ∧ Hid (Blk wr g6 24 ((cpy m k).map byteV)) ∧ Hid (But g6 w7 wr)) (fun i _ => 32 - (intOf i).toNat)
        case atStart => exact ⟨0, by omega, rfl, HB6', But.refl _ _⟩
        case round =>
          obtain ⟨k, hk, rfl, HB, HU⟩ := hrel
          clear HB6'
          by_cases hk32 : k < 32
          · have d3 : decide ((k : Int) < 32) = true := by rw [decide_eq_true_iff]; omega
            have hkM : k < M.size := by omega
            have hkm : k < m.length := by omega
            have hMk : M[k] = m[k] := by
              have e : M.data.toList[k]? = m[k]? := by rw [HM.out]
              rw [Array.getElem?_toList, Array.getElem?_eq_getElem (show k < M.data.size from hkM), List.getElem?_eq_getElem hkm] at e
              injection e with e
            have hset := HB.out.set_ k (byteV m[k])
            rw [← List.map_set, cpy_set m h32 k hkm, ← hMk] at hset
            have hbut := HU.out.trans (But.set_ g6 wr k (byteV M[k]))
            obtain ⟨v0, hv0⟩ : ∃ v, wr.cell? ⟨g6, k, none⟩ = some v := ⟨_, HB.out.cellAt (by rw [List.length_map, cpy_len m h32 k hk]; exact hk32)⟩
            have hf0 := HB.out.frozen k
            have HSET := Lib.hid hset
            have HBUT := Lib.hid hbut
            clear hset hbut HB HU hMk
            unfold byteV at HBUT
            go_wp2_with fail
            exact ⟨⟨k + 1, by omega, by go_num, HSET.out, HBUT.out⟩, by simp [intOf]; omega⟩
          · have hk' : k = 32 := by omega
            subst hk'
            have HX := Lib.hid (HX.out.trans_but HU.out hg6)
            have HB4 := Lib.hid (HB4.out.but HU.out (by omega))
            have hb := HB.out
            rw [cpy_end m h32] at hb
            have HB6 := Lib.hid hb
            clear hb HB HU
            rw [show ((32 : Nat) : Int) = 32 from rfl]
            go_upto_region 11 with (fail)
            refine wp_region_lit ?_
            refine wpList_load_row rfl 24 _ rfl g6 rfl 24 ((m).map byteV).toArray (0, 0) _ HB6.out Tryd.underlying24 rfl (by rw [List.size_toArray, List.length_map, h32]; kernel_rfl) ?_
            simp only [Act.put, Act.eval, List.setIfInBounds_toArray, List.set_cons_zero, List.set_cons_succ, Nat.reduceAdd, Array.getD_eq_getD_getElem?, List.getElem?_toArray, List.getElem?_cons_succ, List.getElem?_cons_zero, Option.getD_some]
            refine wpList_store_mid rfl 24 _ _ rfl g4 0 ((m).map byteV).toArray rfl rfl (HB4.out.there _ (by simp [h32, zeros_len])) (by rw [List.size_toArray, List.length_map, h32]; kernel_rfl) ?_ ?_
            · refine all_oneCell_toArray fun v hv => ?_
              obtain ⟨x, _, rfl⟩ := List.mem_map.1 hv
              rfl
            simp only [List.toList_toArray]
            simp only [Act.put, Act.eval, List.setIfInBounds_toArray, List.set_cons_zero, List.set_cons_succ, Nat.reduceAdd, Array.getD_eq_getD_getElem?, List.getElem?_toArray, List.getElem?_cons_succ, List.getElem?_cons_zero, Option.getD_some]
            have HBN := Lib.hid (HB4.out.setAll ((m).map byteV) (by simp [h32, zeros_len]))
            have HXN := Lib.hid (HX.out.trans_but (But.setCells g4 ((m).map byteV) 0 _) hg4)
            generalize World.setCells _ g4 0 ((m).map byteV) = wn at *
            go_wp2_with fail
            exact bodyPost_ret (results_row2 rfl _ _ g4 24 ((m).map byteV).toArray (0, 0) _ rfl HBN.out Tryd.underlying24 rfl (by rw [List.size_toArray, List.length_map, h32]; kernel_rfl)) rfl ⟨by rw [HV.out]; rfl, HXN.out⟩
  · have d1 : ((s.size : Int) != (p.size : Int) + 64) = true := by rw [bne_iff_ne]; omega
    have HV := Lib.hid (show behV p.data.toList s.data.toList = .tuple #[.agg (zeros.map byteV).toArray, .bool false] by unfold behV; rw [beh_size (by rw [len_data, len_data]; exact hsz)])
    go_upto_region 3 with (fail)
    refine wp_region_lit ?_
    refine wpList_load_row rfl 24 _ rfl g6 rfl 24 ((zeros).map byteV).toArray (0, 0) _ HB6.out Tryd.underlying24 rfl (by rw [List.size_toArray, List.length_map, zeros_len]; kernel_rfl) ?_
    simp only [Act.put, Act.eval, List.setIfInBounds_toArray, List.set_cons_zero, List.set_cons_succ, Nat.reduceAdd, Array.getD_eq_getD_getElem?, List.getElem?_toArray, List.getElem?_cons_succ, List.getElem?_cons_zero, Option.getD_some]
    refine wpList_store_mid rfl 24 _ _ rfl g4 0 ((zeros).map byteV).toArray rfl rfl (HB4.out.there _ (by simp [zeros_len, zeros_len])) (by rw [List.size_toArray, List.length_map, zeros_len]; kernel_rfl) ?_ ?_
    · refine all_oneCell_toArray fun v hv => ?_
      obtain ⟨x, _, rfl⟩ := List.mem_map.1 hv
      rfl
    simp only [List.toList_toArray]
    simp only [Act.put, Act.eval, List.setIfInBounds_toArray, List.set_cons_zero, List.set_cons_succ, Nat.reduceAdd, Array.getD_eq_getD_getElem?, List.getElem?_toArray, List.getElem?_cons_succ, List.getElem?_cons_zero, Option.getD_some]
    have HBN := Lib.hid (HB4.out.setAll ((zeros).map byteV) (by simp [zeros_len, zeros_len]))
    have HXN := Lib.hid (HX.out.trans_but (But.setCells g4 ((zeros).map byteV) 0 _) hg4)
    generalize World.setCells _ g4 0 ((zeros).map byteV) = wn at *
    go_wp2_with fail
    exact bodyPost_ret (results_row2 rfl _ _ g4 24 ((zeros).map byteV).toArray (0, 0) _ rfl HBN.out Tryd.underlying24 rfl (by rw [List.size_toArray, List.length_map, zeros_len]; kernel_rfl)) rfl ⟨by rw [HV.out]; rfl, HXN.out⟩
end Stp
end Go.Proofs.YtdoplndijlfabaaDoor
