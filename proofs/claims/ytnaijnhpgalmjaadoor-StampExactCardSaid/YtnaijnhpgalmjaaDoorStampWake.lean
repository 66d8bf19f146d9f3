/- The walks of the stamp laws: awake. -/
import Derived.Test.YtnaijnhpgalmjaaDoorStampAwake
set_option linter.unusedSimpArgs false
set_option linter.unusedVariables false
set_option linter.unusedSectionVars false
namespace Go.Proofs.YtnaijnhpgalmjaaDoor
open Go.RowKit
namespace Stp
open ShaP (sum)
open Sha (Keys StartIs)
def L0 : List UInt8 := [227, 176, 196, 66, 152, 252, 28, 20, 154, 251, 244, 200, 153, 111, 185, 36, 39, 174, 65, 228, 100, 155, 147, 76, 164, 149, 153, 27, 120, 82, 184, 85]
theorem l0_len : L0.length = 32 := by simp [L0]
def C1 : List UInt8 := [115, 104, 97, 50, 53, 54, 58, 101, 51, 98, 48, 99, 52, 52, 50, 57, 56, 102, 99, 49, 99, 49, 52, 57, 97, 102, 98, 102, 52, 99, 56, 57, 57, 54, 102, 98, 57, 50, 52, 50, 55, 97, 101, 52, 49, 101, 52, 54, 52, 57, 98, 57, 51, 52, 99, 97, 52, 57, 53, 57, 57, 49, 98, 55, 56, 53, 50, 98, 56, 53, 53]
def C2 : List UInt8 := [115, 104, 97, 50, 53, 54, 58, 69, 51, 98, 48, 99, 52, 52, 50, 57, 56, 102, 99, 49, 99, 49, 52, 57, 97, 102, 98, 102, 52, 99, 56, 57, 57, 54, 102, 98, 57, 50, 52, 50, 55, 97, 101, 52, 49, 101, 52, 54, 52, 57, 98, 57, 51, 52, 99, 97, 52, 57, 53, 57, 57, 49, 98, 55, 56, 53, 50, 98, 56, 53, 53]
theorem sum_none : sum [] = L0 := by decide +kernel
theorem beh1 : beh pA C1 = some L0 := by decide +kernel
theorem beh2 : beh pA C2 = none := by decide +kernel
theorem par1 : parV pA C1 = .tuple #[.agg (L0.map byteV).toArray, .int .i64 0] := by
  unfold parV behL behB; rw [beh1]; rfl
theorem par2 : parV pA C2 = .tuple #[.agg (zeros.map byteV).toArray, .int .i64 3] := by
  unfold parV behL behB; rw [beh2]; rfl
theorem less0 : lessL zeros L0 = true := by decide +kernel
theorem cellsE : Tryd.prog.cellsOf 5 = 1 := by kernel_rfl
theorem info_byte' : ∃ i, Tryd.prog.info? 5 = some i := by
  cases h : Tryd.prog.info? 5 with
  | none => have := Sha.info_byte; rw [h] at this; cases this
  | some i => exact ⟨i, rfl⟩
theorem equal_dig {l m : List UInt8} (hl : l.length = 32) (hm : m.length = 32) (w : World) : (Op.equalIn 10000 23 (.agg (l.map byteV).toArray) (.agg (m.map byteV).toArray)).run Tryd.prog w = .ok (l == m) w := by
  obtain ⟨i, hi⟩ := info_byte'
  exact run_equal_bytes w 9998 Tryd.underlying23 hi Tryd.underlying5 cellsE _ _ hl hm
theorem parse1 (w : World) : Calls Tryd.prog 8 #[.string ⟨C1.toArray⟩] w fun e w' => e = .returned (.tuple #[.agg (L0.map byteV).toArray, .int .i64 0]) ∧ Reg.Ext w w' := by
  have h := parse_any ⟨C1.toArray⟩ w (by decide)
  rw [lst, par1] at h
  exact h
theorem parse2 (w : World) : Calls Tryd.prog 8 #[.string ⟨C2.toArray⟩] w fun e w' => e = .returned (.tuple #[.agg (zeros.map byteV).toArray, .int .i64 3]) ∧ Reg.Ext w w' := by
  have h := parse_any ⟨C2.toArray⟩ w (by decide)
  rw [lst, par2] at h
  exact h
theorem of_none (w : World) (hk : Keys w) (hst : StartIs w) : Calls Tryd.prog 16 #[.string ⟨#[]⟩] w fun e w' => e = .returned (.agg (L0.map byteV).toArray) ∧ Reg.Ext w w' := by
  have h := of_str ⟨#[]⟩ w (by decide) hk hst
  rw [show (⟨#[]⟩ : ByteArray).data.toList = [] from rfl, sum_none] at h
  exact h
theorem less_zero (w : World) : Calls Tryd.prog 7 #[.agg (zeros.map byteV).toArray, .agg (L0.map byteV).toArray] w fun e w' => e = .returned (.bool true) ∧ Reg.Ext w w' := by
  have h := less_any zeros L0 zeros_len l0_len w
  rw [less0] at h
  exact h
set_option maxRecDepth 100000 in
set_option maxHeartbeats 2000000 in
theorem awake_any (w : World) (hk : Keys w) (hst : StartIs w) : Calls Tryd.prog 6 #[] w fun e w' => e = .returned (.bool true) ∧ Reg.Ext w w' := by
  have HKY := Lib.hid hk
  have HS := Lib.hid hst
  clear hk hst
  obtain ⟨FL, hFL⟩ : ∃ FL : ByteArray, FL = ⟨(pK ++ HexP.hex L0).toArray⟩ := ⟨_, rfl⟩
  have hFs : FL.size = 69 := by rw [hFL, siz]; decide +kernel
  have HFile : ∀ w : World, Calls Tryd.prog 13 #[.agg (L0.map byteV).toArray] w fun e w' => e = .returned (.string FL) ∧ Reg.Ext w w' := by
    intro w
    rw [hFL]
    exact file_any L0 l0_len w
  clear hFL
  have HF := Lib.hid HFile
  clear HFile
  have hEQ := equal_dig l0_len l0_len
  rw [show (L0 == L0) = true from by simp] at hEQ
  go_enter Tryd.func6, Tryd.ntmps6
  go_wp2_with fail
  refine (parse1 w).mono ?_
  rintro e w1 ⟨rfl, x1⟩
  have X1 := Lib.hid x1
  clear x1
  rename_i hK
  refine hK _ _ ?_
  iterate 12 go_step
  rw [zlit]
  have hbf := box_blk w1 zeros
  have hxf := Reg.Ext.alloc w1 (Obj.cells (zeros.map byteV).toArray 23)
  have hxs := hxf.trans_but (But.setCells w1.heap.size ((L0).map byteV) 0 _) (Nat.le_refl _)
  generalize w1.alloc (Obj.cells (zeros.map byteV).toArray 23) = wf at *
  have HBF := Lib.hid hbf
  clear hbf hxf
  refine wpList_store_mid rfl 23 _ _ rfl w1.heap.size 0 ((L0).map byteV).toArray rfl rfl (HBF.out.there _ (by rw [List.size_toArray, List.length_map, l0_len]; simp [zeros_len])) (by rw [List.size_toArray, List.length_map, l0_len]; kernel_rfl) ?_ ?_
  · refine all_oneCell_toArray fun v hv => ?_
    obtain ⟨x, _, rfl⟩ := List.mem_map.1 hv
    rfl
  simp only [List.toList_toArray]
  simp only [Act.put, Act.eval, List.setIfInBounds_toArray, List.set_cons_zero, List.set_cons_succ, Nat.reduceAdd, Array.getD_eq_getD_getElem?, List.getElem?_toArray, List.getElem?_cons_succ, List.getElem?_cons_zero, Option.getD_some]
  have hbs := HBF.out.setAll ((L0).map byteV) (by simp only [List.length_map, l0_len, zeros_len])
  generalize wf.setCells w1.heap.size 0 ((L0).map byteV) = w2 at *
  have B1 := Lib.hid hbs
  have X2 := Lib.hid hxs
  clear hbs hxs HBF
  generalize hgf : w1.heap.size = g1 at *
  have hne1 : w1.heap.size ≤ g1 := by omega
  clear hgf
  have X3 := Lib.hid (X1.out.trans X2.out)
  clear X1 X2
  go_wp2_with fail
  refine (parse2 w2).mono ?_
  rintro e w3 ⟨rfl, x3⟩
  have X4 := Lib.hid (X3.out.trans x3)
  have B2 := Lib.hid (B1.out.ext x3)
  clear x3 X3 B1
  rename_i hK
  refine hK _ _ ?_
  iterate 12 go_step
  rw [zlit]
  have hbf := box_blk w3 zeros
  have hxf := Reg.Ext.alloc w3 (Obj.cells (zeros.map byteV).toArray 23)
  have hxs := hxf.trans_but (But.setCells w3.heap.size ((zeros).map byteV) 0 _) (Nat.le_refl _)
  generalize w3.alloc (Obj.cells (zeros.map byteV).toArray 23) = wf at *
  have HBF := Lib.hid hbf
  clear hbf hxf
  refine wpList_store_mid rfl 23 _ _ rfl w3.heap.size 0 ((zeros).map byteV).toArray rfl rfl (HBF.out.there _ (by rw [List.size_toArray, List.length_map, zeros_len]; simp [zeros_len])) (by rw [List.size_toArray, List.length_map, zeros_len]; kernel_rfl) ?_ ?_
  · refine all_oneCell_toArray fun v hv => ?_
    obtain ⟨x, _, rfl⟩ := List.mem_map.1 hv
    rfl
  simp only [List.toList_toArray]
  simp only [Act.put, Act.eval, List.setIfInBounds_toArray, List.set_cons_zero, List.set_cons_succ, Nat.reduceAdd, Array.getD_eq_getD_getElem?, List.getElem?_toArray, List.getElem?_cons_succ, List.getElem?_cons_zero, Option.getD_some]
  have hbs := HBF.out.setAll ((zeros).map byteV) (by simp only [List.length_map, zeros_len, zeros_len])
  generalize wf.setCells w3.heap.size 0 ((zeros).map byteV) = w4 at *
  have B3 := Lib.hid hbs
  have X5 := Lib.hid hxs
  clear hbs hxs HBF
  generalize hgf : w3.heap.size = g3 at *
  have hne3 : w3.heap.size ≤ g3 := by omega
  clear hgf
  have X6 := Lib.hid (X4.out.trans X5.out)
  have B4 := Lib.hid (B2.out.ext X5.out)
  clear X4 X5 B2 B3
  go_wp2_with fail
  apply Reg.wp_tab Reg.Ext (by kernel_rfl) (by kernel_rfl) Reg.Ext.refl (fun _ _ _ => Reg.Ext.trans) (Reg.Ext.drew _)
  case h =>
    intro O
    repeat (first
      | (apply Reg.TW.move_ Reg.Ext.refl _ rfl rfl
         · simp only [Act.put, Act.eval, List.setIfInBounds_toArray, List.set_cons_zero, List.set_cons_succ, Nat.reduceAdd, Array.getD_eq_getD_getElem?, List.getElem?_toArray, List.getElem?_cons_succ, List.getElem?_cons_zero, Option.getD_some]
           rfl)
      | (apply Reg.TW.assign_ Reg.Ext.refl _ rfl rfl
         · simp only [Act.put, Act.eval, List.setIfInBounds_toArray, List.set_cons_zero, List.set_cons_succ, Nat.reduceAdd, Array.getD_eq_getD_getElem?, List.getElem?_toArray, List.getElem?_cons_succ, List.getElem?_cons_zero, Option.getD_some]
           rfl)
      | (apply Reg.TW.skip_ rfl
         · simp only [Act.put, Act.eval, List.setIfInBounds_toArray, List.set_cons_zero, List.set_cons_succ, Nat.reduceAdd, Array.getD_eq_getD_getElem?, List.getElem?_toArray, List.getElem?_cons_succ, List.getElem?_cons_zero, Option.getD_some]
           rfl)
      | (apply Reg.TW.pure_ rfl
         · intro w1 hw1 hf K hK
           simp only [Act.put, List.setIfInBounds_toArray, List.set_cons_zero, List.set_cons_succ] at hK
           have HK := Lib.hid hK
           clear hf hK
           unfold Reg.One; dsimp only
           go_wp2_with fail
           exact HK.out _ (Reg.Ext.refl _)
         · simp only [Act.put, Act.eval, List.setIfInBounds_toArray, List.set_cons_zero, List.set_cons_succ, Nat.reduceAdd, Array.getD_eq_getD_getElem?, List.getElem?_toArray, List.getElem?_cons_succ, List.getElem?_cons_zero, Option.getD_some]
           rfl))
    apply Reg.TW.pure_ (c := .agg ((L0).map byteV).toArray) rfl
    · intro w1 hw1 hf K hK
      simp only [Act.put, List.setIfInBounds_toArray, List.set_cons_zero, List.set_cons_succ] at hK
      have HK := Lib.hid hK
      clear hK
      unfold Reg.One; dsimp only
      refine wpList_load_row rfl 23 _ rfl g1 rfl 23 ((L0).map byteV).toArray (0, 0) _ (B4.out.ext hw1) Tryd.underlying23 rfl (by rw [List.size_toArray, List.length_map, l0_len]; kernel_rfl) ?_
      simp only [Act.put, Act.eval, List.setIfInBounds_toArray, List.set_cons_zero, List.set_cons_succ, Nat.reduceAdd, Array.getD_eq_getD_getElem?, List.getElem?_toArray, List.getElem?_cons_succ, List.getElem?_cons_zero, Option.getD_some]
      go_wp2_with fail
      exact HK.out _ (Reg.Ext.refl _)
    · simp only [Act.put, Act.eval, List.setIfInBounds_toArray, List.set_cons_zero, List.set_cons_succ, Nat.reduceAdd, Array.getD_eq_getD_getElem?, List.getElem?_toArray, List.getElem?_cons_succ, List.getElem?_cons_zero, Option.getD_some]
      rfl
    apply Reg.TW.call_ (c := .agg (L0.map byteV).toArray) (fun _ => True) rfl (fun _ _ _ h => h)
    · intro w1 hw1 hf K hK
      simp only [Act.put, List.setIfInBounds_toArray, List.set_cons_zero, List.set_cons_succ] at hK
      have HK := Lib.hid hK
      clear hK
      unfold Reg.One; dsimp only
      go_wp2_with fail
      refine (of_none _ (HKY.out.ext (X6.out.trans hw1)) (HS.out.ext (X6.out.trans hw1))).mono ?_
      rintro e w' ⟨rfl, hx⟩
      go_wp2_with fail
      exact HK.out _ hx trivial
    · simp only [Act.put, Act.eval, List.setIfInBounds_toArray, List.set_cons_zero, List.set_cons_succ, Nat.reduceAdd, Array.getD_eq_getD_getElem?, List.getElem?_toArray, List.getElem?_cons_succ, List.getElem?_cons_zero, Option.getD_some]
      rfl
    repeat (first
      | (apply Reg.TW.move_ Reg.Ext.refl _ rfl rfl
         · simp only [Act.put, Act.eval, List.setIfInBounds_toArray, List.set_cons_zero, List.set_cons_succ, Nat.reduceAdd, Array.getD_eq_getD_getElem?, List.getElem?_toArray, List.getElem?_cons_succ, List.getElem?_cons_zero, Option.getD_some]
           rfl)
      | (apply Reg.TW.assign_ Reg.Ext.refl _ rfl rfl
         · simp only [Act.put, Act.eval, List.setIfInBounds_toArray, List.set_cons_zero, List.set_cons_succ, Nat.reduceAdd, Array.getD_eq_getD_getElem?, List.getElem?_toArray, List.getElem?_cons_succ, List.getElem?_cons_zero, Option.getD_some]
           rfl)
      | (apply Reg.TW.skip_ rfl
         · simp only [Act.put, Act.eval, List.setIfInBounds_toArray, List.set_cons_zero, List.set_cons_succ, Nat.reduceAdd, Array.getD_eq_getD_getElem?, List.getElem?_toArray, List.getElem?_cons_succ, List.getElem?_cons_zero, Option.getD_some]
           rfl)
      | (apply Reg.TW.pure_ rfl
         · intro w1 hw1 hf K hK
           simp only [Act.put, List.setIfInBounds_toArray, List.set_cons_zero, List.set_cons_succ] at hK
           have HK := Lib.hid hK
           clear hf hK
           unfold Reg.One; dsimp only
           go_wp2_with fail
           exact HK.out _ (Reg.Ext.refl _)
         · simp only [Act.put, Act.eval, List.setIfInBounds_toArray, List.set_cons_zero, List.set_cons_succ, Nat.reduceAdd, Array.getD_eq_getD_getElem?, List.getElem?_toArray, List.getElem?_cons_succ, List.getElem?_cons_zero, Option.getD_some]
           rfl))
    apply Reg.TW.pure_ (c := .agg ((L0).map byteV).toArray) rfl
    · intro w1 hw1 hf K hK
      simp only [Act.put, List.setIfInBounds_toArray, List.set_cons_zero, List.set_cons_succ] at hK
      have HK := Lib.hid hK
      clear hK
      unfold Reg.One; dsimp only
      refine wpList_load_row rfl 23 _ rfl g1 rfl 23 ((L0).map byteV).toArray (0, 0) _ (B4.out.ext hw1) Tryd.underlying23 rfl (by rw [List.size_toArray, List.length_map, l0_len]; kernel_rfl) ?_
      simp only [Act.put, Act.eval, List.setIfInBounds_toArray, List.set_cons_zero, List.set_cons_succ, Nat.reduceAdd, Array.getD_eq_getD_getElem?, List.getElem?_toArray, List.getElem?_cons_succ, List.getElem?_cons_zero, Option.getD_some]
      go_wp2_with fail
      exact HK.out _ (Reg.Ext.refl _)
    · simp only [Act.put, Act.eval, List.setIfInBounds_toArray, List.set_cons_zero, List.set_cons_succ, Nat.reduceAdd, Array.getD_eq_getD_getElem?, List.getElem?_toArray, List.getElem?_cons_succ, List.getElem?_cons_zero, Option.getD_some]
      rfl
    apply Reg.TW.call_ (c := .string FL) (fun _ => True) rfl (fun _ _ _ h => h)
    · intro w1 hw1 hf K hK
      simp only [Act.put, List.setIfInBounds_toArray, List.set_cons_zero, List.set_cons_succ] at hK
      have HK := Lib.hid hK
      clear hK
      unfold Reg.One; dsimp only
      go_wp2_with fail
      refine (HF.out _).mono ?_
      rintro e w' ⟨rfl, hx⟩
      go_wp2_with fail
      exact HK.out _ hx trivial
    · simp only [Act.put, Act.eval, List.setIfInBounds_toArray, List.set_cons_zero, List.set_cons_succ, Nat.reduceAdd, Array.getD_eq_getD_getElem?, List.getElem?_toArray, List.getElem?_cons_succ, List.getElem?_cons_zero, Option.getD_some]
      rfl
    repeat (first
      | (apply Reg.TW.move_ Reg.Ext.refl _ rfl rfl
         · simp only [Act.put, Act.eval, List.setIfInBounds_toArray, List.set_cons_zero, List.set_cons_succ, Nat.reduceAdd, Array.getD_eq_getD_getElem?, List.getElem?_toArray, List.getElem?_cons_succ, List.getElem?_cons_zero, Option.getD_some]
           rfl)
      | (apply Reg.TW.assign_ Reg.Ext.refl _ rfl rfl
         · simp only [Act.put, Act.eval, List.setIfInBounds_toArray, List.set_cons_zero, List.set_cons_succ, Nat.reduceAdd, Array.getD_eq_getD_getElem?, List.getElem?_toArray, List.getElem?_cons_succ, List.getElem?_cons_zero, Option.getD_some]
           rfl)
      | (apply Reg.TW.skip_ rfl
         · simp only [Act.put, Act.eval, List.setIfInBounds_toArray, List.set_cons_zero, List.set_cons_succ, Nat.reduceAdd, Array.getD_eq_getD_getElem?, List.getElem?_toArray, List.getElem?_cons_succ, List.getElem?_cons_zero, Option.getD_some]
           rfl)
      | (apply Reg.TW.pure_ rfl
         · intro w1 hw1 hf K hK
           simp only [Act.put, List.setIfInBounds_toArray, List.set_cons_zero, List.set_cons_succ] at hK
           have HK := Lib.hid hK
           clear hf hK
           unfold Reg.One; dsimp only
           go_wp2_with fail
           exact HK.out _ (Reg.Ext.refl _)
         · simp only [Act.put, Act.eval, List.setIfInBounds_toArray, List.set_cons_zero, List.set_cons_succ, Nat.reduceAdd, Array.getD_eq_getD_getElem?, List.getElem?_toArray, List.getElem?_cons_succ, List.getElem?_cons_zero, Option.getD_some]
           rfl))
    apply Reg.TW.pure_ (c := .agg ((L0).map byteV).toArray) rfl
    · intro w1 hw1 hf K hK
      simp only [Act.put, List.setIfInBounds_toArray, List.set_cons_zero, List.set_cons_succ] at hK
      have HK := Lib.hid hK
      clear hK
      unfold Reg.One; dsimp only
      refine wpList_load_row rfl 23 _ rfl g1 rfl 23 ((L0).map byteV).toArray (0, 0) _ (B4.out.ext hw1) Tryd.underlying23 rfl (by rw [List.size_toArray, List.length_map, l0_len]; kernel_rfl) ?_
      simp only [Act.put, Act.eval, List.setIfInBounds_toArray, List.set_cons_zero, List.set_cons_succ, Nat.reduceAdd, Array.getD_eq_getD_getElem?, List.getElem?_toArray, List.getElem?_cons_succ, List.getElem?_cons_zero, Option.getD_some]
      go_wp2_with fail
      exact HK.out _ (Reg.Ext.refl _)
    · simp only [Act.put, Act.eval, List.setIfInBounds_toArray, List.set_cons_zero, List.set_cons_succ, Nat.reduceAdd, Array.getD_eq_getD_getElem?, List.getElem?_toArray, List.getElem?_cons_succ, List.getElem?_cons_zero, Option.getD_some]
      rfl
    apply Reg.TW.call_ (c := .bool true) (fun _ => True) rfl (fun _ _ _ h => h)
    · intro w1 hw1 hf K hK
      simp only [Act.put, List.setIfInBounds_toArray, List.set_cons_zero, List.set_cons_succ] at hK
      have HK := Lib.hid hK
      clear hK
      unfold Reg.One; dsimp only
      go_wp2_with fail
      refine (less_zero _).mono ?_
      rintro e w' ⟨rfl, hx⟩
      go_wp2_with fail
      exact HK.out _ hx trivial
    · simp only [Act.put, Act.eval, List.setIfInBounds_toArray, List.set_cons_zero, List.set_cons_succ, Nat.reduceAdd, Array.getD_eq_getD_getElem?, List.getElem?_toArray, List.getElem?_cons_succ, List.getElem?_cons_zero, Option.getD_some]
      rfl
    repeat (first
      | (apply Reg.TW.move_ Reg.Ext.refl _ rfl rfl
         · simp only [Act.put, Act.eval, List.setIfInBounds_toArray, List.set_cons_zero, List.set_cons_succ, Nat.reduceAdd, Array.getD_eq_getD_getElem?, List.getElem?_toArray, List.getElem?_cons_succ, List.getElem?_cons_zero, Option.getD_some]
           rfl)
      | (apply Reg.TW.assign_ Reg.Ext.refl _ rfl rfl
         · simp only [Act.put, Act.eval, List.setIfInBounds_toArray, List.set_cons_zero, List.set_cons_succ, Nat.reduceAdd, Array.getD_eq_getD_getElem?, List.getElem?_toArray, List.getElem?_cons_succ, List.getElem?_cons_zero, Option.getD_some]
           rfl)
      | (apply Reg.TW.skip_ rfl
         · simp only [Act.put, Act.eval, List.setIfInBounds_toArray, List.set_cons_zero, List.set_cons_succ, Nat.reduceAdd, Array.getD_eq_getD_getElem?, List.getElem?_toArray, List.getElem?_cons_succ, List.getElem?_cons_zero, Option.getD_some]
           rfl)
      | (apply Reg.TW.pure_ rfl
         · intro w1 hw1 hf K hK
           simp only [Act.put, List.setIfInBounds_toArray, List.set_cons_zero, List.set_cons_succ] at hK
           have HK := Lib.hid hK
           clear hf hK
           unfold Reg.One; dsimp only
           go_wp2_with fail
           exact HK.out _ (Reg.Ext.refl _)
         · simp only [Act.put, Act.eval, List.setIfInBounds_toArray, List.set_cons_zero, List.set_cons_succ, Nat.reduceAdd, Array.getD_eq_getD_getElem?, List.getElem?_toArray, List.getElem?_cons_succ, List.getElem?_cons_zero, Option.getD_some]
           rfl))
    refine Reg.TW.nil_ ?_
    intro w5 hw5 _
    go_wp2
    go_ret
    exact ⟨rfl, X6.out.trans hw5⟩
  case hlen => rfl
end Stp
end Go.Proofs.YtnaijnhpgalmjaaDoor
