/- Chapter 17: accept, awake. -/
import Derived.Test.YtglnefmaphajaaaDoorTasteB
set_option linter.unusedSimpArgs false
set_option linter.unusedVariables false
set_option linter.unusedSectionVars false
namespace Go.Proofs.YtglnefmaphajaaaDoor
open Go.RowKit
namespace Tst
open Fld
def accB : ByteArray := ⟨#[65, 99, 99, 101, 112, 116]⟩
set_option maxHeartbeats 2000000 in
theorem accept_any (s : ByteArray) (w : World) :
    Calls Tryd.prog 11 #[.string s] w fun e w' => ∃ g, e = .returned (.slice (some ⟨g, 0, none⟩) 1 1) ∧ RdF w' (some ⟨g, 0, none⟩) [(accB, s)] ∧ Reg.Ext w w' := by
  go_enter Tryd.func11, Tryd.ntmps11
  go_upto_region 1 with (fail)
  refine wp_region_lit ?_
  iterate 6 go_step
  obtain ⟨i0, hi, hz0, hz1, hz2⟩ := fldInfo_of
  refine One.wpList_valw rfl _ (One.exec_one_row _ _ _ _ 22 35 #[.string accB, .string s] rfl rfl i0 _ Tryd.underlying22 hi hz0 hz1 (by simp) (by simp)) ?_
  have hx := Reg.Ext.alloc w (.cells #[.string accB, .string s] 35)
  have hr : RdF (w.alloc (.cells #[.string accB, .string s] 35)) (some ⟨w.heap.size, 0, none⟩) [(accB, s)] := Rd.new w 35 #[.string accB, .string s]
  generalize w.alloc (.cells #[.string accB, .string s] 35) = w1 at *
  generalize w.heap.size = g at *
  have HX := Lib.hid hx
  have HR := Lib.hid hr
  clear hx hr
  simp only [Act.put, Act.eval, List.setIfInBounds_toArray, List.set_cons_zero, List.set_cons_succ, Nat.reduceAdd, Array.getD_eq_getD_getElem?, List.getElem?_toArray, List.getElem?_cons_succ, List.getElem?_cons_zero, Option.getD_some]
  go_wp2_with fail
  go_ret
  exact ⟨g, rfl, HR.out, HX.out⟩
def wakeB : ByteArray := ⟨#[116, 101, 120, 116, 47, 120, 59, 113, 61, 48, 46, 53, 44, 32, 116, 101, 120, 116, 47, 42, 44, 32, 42, 47, 42, 59, 113, 61, 48, 46, 49]⟩
def wakeF : List Fld := [(accB, wakeB)]
def txB : ByteArray := ⟨#[116, 101, 120, 116, 47, 120]⟩
def tyB : ByteArray := ⟨#[116, 101, 120, 116, 47, 121]⟩
def abB : ByteArray := ⟨#[97, 47, 98]⟩
def zero32 : List UInt8 := List.replicate 32 0
def inmB : ByteArray := ⟨#[73, 102, 45, 78, 111, 110, 101, 45, 77, 97, 116, 99, 104]⟩
set_option maxRecDepth 100000 in
theorem wake1 : qualP wakeF txB.data.toList = 4602678819172646912 := by decide +kernel
set_option maxRecDepth 100000 in
theorem wake2 : qualP wakeF tyB.data.toList = 4607182418800017408 := by decide +kernel
set_option maxRecDepth 100000 in
theorem wake3 : qualP wakeF abB.data.toList = 4591870180066957722 := by decide +kernel
set_option maxRecDepth 100000 in
theorem wake4 : qualP [] abB.data.toList = 4607182418800017408 := by decide +kernel
theorem wake5 : bestP wakeF [abB, txB, tyB] = 2 := by decide +kernel
theorem wake6 : matchP [(inmB, ⟨#[87, 47]⟩ ++ bl (tagL zero32))] zero32 = true := by decide +kernel
theorem wake7 : matchP [] zero32 = false := by decide +kernel
theorem z32 : (#[Value.int .u8 0, Value.int .u8 0, Value.int .u8 0, Value.int .u8 0, Value.int .u8 0, Value.int .u8 0, Value.int .u8 0, Value.int .u8 0, Value.int .u8 0, Value.int .u8 0, Value.int .u8 0, Value.int .u8 0, Value.int .u8 0, Value.int .u8 0, Value.int .u8 0, Value.int .u8 0, Value.int .u8 0, Value.int .u8 0, Value.int .u8 0, Value.int .u8 0, Value.int .u8 0, Value.int .u8 0, Value.int .u8 0, Value.int .u8 0, Value.int .u8 0, Value.int .u8 0, Value.int .u8 0, Value.int .u8 0, Value.int .u8 0, Value.int .u8 0, Value.int .u8 0, Value.int .u8 0] : Array Value) = (zero32.map byteV).toArray := by rfl
theorem zero32_len : zero32.length = 32 := rfl
theorem sz_wake : Sz wakeF := ⟨by decide, fun f hf => by rw [List.mem_singleton.1 hf]; exact ⟨by decide, by decide⟩⟩
theorem sz_nil : Sz [] := ⟨by decide, fun f hf => by cases hf⟩
theorem fl_nil (w : World) (A : Option Addr) : Fl w A [] := fun k hk => by cases hk
set_option maxRecDepth 100000 in
set_option maxHeartbeats 16000000 in
theorem awake_any (w : World) : Calls Tryd.prog 6 #[] w fun e w' => e = .returned (.bool true) ∧ Reg.Ext w w' := by
  go_enter Tryd.func6, Tryd.ntmps6
  go_wp2_with fail
  refine (accept_any wakeB w).mono ?_
  rintro e w1 ⟨g, rfl, hr, x1⟩
  have HF := Lib.hid (Fl.of_rd hr)
  have X1 := Lib.hid x1
  clear hr x1
  go_upto_region 2 with (fail)
  refine wp_region_lit ?_
  refine wpList_valF rfl (.agg (zero32.map byteV).toArray) (by as_aux_lemma => kernel_rfl) ?_
  simp only [Act.put, Act.eval, List.setIfInBounds_toArray, List.set_cons_zero, List.set_cons_succ, Nat.reduceAdd, Array.getD_eq_getD_getElem?, List.getElem?_toArray, List.getElem?_cons_succ, List.getElem?_cons_zero, Option.getD_some]
  iterate 3 go_step
  rw [z32]
  have hbf := Stp.box_blk w1 zero32
  have hxf := Reg.Ext.alloc w1 (Obj.cells (zero32.map byteV).toArray 38)
  have hxs := hxf.trans_but (But.setCells w1.heap.size (zero32.map byteV) 0 _) (Nat.le_refl _)
  generalize w1.alloc (Obj.cells (zero32.map byteV).toArray 38) = wf at *
  have HBF := Lib.hid hbf
  clear hbf hxf
  refine wpList_store_mid rfl 38 _ _ rfl w1.heap.size 0 (zero32.map byteV).toArray rfl rfl (HBF.out.there _ (by rw [List.size_toArray]; exact Nat.le_refl _)) (by rw [List.size_toArray, List.length_map]; kernel_rfl) ?_ ?_
  · refine all_oneCell_toArray fun v hv => ?_
    obtain ⟨x, _, rfl⟩ := List.mem_map.1 hv
    rfl
  simp only [List.toList_toArray]
  simp only [Act.put, Act.eval, List.setIfInBounds_toArray, List.set_cons_zero, List.set_cons_succ, Nat.reduceAdd, Array.getD_eq_getD_getElem?, List.getElem?_toArray, List.getElem?_cons_succ, List.getElem?_cons_zero, Option.getD_some]
  have hbs := HBF.out.setAll (zero32.map byteV) rfl
  generalize wf.setCells w1.heap.size 0 (zero32.map byteV) = w2 at *
  have HD := Lib.hid hbs
  have X12 := Lib.hid hxs
  have X2 := Lib.hid (X1.out.trans hxs)
  have HF2 := Lib.hid (HF.out.ext hxs)
  clear hbs hxs HBF HF X1
  generalize w1.heap.size = gd at *
  have Q1 := fun w' (h : Reg.Ext w2 w') => Lib.hid (quality_any (some ⟨g, 0, none⟩) 1 wakeF txB w' (Lib.hid (HF2.out.ext h)) sz_wake (by decide))
  have Q2 := fun w' (h : Reg.Ext w2 w') => Lib.hid (quality_any (some ⟨g, 0, none⟩) 1 wakeF tyB w' (Lib.hid (HF2.out.ext h)) sz_wake (by decide))
  have Q3 := fun w' (h : Reg.Ext w2 w') => Lib.hid (quality_any (some ⟨g, 0, none⟩) 1 wakeF abB w' (Lib.hid (HF2.out.ext h)) sz_wake (by decide))
  have Q4 := fun w' => Lib.hid (quality_any none 0 [] abB w' (fl_nil _ _) sz_nil (by decide))
  rw [wake1] at Q1
  rw [wake2] at Q2
  rw [wake3] at Q3
  rw [wake4] at Q4
  have Q5 := fun B w' (h : Reg.Ext w2 w') (hr : Rd w' B (scells [abB, txB, tyB])) => Lib.hid (best_any (some ⟨g, 0, none⟩) 1 wakeF B 3 [abB, txB, tyB] w' (Lib.hid (HF2.out.ext h)) sz_wake hr (by decide) (Lib.hid (by decide)))
  rw [wake5] at Q5
  obtain ⟨G, hG⟩ : ∃ G : ByteArray, bl (tagL zero32) = G := ⟨_, rfl⟩
  have w6 := wake6
  rw [hG] at w6
  have hGs : G.size ≤ 100 := by rw [← hG]; decide
  have TG := fun w => Lib.hid (tag_any zero32 rfl w)
  rw [hG] at TG
  obtain ⟨T, hT⟩ : ∃ T : ByteArray, ⟨#[87, 47]⟩ ++ G = T := ⟨_, rfl⟩
  rw [hT] at w6
  have hTs : T.size ≤ 200 := by
    have a : (⟨#[87, 47]⟩ : ByteArray).size = 2 := rfl
    rw [← hT, ByteArray.size_append, a]; omega
  have Q6 := fun g w' (hr : RdF w' (some ⟨g, 0, none⟩) [(inmB, T)]) => Lib.hid (matches_any (some ⟨g, 0, none⟩) 1 [(inmB, T)] zero32 rfl w' (Fl.of_rd hr) ⟨by simp, fun f hf => by rw [List.mem_singleton.1 hf]; exact ⟨(by decide : inmB.size ≤ 536870912), by show T.size ≤ _; omega⟩⟩)
  rw [w6] at Q6
  have Q7 := fun w' => Lib.hid (matches_any none 0 [] zero32 rfl w' (fl_nil _ _) sz_nil)
  rw [wake7] at Q7
  clear hG w6 hTs HF2
  go_upto_region 3 with (fail)
  apply Reg.wp_tab Reg.Ext (by kernel_rfl) (by kernel_rfl) Reg.Ext.refl (fun _ _ _ => Reg.Ext.trans) (Reg.Ext.drew _)
  case' h =>
    intro O
    repeat (first
      | (apply Reg.TW.move_ Reg.Ext.refl _ rfl rfl
         · simp only [Act.put, Act.eval, List.setIfInBounds_toArray, List.set_cons_zero, List.set_cons_succ, Nat.reduceAdd, Array.getD_eq_getD_getElem?, List.getElem?_toArray, List.getElem?_cons_succ, List.getElem?_cons_zero, Option.getD_some]
           rfl)
      | (apply Reg.TW.assign_ Reg.Ext.refl _ rfl rfl
         · simp only [Act.put, Act.eval, List.setIfInBounds_toArray, List.set_cons_zero, List.set_cons_succ, Nat.reduceAdd, Array.getD_eq_getD_getElem?, List.getElem?_toArray, List.getElem?_cons_succ, List.getElem?_cons_zero, Option.getD_some]
           rfl)
      | (apply Reg.TW.skip_ rfl
         · simp only [Act.put, Act.eval, List.setIfInBounds_toArray, List.set_cons_zero, List.set_cons_succ, Nat.reduceAdd, Array.getD_eq_getD_getElem?, List.getElem?_toArray, List.getElem?_cons_succ, List.getElem?_cons_zero, Option.getD_some]
           rfl)
      | (apply Reg.TW.pure_ rfl
         · intro w1 hw1 hf K hK
           simp only [Act.put, List.setIfInBounds_toArray, List.set_cons_zero, List.set_cons_succ] at hK
           have HK := Lib.hid hK
           clear hf hK
           skip
           unfold Reg.One; dsimp only
           go_wp2_with fail
           exact HK.out _ (Reg.Ext.refl _)
         · simp only [Act.put, Act.eval, List.setIfInBounds_toArray, List.set_cons_zero, List.set_cons_succ, Nat.reduceAdd, Array.getD_eq_getD_getElem?, List.getElem?_toArray, List.getElem?_cons_succ, List.getElem?_cons_zero, Option.getD_some]
           rfl))
    apply Reg.TW.call_ (c := .float .f64 4602678819172646912) (fun _ => True) rfl (fun _ _ _ h => h)
    · intro w1 hw1 hf K hK
      simp only [Act.put, List.setIfInBounds_toArray, List.set_cons_zero, List.set_cons_succ] at hK
      have HK := Lib.hid hK
      clear hK
      unfold Reg.One; dsimp only
      skip
      go_wp2_with fail
      refine ((Q1 _ hw1).out).mono ?_
      rintro e w' ⟨rfl, hx⟩
      go_wp2_with fail
      exact HK.out _ hx trivial
    · simp only [Act.put, Act.eval, List.setIfInBounds_toArray, List.set_cons_zero, List.set_cons_succ, Nat.reduceAdd, Array.getD_eq_getD_getElem?, List.getElem?_toArray, List.getElem?_cons_succ, List.getElem?_cons_zero, Option.getD_some]
      rfl
    repeat (first
      | (apply Reg.TW.move_ Reg.Ext.refl _ rfl rfl
         · simp only [Act.put, Act.eval, List.setIfInBounds_toArray, List.set_cons_zero, List.set_cons_succ, Nat.reduceAdd, Array.getD_eq_getD_getElem?, List.getElem?_toArray, List.getElem?_cons_succ, List.getElem?_cons_zero, Option.getD_some]
           rfl)
      | (apply Reg.TW.assign_ Reg.Ext.refl _ rfl rfl
         · simp only [Act.put, Act.eval, List.setIfInBounds_toArray, List.set_cons_zero, List.set_cons_succ, Nat.reduceAdd, Array.getD_eq_getD_getElem?, List.getElem?_toArray, List.getElem?_cons_succ, List.getElem?_cons_zero, Option.getD_some]
           rfl)
      | (apply Reg.TW.skip_ rfl
         · simp only [Act.put, Act.eval, List.setIfInBounds_toArray, List.set_cons_zero, List.set_cons_succ, Nat.reduceAdd, Array.getD_eq_getD_getElem?, List.getElem?_toArray, List.getElem?_cons_succ, List.getElem?_cons_zero, Option.getD_some]
           rfl)
      | (apply Reg.TW.pure_ rfl
         · intro w1 hw1 hf K hK
           simp only [Act.put, List.setIfInBounds_toArray, List.set_cons_zero, List.set_cons_succ] at hK
           have HK := Lib.hid hK
           clear hf hK
           skip
           unfold Reg.One; dsimp only
           go_wp2_with fail
           exact HK.out _ (Reg.Ext.refl _)
         · simp only [Act.put, Act.eval, List.setIfInBounds_toArray, List.set_cons_zero, List.set_cons_succ, Nat.reduceAdd, Array.getD_eq_getD_getElem?, List.getElem?_toArray, List.getElem?_cons_succ, List.getElem?_cons_zero, Option.getD_some]
           rfl))
    apply Reg.TW.call_ (c := .float .f64 4607182418800017408) (fun _ => True) rfl (fun _ _ _ h => h)
    · intro w1 hw1 hf K hK
      simp only [Act.put, List.setIfInBounds_toArray, List.set_cons_zero, List.set_cons_succ] at hK
      have HK := Lib.hid hK
      clear hK
      unfold Reg.One; dsimp only
      skip
      go_wp2_with fail
      refine ((Q2 _ hw1).out).mono ?_
      rintro e w' ⟨rfl, hx⟩
      go_wp2_with fail
      exact HK.out _ hx trivial
    · simp only [Act.put, Act.eval, List.setIfInBounds_toArray, List.set_cons_zero, List.set_cons_succ, Nat.reduceAdd, Array.getD_eq_getD_getElem?, List.getElem?_toArray, List.getElem?_cons_succ, List.getElem?_cons_zero, Option.getD_some]
      rfl
    repeat (first
      | (apply Reg.TW.move_ Reg.Ext.refl _ rfl rfl
         · simp only [Act.put, Act.eval, List.setIfInBounds_toArray, List.set_cons_zero, List.set_cons_succ, Nat.reduceAdd, Array.getD_eq_getD_getElem?, List.getElem?_toArray, List.getElem?_cons_succ, List.getElem?_cons_zero, Option.getD_some]
           rfl)
      | (apply Reg.TW.assign_ Reg.Ext.refl _ rfl rfl
         · simp only [Act.put, Act.eval, List.setIfInBounds_toArray, List.set_cons_zero, List.set_cons_succ, Nat.reduceAdd, Array.getD_eq_getD_getElem?, List.getElem?_toArray, List.getElem?_cons_succ, List.getElem?_cons_zero, Option.getD_some]
           rfl)
      | (apply Reg.TW.skip_ rfl
         · simp only [Act.put, Act.eval, List.setIfInBounds_toArray, List.set_cons_zero, List.set_cons_succ, Nat.reduceAdd, Array.getD_eq_getD_getElem?, List.getElem?_toArray, List.getElem?_cons_succ, List.getElem?_cons_zero, Option.getD_some]
           rfl)
      | (apply Reg.TW.pure_ rfl
         · intro w1 hw1 hf K hK
           simp only [Act.put, List.setIfInBounds_toArray, List.set_cons_zero, List.set_cons_succ] at hK
           have HK := Lib.hid hK
           clear hf hK
           skip
           unfold Reg.One; dsimp only
           go_wp2_with fail
           exact HK.out _ (Reg.Ext.refl _)
         · simp only [Act.put, Act.eval, List.setIfInBounds_toArray, List.set_cons_zero, List.set_cons_succ, Nat.reduceAdd, Array.getD_eq_getD_getElem?, List.getElem?_toArray, List.getElem?_cons_succ, List.getElem?_cons_zero, Option.getD_some]
           rfl))
    apply Reg.TW.call_ (c := .float .f64 4591870180066957722) (fun _ => True) rfl (fun _ _ _ h => h)
    · intro w1 hw1 hf K hK
      simp only [Act.put, List.setIfInBounds_toArray, List.set_cons_zero, List.set_cons_succ] at hK
      have HK := Lib.hid hK
      clear hK
      unfold Reg.One; dsimp only
      skip
      go_wp2_with fail
      refine ((Q3 _ hw1).out).mono ?_
      rintro e w' ⟨rfl, hx⟩
      go_wp2_with fail
      exact HK.out _ hx trivial
    · simp only [Act.put, Act.eval, List.setIfInBounds_toArray, List.set_cons_zero, List.set_cons_succ, Nat.reduceAdd, Array.getD_eq_getD_getElem?, List.getElem?_toArray, List.getElem?_cons_succ, List.getElem?_cons_zero, Option.getD_some]
      rfl
    repeat (first
      | (apply Reg.TW.move_ Reg.Ext.refl _ rfl rfl
         · simp only [Act.put, Act.eval, List.setIfInBounds_toArray, List.set_cons_zero, List.set_cons_succ, Nat.reduceAdd, Array.getD_eq_getD_getElem?, List.getElem?_toArray, List.getElem?_cons_succ, List.getElem?_cons_zero, Option.getD_some]
           rfl)
      | (apply Reg.TW.assign_ Reg.Ext.refl _ rfl rfl
         · simp only [Act.put, Act.eval, List.setIfInBounds_toArray, List.set_cons_zero, List.set_cons_succ, Nat.reduceAdd, Array.getD_eq_getD_getElem?, List.getElem?_toArray, List.getElem?_cons_succ, List.getElem?_cons_zero, Option.getD_some]
           rfl)
      | (apply Reg.TW.skip_ rfl
         · simp only [Act.put, Act.eval, List.setIfInBounds_toArray, List.set_cons_zero, List.set_cons_succ, Nat.reduceAdd, Array.getD_eq_getD_getElem?, List.getElem?_toArray, List.getElem?_cons_succ, List.getElem?_cons_zero, Option.getD_some]
           rfl)
      | (apply Reg.TW.pure_ rfl
         · intro w1 hw1 hf K hK
           simp only [Act.put, List.setIfInBounds_toArray, List.set_cons_zero, List.set_cons_succ] at hK
           have HK := Lib.hid hK
           clear hf hK
           skip
           unfold Reg.One; dsimp only
           go_wp2_with fail
           exact HK.out _ (Reg.Ext.refl _)
         · simp only [Act.put, Act.eval, List.setIfInBounds_toArray, List.set_cons_zero, List.set_cons_succ, Nat.reduceAdd, Array.getD_eq_getD_getElem?, List.getElem?_toArray, List.getElem?_cons_succ, List.getElem?_cons_zero, Option.getD_some]
           rfl))
    apply Reg.TW.call_ (c := .float .f64 4607182418800017408) (fun _ => True) rfl (fun _ _ _ h => h)
    · intro w1 hw1 hf K hK
      simp only [Act.put, List.setIfInBounds_toArray, List.set_cons_zero, List.set_cons_succ] at hK
      have HK := Lib.hid hK
      clear hK
      unfold Reg.One; dsimp only
      skip
      go_wp2_with fail
      refine ((Q4 _).out).mono ?_
      rintro e w' ⟨rfl, hx⟩
      go_wp2_with fail
      exact HK.out _ hx trivial
    · simp only [Act.put, Act.eval, List.setIfInBounds_toArray, List.set_cons_zero, List.set_cons_succ, Nat.reduceAdd, Array.getD_eq_getD_getElem?, List.getElem?_toArray, List.getElem?_cons_succ, List.getElem?_cons_zero, Option.getD_some]
      rfl
    repeat (first
      | (apply Reg.TW.move_ Reg.Ext.refl _ rfl rfl
         · simp only [Act.put, Act.eval, List.setIfInBounds_toArray, List.set_cons_zero, List.set_cons_succ, Nat.reduceAdd, Array.getD_eq_getD_getElem?, List.getElem?_toArray, List.getElem?_cons_succ, List.getElem?_cons_zero, Option.getD_some]
           rfl)
      | (apply Reg.TW.assign_ Reg.Ext.refl _ rfl rfl
         · simp only [Act.put, Act.eval, List.setIfInBounds_toArray, List.set_cons_zero, List.set_cons_succ, Nat.reduceAdd, Array.getD_eq_getD_getElem?, List.getElem?_toArray, List.getElem?_cons_succ, List.getElem?_cons_zero, Option.getD_some]
           rfl)
      | (apply Reg.TW.skip_ rfl
         · simp only [Act.put, Act.eval, List.setIfInBounds_toArray, List.set_cons_zero, List.set_cons_succ, Nat.reduceAdd, Array.getD_eq_getD_getElem?, List.getElem?_toArray, List.getElem?_cons_succ, List.getElem?_cons_zero, Option.getD_some]
           rfl)
      | (apply Reg.TW.pure_ rfl
         · intro w1 hw1 hf K hK
           simp only [Act.put, List.setIfInBounds_toArray, List.set_cons_zero, List.set_cons_succ] at hK
           have HK := Lib.hid hK
           clear hf hK
           skip
           unfold Reg.One; dsimp only
           go_wp2_with fail
           exact HK.out _ (Reg.Ext.refl _)
         · simp only [Act.put, Act.eval, List.setIfInBounds_toArray, List.set_cons_zero, List.set_cons_succ, Nat.reduceAdd, Array.getD_eq_getD_getElem?, List.getElem?_toArray, List.getElem?_cons_succ, List.getElem?_cons_zero, Option.getD_some]
           rfl))
    apply Reg.TW.any_ (fun vq wq => ∃ bq, vq = .slice (some ⟨bq, 0, none⟩) 3 3 ∧ Rd wq (some ⟨bq, 0, none⟩) (List.map strV [abB, txB, tyB])) rfl (fun _ _ _ h ⟨bq, e, hr⟩ => ⟨bq, e, hr.below h⟩)
    · intro w1 hw1 hf K hK
      simp only [Act.put, List.setIfInBounds_toArray, List.set_cons_zero, List.set_cons_succ] at hK
      have HK := Lib.hid hK
      clear hK
      unfold Reg.One; dsimp only
      go_wp2_with fail
      exact HK.out _ _ (Reg.Ext.alloc _ _) ⟨_, rfl, Rd.new w1 9 (List.map strV [abB, txB, tyB]).toArray⟩
    intro v24 a1 ha
    simp only [Act.put, Act.eval, List.setIfInBounds_toArray, List.set_cons_zero, List.set_cons_succ, Nat.reduceAdd, Array.getD_eq_getD_getElem?, List.getElem?_toArray, List.getElem?_cons_succ, List.getElem?_cons_zero, Option.getD_some] at ha
    subst ha
    apply Reg.TW.call_ (c := .int .i64 2) (fun _ => True) rfl (fun _ _ _ h => h)
    · intro w1 hw1 hf K hK
      simp only [Act.put, List.setIfInBounds_toArray, List.set_cons_zero, List.set_cons_succ] at hK
      have HK := Lib.hid hK
      clear hK
      unfold Reg.One; dsimp only
      obtain ⟨b, rfl, hr⟩ := hf.get0 (by kernel_rfl)
      go_wp2_with fail
      refine ((Q5 _ _ hw1 hr).out).mono ?_
      rintro e w' ⟨rfl, hx⟩
      go_wp2_with fail
      exact HK.out _ hx trivial
    · simp only [Act.put, Act.eval, List.setIfInBounds_toArray, List.set_cons_zero, List.set_cons_succ, Nat.reduceAdd, Array.getD_eq_getD_getElem?, List.getElem?_toArray, List.getElem?_cons_succ, List.getElem?_cons_zero, Option.getD_some]
      rfl
    repeat (first
      | (apply Reg.TW.move_ Reg.Ext.refl _ rfl rfl
         · simp only [Act.put, Act.eval, List.setIfInBounds_toArray, List.set_cons_zero, List.set_cons_succ, Nat.reduceAdd, Array.getD_eq_getD_getElem?, List.getElem?_toArray, List.getElem?_cons_succ, List.getElem?_cons_zero, Option.getD_some]
           rfl)
      | (apply Reg.TW.assign_ Reg.Ext.refl _ rfl rfl
         · simp only [Act.put, Act.eval, List.setIfInBounds_toArray, List.set_cons_zero, List.set_cons_succ, Nat.reduceAdd, Array.getD_eq_getD_getElem?, List.getElem?_toArray, List.getElem?_cons_succ, List.getElem?_cons_zero, Option.getD_some]
           rfl)
      | (apply Reg.TW.skip_ rfl
         · simp only [Act.put, Act.eval, List.setIfInBounds_toArray, List.set_cons_zero, List.set_cons_succ, Nat.reduceAdd, Array.getD_eq_getD_getElem?, List.getElem?_toArray, List.getElem?_cons_succ, List.getElem?_cons_zero, Option.getD_some]
           rfl)
      | (apply Reg.TW.pure_ rfl
         · intro w1 hw1 hf K hK
           simp only [Act.put, List.setIfInBounds_toArray, List.set_cons_zero, List.set_cons_succ] at hK
           have HK := Lib.hid hK
           clear hf hK
           skip
           unfold Reg.One; dsimp only
           go_wp2_with fail
           exact HK.out _ (Reg.Ext.refl _)
         · simp only [Act.put, Act.eval, List.setIfInBounds_toArray, List.set_cons_zero, List.set_cons_succ, Nat.reduceAdd, Array.getD_eq_getD_getElem?, List.getElem?_toArray, List.getElem?_cons_succ, List.getElem?_cons_zero, Option.getD_some]
           rfl))
    apply Reg.TW.pure_ (c := .agg (zero32.map byteV).toArray) rfl
    · intro w1 hw1 hf K hK
      simp only [Act.put, List.setIfInBounds_toArray, List.set_cons_zero, List.set_cons_succ] at hK
      have HK := Lib.hid hK
      clear hK
      unfold Reg.One; dsimp only
      refine wpList_load_row rfl 38 _ rfl gd rfl 38 (zero32.map byteV).toArray (0, 0) _ (HD.out.ext hw1) Tryd.underlying38 rfl (by rw [List.size_toArray, List.length_map]; kernel_rfl) ?_
      simp only [Act.put, Act.eval, List.setIfInBounds_toArray, List.set_cons_zero, List.set_cons_succ, Nat.reduceAdd, Array.getD_eq_getD_getElem?, List.getElem?_toArray, List.getElem?_cons_succ, List.getElem?_cons_zero, Option.getD_some]
      go_wp2_with fail
      exact HK.out _ (Reg.Ext.refl _)
    · simp only [Act.put, Act.eval, List.setIfInBounds_toArray, List.set_cons_zero, List.set_cons_succ, Nat.reduceAdd, Array.getD_eq_getD_getElem?, List.getElem?_toArray, List.getElem?_cons_succ, List.getElem?_cons_zero, Option.getD_some]
      rfl
    apply Reg.TW.call_ (c := .string G) (fun _ => True) rfl (fun _ _ _ h => h)
    · intro w1 hw1 hf K hK
      simp only [Act.put, List.setIfInBounds_toArray, List.set_cons_zero, List.set_cons_succ] at hK
      have HK := Lib.hid hK
      clear hK
      unfold Reg.One; dsimp only
      skip
      go_wp2_with fail
      refine ((TG _).out).mono ?_
      rintro e w' ⟨rfl, hx⟩
      go_wp2_with fail
      exact HK.out _ hx trivial
    · simp only [Act.put, Act.eval, List.setIfInBounds_toArray, List.set_cons_zero, List.set_cons_succ, Nat.reduceAdd, Array.getD_eq_getD_getElem?, List.getElem?_toArray, List.getElem?_cons_succ, List.getElem?_cons_zero, Option.getD_some]
      rfl
    repeat (first
      | (apply Reg.TW.move_ Reg.Ext.refl _ rfl rfl
         · simp only [Act.put, Act.eval, List.setIfInBounds_toArray, List.set_cons_zero, List.set_cons_succ, Nat.reduceAdd, Array.getD_eq_getD_getElem?, List.getElem?_toArray, List.getElem?_cons_succ, List.getElem?_cons_zero, Option.getD_some]
           rfl)
      | (apply Reg.TW.assign_ Reg.Ext.refl _ rfl rfl
         · simp only [Act.put, Act.eval, List.setIfInBounds_toArray, List.set_cons_zero, List.set_cons_succ, Nat.reduceAdd, Array.getD_eq_getD_getElem?, List.getElem?_toArray, List.getElem?_cons_succ, List.getElem?_cons_zero, Option.getD_some]
           rfl)
      | (apply Reg.TW.skip_ rfl
         · simp only [Act.put, Act.eval, List.setIfInBounds_toArray, List.set_cons_zero, List.set_cons_succ, Nat.reduceAdd, Array.getD_eq_getD_getElem?, List.getElem?_toArray, List.getElem?_cons_succ, List.getElem?_cons_zero, Option.getD_some]
           rfl)
      | (apply Reg.TW.pure_ rfl
         · intro w1 hw1 hf K hK
           simp only [Act.put, List.setIfInBounds_toArray, List.set_cons_zero, List.set_cons_succ] at hK
           have HK := Lib.hid hK
           clear hf hK
           skip
           unfold Reg.One; dsimp only
           go_wp2_with fail
           exact HK.out _ (Reg.Ext.refl _)
         · simp only [Act.put, Act.eval, List.setIfInBounds_toArray, List.set_cons_zero, List.set_cons_succ, Nat.reduceAdd, Array.getD_eq_getD_getElem?, List.getElem?_toArray, List.getElem?_cons_succ, List.getElem?_cons_zero, Option.getD_some]
           rfl))
    apply Reg.TW.any_ (fun vq wq => ∃ bq, vq = .slice (some ⟨bq, 0, none⟩) 1 1 ∧ RdF wq (some ⟨bq, 0, none⟩) [(inmB, T)]) rfl (fun _ _ _ h ⟨bq, e, hr⟩ => ⟨bq, e, hr.below h⟩)
    · intro w1 hw1 hf K hK
      simp only [Act.put, List.setIfInBounds_toArray, List.set_cons_zero, List.set_cons_succ] at hK
      have HK := Lib.hid hK
      clear hK
      unfold Reg.One; dsimp only
      obtain ⟨i0, hi, hz0, hz1, hz2⟩ := fldInfo_of
      refine One.wpList_valw rfl _ (One.exec_one_row _ _ _ _ 22 35 #[.string inmB, .string T] rfl rfl i0 _ Tryd.underlying22 hi hz0 hz1 (by simp) (by simp)) ?_
      go_wp2_with fail
      exact HK.out _ _ (Reg.Ext.alloc _ _) ⟨_, rfl, Rd.new w1 35 #[.string inmB, .string T]⟩
    intro v33 a1 ha
    simp only [Act.put, Act.eval, List.setIfInBounds_toArray, List.set_cons_zero, List.set_cons_succ, Nat.reduceAdd, Array.getD_eq_getD_getElem?, List.getElem?_toArray, List.getElem?_cons_succ, List.getElem?_cons_zero, Option.getD_some] at ha
    subst ha
    apply Reg.TW.pure_ (c := .agg (zero32.map byteV).toArray) rfl
    · intro w1 hw1 hf K hK
      simp only [Act.put, List.setIfInBounds_toArray, List.set_cons_zero, List.set_cons_succ] at hK
      have HK := Lib.hid hK
      clear hK
      unfold Reg.One; dsimp only
      refine wpList_load_row rfl 38 _ rfl gd rfl 38 (zero32.map byteV).toArray (0, 0) _ (HD.out.ext hw1) Tryd.underlying38 rfl (by rw [List.size_toArray, List.length_map]; kernel_rfl) ?_
      simp only [Act.put, Act.eval, List.setIfInBounds_toArray, List.set_cons_zero, List.set_cons_succ, Nat.reduceAdd, Array.getD_eq_getD_getElem?, List.getElem?_toArray, List.getElem?_cons_succ, List.getElem?_cons_zero, Option.getD_some]
      go_wp2_with fail
      exact HK.out _ (Reg.Ext.refl _)
    · simp only [Act.put, Act.eval, List.setIfInBounds_toArray, List.set_cons_zero, List.set_cons_succ, Nat.reduceAdd, Array.getD_eq_getD_getElem?, List.getElem?_toArray, List.getElem?_cons_succ, List.getElem?_cons_zero, Option.getD_some]
      rfl
    apply Reg.TW.call_ (c := .bool true) (fun _ => True) rfl (fun _ _ _ h => h)
    · intro w1 hw1 hf K hK
      simp only [Act.put, List.setIfInBounds_toArray, List.set_cons_zero, List.set_cons_succ] at hK
      have HK := Lib.hid hK
      clear hK
      unfold Reg.One; dsimp only
      obtain ⟨b, rfl, hr⟩ := hf.get0 (by kernel_rfl)
      go_wp2_with fail
      refine ((Q6 _ _ hr).out).mono ?_
      rintro e w' ⟨rfl, hx⟩
      go_wp2_with fail
      exact HK.out _ hx trivial
    · simp only [Act.put, Act.eval, List.setIfInBounds_toArray, List.set_cons_zero, List.set_cons_succ, Nat.reduceAdd, Array.getD_eq_getD_getElem?, List.getElem?_toArray, List.getElem?_cons_succ, List.getElem?_cons_zero, Option.getD_some]
      rfl
    repeat (first
      | (apply Reg.TW.move_ Reg.Ext.refl _ rfl rfl
         · simp only [Act.put, Act.eval, List.setIfInBounds_toArray, List.set_cons_zero, List.set_cons_succ, Nat.reduceAdd, Array.getD_eq_getD_getElem?, List.getElem?_toArray, List.getElem?_cons_succ, List.getElem?_cons_zero, Option.getD_some]
           rfl)
      | (apply Reg.TW.assign_ Reg.Ext.refl _ rfl rfl
         · simp only [Act.put, Act.eval, List.setIfInBounds_toArray, List.set_cons_zero, List.set_cons_succ, Nat.reduceAdd, Array.getD_eq_getD_getElem?, List.getElem?_toArray, List.getElem?_cons_succ, List.getElem?_cons_zero, Option.getD_some]
           rfl)
      | (apply Reg.TW.skip_ rfl
         · simp only [Act.put, Act.eval, List.setIfInBounds_toArray, List.set_cons_zero, List.set_cons_succ, Nat.reduceAdd, Array.getD_eq_getD_getElem?, List.getElem?_toArray, List.getElem?_cons_succ, List.getElem?_cons_zero, Option.getD_some]
           rfl)
      | (apply Reg.TW.pure_ rfl
         · intro w1 hw1 hf K hK
           simp only [Act.put, List.setIfInBounds_toArray, List.set_cons_zero, List.set_cons_succ] at hK
           have HK := Lib.hid hK
           clear hf hK
           skip
           unfold Reg.One; dsimp only
           go_wp2_with fail
           exact HK.out _ (Reg.Ext.refl _)
         · simp only [Act.put, Act.eval, List.setIfInBounds_toArray, List.set_cons_zero, List.set_cons_succ, Nat.reduceAdd, Array.getD_eq_getD_getElem?, List.getElem?_toArray, List.getElem?_cons_succ, List.getElem?_cons_zero, Option.getD_some]
           rfl))
    apply Reg.TW.pure_ (c := .agg (zero32.map byteV).toArray) rfl
    · intro w1 hw1 hf K hK
      simp only [Act.put, List.setIfInBounds_toArray, List.set_cons_zero, List.set_cons_succ] at hK
      have HK := Lib.hid hK
      clear hK
      unfold Reg.One; dsimp only
      refine wpList_load_row rfl 38 _ rfl gd rfl 38 (zero32.map byteV).toArray (0, 0) _ (HD.out.ext hw1) Tryd.underlying38 rfl (by rw [List.size_toArray, List.length_map]; kernel_rfl) ?_
      simp only [Act.put, Act.eval, List.setIfInBounds_toArray, List.set_cons_zero, List.set_cons_succ, Nat.reduceAdd, Array.getD_eq_getD_getElem?, List.getElem?_toArray, List.getElem?_cons_succ, List.getElem?_cons_zero, Option.getD_some]
      go_wp2_with fail
      exact HK.out _ (Reg.Ext.refl _)
    · simp only [Act.put, Act.eval, List.setIfInBounds_toArray, List.set_cons_zero, List.set_cons_succ, Nat.reduceAdd, Array.getD_eq_getD_getElem?, List.getElem?_toArray, List.getElem?_cons_succ, List.getElem?_cons_zero, Option.getD_some]
      rfl
    apply Reg.TW.call_ (c := .bool false) (fun _ => True) rfl (fun _ _ _ h => h)
    · intro w1 hw1 hf K hK
      simp only [Act.put, List.setIfInBounds_toArray, List.set_cons_zero, List.set_cons_succ] at hK
      have HK := Lib.hid hK
      clear hK
      unfold Reg.One; dsimp only
      skip
      go_wp2_with fail
      refine ((Q7 _).out).mono ?_
      rintro e w' ⟨rfl, hx⟩
      go_wp2_with fail
      exact HK.out _ hx trivial
    · simp only [Act.put, Act.eval, List.setIfInBounds_toArray, List.set_cons_zero, List.set_cons_succ, Nat.reduceAdd, Array.getD_eq_getD_getElem?, List.getElem?_toArray, List.getElem?_cons_succ, List.getElem?_cons_zero, Option.getD_some]
      rfl
    repeat (first
      | (apply Reg.TW.move_ Reg.Ext.refl _ rfl rfl
         · simp only [Act.put, Act.eval, List.setIfInBounds_toArray, List.set_cons_zero, List.set_cons_succ, Nat.reduceAdd, Array.getD_eq_getD_getElem?, List.getElem?_toArray, List.getElem?_cons_succ, List.getElem?_cons_zero, Option.getD_some]
           rfl)
      | (apply Reg.TW.assign_ Reg.Ext.refl _ rfl rfl
         · simp only [Act.put, Act.eval, List.setIfInBounds_toArray, List.set_cons_zero, List.set_cons_succ, Nat.reduceAdd, Array.getD_eq_getD_getElem?, List.getElem?_toArray, List.getElem?_cons_succ, List.getElem?_cons_zero, Option.getD_some]
           rfl)
      | (apply Reg.TW.skip_ rfl
         · simp only [Act.put, Act.eval, List.setIfInBounds_toArray, List.set_cons_zero, List.set_cons_succ, Nat.reduceAdd, Array.getD_eq_getD_getElem?, List.getElem?_toArray, List.getElem?_cons_succ, List.getElem?_cons_zero, Option.getD_some]
           rfl)
      | (apply Reg.TW.pure_ rfl
         · intro w1 hw1 hf K hK
           simp only [Act.put, List.setIfInBounds_toArray, List.set_cons_zero, List.set_cons_succ] at hK
           have HK := Lib.hid hK
           clear hf hK
           skip
           unfold Reg.One; dsimp only
           go_wp2_with fail
           exact HK.out _ (Reg.Ext.refl _)
         · simp only [Act.put, Act.eval, List.setIfInBounds_toArray, List.set_cons_zero, List.set_cons_succ, Nat.reduceAdd, Array.getD_eq_getD_getElem?, List.getElem?_toArray, List.getElem?_cons_succ, List.getElem?_cons_zero, Option.getD_some]
           rfl))
    refine Reg.TW.nil_ ?_
    intro wn hwn _
    have HXn := Lib.hid (X2.out.trans hwn)
    clear hwn
    go_wp2_with fail
    go_ret
    exact ⟨rfl, HXn.out⟩
  all_goals rfl
end Tst
end Go.Proofs.YtglnefmaphajaaaDoor
