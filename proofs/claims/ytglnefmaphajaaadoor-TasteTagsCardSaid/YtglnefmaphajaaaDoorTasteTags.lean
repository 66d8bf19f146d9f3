/- Chapter 17: TasteTags, the walk. -/
import Derived.Test.YtglnefmaphajaaaDoorTasteT
set_option linter.unusedSimpArgs false
set_option linter.unusedVariables false
set_option linter.unusedSectionVars false
namespace Go.Proofs.YtglnefmaphajaaaDoor
open Go.RowKit
namespace Tst
open Fld
theorem cellsE : Tryd.prog.cellsOf 5 = 1 := by kernel_rfl
theorem info_byte' : ∃ i, Tryd.prog.info? 5 = some i := by
  cases h : Tryd.prog.info? 5 with
  | none => have : (Tryd.prog.info? 5).isSome = true := by kernel_rfl
            rw [h] at this; cases this
  | some i => exact ⟨i, rfl⟩
theorem equal_dig {l m : List UInt8} (hl : l.length = 32) (hm : m.length = 32) (w : World) : (Op.equalIn 10000 38 (.agg (l.map byteV).toArray) (.agg (m.map byteV).toArray)).run Tryd.prog w = .ok (l == m) w := by
  obtain ⟨i, hi⟩ := info_byte'
  exact run_equal_bytes w 9998 Tryd.underlying38 hi Tryd.underlying5 cellsE _ _ hl hm
theorem fl_tail {w : World} {g : Nat} {f h : Fld} (hr : RdF w (some ⟨g, 0, none⟩) [f, h]) : Fl w (some ⟨g, 2, none⟩) [h] := fun k hk => by
  have hk0 : k = 0 := by simpa using hk
  subst hk0
  obtain ⟨ad, e, hlt, h1, h2⟩ := RdF.at_ hr 1 (by simp)
  injection e with e
  subst e
  rw [add_plain] at h1 h2
  exact ⟨g, 2, rfl, hlt, h1, h2⟩
theorem sz_one (f : Fld) (h1 : f.1.size ≤ 536870912) (h2 : f.2.size ≤ 536870912) : Sz [f] := ⟨by simp, fun x hx => by rw [List.mem_singleton.1 hx]; exact ⟨h1, h2⟩⟩
theorem sz_two (f h : Fld) (h1 : f.1.size ≤ 536870912) (h2 : f.2.size ≤ 536870912) (h3 : h.1.size ≤ 536870912) (h4 : h.2.size ≤ 536870912) : Sz [f, h] := ⟨by simp, fun x hx => by
  rcases List.mem_cons.1 hx with rfl | hx
  · exact ⟨h1, h2⟩
  · rw [List.mem_singleton.1 hx]; exact ⟨h3, h4⟩⟩
set_option maxRecDepth 100000 in
set_option maxHeartbeats 16000000 in
theorem tags_law (a b : List UInt8) (wk : Bool) (ha : a.length = 32) (hb : b.length = 32) (w : World) :
    Calls Tryd.prog 5 #[.agg (a.map byteV).toArray, .agg (b.map byteV).toArray, .bool wk] w fun e w' => e = .returned (.bool true) ∧ Reg.Ext w w' := by
  have hb1 := Stp.box_blk w a
  have hx1 := Reg.Ext.alloc w (Obj.cells (a.map byteV).toArray 38)
  have hs1 := (show (w.alloc (Obj.cells (a.map byteV).toArray 38)).heap.size = w.heap.size + 1 from Array.size_push _)
  go_enter Tryd.func5, Tryd.ntmps5
  go_upto_region 1 with (fail)
  generalize w.alloc (Obj.cells (a.map byteV).toArray 38) = w0 at *
  have hb2 := Stp.box_blk w0 b
  have hx2 := Reg.Ext.alloc w0 (Obj.cells (b.map byteV).toArray 38)
  rw [hs1] at hb2
  have h1 := hb1.ext hx2
  have hx3 := hx1.trans hx2
  generalize w0.alloc (Obj.cells (b.map byteV).toArray 38) = w1 at *
  generalize w.heap.size + 1 = g4 at *
  generalize w.heap.size = g3 at *
  have HA := Lib.hid h1
  have HB := Lib.hid hb2
  have HX := Lib.hid hx3
  clear hb1 hx1 hs1 hb2 hx2 h1 hx3
  go_wp2_with fail
  refine (awake_any w1).mono ?_
  rintro e w2 ⟨rfl, x2⟩
  have HA2 := Lib.hid (HA.out.ext x2)
  have HB2 := Lib.hid (HB.out.ext x2)
  have HX2 := Lib.hid (HX.out.trans x2)
  clear x2 HA HB HX
  obtain ⟨G, hG⟩ : ∃ G : ByteArray, bl (tagL a) = G := ⟨_, rfl⟩
  have hGl : G.data.toList = tagL a := by rw [← hG, bl_l]
  have hGs : G.size = 73 := by rw [← len_data, hGl, tag_len a ha]
  have TG := fun w => Lib.hid (tag_any a ha w)
  rw [hG] at TG
  clear hG
  go_upto_region 3 with (fail)
  refine wp_region_lit ?_
  refine wpList_load_row rfl 38 _ rfl g3 rfl 38 (a.map byteV).toArray (0, 0) _ HA2.out Tryd.underlying38 rfl (by rw [List.size_toArray, List.length_map, ha]; kernel_rfl) ?_
  simp only [Act.put, Act.eval, List.setIfInBounds_toArray, List.set_cons_zero, List.set_cons_succ, Nat.reduceAdd, Array.getD_eq_getD_getElem?, List.getElem?_toArray, List.getElem?_cons_succ, List.getElem?_cons_zero, Option.getD_some]
  go_wp2_with fail
  refine (TG w2).out.mono ?_
  rintro e w3 ⟨rfl, x3⟩
  have HA3 := Lib.hid (HA2.out.ext x3)
  have HB3 := Lib.hid (HB2.out.ext x3)
  have HX3 := Lib.hid (HX2.out.trans x3)
  clear x3 HA2 HB2 HX2
  cases wk with
  | false =>
    obtain ⟨V, hV⟩ : ∃ V : ByteArray, ⟨#[34, 120, 34, 44, 32]⟩ ++ G = V := ⟨_, rfl⟩
    have hVl : V.data.toList = [34, 120, 34, 44, 32] ++ sent false a := by rw [← hV]; simp [sent, ← hGl]
    have hm1 := match_sent false a a ha ha V hVl
    have hm2 := match_sent false a b ha hb V hVl
    rw [show (a == a) = true by simp] at hm1
    have hVs : V.size ≤ 100 := by
      rw [← len_data, hVl, List.length_append]
      have h1 := tag_len a ha
      have h2 : (sent false a).length ≤ (tagL a).length + 2 := by simp [sent]
      have h3 : ([34, 120, 34, 44, 32] : List UInt8).length = 5 := rfl
      omega
    have HV := Lib.hid hV
    have HGs := Lib.hid hGs
    clear hGl hVl hV
    go_wp2_with fail
    rw [HV.out]
    clear HV
    have hx7 := Reg.Ext.alloc w3 (.cells #[.string ⟨#[105, 102, 45, 110, 111, 110, 101, 45, 109, 97, 116, 99, 104]⟩, .string V, .string ⟨#[88]⟩, .string ⟨#[42]⟩] 35)
    have hr7 : RdF (w3.alloc (.cells #[.string ⟨#[105, 102, 45, 110, 111, 110, 101, 45, 109, 97, 116, 99, 104]⟩, .string V, .string ⟨#[88]⟩, .string ⟨#[42]⟩] 35)) (some ⟨w3.heap.size, 0, none⟩) [(inmS, V), (xB, starB)] := Rd.new w3 35 #[_, _, _, _]
    have hsz7 : (w3.alloc (.cells #[.string ⟨#[105, 102, 45, 110, 111, 110, 101, 45, 109, 97, 116, 99, 104]⟩, .string V, .string ⟨#[88]⟩, .string ⟨#[42]⟩] 35)).heap.size = w3.heap.size + 1 := Array.size_push _
    generalize w3.alloc (.cells #[.string ⟨#[105, 102, 45, 110, 111, 110, 101, 45, 109, 97, 116, 99, 104]⟩, .string V, .string ⟨#[88]⟩, .string ⟨#[42]⟩] 35) = w4 at *
    have hx8 := Reg.Ext.alloc w4 (.cells #[.string ⟨#[73, 102, 45, 78, 111, 110, 101, 45, 77, 97, 116, 99, 104]⟩, .string ⟨#[42]⟩] 35)
    have hr8 : RdF (w4.alloc (.cells #[.string ⟨#[73, 102, 45, 78, 111, 110, 101, 45, 77, 97, 116, 99, 104]⟩, .string ⟨#[42]⟩] 35)) (some ⟨w4.heap.size, 0, none⟩) [(inmB, starB)] := Rd.new w4 35 #[_, _]
    rw [hsz7] at hr8
    have hr9 := RdF.ext hr7 hx8
    generalize w4.alloc (.cells #[.string ⟨#[73, 102, 45, 78, 111, 110, 101, 45, 77, 97, 116, 99, 104]⟩, .string ⟨#[42]⟩] 35) = w5 at *
    generalize w3.heap.size = g7 at *
    have HA4 := Lib.hid (HA3.out.ext (hx7.trans hx8))
    have HB4 := Lib.hid (HB3.out.ext (hx7.trans hx8))
    have HX5 := Lib.hid (HX3.out.trans (hx7.trans hx8))
    have HL := Lib.hid hr9
    have HT := Lib.hid hr8
    clear hx7 hx8 hr7 hr8 hr9 hsz7 HA3 HB3 HX3
    have M1 := fun w' (h : Reg.Ext w5 w') => Lib.hid (matches_any (some ⟨g7, 0, none⟩) 2 [(inmS, V), (xB, starB)] a ha w' (Lib.hid (Fl.of_rd (HL.out.ext h))) (sz_two _ _ (by decide : inmS.size ≤ 536870912) (by show V.size ≤ _; omega) (by decide) (by decide)))
    have M2 := fun w' (h : Reg.Ext w5 w') => Lib.hid (matches_any (some ⟨g7, 0, none⟩) 2 [(inmS, V), (xB, starB)] b hb w' (Lib.hid (Fl.of_rd (HL.out.ext h))) (sz_two _ _ (by decide : inmS.size ≤ 536870912) (by show V.size ≤ _; omega) (by decide) (by decide)))
    have M3 := fun w' (h : Reg.Ext w5 w') => Lib.hid (matches_any (some ⟨g7 + 1, 0, none⟩) 1 [(inmB, starB)] b hb w' (Lib.hid (Fl.of_rd (HT.out.ext h))) (sz_one _ (by decide) (by decide)))
    have M4 := fun w' (h : Reg.Ext w5 w') => Lib.hid (matches_any (some ⟨g7, 2, none⟩) 1 [(xB, starB)] a ha w' (Lib.hid (fl_tail (HL.out.ext h))) (sz_one _ (by decide) (by decide)))
    rw [hm1] at M1
    rw [hm2] at M2
    rw [match_star] at M3
    rw [match_x] at M4
    have HEQ := Lib.hid (equal_dig ha hb)
    generalize (a == b) = q at *
    clear hm1 hm2 hVs hGs
    apply Reg.wp_tab Reg.Ext (by kernel_rfl) (by kernel_rfl) Reg.Ext.refl (fun _ _ _ => Reg.Ext.trans) (Reg.Ext.drew _)
    case' h =>
      intro O
      repeat (first
        | (apply Reg.TW.move_ Reg.Ext.refl _ rfl rfl
           · simp only [Act.put, Act.eval, List.setIfInBounds_toArray, List.set_cons_zero, List.set_cons_succ, Nat.reduceAdd, Array.getD_eq_getD_getElem?, List.getElem?_toArray, List.getElem?_cons_succ, List.getElem?_cons_zero, Option.getD_some]
             rfl)
        | (apply Reg.TW.assign_ Reg.Ext.refl _ rfl rfl
           · simp only [Act.put, Act.eval, List.setIfInBounds_toArray, List.set_cons_zero, List.set_cons_succ, Nat.reduceAdd, Array.getD_eq_getD_getElem?, List.getElem?_toArray, List.getElem?_cons_succ, List.getElem?_cons_zero, Option.getD_some]
             rfl)
        | (apply Reg.TW.skip_ rfl
           · simp only [Act.put, Act.eval, List.setIfInBounds_toArray, List.set_cons_zero, List.set_cons_succ, Nat.reduceAdd, Array.getD_eq_getD_getElem?, List.getElem?_toArray, List.getElem?_cons_succ, List.getElem?_cons_zero, Option.getD_some]
             rfl)
        | (apply Reg.TW.pure_ rfl
           · intro w1 hw1 hf K hK
             simp only [Act.put, List.setIfInBounds_toArray, List.set_cons_zero, List.set_cons_succ] at hK
             have HK := Lib.hid hK
             clear hf hK
             skip
             unfold Reg.One; dsimp only
             go_wp2_with fail
             exact HK.out _ (Reg.Ext.refl _)
           · simp only [Act.put, Act.eval, List.setIfInBounds_toArray, List.set_cons_zero, List.set_cons_succ, Nat.reduceAdd, Array.getD_eq_getD_getElem?, List.getElem?_toArray, List.getElem?_cons_succ, List.getElem?_cons_zero, Option.getD_some]
             rfl))
      apply Reg.TW.pure_ (c := .agg ((a).map byteV).toArray) rfl
      · intro w1 hw1 hf K hK
        simp only [Act.put, List.setIfInBounds_toArray, List.set_cons_zero, List.set_cons_succ] at hK
        have HK := Lib.hid hK
        clear hK
        unfold Reg.One; dsimp only
        refine wpList_load_row rfl 38 _ rfl g3 rfl 38 ((a).map byteV).toArray (0, 0) _ (HA4.out.ext hw1) Tryd.underlying38 rfl (by rw [List.size_toArray, List.length_map, ha]; kernel_rfl) ?_
        simp only [Act.put, Act.eval, List.setIfInBounds_toArray, List.set_cons_zero, List.set_cons_succ, Nat.reduceAdd, Array.getD_eq_getD_getElem?, List.getElem?_toArray, List.getElem?_cons_succ, List.getElem?_cons_zero, Option.getD_some]
        go_wp2_with fail
        exact HK.out _ (Reg.Ext.refl _)
      · simp only [Act.put, Act.eval, List.setIfInBounds_toArray, List.set_cons_zero, List.set_cons_succ, Nat.reduceAdd, Array.getD_eq_getD_getElem?, List.getElem?_toArray, List.getElem?_cons_succ, List.getElem?_cons_zero, Option.getD_some]
        rfl
      apply Reg.TW.call_ (c := .bool true) (fun _ => True) rfl (fun _ _ _ h => h)
      · intro w1 hw1 hf K hK
        simp only [Act.put, List.setIfInBounds_toArray, List.set_cons_zero, List.set_cons_succ] at hK
        have HK := Lib.hid hK
        clear hK
        unfold Reg.One; dsimp only
        skip
        go_wp2_with fail
        refine ((M1 _ hw1).out).mono ?_
        rintro e w' ⟨rfl, hx⟩
        go_wp2_with fail
        exact HK.out _ hx trivial
      · simp only [Act.put, Act.eval, List.setIfInBounds_toArray, List.set_cons_zero, List.set_cons_succ, Nat.reduceAdd, Array.getD_eq_getD_getElem?, List.getElem?_toArray, List.getElem?_cons_succ, List.getElem?_cons_zero, Option.getD_some]
        rfl
      repeat (first
        | (apply Reg.TW.move_ Reg.Ext.refl _ rfl rfl
           · simp only [Act.put, Act.eval, List.setIfInBounds_toArray, List.set_cons_zero, List.set_cons_succ, Nat.reduceAdd, Array.getD_eq_getD_getElem?, List.getElem?_toArray, List.getElem?_cons_succ, List.getElem?_cons_zero, Option.getD_some]
             rfl)
        | (apply Reg.TW.assign_ Reg.Ext.refl _ rfl rfl
           · simp only [Act.put, Act.eval, List.setIfInBounds_toArray, List.set_cons_zero, List.set_cons_succ, Nat.reduceAdd, Array.getD_eq_getD_getElem?, List.getElem?_toArray, List.getElem?_cons_succ, List.getElem?_cons_zero, Option.getD_some]
             rfl)
        | (apply Reg.TW.skip_ rfl
           · simp only [Act.put, Act.eval, List.setIfInBounds_toArray, List.set_cons_zero, List.set_cons_succ, Nat.reduceAdd, Array.getD_eq_getD_getElem?, List.getElem?_toArray, List.getElem?_cons_succ, List.getElem?_cons_zero, Option.getD_some]
             rfl)
        | (apply Reg.TW.pure_ rfl
           · intro w1 hw1 hf K hK
             simp only [Act.put, List.setIfInBounds_toArray, List.set_cons_zero, List.set_cons_succ] at hK
             have HK := Lib.hid hK
             clear hf hK
             skip
             unfold Reg.One; dsimp only
             go_wp2_with fail
             exact HK.out _ (Reg.Ext.refl _)
           · simp only [Act.put, Act.eval, List.setIfInBounds_toArray, List.set_cons_zero, List.set_cons_succ, Nat.reduceAdd, Array.getD_eq_getD_getElem?, List.getElem?_toArray, List.getElem?_cons_succ, List.getElem?_cons_zero, Option.getD_some]
             rfl))
      apply Reg.TW.pure_ (c := .agg ((b).map byteV).toArray) rfl
      · intro w1 hw1 hf K hK
        simp only [Act.put, List.setIfInBounds_toArray, List.set_cons_zero, List.set_cons_succ] at hK
        have HK := Lib.hid hK
        clear hK
        unfold Reg.One; dsimp only
        refine wpList_load_row rfl 38 _ rfl g4 rfl 38 ((b).map byteV).toArray (0, 0) _ (HB4.out.ext hw1) Tryd.underlying38 rfl (by rw [List.size_toArray, List.length_map, hb]; kernel_rfl) ?_
        simp only [Act.put, Act.eval, List.setIfInBounds_toArray, List.set_cons_zero, List.set_cons_succ, Nat.reduceAdd, Array.getD_eq_getD_getElem?, List.getElem?_toArray, List.getElem?_cons_succ, List.getElem?_cons_zero, Option.getD_some]
        go_wp2_with fail
        exact HK.out _ (Reg.Ext.refl _)
      · simp only [Act.put, Act.eval, List.setIfInBounds_toArray, List.set_cons_zero, List.set_cons_succ, Nat.reduceAdd, Array.getD_eq_getD_getElem?, List.getElem?_toArray, List.getElem?_cons_succ, List.getElem?_cons_zero, Option.getD_some]
        rfl
      apply Reg.TW.call_ (c := .bool q) (fun _ => True) rfl (fun _ _ _ h => h)
      · intro w1 hw1 hf K hK
        simp only [Act.put, List.setIfInBounds_toArray, List.set_cons_zero, List.set_cons_succ] at hK
        have HK := Lib.hid hK
        clear hK
        unfold Reg.One; dsimp only
        skip
        go_wp2_with fail
        refine ((M2 _ hw1).out).mono ?_
        rintro e w' ⟨rfl, hx⟩
        go_wp2_with fail
        exact HK.out _ hx trivial
      · simp only [Act.put, Act.eval, List.setIfInBounds_toArray, List.set_cons_zero, List.set_cons_succ, Nat.reduceAdd, Array.getD_eq_getD_getElem?, List.getElem?_toArray, List.getElem?_cons_succ, List.getElem?_cons_zero, Option.getD_some]
        rfl
      apply Reg.TW.pure_ (c := .agg ((a).map byteV).toArray) rfl
      · intro w1 hw1 hf K hK
        simp only [Act.put, List.setIfInBounds_toArray, List.set_cons_zero, List.set_cons_succ] at hK
        have HK := Lib.hid hK
        clear hK
        unfold Reg.One; dsimp only
        refine wpList_load_row rfl 38 _ rfl g3 rfl 38 ((a).map byteV).toArray (0, 0) _ (HA4.out.ext hw1) Tryd.underlying38 rfl (by rw [List.size_toArray, List.length_map, ha]; kernel_rfl) ?_
        simp only [Act.put, Act.eval, List.setIfInBounds_toArray, List.set_cons_zero, List.set_cons_succ, Nat.reduceAdd, Array.getD_eq_getD_getElem?, List.getElem?_toArray, List.getElem?_cons_succ, List.getElem?_cons_zero, Option.getD_some]
        go_wp2_with fail
        exact HK.out _ (Reg.Ext.refl _)
      · simp only [Act.put, Act.eval, List.setIfInBounds_toArray, List.set_cons_zero, List.set_cons_succ, Nat.reduceAdd, Array.getD_eq_getD_getElem?, List.getElem?_toArray, List.getElem?_cons_succ, List.getElem?_cons_zero, Option.getD_some]
        rfl
      apply Reg.TW.pure_ (c := .agg ((b).map byteV).toArray) rfl
      · intro w1 hw1 hf K hK
        simp only [Act.put, List.setIfInBounds_toArray, List.set_cons_zero, List.set_cons_succ] at hK
        have HK := Lib.hid hK
        clear hK
        unfold Reg.One; dsimp only
        refine wpList_load_row rfl 38 _ rfl g4 rfl 38 ((b).map byteV).toArray (0, 0) _ (HB4.out.ext hw1) Tryd.underlying38 rfl (by rw [List.size_toArray, List.length_map, hb]; kernel_rfl) ?_
        simp only [Act.put, Act.eval, List.setIfInBounds_toArray, List.set_cons_zero, List.set_cons_succ, Nat.reduceAdd, Array.getD_eq_getD_getElem?, List.getElem?_toArray, List.getElem?_cons_succ, List.getElem?_cons_zero, Option.getD_some]
        go_wp2_with fail
        exact HK.out _ (Reg.Ext.refl _)
      · simp only [Act.put, Act.eval, List.setIfInBounds_toArray, List.set_cons_zero, List.set_cons_succ, Nat.reduceAdd, Array.getD_eq_getD_getElem?, List.getElem?_toArray, List.getElem?_cons_succ, List.getElem?_cons_zero, Option.getD_some]
        rfl
      repeat (first
        | (apply Reg.TW.move_ Reg.Ext.refl _ rfl rfl
           · simp only [Act.put, Act.eval, List.setIfInBounds_toArray, List.set_cons_zero, List.set_cons_succ, Nat.reduceAdd, Array.getD_eq_getD_getElem?, List.getElem?_toArray, List.getElem?_cons_succ, List.getElem?_cons_zero, Option.getD_some]
             rfl)
        | (apply Reg.TW.assign_ Reg.Ext.refl _ rfl rfl
           · simp only [Act.put, Act.eval, List.setIfInBounds_toArray, List.set_cons_zero, List.set_cons_succ, Nat.reduceAdd, Array.getD_eq_getD_getElem?, List.getElem?_toArray, List.getElem?_cons_succ, List.getElem?_cons_zero, Option.getD_some]
             rfl)
        | (apply Reg.TW.skip_ rfl
           · simp only [Act.put, Act.eval, List.setIfInBounds_toArray, List.set_cons_zero, List.set_cons_succ, Nat.reduceAdd, Array.getD_eq_getD_getElem?, List.getElem?_toArray, List.getElem?_cons_succ, List.getElem?_cons_zero, Option.getD_some]
             rfl)
        | (apply Reg.TW.pure_ rfl
           · intro w1 hw1 hf K hK
             simp only [Act.put, List.setIfInBounds_toArray, List.set_cons_zero, List.set_cons_succ] at hK
             have HK := Lib.hid hK
             clear hf hK
             have q2 := HEQ.out
             unfold Reg.One; dsimp only
             go_wp2_with fail
             exact HK.out _ (Reg.Ext.refl _)
           · simp only [Act.put, Act.eval, List.setIfInBounds_toArray, List.set_cons_zero, List.set_cons_succ, Nat.reduceAdd, Array.getD_eq_getD_getElem?, List.getElem?_toArray, List.getElem?_cons_succ, List.getElem?_cons_zero, Option.getD_some]
             rfl))
      apply Reg.TW.pure_ (c := .agg ((b).map byteV).toArray) rfl
      · intro w1 hw1 hf K hK
        simp only [Act.put, List.setIfInBounds_toArray, List.set_cons_zero, List.set_cons_succ] at hK
        have HK := Lib.hid hK
        clear hK
        unfold Reg.One; dsimp only
        refine wpList_load_row rfl 38 _ rfl g4 rfl 38 ((b).map byteV).toArray (0, 0) _ (HB4.out.ext hw1) Tryd.underlying38 rfl (by rw [List.size_toArray, List.length_map, hb]; kernel_rfl) ?_
        simp only [Act.put, Act.eval, List.setIfInBounds_toArray, List.set_cons_zero, List.set_cons_succ, Nat.reduceAdd, Array.getD_eq_getD_getElem?, List.getElem?_toArray, List.getElem?_cons_succ, List.getElem?_cons_zero, Option.getD_some]
        go_wp2_with fail
        exact HK.out _ (Reg.Ext.refl _)
      · simp only [Act.put, Act.eval, List.setIfInBounds_toArray, List.set_cons_zero, List.set_cons_succ, Nat.reduceAdd, Array.getD_eq_getD_getElem?, List.getElem?_toArray, List.getElem?_cons_succ, List.getElem?_cons_zero, Option.getD_some]
        rfl
      apply Reg.TW.call_ (c := .bool true) (fun _ => True) rfl (fun _ _ _ h => h)
      · intro w1 hw1 hf K hK
        simp only [Act.put, List.setIfInBounds_toArray, List.set_cons_zero, List.set_cons_succ] at hK
        have HK := Lib.hid hK
        clear hK
        unfold Reg.One; dsimp only
        skip
        go_wp2_with fail
        refine ((M3 _ hw1).out).mono ?_
        rintro e w' ⟨rfl, hx⟩
        go_wp2_with fail
        exact HK.out _ hx trivial
      · simp only [Act.put, Act.eval, List.setIfInBounds_toArray, List.set_cons_zero, List.set_cons_succ, Nat.reduceAdd, Array.getD_eq_getD_getElem?, List.getElem?_toArray, List.getElem?_cons_succ, List.getElem?_cons_zero, Option.getD_some]
        rfl
      repeat (first
        | (apply Reg.TW.move_ Reg.Ext.refl _ rfl rfl
           · simp only [Act.put, Act.eval, List.setIfInBounds_toArray, List.set_cons_zero, List.set_cons_succ, Nat.reduceAdd, Array.getD_eq_getD_getElem?, List.getElem?_toArray, List.getElem?_cons_succ, List.getElem?_cons_zero, Option.getD_some]
             rfl)
        | (apply Reg.TW.assign_ Reg.Ext.refl _ rfl rfl
           · simp only [Act.put, Act.eval, List.setIfInBounds_toArray, List.set_cons_zero, List.set_cons_succ, Nat.reduceAdd, Array.getD_eq_getD_getElem?, List.getElem?_toArray, List.getElem?_cons_succ, List.getElem?_cons_zero, Option.getD_some]
             rfl)
        | (apply Reg.TW.skip_ rfl
           · simp only [Act.put, Act.eval, List.setIfInBounds_toArray, List.set_cons_zero, List.set_cons_succ, Nat.reduceAdd, Array.getD_eq_getD_getElem?, List.getElem?_toArray, List.getElem?_cons_succ, List.getElem?_cons_zero, Option.getD_some]
             rfl)
        | (apply Reg.TW.pure_ rfl
           · intro w1 hw1 hf K hK
             simp only [Act.put, List.setIfInBounds_toArray, List.set_cons_zero, List.set_cons_succ] at hK
             have HK := Lib.hid hK
             clear hf hK
             skip
             unfold Reg.One; dsimp only
             go_wp2_with fail
             exact HK.out _ (Reg.Ext.refl _)
           · simp only [Act.put, Act.eval, List.setIfInBounds_toArray, List.set_cons_zero, List.set_cons_succ, Nat.reduceAdd, Array.getD_eq_getD_getElem?, List.getElem?_toArray, List.getElem?_cons_succ, List.getElem?_cons_zero, Option.getD_some]
             rfl))
      apply Reg.TW.pure_ (c := .agg ((a).map byteV).toArray) rfl
      · intro w1 hw1 hf K hK
        simp only [Act.put, List.setIfInBounds_toArray, List.set_cons_zero, List.set_cons_succ] at hK
        have HK := Lib.hid hK
        clear hK
        unfold Reg.One; dsimp only
        refine wpList_load_row rfl 38 _ rfl g3 rfl 38 ((a).map byteV).toArray (0, 0) _ (HA4.out.ext hw1) Tryd.underlying38 rfl (by rw [List.size_toArray, List.length_map, ha]; kernel_rfl) ?_
        simp only [Act.put, Act.eval, List.setIfInBounds_toArray, List.set_cons_zero, List.set_cons_succ, Nat.reduceAdd, Array.getD_eq_getD_getElem?, List.getElem?_toArray, List.getElem?_cons_succ, List.getElem?_cons_zero, Option.getD_some]
        go_wp2_with fail
        exact HK.out _ (Reg.Ext.refl _)
      · simp only [Act.put, Act.eval, List.setIfInBounds_toArray, List.set_cons_zero, List.set_cons_succ, Nat.reduceAdd, Array.getD_eq_getD_getElem?, List.getElem?_toArray, List.getElem?_cons_succ, List.getElem?_cons_zero, Option.getD_some]
        rfl
      apply Reg.TW.call_ (c := .bool false) (fun _ => True) rfl (fun _ _ _ h => h)
      · intro w1 hw1 hf K hK
        simp only [Act.put, List.setIfInBounds_toArray, List.set_cons_zero, List.set_cons_succ] at hK
        have HK := Lib.hid hK
        clear hK
        unfold Reg.One; dsimp only
        skip
        go_wp2_with fail
        refine ((M4 _ hw1).out).mono ?_
        rintro e w' ⟨rfl, hx⟩
        go_wp2_with fail
        exact HK.out _ hx trivial
      · simp only [Act.put, Act.eval, List.setIfInBounds_toArray, List.set_cons_zero, List.set_cons_succ, Nat.reduceAdd, Array.getD_eq_getD_getElem?, List.getElem?_toArray, List.getElem?_cons_succ, List.getElem?_cons_zero, Option.getD_some]
        rfl
      repeat (first
        | (apply Reg.TW.move_ Reg.Ext.refl _ rfl rfl
           · simp only [Act.put, Act.eval, List.setIfInBounds_toArray, List.set_cons_zero, List.set_cons_succ, Nat.reduceAdd, Array.getD_eq_getD_getElem?, List.getElem?_toArray, List.getElem?_cons_succ, List.getElem?_cons_zero, Option.getD_some]
             rfl)
        | (apply Reg.TW.assign_ Reg.Ext.refl _ rfl rfl
           · simp only [Act.put, Act.eval, List.setIfInBounds_toArray, List.set_cons_zero, List.set_cons_succ, Nat.reduceAdd, Array.getD_eq_getD_getElem?, List.getElem?_toArray, List.getElem?_cons_succ, List.getElem?_cons_zero, Option.getD_some]
             rfl)
        | (apply Reg.TW.skip_ rfl
           · simp only [Act.put, Act.eval, List.setIfInBounds_toArray, List.set_cons_zero, List.set_cons_succ, Nat.reduceAdd, Array.getD_eq_getD_getElem?, List.getElem?_toArray, List.getElem?_cons_succ, List.getElem?_cons_zero, Option.getD_some]
             rfl)
        | (apply Reg.TW.pure_ rfl
           · intro w1 hw1 hf K hK
             simp only [Act.put, List.setIfInBounds_toArray, List.set_cons_zero, List.set_cons_succ] at hK
             have HK := Lib.hid hK
             clear hf hK
             skip
             unfold Reg.One; dsimp only
             go_wp2_with fail
             exact HK.out _ (Reg.Ext.refl _)
           · simp only [Act.put, Act.eval, List.setIfInBounds_toArray, List.set_cons_zero, List.set_cons_succ, Nat.reduceAdd, Array.getD_eq_getD_getElem?, List.getElem?_toArray, List.getElem?_cons_succ, List.getElem?_cons_zero, Option.getD_some]
             rfl))
      apply Reg.TW.pure_ (c := .agg ((a).map byteV).toArray) rfl
      · intro w1 hw1 hf K hK
        simp only [Act.put, List.setIfInBounds_toArray, List.set_cons_zero, List.set_cons_succ] at hK
        have HK := Lib.hid hK
        clear hK
        unfold Reg.One; dsimp only
        refine wpList_load_row rfl 38 _ rfl g3 rfl 38 ((a).map byteV).toArray (0, 0) _ (HA4.out.ext hw1) Tryd.underlying38 rfl (by rw [List.size_toArray, List.length_map, ha]; kernel_rfl) ?_
        simp only [Act.put, Act.eval, List.setIfInBounds_toArray, List.set_cons_zero, List.set_cons_succ, Nat.reduceAdd, Array.getD_eq_getD_getElem?, List.getElem?_toArray, List.getElem?_cons_succ, List.getElem?_cons_zero, Option.getD_some]
        go_wp2_with fail
        exact HK.out _ (Reg.Ext.refl _)
      · simp only [Act.put, Act.eval, List.setIfInBounds_toArray, List.set_cons_zero, List.set_cons_succ, Nat.reduceAdd, Array.getD_eq_getD_getElem?, List.getElem?_toArray, List.getElem?_cons_succ, List.getElem?_cons_zero, Option.getD_some]
        rfl
      apply Reg.TW.call_ (c := .string G) (fun _ => True) rfl (fun _ _ _ h => h)
      · intro w1 hw1 hf K hK
        simp only [Act.put, List.setIfInBounds_toArray, List.set_cons_zero, List.set_cons_succ] at hK
        have HK := Lib.hid hK
        clear hK
        unfold Reg.One; dsimp only
        skip
        go_wp2_with fail
        refine ((TG _).out).mono ?_
        rintro e w' ⟨rfl, hx⟩
        go_wp2_with fail
        exact HK.out _ hx trivial
      · simp only [Act.put, Act.eval, List.setIfInBounds_toArray, List.set_cons_zero, List.set_cons_succ, Nat.reduceAdd, Array.getD_eq_getD_getElem?, List.getElem?_toArray, List.getElem?_cons_succ, List.getElem?_cons_zero, Option.getD_some]
        rfl
      repeat (first
        | (apply Reg.TW.move_ Reg.Ext.refl _ rfl rfl
           · simp only [Act.put, Act.eval, List.setIfInBounds_toArray, List.set_cons_zero, List.set_cons_succ, Nat.reduceAdd, Array.getD_eq_getD_getElem?, List.getElem?_toArray, List.getElem?_cons_succ, List.getElem?_cons_zero, Option.getD_some]
             rfl)
        | (apply Reg.TW.assign_ Reg.Ext.refl _ rfl rfl
           · simp only [Act.put, Act.eval, List.setIfInBounds_toArray, List.set_cons_zero, List.set_cons_succ, Nat.reduceAdd, Array.getD_eq_getD_getElem?, List.getElem?_toArray, List.getElem?_cons_succ, List.getElem?_cons_zero, Option.getD_some]
             rfl)
        | (apply Reg.TW.skip_ rfl
           · simp only [Act.put, Act.eval, List.setIfInBounds_toArray, List.set_cons_zero, List.set_cons_succ, Nat.reduceAdd, Array.getD_eq_getD_getElem?, List.getElem?_toArray, List.getElem?_cons_succ, List.getElem?_cons_zero, Option.getD_some]
             rfl)
        | (apply Reg.TW.pure_ rfl
           · intro w1 hw1 hf K hK
             simp only [Act.put, List.setIfInBounds_toArray, List.set_cons_zero, List.set_cons_succ] at hK
             have HK := Lib.hid hK
             clear hf hK
             have q3 := HGs.out
             unfold Reg.One; dsimp only
             go_wp2_with fail
             exact HK.out _ (Reg.Ext.refl _)
           · simp only [Act.put, Act.eval, List.setIfInBounds_toArray, List.set_cons_zero, List.set_cons_succ, Nat.reduceAdd, Array.getD_eq_getD_getElem?, List.getElem?_toArray, List.getElem?_cons_succ, List.getElem?_cons_zero, Option.getD_some]
             rfl))
      refine Reg.TW.nil_ ?_
      intro wn hwn _
      have HXn := Lib.hid (HX5.out.trans hwn)
      clear hwn
      go_wp2_with fail
      go_ret
      exact ⟨rfl, HXn.out⟩
    all_goals rfl
  | true =>
    obtain ⟨V, hV⟩ : ∃ V : ByteArray, ⟨#[34, 120, 34, 44, 32]⟩ ++ (⟨#[87, 47]⟩ ++ G) = V := ⟨_, rfl⟩
    have hVl : V.data.toList = [34, 120, 34, 44, 32] ++ sent true a := by rw [← hV]; simp [sent, ← hGl]
    have hm1 := match_sent true a a ha ha V hVl
    have hm2 := match_sent true a b ha hb V hVl
    rw [show (a == a) = true by simp] at hm1
    have hVs : V.size ≤ 100 := by
      rw [← len_data, hVl, List.length_append]
      have h1 := tag_len a ha
      have h2 : (sent true a).length ≤ (tagL a).length + 2 := by simp [sent]
      have h3 : ([34, 120, 34, 44, 32] : List UInt8).length = 5 := rfl
      omega
    have HV := Lib.hid hV
    have HGs := Lib.hid hGs
    clear hGl hVl hV
    go_wp2_with fail
    rw [HV.out]
    clear HV
    have hx7 := Reg.Ext.alloc w3 (.cells #[.string ⟨#[105, 102, 45, 110, 111, 110, 101, 45, 109, 97, 116, 99, 104]⟩, .string V, .string ⟨#[88]⟩, .string ⟨#[42]⟩] 35)
    have hr7 : RdF (w3.alloc (.cells #[.string ⟨#[105, 102, 45, 110, 111, 110, 101, 45, 109, 97, 116, 99, 104]⟩, .string V, .string ⟨#[88]⟩, .string ⟨#[42]⟩] 35)) (some ⟨w3.heap.size, 0, none⟩) [(inmS, V), (xB, starB)] := Rd.new w3 35 #[_, _, _, _]
    have hsz7 : (w3.alloc (.cells #[.string ⟨#[105, 102, 45, 110, 111, 110, 101, 45, 109, 97, 116, 99, 104]⟩, .string V, .string ⟨#[88]⟩, .string ⟨#[42]⟩] 35)).heap.size = w3.heap.size + 1 := Array.size_push _
    generalize w3.alloc (.cells #[.string ⟨#[105, 102, 45, 110, 111, 110, 101, 45, 109, 97, 116, 99, 104]⟩, .string V, .string ⟨#[88]⟩, .string ⟨#[42]⟩] 35) = w4 at *
    have hx8 := Reg.Ext.alloc w4 (.cells #[.string ⟨#[73, 102, 45, 78, 111, 110, 101, 45, 77, 97, 116, 99, 104]⟩, .string ⟨#[42]⟩] 35)
    have hr8 : RdF (w4.alloc (.cells #[.string ⟨#[73, 102, 45, 78, 111, 110, 101, 45, 77, 97, 116, 99, 104]⟩, .string ⟨#[42]⟩] 35)) (some ⟨w4.heap.size, 0, none⟩) [(inmB, starB)] := Rd.new w4 35 #[_, _]
    rw [hsz7] at hr8
    have hr9 := RdF.ext hr7 hx8
    generalize w4.alloc (.cells #[.string ⟨#[73, 102, 45, 78, 111, 110, 101, 45, 77, 97, 116, 99, 104]⟩, .string ⟨#[42]⟩] 35) = w5 at *
    generalize w3.heap.size = g7 at *
    have HA4 := Lib.hid (HA3.out.ext (hx7.trans hx8))
    have HB4 := Lib.hid (HB3.out.ext (hx7.trans hx8))
    have HX5 := Lib.hid (HX3.out.trans (hx7.trans hx8))
    have HL := Lib.hid hr9
    have HT := Lib.hid hr8
    clear hx7 hx8 hr7 hr8 hr9 hsz7 HA3 HB3 HX3
    have M1 := fun w' (h : Reg.Ext w5 w') => Lib.hid (matches_any (some ⟨g7, 0, none⟩) 2 [(inmS, V), (xB, starB)] a ha w' (Lib.hid (Fl.of_rd (HL.out.ext h))) (sz_two _ _ (by decide : inmS.size ≤ 536870912) (by show V.size ≤ _; omega) (by decide) (by decide)))
    have M2 := fun w' (h : Reg.Ext w5 w') => Lib.hid (matches_any (some ⟨g7, 0, none⟩) 2 [(inmS, V), (xB, starB)] b hb w' (Lib.hid (Fl.of_rd (HL.out.ext h))) (sz_two _ _ (by decide : inmS.size ≤ 536870912) (by show V.size ≤ _; omega) (by decide) (by decide)))
    have M3 := fun w' (h : Reg.Ext w5 w') => Lib.hid (matches_any (some ⟨g7 + 1, 0, none⟩) 1 [(inmB, starB)] b hb w' (Lib.hid (Fl.of_rd (HT.out.ext h))) (sz_one _ (by decide) (by decide)))
    have M4 := fun w' (h : Reg.Ext w5 w') => Lib.hid (matches_any (some ⟨g7, 2, none⟩) 1 [(xB, starB)] a ha w' (Lib.hid (fl_tail (HL.out.ext h))) (sz_one _ (by decide) (by decide)))
    rw [hm1] at M1
    rw [hm2] at M2
    rw [match_star] at M3
    rw [match_x] at M4
    have HEQ := Lib.hid (equal_dig ha hb)
    generalize (a == b) = q at *
    clear hm1 hm2 hVs hGs
    apply Reg.wp_tab Reg.Ext (by kernel_rfl) (by kernel_rfl) Reg.Ext.refl (fun _ _ _ => Reg.Ext.trans) (Reg.Ext.drew _)
    case' h =>
      intro O
      repeat (first
        | (apply Reg.TW.move_ Reg.Ext.refl _ rfl rfl
           · simp only [Act.put, Act.eval, List.setIfInBounds_toArray, List.set_cons_zero, List.set_cons_succ, Nat.reduceAdd, Array.getD_eq_getD_getElem?, List.getElem?_toArray, List.getElem?_cons_succ, List.getElem?_cons_zero, Option.getD_some]
             rfl)
        | (apply Reg.TW.assign_ Reg.Ext.refl _ rfl rfl
           · simp only [Act.put, Act.eval, List.setIfInBounds_toArray, List.set_cons_zero, List.set_cons_succ, Nat.reduceAdd, Array.getD_eq_getD_getElem?, List.getElem?_toArray, List.getElem?_cons_succ, List.getElem?_cons_zero, Option.getD_some]
             rfl)
        | (apply Reg.TW.skip_ rfl
           · simp only [Act.put, Act.eval, List.setIfInBounds_toArray, List.set_cons_zero, List.set_cons_succ, Nat.reduceAdd, Array.getD_eq_getD_getElem?, List.getElem?_toArray, List.getElem?_cons_succ, List.getElem?_cons_zero, Option.getD_some]
             rfl)
        | (apply Reg.TW.pure_ rfl
           · intro w1 hw1 hf K hK
             simp only [Act.put, List.setIfInBounds_toArray, List.set_cons_zero, List.set_cons_succ] at hK
             have HK := Lib.hid hK
             clear hf hK
             skip
             unfold Reg.One; dsimp only
             go_wp2_with fail
             exact HK.out _ (Reg.Ext.refl _)
           · simp only [Act.put, Act.eval, List.setIfInBounds_toArray, List.set_cons_zero, List.set_cons_succ, Nat.reduceAdd, Array.getD_eq_getD_getElem?, List.getElem?_toArray, List.getElem?_cons_succ, List.getElem?_cons_zero, Option.getD_some]
             rfl))
      apply Reg.TW.pure_ (c := .agg ((a).map byteV).toArray) rfl
      · intro w1 hw1 hf K hK
        simp only [Act.put, List.setIfInBounds_toArray, List.set_cons_zero, List.set_cons_succ] at hK
        have HK := Lib.hid hK
        clear hK
        unfold Reg.One; dsimp only
        refine wpList_load_row rfl 38 _ rfl g3 rfl 38 ((a).map byteV).toArray (0, 0) _ (HA4.out.ext hw1) Tryd.underlying38 rfl (by rw [List.size_toArray, List.length_map, ha]; kernel_rfl) ?_
        simp only [Act.put, Act.eval, List.setIfInBounds_toArray, List.set_cons_zero, List.set_cons_succ, Nat.reduceAdd, Array.getD_eq_getD_getElem?, List.getElem?_toArray, List.getElem?_cons_succ, List.getElem?_cons_zero, Option.getD_some]
        go_wp2_with fail
        exact HK.out _ (Reg.Ext.refl _)
      · simp only [Act.put, Act.eval, List.setIfInBounds_toArray, List.set_cons_zero, List.set_cons_succ, Nat.reduceAdd, Array.getD_eq_getD_getElem?, List.getElem?_toArray, List.getElem?_cons_succ, List.getElem?_cons_zero, Option.getD_some]
        rfl
      apply Reg.TW.call_ (c := .bool true) (fun _ => True) rfl (fun _ _ _ h => h)
      · intro w1 hw1 hf K hK
        simp only [Act.put, List.setIfInBounds_toArray, List.set_cons_zero, List.set_cons_succ] at hK
        have HK := Lib.hid hK
        clear hK
        unfold Reg.One; dsimp only
        skip
        go_wp2_with fail
        refine ((M1 _ hw1).out).mono ?_
        rintro e w' ⟨rfl, hx⟩
        go_wp2_with fail
        exact HK.out _ hx trivial
      · simp only [Act.put, Act.eval, List.setIfInBounds_toArray, List.set_cons_zero, List.set_cons_succ, Nat.reduceAdd, Array.getD_eq_getD_getElem?, List.getElem?_toArray, List.getElem?_cons_succ, List.getElem?_cons_zero, Option.getD_some]
        rfl
      repeat (first
        | (apply Reg.TW.move_ Reg.Ext.refl _ rfl rfl
           · simp only [Act.put, Act.eval, List.setIfInBounds_toArray, List.set_cons_zero, List.set_cons_succ, Nat.reduceAdd, Array.getD_eq_getD_getElem?, List.getElem?_toArray, List.getElem?_cons_succ, List.getElem?_cons_zero, Option.getD_some]
             rfl)
        | (apply Reg.TW.assign_ Reg.Ext.refl _ rfl rfl
           · simp only [Act.put, Act.eval, List.setIfInBounds_toArray, List.set_cons_zero, List.set_cons_succ, Nat.reduceAdd, Array.getD_eq_getD_getElem?, List.getElem?_toArray, List.getElem?_cons_succ, List.getElem?_cons_zero, Option.getD_some]
             rfl)
        | (apply Reg.TW.skip_ rfl
           · simp only [Act.put, Act.eval, List.setIfInBounds_toArray, List.set_cons_zero, List.set_cons_succ, Nat.reduceAdd, Array.getD_eq_getD_getElem?, List.getElem?_toArray, List.getElem?_cons_succ, List.getElem?_cons_zero, Option.getD_some]
             rfl)
        | (apply Reg.TW.pure_ rfl
           · intro w1 hw1 hf K hK
             simp only [Act.put, List.setIfInBounds_toArray, List.set_cons_zero, List.set_cons_succ] at hK
             have HK := Lib.hid hK
             clear hf hK
             skip
             unfold Reg.One; dsimp only
             go_wp2_with fail
             exact HK.out _ (Reg.Ext.refl _)
           · simp only [Act.put, Act.eval, List.setIfInBounds_toArray, List.set_cons_zero, List.set_cons_succ, Nat.reduceAdd, Array.getD_eq_getD_getElem?, List.getElem?_toArray, List.getElem?_cons_succ, List.getElem?_cons_zero, Option.getD_some]
             rfl))
      apply Reg.TW.pure_ (c := .agg ((b).map byteV).toArray) rfl
      · intro w1 hw1 hf K hK
        simp only [Act.put, List.setIfInBounds_toArray, List.set_cons_zero, List.set_cons_succ] at hK
        have HK := Lib.hid hK
        clear hK
        unfold Reg.One; dsimp only
        refine wpList_load_row rfl 38 _ rfl g4 rfl 38 ((b).map byteV).toArray (0, 0) _ (HB4.out.ext hw1) Tryd.underlying38 rfl (by rw [List.size_toArray, List.length_map, hb]; kernel_rfl) ?_
        simp only [Act.put, Act.eval, List.setIfInBounds_toArray, List.set_cons_zero, List.set_cons_succ, Nat.reduceAdd, Array.getD_eq_getD_getElem?, List.getElem?_toArray, List.getElem?_cons_succ, List.getElem?_cons_zero, Option.getD_some]
        go_wp2_with fail
        exact HK.out _ (Reg.Ext.refl _)
      · simp only [Act.put, Act.eval, List.setIfInBounds_toArray, List.set_cons_zero, List.set_cons_succ, Nat.reduceAdd, Array.getD_eq_getD_getElem?, List.getElem?_toArray, List.getElem?_cons_succ, List.getElem?_cons_zero, Option.getD_some]
        rfl
      apply Reg.TW.call_ (c := .bool q) (fun _ => True) rfl (fun _ _ _ h => h)
      · intro w1 hw1 hf K hK
        simp only [Act.put, List.setIfInBounds_toArray, List.set_cons_zero, List.set_cons_succ] at hK
        have HK := Lib.hid hK
        clear hK
        unfold Reg.One; dsimp only
        skip
        go_wp2_with fail
        refine ((M2 _ hw1).out).mono ?_
        rintro e w' ⟨rfl, hx⟩
        go_wp2_with fail
        exact HK.out _ hx trivial
      · simp only [Act.put, Act.eval, List.setIfInBounds_toArray, List.set_cons_zero, List.set_cons_succ, Nat.reduceAdd, Array.getD_eq_getD_getElem?, List.getElem?_toArray, List.getElem?_cons_succ, List.getElem?_cons_zero, Option.getD_some]
        rfl
      apply Reg.TW.pure_ (c := .agg ((a).map byteV).toArray) rfl
      · intro w1 hw1 hf K hK
        simp only [Act.put, List.setIfInBounds_toArray, List.set_cons_zero, List.set_cons_succ] at hK
        have HK := Lib.hid hK
        clear hK
        unfold Reg.One; dsimp only
        refine wpList_load_row rfl 38 _ rfl g3 rfl 38 ((a).map byteV).toArray (0, 0) _ (HA4.out.ext hw1) Tryd.underlying38 rfl (by rw [List.size_toArray, List.length_map, ha]; kernel_rfl) ?_
        simp only [Act.put, Act.eval, List.setIfInBounds_toArray, List.set_cons_zero, List.set_cons_succ, Nat.reduceAdd, Array.getD_eq_getD_getElem?, List.getElem?_toArray, List.getElem?_cons_succ, List.getElem?_cons_zero, Option.getD_some]
        go_wp2_with fail
        exact HK.out _ (Reg.Ext.refl _)
      · simp only [Act.put, Act.eval, List.setIfInBounds_toArray, List.set_cons_zero, List.set_cons_succ, Nat.reduceAdd, Array.getD_eq_getD_getElem?, List.getElem?_toArray, List.getElem?_cons_succ, List.getElem?_cons_zero, Option.getD_some]
        rfl
      apply Reg.TW.pure_ (c := .agg ((b).map byteV).toArray) rfl
      · intro w1 hw1 hf K hK
        simp only [Act.put, List.setIfInBounds_toArray, List.set_cons_zero, List.set_cons_succ] at hK
        have HK := Lib.hid hK
        clear hK
        unfold Reg.One; dsimp only
        refine wpList_load_row rfl 38 _ rfl g4 rfl 38 ((b).map byteV).toArray (0, 0) _ (HB4.out.ext hw1) Tryd.underlying38 rfl (by rw [List.size_toArray, List.length_map, hb]; kernel_rfl) ?_
        simp only [Act.put, Act.eval, List.setIfInBounds_toArray, List.set_cons_zero, List.set_cons_succ, Nat.reduceAdd, Array.getD_eq_getD_getElem?, List.getElem?_toArray, List.getElem?_cons_succ, List.getElem?_cons_zero, Option.getD_some]
        go_wp2_with fail
        exact HK.out _ (Reg.Ext.refl _)
      · simp only [Act.put, Act.eval, List.setIfInBounds_toArray, List.set_cons_zero, List.set_cons_succ, Nat.reduceAdd, Array.getD_eq_getD_getElem?, List.getElem?_toArray, List.getElem?_cons_succ, List.getElem?_cons_zero, Option.getD_some]
        rfl
      repeat (first
        | (apply Reg.TW.move_ Reg.Ext.refl _ rfl rfl
           · simp only [Act.put, Act.eval, List.setIfInBounds_toArray, List.set_cons_zero, List.set_cons_succ, Nat.reduceAdd, Array.getD_eq_getD_getElem?, List.getElem?_toArray, List.getElem?_cons_succ, List.getElem?_cons_zero, Option.getD_some]
             rfl)
        | (apply Reg.TW.assign_ Reg.Ext.refl _ rfl rfl
           · simp only [Act.put, Act.eval, List.setIfInBounds_toArray, List.set_cons_zero, List.set_cons_succ, Nat.reduceAdd, Array.getD_eq_getD_getElem?, List.getElem?_toArray, List.getElem?_cons_succ, List.getElem?_cons_zero, Option.getD_some]
             rfl)
        | (apply Reg.TW.skip_ rfl
           · simp only [Act.put, Act.eval, List.setIfInBounds_toArray, List.set_cons_zero, List.set_cons_succ, Nat.reduceAdd, Array.getD_eq_getD_getElem?, List.getElem?_toArray, List.getElem?_cons_succ, List.getElem?_cons_zero, Option.getD_some]
             rfl)
        | (apply Reg.TW.pure_ rfl
           · intro w1 hw1 hf K hK
             simp only [Act.put, List.setIfInBounds_toArray, List.set_cons_zero, List.set_cons_succ] at hK
             have HK := Lib.hid hK
             clear hf hK
             have q2 := HEQ.out
             unfold Reg.One; dsimp only
             go_wp2_with fail
             exact HK.out _ (Reg.Ext.refl _)
           · simp only [Act.put, Act.eval, List.setIfInBounds_toArray, List.set_cons_zero, List.set_cons_succ, Nat.reduceAdd, Array.getD_eq_getD_getElem?, List.getElem?_toArray, List.getElem?_cons_succ, List.getElem?_cons_zero, Option.getD_some]
             rfl))
      apply Reg.TW.pure_ (c := .agg ((b).map byteV).toArray) rfl
      · intro w1 hw1 hf K hK
        simp only [Act.put, List.setIfInBounds_toArray, List.set_cons_zero, List.set_cons_succ] at hK
        have HK := Lib.hid hK
        clear hK
        unfold Reg.One; dsimp only
        refine wpList_load_row rfl 38 _ rfl g4 rfl 38 ((b).map byteV).toArray (0, 0) _ (HB4.out.ext hw1) Tryd.underlying38 rfl (by rw [List.size_toArray, List.length_map, hb]; kernel_rfl) ?_
        simp only [Act.put, Act.eval, List.setIfInBounds_toArray, List.set_cons_zero, List.set_cons_succ, Nat.reduceAdd, Array.getD_eq_getD_getElem?, List.getElem?_toArray, List.getElem?_cons_succ, List.getElem?_cons_zero, Option.getD_some]
        go_wp2_with fail
        exact HK.out _ (Reg.Ext.refl _)
      · simp only [Act.put, Act.eval, List.setIfInBounds_toArray, List.set_cons_zero, List.set_cons_succ, Nat.reduceAdd, Array.getD_eq_getD_getElem?, List.getElem?_toArray, List.getElem?_cons_succ, List.getElem?_cons_zero, Option.getD_some]
        rfl
      apply Reg.TW.call_ (c := .bool true) (fun _ => True) rfl (fun _ _ _ h => h)
      · intro w1 hw1 hf K hK
        simp only [Act.put, List.setIfInBounds_toArray, List.set_cons_zero, List.set_cons_succ] at hK
        have HK := Lib.hid hK
        clear hK
        unfold Reg.One; dsimp only
        skip
        go_wp2_with fail
        refine ((M3 _ hw1).out).mono ?_
        rintro e w' ⟨rfl, hx⟩
        go_wp2_with fail
        exact HK.out _ hx trivial
      · simp only [Act.put, Act.eval, List.setIfInBounds_toArray, List.set_cons_zero, List.set_cons_succ, Nat.reduceAdd, Array.getD_eq_getD_getElem?, List.getElem?_toArray, List.getElem?_cons_succ, List.getElem?_cons_zero, Option.getD_some]
        rfl
      repeat (first
        | (apply Reg.TW.move_ Reg.Ext.refl _ rfl rfl
           · simp only [Act.put, Act.eval, List.setIfInBounds_toArray, List.set_cons_zero, List.set_cons_succ, Nat.reduceAdd, Array.getD_eq_getD_getElem?, List.getElem?_toArray, List.getElem?_cons_succ, List.getElem?_cons_zero, Option.getD_some]
             rfl)
        | (apply Reg.TW.assign_ Reg.Ext.refl _ rfl rfl
           · simp only [Act.put, Act.eval, List.setIfInBounds_toArray, List.set_cons_zero, List.set_cons_succ, Nat.reduceAdd, Array.getD_eq_getD_getElem?, List.getElem?_toArray, List.getElem?_cons_succ, List.getElem?_cons_zero, Option.getD_some]
             rfl)
        | (apply Reg.TW.skip_ rfl
           · simp only [Act.put, Act.eval, List.setIfInBounds_toArray, List.set_cons_zero, List.set_cons_succ, Nat.reduceAdd, Array.getD_eq_getD_getElem?, List.getElem?_toArray, List.getElem?_cons_succ, List.getElem?_cons_zero, Option.getD_some]
             rfl)
        | (apply Reg.TW.pure_ rfl
           · intro w1 hw1 hf K hK
             simp only [Act.put, List.setIfInBounds_toArray, List.set_cons_zero, List.set_cons_succ] at hK
             have HK := Lib.hid hK
             clear hf hK
             skip
             unfold Reg.One; dsimp only
             go_wp2_with fail
             exact HK.out _ (Reg.Ext.refl _)
           · simp only [Act.put, Act.eval, List.setIfInBounds_toArray, List.set_cons_zero, List.set_cons_succ, Nat.reduceAdd, Array.getD_eq_getD_getElem?, List.getElem?_toArray, List.getElem?_cons_succ, List.getElem?_cons_zero, Option.getD_some]
             rfl))
      apply Reg.TW.pure_ (c := .agg ((a).map byteV).toArray) rfl
      · intro w1 hw1 hf K hK
        simp only [Act.put, List.setIfInBounds_toArray, List.set_cons_zero, List.set_cons_succ] at hK
        have HK := Lib.hid hK
        clear hK
        unfold Reg.One; dsimp only
        refine wpList_load_row rfl 38 _ rfl g3 rfl 38 ((a).map byteV).toArray (0, 0) _ (HA4.out.ext hw1) Tryd.underlying38 rfl (by rw [List.size_toArray, List.length_map, ha]; kernel_rfl) ?_
        simp only [Act.put, Act.eval, List.setIfInBounds_toArray, List.set_cons_zero, List.set_cons_succ, Nat.reduceAdd, Array.getD_eq_getD_getElem?, List.getElem?_toArray, List.getElem?_cons_succ, List.getElem?_cons_zero, Option.getD_some]
        go_wp2_with fail
        exact HK.out _ (Reg.Ext.refl _)
      · simp only [Act.put, Act.eval, List.setIfInBounds_toArray, List.set_cons_zero, List.set_cons_succ, Nat.reduceAdd, Array.getD_eq_getD_getElem?, List.getElem?_toArray, List.getElem?_cons_succ, List.getElem?_cons_zero, Option.getD_some]
        rfl
      apply Reg.TW.call_ (c := .bool false) (fun _ => True) rfl (fun _ _ _ h => h)
      · intro w1 hw1 hf K hK
        simp only [Act.put, List.setIfInBounds_toArray, List.set_cons_zero, List.set_cons_succ] at hK
        have HK := Lib.hid hK
        clear hK
        unfold Reg.One; dsimp only
        skip
        go_wp2_with fail
        refine ((M4 _ hw1).out).mono ?_
        rintro e w' ⟨rfl, hx⟩
        go_wp2_with fail
        exact HK.out _ hx trivial
      · simp only [Act.put, Act.eval, List.setIfInBounds_toArray, List.set_cons_zero, List.set_cons_succ, Nat.reduceAdd, Array.getD_eq_getD_getElem?, List.getElem?_toArray, List.getElem?_cons_succ, List.getElem?_cons_zero, Option.getD_some]
        rfl
      repeat (first
        | (apply Reg.TW.move_ Reg.Ext.refl _ rfl rfl
           · simp only [Act.put, Act.eval, List.setIfInBounds_toArray, List.set_cons_zero, List.set_cons_succ, Nat.reduceAdd, Array.getD_eq_getD_getElem?, List.getElem?_toArray, List.getElem?_cons_succ, List.getElem?_cons_zero, Option.getD_some]
             rfl)
        | (apply Reg.TW.assign_ Reg.Ext.refl _ rfl rfl
           · simp only [Act.put, Act.eval, List.setIfInBounds_toArray, List.set_cons_zero, List.set_cons_succ, Nat.reduceAdd, Array.getD_eq_getD_getElem?, List.getElem?_toArray, List.getElem?_cons_succ, List.getElem?_cons_zero, Option.getD_some]
             rfl)
        | (apply Reg.TW.skip_ rfl
           · simp only [Act.put, Act.eval, List.setIfInBounds_toArray, List.set_cons_zero, List.set_cons_succ, Nat.reduceAdd, Array.getD_eq_getD_getElem?, List.getElem?_toArray, List.getElem?_cons_succ, List.getElem?_cons_zero, Option.getD_some]
             rfl)
        | (apply Reg.TW.pure_ rfl
           · intro w1 hw1 hf K hK
             simp only [Act.put, List.setIfInBounds_toArray, List.set_cons_zero, List.set_cons_succ] at hK
             have HK := Lib.hid hK
             clear hf hK
             skip
             unfold Reg.One; dsimp only
             go_wp2_with fail
             exact HK.out _ (Reg.Ext.refl _)
           · simp only [Act.put, Act.eval, List.setIfInBounds_toArray, List.set_cons_zero, List.set_cons_succ, Nat.reduceAdd, Array.getD_eq_getD_getElem?, List.getElem?_toArray, List.getElem?_cons_succ, List.getElem?_cons_zero, Option.getD_some]
             rfl))
      apply Reg.TW.pure_ (c := .agg ((a).map byteV).toArray) rfl
      · intro w1 hw1 hf K hK
        simp only [Act.put, List.setIfInBounds_toArray, List.set_cons_zero, List.set_cons_succ] at hK
        have HK := Lib.hid hK
        clear hK
        unfold Reg.One; dsimp only
        refine wpList_load_row rfl 38 _ rfl g3 rfl 38 ((a).map byteV).toArray (0, 0) _ (HA4.out.ext hw1) Tryd.underlying38 rfl (by rw [List.size_toArray, List.length_map, ha]; kernel_rfl) ?_
        simp only [Act.put, Act.eval, List.setIfInBounds_toArray, List.set_cons_zero, List.set_cons_succ, Nat.reduceAdd, Array.getD_eq_getD_getElem?, List.getElem?_toArray, List.getElem?_cons_succ, List.getElem?_cons_zero, Option.getD_some]
        go_wp2_with fail
        exact HK.out _ (Reg.Ext.refl _)
      · simp only [Act.put, Act.eval, List.setIfInBounds_toArray, List.set_cons_zero, List.set_cons_succ, Nat.reduceAdd, Array.getD_eq_getD_getElem?, List.getElem?_toArray, List.getElem?_cons_succ, List.getElem?_cons_zero, Option.getD_some]
        rfl
      apply Reg.TW.call_ (c := .string G) (fun _ => True) rfl (fun _ _ _ h => h)
      · intro w1 hw1 hf K hK
        simp only [Act.put, List.setIfInBounds_toArray, List.set_cons_zero, List.set_cons_succ] at hK
        have HK := Lib.hid hK
        clear hK
        unfold Reg.One; dsimp only
        skip
        go_wp2_with fail
        refine ((TG _).out).mono ?_
        rintro e w' ⟨rfl, hx⟩
        go_wp2_with fail
        exact HK.out _ hx trivial
      · simp only [Act.put, Act.eval, List.setIfInBounds_toArray, List.set_cons_zero, List.set_cons_succ, Nat.reduceAdd, Array.getD_eq_getD_getElem?, List.getElem?_toArray, List.getElem?_cons_succ, List.getElem?_cons_zero, Option.getD_some]
        rfl
      repeat (first
        | (apply Reg.TW.move_ Reg.Ext.refl _ rfl rfl
           · simp only [Act.put, Act.eval, List.setIfInBounds_toArray, List.set_cons_zero, List.set_cons_succ, Nat.reduceAdd, Array.getD_eq_getD_getElem?, List.getElem?_toArray, List.getElem?_cons_succ, List.getElem?_cons_zero, Option.getD_some]
             rfl)
        | (apply Reg.TW.assign_ Reg.Ext.refl _ rfl rfl
           · simp only [Act.put, Act.eval, List.setIfInBounds_toArray, List.set_cons_zero, List.set_cons_succ, Nat.reduceAdd, Array.getD_eq_getD_getElem?, List.getElem?_toArray, List.getElem?_cons_succ, List.getElem?_cons_zero, Option.getD_some]
             rfl)
        | (apply Reg.TW.skip_ rfl
           · simp only [Act.put, Act.eval, List.setIfInBounds_toArray, List.set_cons_zero, List.set_cons_succ, Nat.reduceAdd, Array.getD_eq_getD_getElem?, List.getElem?_toArray, List.getElem?_cons_succ, List.getElem?_cons_zero, Option.getD_some]
             rfl)
        | (apply Reg.TW.pure_ rfl
           · intro w1 hw1 hf K hK
             simp only [Act.put, List.setIfInBounds_toArray, List.set_cons_zero, List.set_cons_succ] at hK
             have HK := Lib.hid hK
             clear hf hK
             have q3 := HGs.out
             unfold Reg.One; dsimp only
             go_wp2_with fail
             exact HK.out _ (Reg.Ext.refl _)
           · simp only [Act.put, Act.eval, List.setIfInBounds_toArray, List.set_cons_zero, List.set_cons_succ, Nat.reduceAdd, Array.getD_eq_getD_getElem?, List.getElem?_toArray, List.getElem?_cons_succ, List.getElem?_cons_zero, Option.getD_some]
             rfl))
      refine Reg.TW.nil_ ?_
      intro wn hwn _
      have HXn := Lib.hid (HX5.out.trans hwn)
      clear hwn
      go_wp2_with fail
      go_ret
      exact ⟨rfl, HXn.out⟩
    all_goals rfl
end Tst
end Go.Proofs.YtglnefmaphajaaaDoor
